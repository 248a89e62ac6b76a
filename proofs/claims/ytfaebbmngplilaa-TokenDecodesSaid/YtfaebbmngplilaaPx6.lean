/- The machine's side: functions of the translation as plain Lean functions, and that the machine's calls come to what they say. No condition. Written by a program (wip/tools/pp.py over the kit's printer); Lean checks it. -/
import Derived.Test.YtfaebbmngplilaaPx0
import Derived.Test.YtfaebbmngplilaaPx2
import Derived.Test.YtfaebbmngplilaaPx3
import Derived.Test.YtfaebbmngplilaaPx4
import Derived.Test.YtfaebbmngplilaaPx5
namespace Go.Proofs.Ytfaebbmngplilaa.P
open Go.RowKit Go.Proofs.YtfaebbmngplilaaW.PrintWords Go.Proofs.YtfaebbmngplilaaW.PrintLast Go.Proofs.YtfaebbmngplilaaW.PrintMore
attribute [local go_sem] max2_int min2_int max_two min_two max_three min_three max_four min_four   -- for this text's walks alone
set_option linter.unusedVariables false
set_option linter.unusedSimpArgs false

/-! ### token_writer_token: function 22 -/
/-- The token's own block beside the writer's. -/
def WT (W : World) (gt g : Nat) (v : Value) (t : S34) : Prop := TB W gt t.f0 t.f1 t.f2 t.f3 ∧ gt ≠ g ∧ some gt ≠ v.ownBlock
theorem WT.step {W W1 : World} {gt g : Nat} {v v1 : Value} {t : S34} (h : WT W gt g v t) (k : WK W W1 g v v1) : WT W1 gt g v1 t := by
  refine ⟨(k.block gt h.1.lt h.2.1 h.2.2).trans h.1, h.2.1, ?_⟩
  rcases k.at_ with e | ⟨b, e, hb⟩
  · rw [e]; exact h.2.2
  · have := h.1.lt
    rw [e]
    intro e2
    injection e2 with e2
    omega
theorem WT.new {W : World} {g : Nat} {v : Value} {bs : List Int} (h : WS W g v bs) (t : S34) : WT (W.alloc (.cells #[.int .i64 t.f0, .int .u32 t.f1, .string t.f2, .int .i64 t.f3] 34)) W.heap.size g v t :=
  ⟨heap_alloc_new W _, by have := h.lt; omega, fun e => by have := Kd.R_lt h.2 _ e.symm; omega⟩
theorem WT.cells {W : World} {gt g : Nat} {v : Value} {t : S34} (h : WT W gt g v t) : W.cell? ⟨gt, 0, none⟩ = some (.int .i64 t.f0) ∧ W.cell? ⟨gt, 1, none⟩ = some (.int .u32 t.f1) ∧ W.cell? ⟨gt, 2, none⟩ = some (.string t.f2) ∧ W.cell? ⟨gt, 3, none⟩ = some (.int .i64 t.f3) := h.1.cells.1
theorem WK.drewN {W W1 : World} {g : Nat} {v v1 : Value} (h : WK W W1 g v v1) (n : Nat) : WK W (W1.drewN n) g v v1 := h.trans (WK.ofBelow (by first | exact pw_below_drewN (Below.refl _ _) n | exact below_drewN (Below.refl _ _) n))
theorem WS.drewN {W : World} {g : Nat} {v : Value} {bs : List Int} (h : WS W g v bs) (n : Nat) : WS (W.drewN n) g v bs := h.below (by first | exact pw_below_drewN (Below.refl _ _) n | exact below_drewN (Below.refl _ _) n)
theorem R_append_law {α : Type} {P : Program} {ops : Array Oper} {o : Oper} {a : Act} {Q : Exit → Act → World → Prop} {Kc : Act → World → Prop} {E : Prop} (d : Kd α) {Rr : α → List Value → Prop} {w0 W : World} (base : Nat) (hg : o.guard = none) (s x : Operand) (t e : TypeId) (z : Value) (bytes : Nat)
    (ho : o.op = .call { callee := .builtin .append, args := #[s, x], argTypes := #[t, t] })
    (ht : P.underlying t = some (.slice e)) (hinfo : (P.info? e).map (fun i => (i.zero, i.size, i.bytes)) = some (some z, d.sz, bytes)) (hz : z.cells.size = d.sz) (hs0 : 0 < d.sz) (hb0 : 0 < bytes)
    (v : Value) (xs ys : List α) (A : Option Addr) (m c : Nat) (ok okp : Nat → Prop) (hs : a.eval s = v) (hx : a.eval x = .slice A m c)
    (HO : d.R e W base ok v xs) (HR : ReadsRow Rr d.sz W A m ys) (hKM : ∀ x cs, Rr x cs → d.M W base okp x cs) (hokp : ∀ k, okp k → ok k ∧ some k ≠ v.ownBlock) (hfresh : ∀ k, W.heap.size ≤ k → ok k)
    (HB : Below base w0 W) (hbase : base ≤ W.heap.size) (hl : (xs.length + m) * bytes ≤ 140737488355328)
    (h : ∀ v1 w1, d.R e w1 base ok v1 (xs ++ ys) → Below base w0 w1 → W.grownBy w1 v.ownBlock → (v1.ownBlock = v.ownBlock ∨ ∃ b, v1.ownBlock = some b ∧ W.heap.size ≤ b) → Kc (a.put o.dst v1) w1) :
    if Region.wanted o (yielded ops a.tmps) = true then Oper.wp P o a W Kc Q else E := by
  have hw : Region.wanted o (yielded ops a.tmps) = true := by simp [Region.wanted, hg]
  have h2 := Kd.R_append_rows_step (P := P) (ops := ops) (Q := Q) (Kc := Kc) d base hw s x t e z bytes ho ht hinfo hz hs0 hb0 v xs ys A m c ok okp hs hx HO HR hKM hokp hfresh HB hbase hl h
  rw [if_pos hw] at h2 ⊢
  exact h2
theorem below_alloc' {B : Nat} (W : World) (o : Obj) (h : B ≤ W.heap.size) : Below B W (W.alloc o) := (Below.refl _ _).alloc h _
theorem lit1 (W : World) (z : Int) : (Kd.int .u8).C (W.alloc (.cells #[.int .u8 z] 5)) (some ⟨W.heap.size, 0, none⟩) 1 [z] := by
  refine ⟨rfl, by decide, fun _ => ⟨_, rfl, fun i x hx => ?_⟩⟩
  rcases i with _ | i
  · simp at hx
    subst hx
    refine ⟨[.int .u8 z], rfl, rfl, fun j u hj => ?_⟩
    rcases j with _ | j
    · simp at hj
      subst hj
      exact cell_of_row (W.alloc (.cells #[.int .u8 z] 5)) W.heap.size 0 _ 5 (0, 0) (heap_alloc_new W _)
    · simp at hj
  · simp at hx
theorem and_u32 {x : Int} (h0 : 0 ≤ x) (h1 : x ≤ 4294967295) : wrap64 (bits .and .u32 x 65535) = x % 65536 := by
  have e : bits .and .u32 x 65535 = x % 65536 := bits_mask .u32 32 (by decide) wraps_u32 16 (by decide) x h0 (by omega)
  rw [e]
  unfold wrap64
  omega
set_option maxHeartbeats 1600000 in
theorem wtok_0 {g : Nat} {v : Value} {bs : List Int} {t : S34} {wide : Bool} (W : World) (h : WS W g v bs) (hl : bs.length ≤ 900000) (h0 : 0 ≤ t.f0 ∧ t.f0 ≤ 4294967295) (h1 : 0 ≤ t.f1 ∧ t.f1 ≤ 4294967295) (h2 : t.f2.size ≤ 1000) (h3 : -9223372036854775808 ≤ t.f3 ∧ t.f3 ≤ 9223372036854775807) {k : Nat} (hk : token_behind.f k t.f0 = some 0) :
    Calls Try.prog 22 #[.pointer (some ⟨g, 0, none⟩), .agg #[.int .i64 t.f0, .int .u32 t.f1, .string t.f2, .int .i64 t.f3], .bool wide] W fun e w' => e = .returned (.tuple #[]) ∧ ∃ v', WS w' g v' (bs ++ codeB t.f0) ∧ WK W w' g v v' := by
  obtain ⟨x0, x1, x2, x3⟩ := t
  simp only at h0 h1 h2 h3 hk ⊢
  have ha := WT.new h ⟨x0, x1, x2, x3⟩
  have hb : Below W.heap.size W (W.alloc (.cells #[.int .i64 x0, .int .u32 x1, .string x2, .int .i64 x3] 34)) := (Below.refl _ _).alloc (Nat.le_refl _) _
  have HS0 := Aside0.mk (h.below hb)
  have HK0 := Aside0.mk (WK.ofBelow (g := g) (v := v) hb)
  have HT0 := Aside0.mk ha
  have hlt := h.lt
  have HKD := Aside0.mk hk
  have HL := Aside0.mk hl
  have hcl : ∀ c, (codeB c).length ≤ 2 := fun c => by unfold codeB; split <;> simp
  have htl : ∀ s : ByteArray, (textB s).length = s.size + 1 := fun s => by unfold textB; rw [List.length_append, bytesOf_length]; simp; omega
  have HCL := Aside0.mk (hcl x0)
  have HCL1 := Aside0.mk (hcl x1)
  have HTL := Aside0.mk (htl x2)
  obtain ⟨y, hy⟩ : ∃ q_, q_ = bs ++ codeB x0 := ⟨_, rfl⟩
  have HY := Aside0.mk hy
  have LY := Aside0.mk (show y.length ≤ 900002 by rw [hy, List.length_append]; have := hcl x0; omega)
  have LY0 := LY.out
  clear LY0
  clear h hl hk ha hb hcl htl hy
  go_enter Try.func22, Try.ntmps22
  go_wp2_with (first | (go_at_call 30; (with_reducible refine (wcode_any _ HS0.out h0.1 h0.2 (by have := HL.out; omega)).mono ?_); rintro e w1 ⟨rfl, v1, hs, hk⟩; rw [← HY.out] at hs; have HS1 := Aside0.mk hs; have HK1 := Aside0.mk (WK.trans HK0.out hk); have ht := WT.step HT0.out hk; obtain ⟨q0, q1, q2, q3⟩ := ht.cells; simp only at q0 q1 q2 q3; have HT1 := Aside0.mk ht; clear hs hk ht) | (go_at_call 25; (with_reducible refine (behind_k _ HKD.out).mono ?_); rintro e wb ⟨rfl, ⟨nd, rfl⟩⟩; have HSd := Aside0.mk (HS1.out.drewN nd); have HKd := Aside0.mk (HK1.out.drewN nd); have HTd := Aside0.mk (WT.step HT1.out (WK.drewN (WK.refl _ _ _) nd))))
  go_end0
  refine ⟨rfl, _, ?_, HKd.out⟩
  have e := HSd.out
  rw [HY.out] at e
  simpa only [List.append_assoc] using e
set_option maxHeartbeats 1600000 in
theorem wtok_1 {g : Nat} {v : Value} {bs : List Int} {t : S34} {wide : Bool} (W : World) (h : WS W g v bs) (hl : bs.length ≤ 900000) (h0 : 0 ≤ t.f0 ∧ t.f0 ≤ 4294967295) (h1 : 0 ≤ t.f1 ∧ t.f1 ≤ 4294967295) (h2 : t.f2.size ≤ 1000) (h3 : -9223372036854775808 ≤ t.f3 ∧ t.f3 ≤ 9223372036854775807) {k : Nat} (hk : token_behind.f k t.f0 = some 1) :
    Calls Try.prog 22 #[.pointer (some ⟨g, 0, none⟩), .agg #[.int .i64 t.f0, .int .u32 t.f1, .string t.f2, .int .i64 t.f3], .bool wide] W fun e w' => e = .returned (.tuple #[]) ∧ ∃ v', WS w' g v' (bs ++ (codeB t.f0 ++ (twoB (t.f1 / 65536) ++ twoB (t.f1 % 65536)))) ∧ WK W w' g v v' := by
  obtain ⟨x0, x1, x2, x3⟩ := t
  simp only at h0 h1 h2 h3 hk ⊢
  have ha := WT.new h ⟨x0, x1, x2, x3⟩
  have hb : Below W.heap.size W (W.alloc (.cells #[.int .i64 x0, .int .u32 x1, .string x2, .int .i64 x3] 34)) := (Below.refl _ _).alloc (Nat.le_refl _) _
  have HS0 := Aside0.mk (h.below hb)
  have HK0 := Aside0.mk (WK.ofBelow (g := g) (v := v) hb)
  have HT0 := Aside0.mk ha
  have hlt := h.lt
  have HKD := Aside0.mk hk
  have HL := Aside0.mk hl
  have hcl : ∀ c, (codeB c).length ≤ 2 := fun c => by unfold codeB; split <;> simp
  have htl : ∀ s : ByteArray, (textB s).length = s.size + 1 := fun s => by unfold textB; rw [List.length_append, bytesOf_length]; simp; omega
  have HCL := Aside0.mk (hcl x0)
  have HCL1 := Aside0.mk (hcl x1)
  have HTL := Aside0.mk (htl x2)
  obtain ⟨y, hy⟩ : ∃ q_, q_ = bs ++ codeB x0 := ⟨_, rfl⟩
  have HY := Aside0.mk hy
  have LY := Aside0.mk (show y.length ≤ 900002 by rw [hy, List.length_append]; have := hcl x0; omega)
  have LY0 := LY.out
  obtain ⟨z, hz⟩ : ∃ q_, q_ = y ++ twoB (x1 / 65536) := ⟨_, rfl⟩
  have HZ := Aside0.mk hz
  have LZ := Aside0.mk (show z.length ≤ 900004 by rw [hz, List.length_append]; have := LY0; have : (twoB (x1 / 65536)).length = 2 := rfl; omega)
  clear hz
  obtain ⟨u, hu⟩ : ∃ q_, q_ = z ++ twoB (wrap64 (bits .and .u32 x1 65535)) := ⟨_, rfl⟩
  have HU := Aside0.mk hu
  have LU := Aside0.mk (show u.length ≤ 900006 by rw [hu, List.length_append]; have := LY0; have := LZ.out; have : (twoB (wrap64 (bits .and .u32 x1 65535))).length = 2 := rfl; omega)
  clear hu
  clear LY0
  have HM := Aside0.mk (and_u32 h1.1 h1.2)
  clear h hl hk ha hb hcl htl hy
  go_enter Try.func22, Try.ntmps22
  go_wp2_with (first | (go_at_call 30; (with_reducible refine (wcode_any _ HS0.out h0.1 h0.2 (by have := HL.out; omega)).mono ?_); rintro e w1 ⟨rfl, v1, hs, hk⟩; rw [← HY.out] at hs; have HS1 := Aside0.mk hs; have HK1 := Aside0.mk (WK.trans HK0.out hk); have ht := WT.step HT0.out hk; obtain ⟨q0, q1, q2, q3⟩ := ht.cells; simp only at q0 q1 q2 q3; have HT1 := Aside0.mk ht; clear hs hk ht) | (go_at_call 25; (with_reducible refine (behind_k _ HKD.out).mono ?_); rintro e wb ⟨rfl, ⟨nd, rfl⟩⟩; have HSd := Aside0.mk (HS1.out.drewN nd); have HKd := Aside0.mk (HK1.out.drewN nd); have HTd := Aside0.mk (WT.step HT1.out (WK.drewN (WK.refl _ _ _) nd))) | (go_at_call 31; (with_reducible refine (wtwo_any (n := x1 / 65536) _ HSd.out (by omega) (by omega) (by have := LY.out; omega)).mono ?_); rintro e w2 ⟨rfl, v2, hs, hk⟩; rw [← HZ.out] at hs; have HS2 := Aside0.mk hs; have HK2 := Aside0.mk (WK.trans HKd.out hk); have ht := WT.step HTd.out hk; obtain ⟨q0, q1, q2, q3⟩ := ht.cells; simp only at q0 q1 q2 q3; have HT2 := Aside0.mk ht; clear hs hk ht) | (go_at_call 31; (with_reducible refine (wtwo_any (n := wrap64 (bits .and .u32 x1 65535)) _ HS2.out (by rw [HM.out]; omega) (by rw [HM.out]; omega) (by have := LZ.out; omega)).mono ?_); rintro e w3 ⟨rfl, v3, hs, hk⟩; rw [← HU.out] at hs; have HS3 := Aside0.mk hs; have HK3 := Aside0.mk (WK.trans HK2.out hk); have ht := WT.step HT2.out hk; obtain ⟨q0, q1, q2, q3⟩ := ht.cells; simp only at q0 q1 q2 q3; have HT3 := Aside0.mk ht; clear hs hk ht))
  go_end0
  refine ⟨rfl, _, ?_, HK3.out⟩
  have e := HS3.out
  rw [HU.out, HZ.out, HY.out, HM.out] at e
  simpa only [List.append_assoc] using e
set_option maxHeartbeats 1600000 in
theorem wtok_2 {g : Nat} {v : Value} {bs : List Int} {t : S34} {wide : Bool} (W : World) (h : WS W g v bs) (hl : bs.length ≤ 900000) (h0 : 0 ≤ t.f0 ∧ t.f0 ≤ 4294967295) (h1 : 0 ≤ t.f1 ∧ t.f1 ≤ 4294967295) (h2 : t.f2.size ≤ 1000) (h3 : -9223372036854775808 ≤ t.f3 ∧ t.f3 ≤ 9223372036854775807) {k : Nat} (hk : token_behind.f k t.f0 = some 2) :
    Calls Try.prog 22 #[.pointer (some ⟨g, 0, none⟩), .agg #[.int .i64 t.f0, .int .u32 t.f1, .string t.f2, .int .i64 t.f3], .bool wide] W fun e w' => e = .returned (.tuple #[]) ∧ ∃ v', WS w' g v' (bs ++ (codeB t.f0 ++ codeB t.f1)) ∧ WK W w' g v v' := by
  obtain ⟨x0, x1, x2, x3⟩ := t
  simp only at h0 h1 h2 h3 hk ⊢
  have ha := WT.new h ⟨x0, x1, x2, x3⟩
  have hb : Below W.heap.size W (W.alloc (.cells #[.int .i64 x0, .int .u32 x1, .string x2, .int .i64 x3] 34)) := (Below.refl _ _).alloc (Nat.le_refl _) _
  have HS0 := Aside0.mk (h.below hb)
  have HK0 := Aside0.mk (WK.ofBelow (g := g) (v := v) hb)
  have HT0 := Aside0.mk ha
  have hlt := h.lt
  have HKD := Aside0.mk hk
  have HL := Aside0.mk hl
  have hcl : ∀ c, (codeB c).length ≤ 2 := fun c => by unfold codeB; split <;> simp
  have htl : ∀ s : ByteArray, (textB s).length = s.size + 1 := fun s => by unfold textB; rw [List.length_append, bytesOf_length]; simp; omega
  have HCL := Aside0.mk (hcl x0)
  have HCL1 := Aside0.mk (hcl x1)
  have HTL := Aside0.mk (htl x2)
  obtain ⟨y, hy⟩ : ∃ q_, q_ = bs ++ codeB x0 := ⟨_, rfl⟩
  have HY := Aside0.mk hy
  have LY := Aside0.mk (show y.length ≤ 900002 by rw [hy, List.length_append]; have := hcl x0; omega)
  have LY0 := LY.out
  obtain ⟨z, hz⟩ : ∃ q_, q_ = y ++ codeB x1 := ⟨_, rfl⟩
  have HZ := Aside0.mk hz
  have LZ := Aside0.mk (show z.length ≤ 900004 by rw [hz, List.length_append]; have := LY0; have := hcl x1; omega)
  clear hz
  clear LY0
  clear h hl hk ha hb hcl htl hy
  go_enter Try.func22, Try.ntmps22
  go_wp2_with (first | (go_at_call 30; (with_reducible refine (wcode_any _ HS0.out h0.1 h0.2 (by have := HL.out; omega)).mono ?_); rintro e w1 ⟨rfl, v1, hs, hk⟩; rw [← HY.out] at hs; have HS1 := Aside0.mk hs; have HK1 := Aside0.mk (WK.trans HK0.out hk); have ht := WT.step HT0.out hk; obtain ⟨q0, q1, q2, q3⟩ := ht.cells; simp only at q0 q1 q2 q3; have HT1 := Aside0.mk ht; clear hs hk ht) | (go_at_call 25; (with_reducible refine (behind_k _ HKD.out).mono ?_); rintro e wb ⟨rfl, ⟨nd, rfl⟩⟩; have HSd := Aside0.mk (HS1.out.drewN nd); have HKd := Aside0.mk (HK1.out.drewN nd); have HTd := Aside0.mk (WT.step HT1.out (WK.drewN (WK.refl _ _ _) nd))) | (go_at_call 30; (with_reducible refine (wcode_any _ HSd.out h1.1 h1.2 (by have := LY.out; omega)).mono ?_); rintro e w2 ⟨rfl, v2, hs, hk⟩; rw [← HZ.out] at hs; have HS2 := Aside0.mk hs; have HK2 := Aside0.mk (WK.trans HKd.out hk); have ht := WT.step HTd.out hk; obtain ⟨q0, q1, q2, q3⟩ := ht.cells; simp only at q0 q1 q2 q3; have HT2 := Aside0.mk ht; clear hs hk ht))
  go_end0
  refine ⟨rfl, _, ?_, HK2.out⟩
  have e := HS2.out
  rw [HZ.out, HY.out] at e
  simpa only [List.append_assoc] using e
set_option maxHeartbeats 1600000 in
theorem wtok_3 {g : Nat} {v : Value} {bs : List Int} {t : S34} {wide : Bool} (W : World) (h : WS W g v bs) (hl : bs.length ≤ 900000) (h0 : 0 ≤ t.f0 ∧ t.f0 ≤ 4294967295) (h1 : 0 ≤ t.f1 ∧ t.f1 ≤ 4294967295) (h2 : t.f2.size ≤ 1000) (h3 : -9223372036854775808 ≤ t.f3 ∧ t.f3 ≤ 9223372036854775807) {k : Nat} (hk : token_behind.f k t.f0 = some 3) :
    Calls Try.prog 22 #[.pointer (some ⟨g, 0, none⟩), .agg #[.int .i64 t.f0, .int .u32 t.f1, .string t.f2, .int .i64 t.f3], .bool wide] W fun e w' => e = .returned (.tuple #[]) ∧ ∃ v', WS w' g v' (bs ++ (codeB t.f0 ++ textB t.f2)) ∧ WK W w' g v v' := by
  obtain ⟨x0, x1, x2, x3⟩ := t
  simp only at h0 h1 h2 h3 hk ⊢
  have ha := WT.new h ⟨x0, x1, x2, x3⟩
  have hb : Below W.heap.size W (W.alloc (.cells #[.int .i64 x0, .int .u32 x1, .string x2, .int .i64 x3] 34)) := (Below.refl _ _).alloc (Nat.le_refl _) _
  have HS0 := Aside0.mk (h.below hb)
  have HK0 := Aside0.mk (WK.ofBelow (g := g) (v := v) hb)
  have HT0 := Aside0.mk ha
  have hlt := h.lt
  have HKD := Aside0.mk hk
  have HL := Aside0.mk hl
  have hcl : ∀ c, (codeB c).length ≤ 2 := fun c => by unfold codeB; split <;> simp
  have htl : ∀ s : ByteArray, (textB s).length = s.size + 1 := fun s => by unfold textB; rw [List.length_append, bytesOf_length]; simp; omega
  have HCL := Aside0.mk (hcl x0)
  have HCL1 := Aside0.mk (hcl x1)
  have HTL := Aside0.mk (htl x2)
  obtain ⟨y, hy⟩ : ∃ q_, q_ = bs ++ codeB x0 := ⟨_, rfl⟩
  have HY := Aside0.mk hy
  have LY := Aside0.mk (show y.length ≤ 900002 by rw [hy, List.length_append]; have := hcl x0; omega)
  have LY0 := LY.out
  obtain ⟨z, hz⟩ : ∃ q_, q_ = y ++ textB x2 := ⟨_, rfl⟩
  have HZ := Aside0.mk hz
  have LZ := Aside0.mk (show z.length ≤ 901004 by rw [hz, List.length_append]; have := LY0; have := htl x2; omega)
  clear hz
  clear LY0
  clear h hl hk ha hb hcl htl hy
  go_enter Try.func22, Try.ntmps22
  go_wp2_with (first | (go_at_call 30; (with_reducible refine (wcode_any _ HS0.out h0.1 h0.2 (by have := HL.out; omega)).mono ?_); rintro e w1 ⟨rfl, v1, hs, hk⟩; rw [← HY.out] at hs; have HS1 := Aside0.mk hs; have HK1 := Aside0.mk (WK.trans HK0.out hk); have ht := WT.step HT0.out hk; obtain ⟨q0, q1, q2, q3⟩ := ht.cells; simp only at q0 q1 q2 q3; have HT1 := Aside0.mk ht; clear hs hk ht) | (go_at_call 25; (with_reducible refine (behind_k _ HKD.out).mono ?_); rintro e wb ⟨rfl, ⟨nd, rfl⟩⟩; have HSd := Aside0.mk (HS1.out.drewN nd); have HKd := Aside0.mk (HK1.out.drewN nd); have HTd := Aside0.mk (WT.step HT1.out (WK.drewN (WK.refl _ _ _) nd))) | (go_at_call 32; (with_reducible refine (wtext_any _ HSd.out h2 (by have := LY.out; omega)).mono ?_); rintro e w2 ⟨rfl, v2, hs, hk⟩; rw [← HZ.out] at hs; have HS2 := Aside0.mk hs; have HK2 := Aside0.mk (WK.trans HKd.out hk); have ht := WT.step HTd.out hk; obtain ⟨q0, q1, q2, q3⟩ := ht.cells; simp only at q0 q1 q2 q3; have HT2 := Aside0.mk ht; clear hs hk ht))
  go_end0
  refine ⟨rfl, _, ?_, HK2.out⟩
  have e := HS2.out
  rw [HZ.out, HY.out] at e
  simpa only [List.append_assoc] using e
set_option maxHeartbeats 1600000 in
theorem wtok_4w {g : Nat} {v : Value} {bs : List Int} {t : S34} (W : World) (h : WS W g v bs) (hl : bs.length ≤ 900000) (h0 : 0 ≤ t.f0 ∧ t.f0 ≤ 4294967295) (h1 : 0 ≤ t.f1 ∧ t.f1 ≤ 4294967295) (h2 : t.f2.size ≤ 1000) (h3 : -9223372036854775808 ≤ t.f3 ∧ t.f3 ≤ 9223372036854775807) {k : Nat} (hk : token_behind.f k t.f0 = some 4) :
    Calls Try.prog 22 #[.pointer (some ⟨g, 0, none⟩), .agg #[.int .i64 t.f0, .int .u32 t.f1, .string t.f2, .int .i64 t.f3], .bool true] W fun e w' => e = .returned (.tuple #[]) ∧ ∃ v', WS w' g v' (bs ++ (codeB t.f0 ++ twoB t.f3)) ∧ WK W w' g v v' := by
  obtain ⟨x0, x1, x2, x3⟩ := t
  simp only at h0 h1 h2 h3 hk ⊢
  have ha := WT.new h ⟨x0, x1, x2, x3⟩
  have hb : Below W.heap.size W (W.alloc (.cells #[.int .i64 x0, .int .u32 x1, .string x2, .int .i64 x3] 34)) := (Below.refl _ _).alloc (Nat.le_refl _) _
  have HS0 := Aside0.mk (h.below hb)
  have HK0 := Aside0.mk (WK.ofBelow (g := g) (v := v) hb)
  have HT0 := Aside0.mk ha
  have hlt := h.lt
  have HKD := Aside0.mk hk
  have HL := Aside0.mk hl
  have hcl : ∀ c, (codeB c).length ≤ 2 := fun c => by unfold codeB; split <;> simp
  have htl : ∀ s : ByteArray, (textB s).length = s.size + 1 := fun s => by unfold textB; rw [List.length_append, bytesOf_length]; simp; omega
  have HCL := Aside0.mk (hcl x0)
  have HCL1 := Aside0.mk (hcl x1)
  have HTL := Aside0.mk (htl x2)
  obtain ⟨y, hy⟩ : ∃ q_, q_ = bs ++ codeB x0 := ⟨_, rfl⟩
  have HY := Aside0.mk hy
  have LY := Aside0.mk (show y.length ≤ 900002 by rw [hy, List.length_append]; have := hcl x0; omega)
  have LY0 := LY.out
  obtain ⟨z, hz⟩ : ∃ q_, q_ = y ++ twoB x3 := ⟨_, rfl⟩
  have HZ := Aside0.mk hz
  have LZ := Aside0.mk (show z.length ≤ 900004 by rw [hz, List.length_append]; have := LY0; have : (twoB x3).length = 2 := rfl; omega)
  clear hz
  clear LY0
  clear h hl hk ha hb hcl htl hy
  go_enter Try.func22, Try.ntmps22
  go_wp2_with (first | (go_at_call 30; (with_reducible refine (wcode_any _ HS0.out h0.1 h0.2 (by have := HL.out; omega)).mono ?_); rintro e w1 ⟨rfl, v1, hs, hk⟩; rw [← HY.out] at hs; have HS1 := Aside0.mk hs; have HK1 := Aside0.mk (WK.trans HK0.out hk); have ht := WT.step HT0.out hk; obtain ⟨q0, q1, q2, q3⟩ := ht.cells; simp only at q0 q1 q2 q3; have HT1 := Aside0.mk ht; clear hs hk ht) | (go_at_call 25; (with_reducible refine (behind_k _ HKD.out).mono ?_); rintro e wb ⟨rfl, ⟨nd, rfl⟩⟩; have HSd := Aside0.mk (HS1.out.drewN nd); have HKd := Aside0.mk (HK1.out.drewN nd); have HTd := Aside0.mk (WT.step HT1.out (WK.drewN (WK.refl _ _ _) nd))) | (go_at_call 31; (with_reducible refine (wtwo_any _ HSd.out h3.1 h3.2 (by have := LY.out; omega)).mono ?_); rintro e w2 ⟨rfl, v2, hs, hk⟩; rw [← HZ.out] at hs; have HS2 := Aside0.mk hs; have HK2 := Aside0.mk (WK.trans HKd.out hk); have ht := WT.step HTd.out hk; obtain ⟨q0, q1, q2, q3⟩ := ht.cells; simp only at q0 q1 q2 q3; have HT2 := Aside0.mk ht; clear hs hk ht))
  go_end0
  refine ⟨rfl, _, ?_, HK2.out⟩
  have e := HS2.out
  rw [HZ.out, HY.out] at e
  simpa only [List.append_assoc] using e
set_option maxHeartbeats 1600000 in
theorem wtok_5 {g : Nat} {v : Value} {bs : List Int} {t : S34} {wide : Bool} (W : World) (h : WS W g v bs) (hl : bs.length ≤ 900000) (h0 : 0 ≤ t.f0 ∧ t.f0 ≤ 4294967295) (h1 : 0 ≤ t.f1 ∧ t.f1 ≤ 4294967295) (h2 : t.f2.size ≤ 1000) (h3 : -9223372036854775808 ≤ t.f3 ∧ t.f3 ≤ 9223372036854775807) {k : Nat} (hk : token_behind.f k t.f0 = some 5) :
    Calls Try.prog 22 #[.pointer (some ⟨g, 0, none⟩), .agg #[.int .i64 t.f0, .int .u32 t.f1, .string t.f2, .int .i64 t.f3], .bool wide] W fun e w' => e = .returned (.tuple #[]) ∧ ∃ v', WS w' g v' (bs ++ (codeB t.f0 ++ twoB t.f1)) ∧ WK W w' g v v' := by
  obtain ⟨x0, x1, x2, x3⟩ := t
  simp only at h0 h1 h2 h3 hk ⊢
  have ha := WT.new h ⟨x0, x1, x2, x3⟩
  have hb : Below W.heap.size W (W.alloc (.cells #[.int .i64 x0, .int .u32 x1, .string x2, .int .i64 x3] 34)) := (Below.refl _ _).alloc (Nat.le_refl _) _
  have HS0 := Aside0.mk (h.below hb)
  have HK0 := Aside0.mk (WK.ofBelow (g := g) (v := v) hb)
  have HT0 := Aside0.mk ha
  have hlt := h.lt
  have HKD := Aside0.mk hk
  have HL := Aside0.mk hl
  have hcl : ∀ c, (codeB c).length ≤ 2 := fun c => by unfold codeB; split <;> simp
  have htl : ∀ s : ByteArray, (textB s).length = s.size + 1 := fun s => by unfold textB; rw [List.length_append, bytesOf_length]; simp; omega
  have HCL := Aside0.mk (hcl x0)
  have HCL1 := Aside0.mk (hcl x1)
  have HTL := Aside0.mk (htl x2)
  obtain ⟨y, hy⟩ : ∃ q_, q_ = bs ++ codeB x0 := ⟨_, rfl⟩
  have HY := Aside0.mk hy
  have LY := Aside0.mk (show y.length ≤ 900002 by rw [hy, List.length_append]; have := hcl x0; omega)
  have LY0 := LY.out
  obtain ⟨z, hz⟩ : ∃ q_, q_ = y ++ twoB x1 := ⟨_, rfl⟩
  have HZ := Aside0.mk hz
  have LZ := Aside0.mk (show z.length ≤ 900004 by rw [hz, List.length_append]; have := LY0; have : (twoB x1).length = 2 := rfl; omega)
  clear hz
  clear LY0
  clear h hl hk ha hb hcl htl hy
  go_enter Try.func22, Try.ntmps22
  go_wp2_with (first | (go_at_call 30; (with_reducible refine (wcode_any _ HS0.out h0.1 h0.2 (by have := HL.out; omega)).mono ?_); rintro e w1 ⟨rfl, v1, hs, hk⟩; rw [← HY.out] at hs; have HS1 := Aside0.mk hs; have HK1 := Aside0.mk (WK.trans HK0.out hk); have ht := WT.step HT0.out hk; obtain ⟨q0, q1, q2, q3⟩ := ht.cells; simp only at q0 q1 q2 q3; have HT1 := Aside0.mk ht; clear hs hk ht) | (go_at_call 25; (with_reducible refine (behind_k _ HKD.out).mono ?_); rintro e wb ⟨rfl, ⟨nd, rfl⟩⟩; have HSd := Aside0.mk (HS1.out.drewN nd); have HKd := Aside0.mk (HK1.out.drewN nd); have HTd := Aside0.mk (WT.step HT1.out (WK.drewN (WK.refl _ _ _) nd))) | (go_at_call 31; (with_reducible refine (wtwo_any _ HSd.out (by omega) (by omega) (by have := LY.out; omega)).mono ?_); rintro e w2 ⟨rfl, v2, hs, hk⟩; rw [← HZ.out] at hs; have HS2 := Aside0.mk hs; have HK2 := Aside0.mk (WK.trans HKd.out hk); have ht := WT.step HTd.out hk; obtain ⟨q0, q1, q2, q3⟩ := ht.cells; simp only at q0 q1 q2 q3; have HT2 := Aside0.mk ht; clear hs hk ht))
  go_end0
  refine ⟨rfl, _, ?_, HK2.out⟩
  have e := HS2.out
  rw [HZ.out, HY.out] at e
  simpa only [List.append_assoc] using e
set_option maxHeartbeats 1600000 in
theorem wtok_6 {g : Nat} {v : Value} {bs : List Int} {t : S34} {wide : Bool} (W : World) (h : WS W g v bs) (hl : bs.length ≤ 900000) (h0 : 0 ≤ t.f0 ∧ t.f0 ≤ 4294967295) (h1 : 0 ≤ t.f1 ∧ t.f1 ≤ 4294967295) (h2 : t.f2.size ≤ 1000) (h3 : -9223372036854775808 ≤ t.f3 ∧ t.f3 ≤ 9223372036854775807) {k : Nat} (hk : token_behind.f k t.f0 = some 6) :
    Calls Try.prog 22 #[.pointer (some ⟨g, 0, none⟩), .agg #[.int .i64 t.f0, .int .u32 t.f1, .string t.f2, .int .i64 t.f3], .bool wide] W fun e w' => e = .returned (.tuple #[]) ∧ ∃ v', WS w' g v' (bs ++ (codeB t.f0 ++ (textB t.f2 ++ twoB t.f1))) ∧ WK W w' g v v' := by
  obtain ⟨x0, x1, x2, x3⟩ := t
  simp only at h0 h1 h2 h3 hk ⊢
  have ha := WT.new h ⟨x0, x1, x2, x3⟩
  have hb : Below W.heap.size W (W.alloc (.cells #[.int .i64 x0, .int .u32 x1, .string x2, .int .i64 x3] 34)) := (Below.refl _ _).alloc (Nat.le_refl _) _
  have HS0 := Aside0.mk (h.below hb)
  have HK0 := Aside0.mk (WK.ofBelow (g := g) (v := v) hb)
  have HT0 := Aside0.mk ha
  have hlt := h.lt
  have HKD := Aside0.mk hk
  have HL := Aside0.mk hl
  have hcl : ∀ c, (codeB c).length ≤ 2 := fun c => by unfold codeB; split <;> simp
  have htl : ∀ s : ByteArray, (textB s).length = s.size + 1 := fun s => by unfold textB; rw [List.length_append, bytesOf_length]; simp; omega
  have HCL := Aside0.mk (hcl x0)
  have HCL1 := Aside0.mk (hcl x1)
  have HTL := Aside0.mk (htl x2)
  obtain ⟨y, hy⟩ : ∃ q_, q_ = bs ++ codeB x0 := ⟨_, rfl⟩
  have HY := Aside0.mk hy
  have LY := Aside0.mk (show y.length ≤ 900002 by rw [hy, List.length_append]; have := hcl x0; omega)
  have LY0 := LY.out
  obtain ⟨z, hz⟩ : ∃ q_, q_ = y ++ textB x2 := ⟨_, rfl⟩
  have HZ := Aside0.mk hz
  have LZ := Aside0.mk (show z.length ≤ 901004 by rw [hz, List.length_append]; have := LY0; have := htl x2; omega)
  clear hz
  obtain ⟨u, hu⟩ : ∃ q_, q_ = z ++ twoB x1 := ⟨_, rfl⟩
  have HU := Aside0.mk hu
  have LU := Aside0.mk (show u.length ≤ 901006 by rw [hu, List.length_append]; have := LY0; have := LZ.out; have : (twoB x1).length = 2 := rfl; omega)
  clear hu
  clear LY0
  clear h hl hk ha hb hcl htl hy
  go_enter Try.func22, Try.ntmps22
  go_wp2_with (first | (go_at_call 30; (with_reducible refine (wcode_any _ HS0.out h0.1 h0.2 (by have := HL.out; omega)).mono ?_); rintro e w1 ⟨rfl, v1, hs, hk⟩; rw [← HY.out] at hs; have HS1 := Aside0.mk hs; have HK1 := Aside0.mk (WK.trans HK0.out hk); have ht := WT.step HT0.out hk; obtain ⟨q0, q1, q2, q3⟩ := ht.cells; simp only at q0 q1 q2 q3; have HT1 := Aside0.mk ht; clear hs hk ht) | (go_at_call 25; (with_reducible refine (behind_k _ HKD.out).mono ?_); rintro e wb ⟨rfl, ⟨nd, rfl⟩⟩; have HSd := Aside0.mk (HS1.out.drewN nd); have HKd := Aside0.mk (HK1.out.drewN nd); have HTd := Aside0.mk (WT.step HT1.out (WK.drewN (WK.refl _ _ _) nd))) | (go_at_call 32; (with_reducible refine (wtext_any _ HSd.out h2 (by have := LY.out; omega)).mono ?_); rintro e w2 ⟨rfl, v2, hs, hk⟩; rw [← HZ.out] at hs; have HS2 := Aside0.mk hs; have HK2 := Aside0.mk (WK.trans HKd.out hk); have ht := WT.step HTd.out hk; obtain ⟨q0, q1, q2, q3⟩ := ht.cells; simp only at q0 q1 q2 q3; have HT2 := Aside0.mk ht; clear hs hk ht) | (go_at_call 31; (with_reducible refine (wtwo_any _ HS2.out (by omega) (by omega) (by have := LZ.out; omega)).mono ?_); rintro e w3 ⟨rfl, v3, hs, hk⟩; rw [← HU.out] at hs; have HS3 := Aside0.mk hs; have HK3 := Aside0.mk (WK.trans HK2.out hk); have ht := WT.step HT2.out hk; obtain ⟨q0, q1, q2, q3⟩ := ht.cells; simp only at q0 q1 q2 q3; have HT3 := Aside0.mk ht; clear hs hk ht))
  go_end0
  refine ⟨rfl, _, ?_, HK3.out⟩
  have e := HS3.out
  rw [HU.out, HZ.out, HY.out] at e
  simpa only [List.append_assoc] using e
set_option maxHeartbeats 1600000 in
theorem wtok_4 {g : Nat} {v : Value} {bs : List Int} {t : S34} (W : World) (h : WS W g v bs) (hl : bs.length ≤ 900000) (h0 : 0 ≤ t.f0 ∧ t.f0 ≤ 4294967295) (h1 : 0 ≤ t.f1 ∧ t.f1 ≤ 4294967295) (h2 : t.f2.size ≤ 1000) (h3 : -9223372036854775808 ≤ t.f3 ∧ t.f3 ≤ 9223372036854775807) {k : Nat} (hk : token_behind.f k t.f0 = some 4) :
    Calls Try.prog 22 #[.pointer (some ⟨g, 0, none⟩), .agg #[.int .i64 t.f0, .int .u32 t.f1, .string t.f2, .int .i64 t.f3], .bool false] W fun e w' => e = .returned (.tuple #[]) ∧ ∃ v', WS w' g v' (bs ++ (codeB t.f0 ++ [t.f3 % 256])) ∧ WK W w' g v v' := by
  obtain ⟨x0, x1, x2, x3⟩ := t
  simp only at h0 h1 h2 h3 hk ⊢
  have ha := WT.new h ⟨x0, x1, x2, x3⟩
  have hb : Below W.heap.size W (W.alloc (.cells #[.int .i64 x0, .int .u32 x1, .string x2, .int .i64 x3] 34)) := (Below.refl _ _).alloc (Nat.le_refl _) _
  have HS0 := Aside0.mk (h.below hb)
  have HK0 := Aside0.mk (WK.ofBelow (g := g) (v := v) hb)
  have HT0 := Aside0.mk ha
  have hlt := h.lt
  have HKD := Aside0.mk hk
  have HL := Aside0.mk hl
  have hcl : ∀ c, (codeB c).length ≤ 2 := fun c => by unfold codeB; split <;> simp
  have htl : ∀ s : ByteArray, (textB s).length = s.size + 1 := fun s => by unfold textB; rw [List.length_append, bytesOf_length]; simp; omega
  have HCL := Aside0.mk (hcl x0)
  have HCL1 := Aside0.mk (hcl x1)
  have HTL := Aside0.mk (htl x2)
  obtain ⟨y, hy⟩ : ∃ q_, q_ = bs ++ codeB x0 := ⟨_, rfl⟩
  have HY := Aside0.mk hy
  have LY := Aside0.mk (show y.length ≤ 900002 by rw [hy, List.length_append]; have := hcl x0; omega)
  have LY0 := LY.out
  obtain ⟨z, hz⟩ : ∃ q_, q_ = y ++ [x3 % 256] := ⟨_, rfl⟩
  have HZ := Aside0.mk hz
  have LZ := Aside0.mk (show z.length ≤ 900003 by rw [hz, List.length_append]; have := LY0; have : [x3 % 256].length = 1 := rfl; omega)
  clear hz
  clear LY0
  clear h hl hk ha hb hcl htl hy
  go_enter Try.func22, Try.ntmps22
  go_wp2_with (first | (go_at_call 30; (with_reducible refine (wcode_any _ HS0.out h0.1 h0.2 (by have := HL.out; omega)).mono ?_); rintro e w1 ⟨rfl, v1, hs, hk⟩; rw [← HY.out] at hs; have HS1 := Aside0.mk hs; have HK1 := Aside0.mk (WK.trans HK0.out hk); have ht := WT.step HT0.out hk; obtain ⟨q0, q1, q2, q3⟩ := ht.cells; simp only at q0 q1 q2 q3; have HT1 := Aside0.mk ht; clear hs hk ht) | (go_at_call 25; (with_reducible refine (behind_k _ HKD.out).mono ?_); rintro e wb ⟨rfl, ⟨nd, rfl⟩⟩; have HSd := Aside0.mk (HS1.out.drewN nd); have HKd := Aside0.mk (HK1.out.drewN nd); have HTd := Aside0.mk (WT.step HT1.out (WK.drewN (WK.refl _ _ _) nd))))
  obtain ⟨A1, c1, e1⟩ := Kd.R_slice HSd.out.2
  subst e1
  obtain ⟨p0, pf⟩ := HSd.out.cell
  obtain ⟨q0, q1, q2, q3⟩ := HTd.out.cells
  simp only at q0 q1 q2 q3
  have HN := Aside0.mk HSd.out.lt
  generalize hWd : World.drewN w1 nd = Wd at *
  have HWD := Aside0.mk hWd
  clear hWd
  have hgl : g < Wd.heap.size := HN.out
  have p0' : ∀ o, (Wd.alloc o).cell? ⟨g, 0, none⟩ = some (.slice A1 y.length c1) := fun o => ((Below.refl _ _).alloc (Nat.le_refl _) o |>.cell (p := ⟨g, 0, none⟩) hgl).trans p0
  go_region_law ((refine R_append_law (Kd.int .u8) (w0 := Wd) (g + 1) (by rfl) (.tmp 55) (.tmp 59) 22 5 (.int .u8 0) 1 (by rfl) Try.underlying22 info5 (by rfl) (by decide) (by omega) (.slice A1 y.length c1) y [IntKind.u8.wrap x3] (some ⟨Wd.heap.size, 0, none⟩) 1 1 (fun _ => True) (fun _ => False) (by rfl) (by rfl) ?aO ?aR (fun _ _ h => h) (fun _ h => h.elim) ?aF ?aB ?aS ?aL ?_; (case aO => exact Kd.R_drew (Kd.R_alloc HSd.out.2 _)); (case aR => exact Kd.C_drew (lit1 _ _)); (case aB => exact below_drew (below_alloc' _ _ (by have := HN.out; omega))); (case aF => exact (fun _ _ => trivial)); (case aS => have := HN.out; first | omega | (simp; omega)); (case aL => have := LY.out; omega); intro v7 w7 ho hb hg hat; rw [IntKind.wrap_u8, ← HZ.out] at ho; have HO7 := Aside0.mk ho; have HB7 := Aside0.mk hb; have HG7 := Aside0.mk hg; have HAT7 := Aside0.mk hat; obtain ⟨A7, c7, e7⟩ := Kd.R_slice ho; subst e7; have n7 := hS_cell hb p0; have m7 := hS_frozen hb pf; clear ho hb hg hat))
  all_goals
    go_wp2
    go_end0
    obtain ⟨r1, r2⟩ := WS.wrote HSd.out HO7.out HB7.out (grown_trans (grown_below (below_drew ((Below.refl _ _).alloc (Nat.le_refl _) _))) HG7.out) (by
      rcases HAT7.out with e | ⟨b, e, hb⟩
      · exact .inl e
      · exact .inr ⟨b, e, Nat.le_trans (by simp) hb⟩)
    refine ⟨rfl, _, ?_, HKd.out.trans r2⟩
    have e : bs ++ (codeB x0 ++ [x3 % 256]) = z := by rw [HZ.out, HY.out, List.append_assoc]
    show WS _ _ _ (bs ++ (codeB x0 ++ [x3 % 256]))
    rw [e]
    exact r1

/-! ### token_Size: function 17 -/
/-- The bytes of a token, by what stands behind its code. -/
def wtokB (kd : Int) (wide : Bool) (t : S34) : List Int :=
  codeB t.f0 ++ (if kd = 1 then twoB (t.f1 / 65536) ++ twoB (t.f1 % 65536) else if kd = 2 then codeB t.f1 else if kd = 3 then textB t.f2 else
    if kd = 4 then (if wide = true then twoB t.f3 else [t.f3 % 256]) else if kd = 5 then twoB t.f1 else if kd = 6 then textB t.f2 ++ twoB t.f1 else [])
/-- A token whose numbers are numbers of their kinds, its text of a size. -/
def TokOk (t : S34) : Prop := (0 ≤ t.f0 ∧ t.f0 ≤ 4294967295) ∧ (0 ≤ t.f1 ∧ t.f1 ≤ 4294967295) ∧ t.f2.size ≤ 1000 ∧ (-9223372036854775808 ≤ t.f3 ∧ t.f3 ≤ 9223372036854775807)
instance (t : S34) : Decidable (TokOk t) := by unfold TokOk; exact inferInstance
theorem wtok_any {g : Nat} {v : Value} {bs : List Int} {t : S34} {wide : Bool} (W : World) (h : WS W g v bs) (hl : bs.length ≤ 900000) (ht : TokOk t) {k : Nat} {kd : Int} (hk : token_behind.f k t.f0 = some kd) (hkd : 0 ≤ kd ∧ kd ≤ 6) :
    Calls Try.prog 22 #[.pointer (some ⟨g, 0, none⟩), .agg #[.int .i64 t.f0, .int .u32 t.f1, .string t.f2, .int .i64 t.f3], .bool wide] W fun e w' => e = .returned (.tuple #[]) ∧ ∃ v', WS w' g v' (bs ++ wtokB kd wide t) ∧ WK W w' g v v' := by
  obtain ⟨h0, h1, h2, h3⟩ := ht
  unfold wtokB
  have hc : kd = 0 ∨ kd = 1 ∨ kd = 2 ∨ kd = 3 ∨ kd = 4 ∨ kd = 5 ∨ kd = 6 := by omega
  rcases hc with rfl | rfl | rfl | rfl | rfl | rfl | rfl
  · rw [if_neg (by decide), if_neg (by decide), if_neg (by decide), if_neg (by decide), if_neg (by decide), if_neg (by decide), List.append_nil]
    exact wtok_0 W h hl h0 h1 h2 h3 hk
  · rw [if_pos rfl]
    exact wtok_1 W h hl h0 h1 h2 h3 hk
  · rw [if_neg (by decide), if_pos rfl]
    exact wtok_2 W h hl h0 h1 h2 h3 hk
  · rw [if_neg (by decide), if_neg (by decide), if_pos rfl]
    exact wtok_3 W h hl h0 h1 h2 h3 hk
  · rw [if_neg (by decide), if_neg (by decide), if_neg (by decide), if_pos rfl]
    cases wide with
    | true =>
      rw [if_pos rfl]
      exact wtok_4w W h hl h0 h1 h2 h3 hk
    | false =>
      rw [if_neg (by decide)]
      exact wtok_4 W h hl h0 h1 h2 h3 hk
  · rw [if_neg (by decide), if_neg (by decide), if_neg (by decide), if_neg (by decide), if_pos rfl]
    exact wtok_5 W h hl h0 h1 h2 h3 hk
  · rw [if_neg (by decide), if_neg (by decide), if_neg (by decide), if_neg (by decide), if_neg (by decide), if_pos rfl]
    exact wtok_6 W h hl h0 h1 h2 h3 hk
theorem WS.new (W : World) : WS (W.alloc (.cells #[.slice none 0 0] 49)) W.heap.size (.slice none 0 0) [] := ⟨heap_alloc_new W _, Kd.R_nil _ _ _ _ _⟩
theorem WK.below {W W1 : World} {g B : Nat} {v v1 : Value} (h : WK W W1 g v v1) (hg : B ≤ g) (hB : B ≤ W.heap.size) (hv : ∀ k, v.ownBlock = some k → B ≤ k) : Below B W W1 :=
  ⟨h.os, h.tape, h.output, h.size, fun k hk => h.block k (by omega) (by omega) (fun e => by have := hv k e.symm; omega)⟩
def token_Size.f (k : Nat) (a0_0 a0_1 : Int) (a0_2 : ByteArray) (a0_3 : Int) (a1 : Bool) : Option Int :=
  (token_right.f k a0_0 a0_1 a0_2 a0_3 a1).bind fun ok => if ok = true then ((token_behind.f k a0_0).bind fun kd => if 0 ≤ kd ∧ kd ≤ 6 then (if TokOk ⟨a0_0, a0_1, a0_2, a0_3⟩ then some ((wtokB kd a1 ⟨a0_0, a0_1, a0_2, a0_3⟩).length : Int) else none) else none) else some 0
theorem token_Size.mono : ∀ a0 a1 a2 a3 a4 k, LeO (token_Size.f k a0 a1 a2 a3 a4) (token_Size.f (k + 1) a0 a1 a2 a3 a4) := by
  intro a0 a1 a2 a3 a4 k
  unfold token_Size.f
  repeat' first
    | exact token_behind.mono _ _
    | exact token_right.mono _ _ _ _ _ _
    | exact LeO.refl _
    | exact LeO.none _
    | refine LeO.ite ?_ ?_
    | refine LeO.bind ?_ (fun _ => ?_)
set_option maxHeartbeats 4000000 in
set_option maxRecDepth 100000 in
theorem token_Size.calls (k : Nat) (a0_0 : Int) (a0_1 : Int) (a0_2 : ByteArray) (a0_3 : Int) (a1 : Bool) (r : Int) (w : World) (h : token_Size.f k a0_0 a0_1 a0_2 a0_3 a1 = some r) :
    Calls Try.prog 17 #[.agg #[.int .i64 a0_0, .int .u32 a0_1, .string a0_2, .int .i64 a0_3], .bool a1] w fun e w' => e = .returned (.int .i64 r) ∧ Below w.heap.size w w' := by
  unfold token_Size.f at h
  obtain ⟨ok, hok, h⟩ := Option.bind_eq_some_iff.mp h
  have HOK := Aside0.mk hok
  have hT : TB (w.alloc (.cells #[.int .i64 a0_0, .int .u32 a0_1, .string a0_2, .int .i64 a0_3] 34)) w.heap.size a0_0 a0_1 a0_2 a0_3 := heap_alloc_new w _
  obtain ⟨⟨t0, t1, t2, t3⟩, _⟩ := hT.cells
  have HT := Aside0.mk hT
  clear hok hT
  have A1 : Aside0 (Below w.heap.size w (w.alloc (.cells #[.int .i64 a0_0, .int .u32 a0_1, .string a0_2, .int .i64 a0_3] 34))) := ⟨(Below.refl _ _).alloc (Nat.le_refl _) _⟩
  cases ok with
  | false =>
    rw [if_neg (by decide)] at h
    obtain rfl := Option.some.inj h
    clear h
    go_enter Try.func17, Try.ntmps17
    go_wp2_with (go_at_call 20; (with_reducible refine (token_right.calls _ _ _ _ _ _ _ _ HOK.out).mono ?_); rintro e w3 ⟨rfl, hb⟩; have HB3 := Aside0.mk hb; clear hb)
    go_ret
    exact ⟨rfl, below_step A1.out HB3.out⟩
  | true =>
    rw [if_pos rfl] at h
    obtain ⟨kd, hk, h⟩ := Option.bind_eq_some_iff.mp h
    by_cases hkd : 0 ≤ kd ∧ kd ≤ 6
    · rw [if_pos hkd] at h
      by_cases hto : TokOk ⟨a0_0, a0_1, a0_2, a0_3⟩
      · rw [if_pos hto] at h
        obtain rfl := Option.some.inj h
        obtain ⟨z, hz⟩ : ∃ z, wtokB kd a1 ⟨a0_0, a0_1, a0_2, a0_3⟩ = z := ⟨_, rfl⟩
        rw [hz]
        have HZ := Aside0.mk hz
        have HK := Aside0.mk hk
        have HKD := Aside0.mk hkd
        have HTO := Aside0.mk hto
        clear h hz hk hkd hto
        go_enter Try.func17, Try.ntmps17
        go_wp2_with (first
          | (go_at_call 20; (with_reducible refine (token_right.calls _ _ _ _ _ _ _ _ HOK.out).mono ?_); rintro e w3 ⟨rfl, hb⟩; have HB3 := Aside0.mk hb; have hT3 := TB.below HT.out hb; obtain ⟨⟨t0, t1, t2, t3⟩, _⟩ := hT3.cells; have HW3 := Aside0.mk (WS.new w3); have hT4 := TB.below hT3 ((Below.refl _ _).alloc (Nat.le_refl _) (.cells #[.slice none 0 0] 49)); obtain ⟨⟨u0, u1, u2, u3⟩, _⟩ := hT4.cells; clear hb hT3 hT4)
          | (go_at_call 22; (with_reducible refine (wtok_any (t := ⟨a0_0, a0_1, a0_2, a0_3⟩) _ HW3.out (by simp) HTO.out HK.out HKD.out).mono ?_); rintro e w5 ⟨rfl, v5, hs, hk5⟩; rw [HZ.out, List.nil_append] at hs; have HK5 := Aside0.mk hk5; obtain ⟨Az, cz, ez⟩ := Kd.R_slice hs.2; subst ez; obtain ⟨p0, pf⟩ := hs.cell; clear hs hk5))
        go_ret
        have hb3 := below_step A1.out HB3.out
        refine ⟨rfl, ?_⟩
        have hb4 : Below w.heap.size w (w3.alloc (.cells #[.slice none 0 0] 49)) := below_alloc hb3 _
        exact hb4.trans (HK5.out.below hb3.size (by have := hb4.size; exact this) (fun k hk => by cases hk))
      · rw [if_neg hto] at h
        cases h
    · rw [if_neg hkd] at h
      cases h

/-! ### tinderlaw13_alive: function 9 -/
def tinderlaw13_alive.f (k : Nat) : Option (Bool) :=
  (token_Decode.f k ([19, 254] : List Int) false).bind fun r => (token_Size.f k 19 0 (⟨#[]⟩ : ByteArray) (-2) true).bind fun s =>
    match r with
    | ([t], e) => if (t.f0 = 19 ∧ t.f1 = 0 ∧ t.f2 = (⟨#[]⟩ : ByteArray) ∧ t.f3 = -2) ∧ e = 0 ∧ s = 3 then some true else none
    | _ => none
theorem tinderlaw13_alive.mono : ∀ k, LeO (tinderlaw13_alive.f k) (tinderlaw13_alive.f (k + 1)) := by
  intro k
  unfold tinderlaw13_alive.f
  refine LeO.bind (token_Decode.mono _ _ _) (fun r => LeO.bind (token_Size.mono _ _ _ _ _ _) (fun s => LeO.refl _))
theorem add_none (ad : Addr) : ad.add ((0 : Int).toNat * 4) = ad := by
  show ad.add 0 = ad
  cases ad with
  | mk b o s => cases s <;> simp [Addr.add]
set_option maxHeartbeats 4000000 in
set_option maxRecDepth 100000 in
theorem tinderlaw13_alive.calls (k : Nat)  (r : Bool) (w : World) (h : tinderlaw13_alive.f k  = some r) :
    Calls Try.prog 9 #[] w fun e w' => e = .returned (.bool r) ∧ Below w.heap.size w w' := by
  unfold tinderlaw13_alive.f at h
  obtain ⟨⟨l, e⟩, hd, h⟩ := Option.bind_eq_some_iff.mp h
  obtain ⟨s, hs, h⟩ := Option.bind_eq_some_iff.mp h
  rcases l with _ | ⟨t, _ | ⟨t2, l⟩⟩
  · cases h
  · simp only at h
    by_cases hc : (t.f0 = 19 ∧ t.f1 = 0 ∧ t.f2 = (⟨#[]⟩ : ByteArray) ∧ t.f3 = -2) ∧ e = 0 ∧ s = 3
    · rw [if_pos hc] at h
      obtain rfl := Option.some.inj h
      obtain ⟨t0, t1, t2, t3⟩ := t
      obtain ⟨⟨rfl, rfl, rfl, rfl⟩, rfl, rfl⟩ := hc
      obtain ⟨y, hy⟩ : ∃ q_, q_ = ([19, 254] : List Int) := ⟨_, rfl⟩
      rw [← hy] at hd
      have HY := Aside0.mk hy
      have HD := Aside0.mk hd
      have HS := Aside0.mk hs
      clear h hd hs hy
      go_enter Try.func9, Try.ntmps9
      go_wp2_with (first
        | ((with_reducible refine gate_dst (N := 4) rfl ?_); refine Kd.R_lit (Kd.int .u8) _ 5 ?hg (N := 4) ?hd (xs := ([19, 254] : List Int)) (inner := [.int .u8 19, .int .u8 254]) (ok := fun _ => True) (okp := fun _ => True) ?hr ?hp (fun _ hk => hk) trivial (Below.refl _ _) (Nat.le_refl _) (by simp) ?_; (case hd => rfl); (case hg => rfl); (case hr => first | (go_simp; done) | (go_simp; rfl)); (case hp => exact (Reps.one (show Kd.M (Kd.int .u8) _ _ _ 19 [.int .u8 19] from rfl) (Reps.one (show Kd.M (Kd.int .u8) _ _ _ 254 [.int .u8 254] from rfl) (Reps.none _ _)))); intro v1 w1 ho hb hg_ hnew_; clear hg_ hnew_; rw [← HY.out] at ho; have HO1 := Aside0.mk ho; have HB1 := Aside0.mk hb; clear ho hb; obtain ⟨A1, c1, e1⟩ := Kd.R_slice HO1.out; subst e1)
        | (go_at_call 11; (with_reducible refine (token_Decode.calls k _ _ y false _ _ _ ?s1 ?s2 HD.out).mono ?_); (case s1 => exact (Kd.R_reads' HO1.out).2.2); (case s2 => exact (Kd.R_reads' HO1.out).2.1); rintro e w2 ⟨v2, rfl, ho, hb⟩; have HB2 := Aside0.mk (below_step HB1.out hb); obtain ⟨A2, c2, e2⟩ := Kd.R_slice ho; subst e2; obtain ⟨ad, eA, x0, x1, x2, x3⟩ := at_T34 (Kd.R_reads' ho).2.2 0 (by decide) (by simp); subst eA; rw [add_none] at x0 x1 x2 x3; simp only [show rd_T34 [(⟨19, 0, ⟨#[]⟩, -2⟩ : S34)] 0 = ⟨19, 0, ⟨#[]⟩, -2⟩ from rfl] at x0 x1 x2 x3; clear ho hb)
        | (go_at_call 17; (with_reducible refine (token_Size.calls _ _ _ _ _ _ _ _ HS.out).mono ?_); rintro e w3 ⟨rfl, hb⟩; have HB3 := Aside0.mk (below_step HB2.out hb); clear hb))
      go_ret
      exact ⟨rfl, HB3.out⟩
    · rw [if_neg hc] at h
      cases h
  · cases h

/-! ### tinderref04_Copy: function 10 -/
def tinderref04_Copy.f (l0 : List Int) : Option (List Int) := if ([] : List Int).length + l0.length < 140737488355328 then (some (([] : List Int) ++ l0)) else (none)
set_option maxHeartbeats 8000000 in
set_option maxRecDepth 100000 in
theorem tinderref04_Copy.calls (A0 : Option Addr) (c0 : Nat) (l0 : List Int) (r : List Int) (w : World) (hr0 : Kd.C (Kd.int .u8) w A0 l0.length l0) (hc0 : l0.length ≤ c0) (h : tinderref04_Copy.f l0 = some r) :
    Calls Try.prog 10 #[.slice A0 l0.length c0] w fun e w' => ∃ v0_ : Value, e = .returned (v0_) ∧ Kd.R (Kd.int .u8) 5 w' w.heap.size (fun _ => True) v0_ r ∧ Below w.heap.size w w' := by
  have HR0 := Aside0.mk hr0
  have HC0 := Aside0.mk hc0
  clear hr0 hc0
  have HB := Aside0.mk (Below.refl w.heap.size w)
  have H : (if ([] : List Int).length + l0.length < 140737488355328 then (some (([] : List Int) ++ l0)) else (none)) = some r := h
  clear h
  by_cases c2 : ([] : List Int).length + l0.length < 140737488355328
  · rw [if_pos c2] at H
    have LMc2 := Aside0.mk c2
    clear c2
    obtain ⟨y105, hy105⟩ : ∃ y_ : List Int, y_ = (([] : List Int) ++ l0) := ⟨_, rfl⟩
    replace H : (some y105) = some r := by first | (rw [hy105]; with_reducible exact H) | (have H2_ := (Option.bind_some _ _).symm.trans H; rw [hy105]; with_reducible exact H2_) | (have H2_ := (Option.bind_some _ _).symm.trans H; with_reducible exact H2_) | with_reducible exact H | (rw [hy105]; exact H) | exact H
    have Ny105 := Aside0.mk hy105
    clear hy105
    obtain rfl := Option.some.inj H
    go_enter Try.func10, Try.ntmps10
    go_wp2_with (first | ((with_reducible refine gate_builtin (b := .append) (xs := #[.tmp 4, .tmp 5]) rfl ?_); at_builtin; refine Kd.R_append_rows (Kd.int .u8) (w0 := w) w.heap.size rfl (.tmp 4) (.tmp 5) 22 5 (.int .u8 0) 1 rfl Try.underlying22 info5 rfl (by decide) (by omega) (.slice none 0 0) ([] : List Int) l0 _ _ _ (fun _ => True) (fun _ => False) rfl rfl ?aO ?aR (fun _ _ h => h) (fun _ h => h.elim) ?aF ?aB ?aS ?aL ?_; (case aR => repeat (first | exact HR0.out | (with_reducible refine Kd.C_alloc ?_ _) | (with_reducible refine Kd.C_drewN ?_ _) | (with_reducible refine Kd.C_drew ?_))); (case aB => exact (by repeat (first | (with_reducible first | exact HB.out | apply below_alloc | apply pw_below_drewN | apply below_drew1) | exact HB.out))); (case aF => exact (fun _ _ => trivial)); (case aO => exact ((Kd.R_nil _ _ _ _ (fun _ => True)))); (case aS => exact (below_size (by repeat (first | (with_reducible first | exact HB.out | apply below_alloc | apply pw_below_drewN | apply below_drew1) | exact HB.out)))); (case aL => have := LMc2.out; omega); intro v106 w3 ho hb hg hat; rw [← Ny105.out] at ho; have n0_ := Aside0.mk (hb); have n1_ := Aside0.mk (ho); clear HB; have HB := n0_; have HO107 := n1_; clear n0_ n1_; clear ho hb hg hat))
    go_ret
    exact ⟨_, by first | rfl | (simp [errW_none, errW_some] <;> rfl) | (simp [*, errW_none, errW_some] <;> rfl), by (with_reducible repeat (first | apply Kd.R_alloc | apply Kd.R_drewN | apply Kd.R_drew)); exact HO107.out, by repeat (first | (with_reducible first | exact HB.out | apply below_alloc | apply pw_below_drewN | apply below_drew1) | exact HB.out)⟩
  · rw [if_neg c2] at H
    exact absurd H (by simp)

end Go.Proofs.Ytfaebbmngplilaa.P
