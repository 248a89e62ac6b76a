/- The machine's side: functions of the translation as plain Lean functions, and that the machine's calls come to what they say. No condition. Written by a program (wip/tools/pp.py over the kit's printer); Lean checks it. -/
import Derived.Test.YtdobpgomgnaleaaDoorPx0
import Derived.Test.YtdobpgomgnaleaaDoorPx5
import Derived.Test.YtdobpgomgnaleaaDoorPx6
import Derived.Test.YtdobpgomgnaleaaDoorPx10
namespace Go.Proofs.YtdobpgomgnaleaaDoor.P
open Go.RowKit Go.Proofs.YtdobpgomgnaleaaDoorW.PrintWords Go.Proofs.YtdobpgomgnaleaaDoorW.PrintLast Go.Proofs.YtdobpgomgnaleaaDoorW.PrintMore
attribute [local go_sem] max2_int min2_int max_two min_two max_three min_three max_four min_four   -- for this text's walks alone
set_option linter.unusedVariables false
set_option linter.unusedSimpArgs false

/-! ### vars_Encode: function 25 -/
section
open Go.Proofs.YtdobpgomgnaleaaDoor.G
set_option maxRecDepth 100000 in
theorem app_str_at (W : World) (base : Nat) (ty : TypeId) (v : Value) (xs : List Int) (y : ByteArray) (ok : Nat → Prop) (HO : Kd.R (Kd.int .u8) 5 W base ok v xs) (hf : ∀ k, W.heap.size ≤ k → ok k) (hbase : base ≤ W.heap.size) (hl : xs.length + y.size ≤ 1000000) :
    ∃ v1 w1, (Builtin.append_ #[22, 9] ty #[v, .string y]).run Tryd.prog W = .ok v1 w1 ∧ Kd.R (Kd.int .u8) 5 w1 base ok v1 (xs ++ bytesOf y) ∧ W.grownBy w1 v.ownBlock := by
  obtain ⟨i0, hi, hz0, hz1, hz2⟩ := info_parts info5
  have hown := Kd.own_of_R HO
  obtain ⟨v1, w1, hrun, h2, hg, _⟩ := Lib.run_append_own_string (P := Tryd.prog) W base 22 9 ty 5 i0 Tryd.underlying22 Tryd.underlying9 hi hz0 hz1 hz2 v xs.length _ hown y (by simp only [maxLen]; omega) (by omega) hbase
  refine ⟨v1, w1, hrun, ?_, hg⟩
  have hl2 : (xs ++ bytesOf y).length = xs.length + y.size := by rw [List.length_append, bytesOf_length]
  have hc : encs (Value.int .u8) (xs ++ bytesOf y) = encs (Value.int .u8) xs ++ Lib.strCells y := by
    rw [encs_append]
    exact congrArg (encs (Value.int .u8) xs ++ ·) (by unfold encs bytesOf Lib.strCells; rw [List.map_map]; rfl)
  refine Kd.R_of_own (by rw [hl2, hc]; exact h2) (fun k hk => ?_)
  rcases hown.2 with ⟨rfl, hn⟩ | ⟨g, cap, cur, rfl, hbg, hgb, hnc, hcm, hcs, htake⟩
  · by_cases hy : y.size = 0
    · have hr : (Builtin.append_ #[22, 9] ty #[.slice none 0 0, .string y]).run Tryd.prog W = .ok (.slice none 0 0) W := by
        have hf2 := Lib.run_firstCells_string (P := Tryd.prog) W 1 y
        rw [hy] at hf2
        simp [Builtin.append_, run_underlying Tryd.underlying22, run_underlying Tryd.underlying9, sizeOf, typeInfo, hi, hz1, Builtin.lenOf, hy, hf2]
      rw [hr] at hrun
      injection hrun with e1 e2
      subst e1
      simp [Value.ownBlock] at hk
    · have hr := run_append_nil_string (P := Tryd.prog) W 22 9 ty 5 i0 (.int .u8 0) Tryd.underlying22 Tryd.underlying9 hi hz0 y (by omega) (by omega) (by rw [hz2]; omega)
      rw [hr] at hrun
      injection hrun with e1 e2
      subst e1
      have : W.heap.size = k := by simpa [Value.ownBlock] using hk
      exact hf k (by omega)
  · by_cases hroom : xs.length + y.size ≤ cap
    · have hr := Lib.run_append_room_string (P := Tryd.prog) W 22 9 ty 5 i0 Tryd.underlying22 Tryd.underlying9 hi hz1 g xs.length cap cur hgb y hroom (by rw [hcs]; omega)
      rw [hr] at hrun
      injection hrun with e1 e2
      subst e1
      exact HO.1 k (by simpa [Value.ownBlock] using hk)
    · have holds : ∀ j u, (encs (Value.int .u8) xs)[j]? = some u → W.cell? ((⟨g, 0, none⟩ : Addr).add j) = some u := hown.cells (g := g) rfl
      have hr := Lib.run_append_grow_string (P := Tryd.prog) W 22 9 ty 5 i0 (.int .u8 0) Tryd.underlying22 Tryd.underlying9 hi hz0 ⟨g, 0, none⟩ xs.length cap (encs (Value.int .u8) xs) (by rw [hz1, encs_length, Nat.mul_one]) holds y (by omega) (by omega) (by rw [hz2]; exact growslice_fits (by omega) (by omega))
      rw [hr] at hrun
      injection hrun with e1 e2
      subst e1
      have : W.heap.size = k := by simpa [Value.ownBlock] using hk
      exact hf k (by omega)
section
variable {ops : Array Oper} {o : Oper} {a : Act} {Q : Exit → Act → World → Prop} {Kc : Act → World → Prop}
theorem app_str_step {w0 W : World} (base : Nat) (hw : Region.wanted o (yielded ops a.tmps) = true) (s x : Operand) (ho : o.op = .call { callee := .builtin .append, args := #[s, x], argTypes := #[22, 9] })
    (v : Value) (xs : List Int) (y : ByteArray) (ok : Nat → Prop) (hs : a.eval s = v) (hx : a.eval x = .string y) (HO : Kd.R (Kd.int .u8) 5 W base ok v xs) (hf : ∀ k, W.heap.size ≤ k → ok k) (HB : Below base w0 W) (hbase : base ≤ W.heap.size) (hl : xs.length + y.size ≤ 1000000)
    (h : ∀ v1 w1, Kd.R (Kd.int .u8) 5 w1 base ok v1 (xs ++ bytesOf y) → Below base w0 w1 → W.grownBy w1 v.ownBlock → Kc (a.put o.dst v1) w1) :
    if Region.wanted o (yielded ops a.tmps) = true then Oper.wp Tryd.prog o a W Kc Q else Kc (a.put o.dst undef) W := by
  rw [if_pos hw]
  obtain ⟨v1, w1, hr, hR, hg⟩ := app_str_at W base o.type v xs y ok HO hf hbase hl
  unfold Oper.wp execOp
  simp only [ho, resolve, invoke, builtin, Sem.run_bind, Sem.run_pure, Result.andThen_ok, List.map_toArray, List.map_cons, List.map_nil, hs, hx, hr]
  exact h v1 w1 hR (HB.grown hg hbase (own_base (Kd.own_of_R HO))) hg
end
section
variable {e : Nat} {W : World} {base : Nat} {v : Value} {xs : List Int} {ok : Nat → Prop} {g g2 : Nat}
theorem pend1 (h : ∀ kk, W.heap.size ≤ kk → ok kk) (o : Obj) : ∀ kk, (W.alloc o).heap.size ≤ kk → (ok kk ∧ kk ≠ W.heap.size) := fun kk hk => by
  rw [World.size_alloc] at hk
  exact ⟨h kk (by omega), by omega⟩
theorem lit_new {w : World} {B : Nat} (_ : Below B w W) (c : Int) : Kd.C (Kd.int .u8) (W.alloc (Obj.cells #[Value.int IntKind.u8 c] 5)) (some ⟨W.heap.size, 0, none⟩) 1 [c] := C_of_block (xs := [c]) (blk_new W _) rfl (by simp)
theorem N_of_R (_ : Kd.R (Kd.int .u8) e W base (fun k => ok k ∧ k ≠ g) v xs) : ∀ k, (ok k ∧ k ≠ g) → k ≠ g := fun _ hk => hk.2
theorem N_of_R2 (_ : Kd.R (Kd.int .u8) e W base (fun k => (ok k ∧ k ≠ g) ∧ k ≠ g2) v xs) : ∀ k, ((ok k ∧ k ≠ g) ∧ k ≠ g2) → k ≠ g := fun _ hk => hk.1.2
theorem N_up (_ : Kd.R (Kd.int .u8) e W base (fun k => ok k ∧ k ≠ g2) v xs) (n : ∀ k, ok k → k ≠ g) : ∀ k, (ok k ∧ k ≠ g2) → k ≠ g := fun k hk => n k hk.1
theorem C_grown_lit {W2 : World} {c : Int} (hO : Kd.R (Kd.int .u8) e W base ok v xs) (hg : W.grownBy W2 v.ownBlock) (hL : Kd.C (Kd.int .u8) W (some ⟨g, 0, none⟩) 1 [c]) (n : ∀ k, ok k → k ≠ g) : Kd.C (Kd.int .u8) W2 (some ⟨g, 0, none⟩) 1 [c] :=
  C_same hL (fun ad e => by
    cases e
    exact hg.block _ (Kd.C_lt hL (by decide) (by decide)) (fun e2 => n _ (hO.1 _ e2.symm) rfl))
theorem fresh_grown {W2 : World} {row : Option Nat} (h : ∀ kk, W.heap.size ≤ kk → ok kk) (hg : W.grownBy W2 row) : ∀ kk, W2.heap.size ≤ kk → ok kk := fun kk hk => h kk (Nat.le_trans hg.size hk)
end
section
variable {P : Program} {ops : Array Oper} {o : Oper} {a : Act} {Q : Exit → Act → World → Prop} {Kc : Act → World → Prop} {E : Prop}
theorem gate_n {W : World} {N : Tmp} (_ : o.dst = some N) (h : if Region.wanted o (yielded ops a.tmps) = true then Oper.wp P o a W Kc Q else E) : if Region.wanted o (yielded ops a.tmps) = true then Oper.wp P o a W Kc Q else E := h
theorem gate_w1 {W : World} (c : Int) (h : if Region.wanted o (yielded ops a.tmps) = true then Oper.wp P o a (W.alloc (Obj.cells #[Value.int IntKind.u8 c] 5)) Kc Q else E) : if Region.wanted o (yielded ops a.tmps) = true then Oper.wp P o a (W.alloc (Obj.cells #[Value.int IntKind.u8 c] 5)) Kc Q else E := h
theorem gate_w2 {W : World} (c d : Int) (h : if Region.wanted o (yielded ops a.tmps) = true then Oper.wp P o a ((W.alloc (Obj.cells #[Value.int IntKind.u8 c] 5)).alloc (Obj.cells #[Value.int IntKind.u8 d] 5)) Kc Q else E) : if Region.wanted o (yielded ops a.tmps) = true then Oper.wp P o a ((W.alloc (Obj.cells #[Value.int IntKind.u8 c] 5)).alloc (Obj.cells #[Value.int IntKind.u8 d] 5)) Kc Q else E := h
end
section
variable {e : Nat} {W : World} {base : Nat} {v : Value} {xs : List Int} {ok : Nat → Prop}
theorem R_pend2 (h : Kd.R (Kd.int .u8) e W base ok v xs) (o o2 : Obj) : Kd.R (Kd.int .u8) e ((W.alloc o).alloc o2) base (fun k => (ok k ∧ k ≠ W.heap.size) ∧ k ≠ W.heap.size + 1) v xs := by
  have h2 := Kd.R_alloc (Kd.R_elderB (Kd.R_alloc (Kd.R_elderB h _ (Nat.le_refl _)) o) _ (Nat.le_refl _)) o2
  rwa [World.size_alloc] at h2
theorem pend2 (h : ∀ kk, W.heap.size ≤ kk → ok kk) (o o2 : Obj) : ∀ kk, ((W.alloc o).alloc o2).heap.size ≤ kk → ((ok kk ∧ kk ≠ W.heap.size) ∧ kk ≠ W.heap.size + 1) := fun kk hk => by
  rw [World.size_alloc, World.size_alloc] at hk
  exact ⟨⟨h kk (by omega), by omega⟩, by omega⟩
theorem lit_new2 {w : World} {B : Nat} (_ : Below B w W) (o : Obj) (c : Int) : Kd.C (Kd.int .u8) ((W.alloc o).alloc (Obj.cells #[Value.int IntKind.u8 c] 5)) (some ⟨W.heap.size + 1, 0, none⟩) 1 [c] := by
  have h := C_of_block (xs := [c]) (blk_new (W.alloc o) (Obj.cells #[Value.int IntKind.u8 c] 5)) rfl (by simp)
  rwa [World.size_alloc] at h
end
section
variable {P : Program} {ops : Array Oper} {o : Oper} {a : Act} {Q : Exit → Act → World → Prop} {Kc : Act → World → Prop} {E : Prop}
theorem gate_d1 {W : World} (c : Int) (h : if Region.wanted o (yielded ops a.tmps) = true then Oper.wp P o a (W.drew.alloc (Obj.cells #[Value.int IntKind.u8 c] 5)) Kc Q else E) : if Region.wanted o (yielded ops a.tmps) = true then Oper.wp P o a (W.alloc (Obj.cells #[Value.int IntKind.u8 c] 5)).drew Kc Q else E := h
theorem gate_d2 {W : World} (c d : Int) (h : if Region.wanted o (yielded ops a.tmps) = true then Oper.wp P o a ((W.drew.alloc (Obj.cells #[Value.int IntKind.u8 c] 5)).alloc (Obj.cells #[Value.int IntKind.u8 d] 5)) Kc Q else E) : if Region.wanted o (yielded ops a.tmps) = true then Oper.wp P o a ((W.alloc (Obj.cells #[Value.int IntKind.u8 c] 5)).alloc (Obj.cells #[Value.int IntKind.u8 d] 5)).drew Kc Q else E := h
end
section
variable {ops : Array Oper} {o : Oper} {a : Act} {Q : Exit → Act → World → Prop} {Kc : Act → World → Prop}
theorem lit1_step {W : World} (c : Int) (hw : Region.wanted o (yielded ops a.tmps) = true) (ho : o.op = .buildSlice 22 1 #[(0, .const (.int .u8 c))])
    (h : ∀ g w1, g = W.heap.size → w1.heap[g]? = some (.cells #[.int .u8 c] 5 (0, 0)) → Below W.heap.size W w1 → w1.heap.size = W.heap.size + 1 → Kc (a.put o.dst (.slice (some ⟨g, 0, none⟩) 1 1)) w1) :
    if Region.wanted o (yielded ops a.tmps) = true then Oper.wp Tryd.prog o a W Kc Q else Kc (a.put o.dst undef) W := by
  rw [if_pos hw]
  have hr : (execOp a.eval o).run Tryd.prog W = .ok (.value (.slice (some ⟨W.heap.size, 0, none⟩) 1 1)) (W.alloc (.cells #[.int .u8 c] 5)) := by
    unfold execOp
    have hu22 := Tryd.underlying22
    rw [ho]
    go_simp
  unfold Oper.wp
  rw [hr]
  exact h _ _ rfl (blk_new _ _) (below_alloc (Below.refl _ _) _) (World.size_alloc _ _)
end
def bytesR : List S31 → List Int
  | [] => []
  | x :: l => bytesOf x.f0 ++ [61] ++ bytesOf x.f1 ++ [0] ++ bytesR l
def vars_Encode.f (k : Nat) (l0 : List S31) : Option (List Int × Int) :=
  (vars_Right.f k l0).bind fun ok => if ok = true then (if (bytesR l0).length ≤ 900000 then (if (bytesR l0).length > 248 then some ([], 10) else some (bytesR l0, 0)) else none) else some ([], 1)
theorem vars_Encode.mono : ∀ l0 k, LeO (vars_Encode.f k l0) (vars_Encode.f (k + 1) l0) := by
  intro l0 k
  unfold vars_Encode.f
  exact LeO.bind (vars_Right.mono _ _) (fun _ => LeO.refl _)
theorem bytesR_len : ∀ l : List S31, l.length ≤ (bytesR l).length
  | [] => Nat.le_refl _
  | x :: l => by
    have := bytesR_len l
    rw [bytesR]
    simp only [List.length_append, List.length_cons, List.length_nil]
    omega
theorem drop31 (l : List S31) (j : Nat) (h : j < l.length) : l.drop j = rd_T31 l (j : Int) :: l.drop (j + 1) := by
  show l.drop j = l.getD ((j : Int).toNat) z31 :: l.drop (j + 1)
  rw [Int.toNat_natCast, List.getD_eq_getElem?_getD, List.getElem?_eq_getElem h]
  exact List.drop_eq_getElem_cons h
set_option maxHeartbeats 8000000 in
set_option maxRecDepth 100000 in
theorem vars_Encode.calls (k : Nat) (A0 : Option Addr) (c0 : Nat) (l0 : List S31) (r1 : List Int) (r2 : Int) (w : World) (hr0 : Kd.C k31 w A0 l0.length l0) (hc0 : l0.length ≤ c0) (h : vars_Encode.f k l0 = some (r1, r2)) (htab : TabOK w) :
    Calls Tryd.prog 25 #[.slice A0 l0.length c0] w fun e w' => ∃ v0_ : Value, e = .returned (.tuple #[v0_, .int .i64 r2]) ∧ Kd.R (Kd.int .u8) 5 w' w.heap.size (fun _ => True) v0_ r1 ∧ Below w.heap.size w w' := by
  obtain ⟨okr, h1, h⟩ := Option.bind_eq_some_iff.mp h
  have HT := Aside0.mk htab
  clear htab
  have HB := Aside0.mk (Below.refl w.heap.size w)
  have HR0 := Aside0.mk hr0
  have HC0 := Aside0.mk hc0
  have H1 := Aside0.mk h1
  clear hr0 hc0 h1
  cases okr with
  | false =>
    rw [if_neg (by decide)] at h
    simp only [Option.some.injEq, Prod.mk.injEq] at h
    obtain ⟨rfl, rfl⟩ := h
    go_enter Tryd.func25, Tryd.ntmps25
    go_wp2_with (go_at_call 16; refine (vars_Right.calls k A0 c0 l0 false _ HR0.out HC0.out H1.out (HT.out.below HB.out)).mono ?_; rintro e w2 ⟨rfl, hb⟩; have n0_ := Aside0.mk (below_step HB.out hb); clear HB hb; have HB := n0_; clear n0_)
    go_ret2
    exact ⟨_, rfl, Kd.R_nil _ _ _ _ _, HB.out⟩
  | true =>
    rw [if_pos rfl] at h
    by_cases hbig : (bytesR l0).length ≤ 900000
    · rw [if_pos hbig] at h
      have H := Aside0.mk h
      have HBIG := Aside0.mk hbig
      have HM : Aside0 (l0.length ≤ 900000) := ⟨by have := bytesR_len l0; omega⟩
      clear h hbig
      have hu31 := Tryd.underlying31
      go_enter Tryd.func25, Tryd.ntmps25
      go_upto_region 4 with (go_at_call 16; refine (vars_Right.calls k A0 c0 l0 true _ HR0.out HC0.out H1.out (HT.out.below HB.out)).mono ?_; rintro e w2 ⟨rfl, hb⟩; have n0_ := Aside0.mk (below_step HB.out hb); clear HB hb; have HB := n0_; clear n0_)
      go_wp2
      go_loopg [4, 12] l0.length (fun kq v4 v12 w' => ∃ (j : Nat) (xs : List Int), v12 = .int .i64 j ∧ Aside0 (j + kq = l0.length) ∧ Aside0 (xs ++ bytesR (l0.drop j) = bytesR l0) ∧ Aside0 (Kd.R (Kd.int .u8) 5 w' w.heap.size (fun _ => True) v4 xs) ∧ Aside0 (Below w.heap.size w w'))
      case atStart => exact ⟨0, [], rfl, ⟨by omega⟩, ⟨rfl⟩, ⟨Kd.R_nil _ _ _ _ _⟩, HB⟩
      case round =>
        clear HB
        obtain ⟨j, xs, rfl, HJ, HX, HO, HB⟩ := hrel
        cases gk with
        | zero =>
          have c1 : decide ((j : Int) < (l0.length : Int)) = false := decide_eq_false (by have := HJ.out; omega)
          have c2 : (j < l0.length) = False := eq_false (by have := HJ.out; omega)
          have hX := HX.out
          rw [List.drop_eq_nil_of_le (by have := HJ.out; omega), bytesR, List.append_nil] at hX
          subst hX
          obtain ⟨A1, c3, rfl⟩ := Kd.R_slice HO.out
          have hH := H.out
          clear H
          by_cases h248 : (bytesR l0).length > 248
          · rw [if_pos h248] at hH
            simp only [Option.some.injEq, Prod.mk.injEq] at hH
            obtain ⟨rfl, rfl⟩ := hH
            have c4 : decide (248 < ((bytesR l0).length : Int)) = true := decide_eq_true (by omega)
            have c5 : (248 < (bytesR l0).length) = True := eq_true h248
            clear h248
            go_wp2
            go_ret2
            exact ⟨_, rfl, Kd.R_nil _ _ _ _ _, HB.out⟩
          · rw [if_neg h248] at hH
            simp only [Option.some.injEq, Prod.mk.injEq] at hH
            obtain ⟨rfl, rfl⟩ := hH
            have c4 : decide (248 < ((bytesR l0).length : Int)) = false := decide_eq_false (by omega)
            have c5 : (248 < (bytesR l0).length) = False := eq_false h248
            clear h248
            go_wp2
            go_ret2
            exact ⟨_, rfl, HO.out, HB.out⟩
        | succ k1 =>
          have hj : j < l0.length := by have := HJ.out; omega
          have c1 : decide ((j : Int) < (l0.length : Int)) = true := decide_eq_true (by omega)
          have c2 : (j < l0.length) = True := eq_true hj
          have i0 : (0 : Int) ≤ (j : Int) := by omega
          have i1 : (j : Int) < (l0.length : Int) := by omega
          obtain ⟨ad, e, hx0, hx1⟩ := at_T31 (Kd.C_below HR0.out HB.out) (j : Int) i0 i1
          cases e
          rw [Int.toNat_natCast] at hx0 hx1
          generalize hnm : (rd_T31 l0 (j : Int)).f0 = nm at hx0
          generalize hvl : (rd_T31 l0 (j : Int)).f1 = vl at hx1
          have HNM := Aside0.mk hnm
          have HVL := Aside0.mk hvl
          clear hnm hvl
          go_upto_region 7 with (fail)
          obtain ⟨A7, c7, e7⟩ := Kd.R_slice HO.out
          subst e7
          have x1 := blk_new wr (Obj.cells #[Value.string nm, Value.string vl] 31)
          have x2 := below_alloc HB.out (Obj.cells #[Value.string nm, Value.string vl] 31)
          have x3 := Kd.R_alloc (Kd.R_elderB HO.out wr.heap.size (Nat.le_refl _)) (Obj.cells #[Value.string nm, Value.string vl] 31)
          have x4 := World.size_alloc wr (Obj.cells #[Value.string nm, Value.string vl] 31)
          obtain ⟨gx, hgx⟩ : ∃ gx, wr.heap.size = gx := ⟨_, rfl⟩
          rw [hgx] at x1 x3 x4 ⊢
          generalize hw3 : (wr.alloc (Obj.cells #[Value.string nm, Value.string vl] 31)) = w3 at x1 x2 x3 x4 ⊢
          have hfz : ∀ kk, w3.heap.size ≤ kk → (True ∧ kk ≠ gx) := fun kk hk => ⟨trivial, by omega⟩
          have z0 : w3.cell? ⟨gx, 0, none⟩ = some (.string nm) := (blk_cell x1 0).trans rfl
          have z1 : w3.cell? ⟨gx, 1, none⟩ = some (.string vl) := (blk_cell x1 1).trans rfl
          clear HO HB hx0 hx1 hw3 i0 i1 hj
          have BX := Aside0.mk x1
          have HB := Aside0.mk x2
          have HO := Aside0.mk x3
          have HF := Aside0.mk hfz
          have HLEN : Aside0 (xs.length + nm.size + vl.size + 2 ≤ 900000) := ⟨by
            have hX := HX.out
            rw [drop31 l0 j (by have := HJ.out; omega), bytesR, HNM.out, HVL.out] at hX
            have := HBIG.out
            rw [← hX] at this
            simp only [List.length_append, List.length_cons, List.length_nil, bytesOf_length] at this
            omega⟩
          clear x1 x2 x3 x4 hfz hgx
          have HOd := Aside0.mk (Kd.R_drew HO.out)
          have HBd := Aside0.mk (below_drew HB.out)
          have BXd : Aside0 (w3.drew.heap[gx]? = _) := ⟨BX.out⟩
          have HFd : Aside0 (∀ kk, w3.drew.heap.size ≤ kk → (True ∧ kk ≠ gx)) := ⟨HF.out⟩
          clear HO HB BX HF
          have HO := HOd
          have HB := HBd
          have BX := BXd
          have HF := HFd
          clear HOd HBd BXd HFd
          go_region_held3 (fun w' => w'.cell? ⟨gx, 0, none⟩ = some (.string nm) ∧ w'.cell? ⟨gx, 1, none⟩ = some (.string vl)) (first | exact ⟨z0, z1⟩ | exact ⟨(blk_cell BX.out 0).trans rfl, (blk_cell BX.out 1).trans rfl⟩ | exact ⟨(blk_cell (blk_alloc BX.out _) 0).trans rfl, (blk_cell (blk_alloc BX.out _) 1).trans rfl⟩ | exact ⟨(blk_cell (blk_alloc (blk_alloc BX.out _) _) 0).trans rfl, (blk_cell (blk_alloc (blk_alloc BX.out _) _) 1).trans rfl⟩)
            (first | ((with_reducible refine gate_n (N := 21) rfl ?_); (with_reducible refine gate_w2 61 0 ?_); have hO := R_pend2 HO.out (Obj.cells #[Value.int IntKind.u8 61] 5) (Obj.cells #[Value.int IntKind.u8 0] 5); have hB := below_alloc (below_alloc (HB.out) (Obj.cells #[Value.int IntKind.u8 61] 5)) (Obj.cells #[Value.int IntKind.u8 0] 5); have hX := blk_alloc (blk_alloc (BX.out) (Obj.cells #[Value.int IntKind.u8 61] 5)) (Obj.cells #[Value.int IntKind.u8 0] 5); have hF := pend2 HF.out (Obj.cells #[Value.int IntKind.u8 61] 5) (Obj.cells #[Value.int IntKind.u8 0] 5); have hL61 := Kd.C_alloc (lit_new HB.out 61) (Obj.cells #[Value.int IntKind.u8 0] 5); have hN61 := N_of_R2 hO; have hL0 := lit_new2 HB.out (Obj.cells #[Value.int IntKind.u8 61] 5) 0; have hN0 := N_of_R hO; refine Kd.R_append_rows_step (Kd.int .u8) (w0 := w) w.heap.size (by rfl) (.tmp 19) (.tmp 20) 22 5 (.int .u8 0) 1 (by rfl) Tryd.underlying22 info5 rfl (by decide) (by omega) _ y1 [61] _ 1 1 _ (fun _ => False) (by rfl) (by rfl) hO hL61 (fun _ _ h => h) (fun _ h => h.elim) hF hB (below_size hB) (by have h9 := HLEN.out; have h1 := HL1.out; omega) ?_; intro v1 w1 ho hb hg hat; clear hat; have hLL : (y1 ++ [61]).length = y1.length + 1 := (by rw [List.length_append]; rfl); generalize hyy : y1 ++ [61] = y2 at ho hLL; have HY2 := Aside0.mk hyy; have HL2 := Aside0.mk hLL; clear hyy hLL; have nX := Aside0.mk (blk_grown hX hg (Kd.R_ne hO hX (by decide))); have m61 := Aside0.mk (C_grown_lit hO hg hL61 hN61); have q61 := Aside0.mk hN61; have m0 := Aside0.mk (C_grown_lit hO hg hL0 hN0); have q0 := Aside0.mk hN0; have nF := Aside0.mk (fresh_grown hF hg); clear HO HB BX HF hO hB hX hF hg hL61 hN61 hL0 hN0; obtain ⟨A9, c9, e9⟩ := Kd.R_slice ho; subst e9; have HO := Aside0.mk ho; have HB := Aside0.mk hb; have BX := nX; have HF := nF; have L61 := m61; have N61 := q61; have L0 := m0; have N0 := q0; clear ho hb nX nF m61 q61 m0 q0) | ((with_reducible refine gate_n (N := 21) rfl ?_); (with_reducible refine gate_w2 0 61 ?_); have hO := R_pend2 HO.out (Obj.cells #[Value.int IntKind.u8 0] 5) (Obj.cells #[Value.int IntKind.u8 61] 5); have hB := below_alloc (below_alloc (HB.out) (Obj.cells #[Value.int IntKind.u8 0] 5)) (Obj.cells #[Value.int IntKind.u8 61] 5); have hX := blk_alloc (blk_alloc (BX.out) (Obj.cells #[Value.int IntKind.u8 0] 5)) (Obj.cells #[Value.int IntKind.u8 61] 5); have hF := pend2 HF.out (Obj.cells #[Value.int IntKind.u8 0] 5) (Obj.cells #[Value.int IntKind.u8 61] 5); have hL0 := Kd.C_alloc (lit_new HB.out 0) (Obj.cells #[Value.int IntKind.u8 61] 5); have hN0 := N_of_R2 hO; have hL61 := lit_new2 HB.out (Obj.cells #[Value.int IntKind.u8 0] 5) 61; have hN61 := N_of_R hO; refine Kd.R_append_rows_step (Kd.int .u8) (w0 := w) w.heap.size (by rfl) (.tmp 19) (.tmp 20) 22 5 (.int .u8 0) 1 (by rfl) Tryd.underlying22 info5 rfl (by decide) (by omega) _ y1 [61] _ 1 1 _ (fun _ => False) (by rfl) (by rfl) hO hL61 (fun _ _ h => h) (fun _ h => h.elim) hF hB (below_size hB) (by have h9 := HLEN.out; have h1 := HL1.out; omega) ?_; intro v1 w1 ho hb hg hat; clear hat; have hLL : (y1 ++ [61]).length = y1.length + 1 := (by rw [List.length_append]; rfl); generalize hyy : y1 ++ [61] = y2 at ho hLL; have HY2 := Aside0.mk hyy; have HL2 := Aside0.mk hLL; clear hyy hLL; have nX := Aside0.mk (blk_grown hX hg (Kd.R_ne hO hX (by decide))); have m0 := Aside0.mk (C_grown_lit hO hg hL0 hN0); have q0 := Aside0.mk hN0; have m61 := Aside0.mk (C_grown_lit hO hg hL61 hN61); have q61 := Aside0.mk hN61; have nF := Aside0.mk (fresh_grown hF hg); clear HO HB BX HF hO hB hX hF hg hL0 hN0 hL61 hN61; obtain ⟨A9, c9, e9⟩ := Kd.R_slice ho; subst e9; have HO := Aside0.mk ho; have HB := Aside0.mk hb; have BX := nX; have HF := nF; have L0 := m0; have N0 := q0; have L61 := m61; have N61 := q61; clear ho hb nX nF m0 q0 m61 q61) | ((with_reducible refine gate_n (N := 19) rfl ?_); (with_reducible refine gate_d2 61 0 ?_); have hO := R_pend2 HO.out (Obj.cells #[Value.int IntKind.u8 61] 5) (Obj.cells #[Value.int IntKind.u8 0] 5); have hB := below_alloc (below_alloc (HB.out) (Obj.cells #[Value.int IntKind.u8 61] 5)) (Obj.cells #[Value.int IntKind.u8 0] 5); have hX := blk_alloc (blk_alloc (BX.out) (Obj.cells #[Value.int IntKind.u8 61] 5)) (Obj.cells #[Value.int IntKind.u8 0] 5); have hF := pend2 HF.out (Obj.cells #[Value.int IntKind.u8 61] 5) (Obj.cells #[Value.int IntKind.u8 0] 5); have hL61 := Kd.C_alloc (lit_new HB.out 61) (Obj.cells #[Value.int IntKind.u8 0] 5); have hN61 := N_of_R2 hO; have hL0 := lit_new2 HB.out (Obj.cells #[Value.int IntKind.u8 61] 5) 0; have hN0 := N_of_R hO; refine app_str_step (w0 := w) w.heap.size (by rfl) (.tmp 16) (.tmp 18) (by rfl) _ xs nm _ (by rfl) (by rfl) hO hF hB (below_size hB) (by have h9 := HLEN.out; omega) ?_; intro v1 w1 ho hb hg; have hLL : (xs ++ bytesOf nm).length = xs.length + nm.size := (by rw [List.length_append, bytesOf_length]); generalize hyy : xs ++ bytesOf nm = y1 at ho hLL; have HY1 := Aside0.mk hyy; have HL1 := Aside0.mk hLL; clear hyy hLL; have nX := Aside0.mk (blk_grown hX hg (Kd.R_ne hO hX (by decide))); have m61 := Aside0.mk (C_grown_lit hO hg hL61 hN61); have q61 := Aside0.mk hN61; have m0 := Aside0.mk (C_grown_lit hO hg hL0 hN0); have q0 := Aside0.mk hN0; have nF := Aside0.mk (fresh_grown hF hg); clear HO HB BX HF hO hB hX hF hg hL61 hN61 hL0 hN0; obtain ⟨A9, c9, e9⟩ := Kd.R_slice ho; subst e9; have HO := Aside0.mk ho; have HB := Aside0.mk hb; have BX := nX; have HF := nF; have L61 := m61; have N61 := q61; have L0 := m0; have N0 := q0; clear ho hb nX nF m61 q61 m0 q0) | ((with_reducible refine gate_n (N := 19) rfl ?_); (with_reducible refine gate_d2 0 61 ?_); have hO := R_pend2 HO.out (Obj.cells #[Value.int IntKind.u8 0] 5) (Obj.cells #[Value.int IntKind.u8 61] 5); have hB := below_alloc (below_alloc (HB.out) (Obj.cells #[Value.int IntKind.u8 0] 5)) (Obj.cells #[Value.int IntKind.u8 61] 5); have hX := blk_alloc (blk_alloc (BX.out) (Obj.cells #[Value.int IntKind.u8 0] 5)) (Obj.cells #[Value.int IntKind.u8 61] 5); have hF := pend2 HF.out (Obj.cells #[Value.int IntKind.u8 0] 5) (Obj.cells #[Value.int IntKind.u8 61] 5); have hL0 := Kd.C_alloc (lit_new HB.out 0) (Obj.cells #[Value.int IntKind.u8 61] 5); have hN0 := N_of_R2 hO; have hL61 := lit_new2 HB.out (Obj.cells #[Value.int IntKind.u8 0] 5) 61; have hN61 := N_of_R hO; refine app_str_step (w0 := w) w.heap.size (by rfl) (.tmp 16) (.tmp 18) (by rfl) _ xs nm _ (by rfl) (by rfl) hO hF hB (below_size hB) (by have h9 := HLEN.out; omega) ?_; intro v1 w1 ho hb hg; have hLL : (xs ++ bytesOf nm).length = xs.length + nm.size := (by rw [List.length_append, bytesOf_length]); generalize hyy : xs ++ bytesOf nm = y1 at ho hLL; have HY1 := Aside0.mk hyy; have HL1 := Aside0.mk hLL; clear hyy hLL; have nX := Aside0.mk (blk_grown hX hg (Kd.R_ne hO hX (by decide))); have m0 := Aside0.mk (C_grown_lit hO hg hL0 hN0); have q0 := Aside0.mk hN0; have m61 := Aside0.mk (C_grown_lit hO hg hL61 hN61); have q61 := Aside0.mk hN61; have nF := Aside0.mk (fresh_grown hF hg); clear HO HB BX HF hO hB hX hF hg hL0 hN0 hL61 hN61; obtain ⟨A9, c9, e9⟩ := Kd.R_slice ho; subst e9; have HO := Aside0.mk ho; have HB := Aside0.mk hb; have BX := nX; have HF := nF; have L0 := m0; have N0 := q0; have L61 := m61; have N61 := q61; clear ho hb nX nF m0 q0 m61 q61) | ((with_reducible refine gate_n (N := 26) rfl ?_); (with_reducible refine gate_w1 0 ?_); have hh61 := N61.out; clear hh61; have hO := Kd.R_alloc (Kd.R_elderB (HO.out) _ (Nat.le_refl _)) (Obj.cells #[Value.int IntKind.u8 0] 5); have hB := below_alloc (HB.out) (Obj.cells #[Value.int IntKind.u8 0] 5); have hX := blk_alloc (BX.out) (Obj.cells #[Value.int IntKind.u8 0] 5); have hF := pend1 (HF.out) (Obj.cells #[Value.int IntKind.u8 0] 5); have hL61 := Kd.C_alloc (L61.out) (Obj.cells #[Value.int IntKind.u8 0] 5); have hN61 := N_up hO (N61.out); have hL0 := lit_new HB.out 0; have hN0 := N_of_R hO; refine Kd.R_append_rows_step (Kd.int .u8) (w0 := w) w.heap.size (by rfl) (.tmp 24) (.tmp 25) 22 5 (.int .u8 0) 1 (by rfl) Tryd.underlying22 info5 rfl (by decide) (by omega) _ y3 [0] _ 1 1 _ (fun _ => False) (by rfl) (by rfl) hO hL0 (fun _ _ h => h) (fun _ h => h.elim) hF hB (below_size hB) (by have h9 := HLEN.out; have h1 := HL1.out; have h2 := HL2.out; have h3 := HL3.out; omega) ?_; intro v1 w1 ho hb hg hat; clear hat; have hLL : (y3 ++ [0]).length = y3.length + 1 := (by rw [List.length_append]; rfl); generalize hyy : y3 ++ [0] = y4 at ho hLL; have HY4 := Aside0.mk hyy; have HL4 := Aside0.mk hLL; clear hyy hLL; have nX := Aside0.mk (blk_grown hX hg (Kd.R_ne hO hX (by decide))); have m61 := Aside0.mk (C_grown_lit hO hg hL61 hN61); have q61 := Aside0.mk hN61; have m0 := Aside0.mk (C_grown_lit hO hg hL0 hN0); have q0 := Aside0.mk hN0; have nF := Aside0.mk (fresh_grown hF hg); clear HO HB BX HF hO hB hX hF hg hL61 hN61 hL0 hN0 L61 N61; obtain ⟨A9, c9, e9⟩ := Kd.R_slice ho; subst e9; have HO := Aside0.mk ho; have HB := Aside0.mk hb; have BX := nX; have HF := nF; have L61 := m61; have N61 := q61; have L0 := m0; have N0 := q0; clear ho hb nX nF m61 q61 m0 q0) | ((with_reducible refine gate_n (N := 24) rfl ?_); (with_reducible refine gate_w1 0 ?_); have hh61 := N61.out; clear hh61; have hO := Kd.R_alloc (Kd.R_elderB (HO.out) _ (Nat.le_refl _)) (Obj.cells #[Value.int IntKind.u8 0] 5); have hB := below_alloc (HB.out) (Obj.cells #[Value.int IntKind.u8 0] 5); have hX := blk_alloc (BX.out) (Obj.cells #[Value.int IntKind.u8 0] 5); have hF := pend1 (HF.out) (Obj.cells #[Value.int IntKind.u8 0] 5); have hL61 := Kd.C_alloc (L61.out) (Obj.cells #[Value.int IntKind.u8 0] 5); have hN61 := N_up hO (N61.out); have hL0 := lit_new HB.out 0; have hN0 := N_of_R hO; refine app_str_step (w0 := w) w.heap.size (by rfl) (.tmp 21) (.tmp 23) (by rfl) _ y2 vl _ (by rfl) (by rfl) hO hF hB (below_size hB) (by have h9 := HLEN.out; have h1 := HL1.out; have h2 := HL2.out; omega) ?_; intro v1 w1 ho hb hg; have hLL : (y2 ++ bytesOf vl).length = y2.length + vl.size := (by rw [List.length_append, bytesOf_length]); generalize hyy : y2 ++ bytesOf vl = y3 at ho hLL; have HY3 := Aside0.mk hyy; have HL3 := Aside0.mk hLL; clear hyy hLL; have nX := Aside0.mk (blk_grown hX hg (Kd.R_ne hO hX (by decide))); have m61 := Aside0.mk (C_grown_lit hO hg hL61 hN61); have q61 := Aside0.mk hN61; have m0 := Aside0.mk (C_grown_lit hO hg hL0 hN0); have q0 := Aside0.mk hN0; have nF := Aside0.mk (fresh_grown hF hg); clear HO HB BX HF hO hB hX hF hg hL61 hN61 hL0 hN0 L61 N61; obtain ⟨A9, c9, e9⟩ := Kd.R_slice ho; subst e9; have HO := Aside0.mk ho; have HB := Aside0.mk hb; have BX := nX; have HF := nF; have L61 := m61; have N61 := q61; have L0 := m0; have N0 := q0; clear ho hb nX nF m61 q61 m0 q0) | ((with_reducible refine gate_n (N := 21) rfl ?_); (with_reducible refine gate_w1 0 ?_); have hh61 := N61.out; clear hh61; have hO := Kd.R_alloc (Kd.R_elderB (HO.out) _ (Nat.le_refl _)) (Obj.cells #[Value.int IntKind.u8 0] 5); have hB := below_alloc (HB.out) (Obj.cells #[Value.int IntKind.u8 0] 5); have hX := blk_alloc (BX.out) (Obj.cells #[Value.int IntKind.u8 0] 5); have hF := pend1 (HF.out) (Obj.cells #[Value.int IntKind.u8 0] 5); have hL61 := Kd.C_alloc (L61.out) (Obj.cells #[Value.int IntKind.u8 0] 5); have hN61 := N_up hO (N61.out); have hL0 := lit_new HB.out 0; have hN0 := N_of_R hO; refine Kd.R_append_rows_step (Kd.int .u8) (w0 := w) w.heap.size (by rfl) (.tmp 19) (.tmp 20) 22 5 (.int .u8 0) 1 (by rfl) Tryd.underlying22 info5 rfl (by decide) (by omega) _ y1 [61] _ 1 1 _ (fun _ => False) (by rfl) (by rfl) hO hL61 (fun _ _ h => h) (fun _ h => h.elim) hF hB (below_size hB) (by have h9 := HLEN.out; have h1 := HL1.out; omega) ?_; intro v1 w1 ho hb hg hat; clear hat; have hLL : (y1 ++ [61]).length = y1.length + 1 := (by rw [List.length_append]; rfl); generalize hyy : y1 ++ [61] = y2 at ho hLL; have HY2 := Aside0.mk hyy; have HL2 := Aside0.mk hLL; clear hyy hLL; have nX := Aside0.mk (blk_grown hX hg (Kd.R_ne hO hX (by decide))); have m61 := Aside0.mk (C_grown_lit hO hg hL61 hN61); have q61 := Aside0.mk hN61; have m0 := Aside0.mk (C_grown_lit hO hg hL0 hN0); have q0 := Aside0.mk hN0; have nF := Aside0.mk (fresh_grown hF hg); clear HO HB BX HF hO hB hX hF hg hL61 hN61 hL0 hN0 L61 N61; obtain ⟨A9, c9, e9⟩ := Kd.R_slice ho; subst e9; have HO := Aside0.mk ho; have HB := Aside0.mk hb; have BX := nX; have HF := nF; have L61 := m61; have N61 := q61; have L0 := m0; have N0 := q0; clear ho hb nX nF m61 q61 m0 q0) | ((with_reducible refine gate_n (N := 21) rfl ?_); (with_reducible refine gate_w1 61 ?_); have hh0 := N0.out; clear hh0; have hO := Kd.R_alloc (Kd.R_elderB (HO.out) _ (Nat.le_refl _)) (Obj.cells #[Value.int IntKind.u8 61] 5); have hB := below_alloc (HB.out) (Obj.cells #[Value.int IntKind.u8 61] 5); have hX := blk_alloc (BX.out) (Obj.cells #[Value.int IntKind.u8 61] 5); have hF := pend1 (HF.out) (Obj.cells #[Value.int IntKind.u8 61] 5); have hL0 := Kd.C_alloc (L0.out) (Obj.cells #[Value.int IntKind.u8 61] 5); have hN0 := N_up hO (N0.out); have hL61 := lit_new HB.out 61; have hN61 := N_of_R hO; refine Kd.R_append_rows_step (Kd.int .u8) (w0 := w) w.heap.size (by rfl) (.tmp 19) (.tmp 20) 22 5 (.int .u8 0) 1 (by rfl) Tryd.underlying22 info5 rfl (by decide) (by omega) _ y1 [61] _ 1 1 _ (fun _ => False) (by rfl) (by rfl) hO hL61 (fun _ _ h => h) (fun _ h => h.elim) hF hB (below_size hB) (by have h9 := HLEN.out; have h1 := HL1.out; omega) ?_; intro v1 w1 ho hb hg hat; clear hat; have hLL : (y1 ++ [61]).length = y1.length + 1 := (by rw [List.length_append]; rfl); generalize hyy : y1 ++ [61] = y2 at ho hLL; have HY2 := Aside0.mk hyy; have HL2 := Aside0.mk hLL; clear hyy hLL; have nX := Aside0.mk (blk_grown hX hg (Kd.R_ne hO hX (by decide))); have m0 := Aside0.mk (C_grown_lit hO hg hL0 hN0); have q0 := Aside0.mk hN0; have m61 := Aside0.mk (C_grown_lit hO hg hL61 hN61); have q61 := Aside0.mk hN61; have nF := Aside0.mk (fresh_grown hF hg); clear HO HB BX HF hO hB hX hF hg hL0 hN0 hL61 hN61 L0 N0; obtain ⟨A9, c9, e9⟩ := Kd.R_slice ho; subst e9; have HO := Aside0.mk ho; have HB := Aside0.mk hb; have BX := nX; have HF := nF; have L0 := m0; have N0 := q0; have L61 := m61; have N61 := q61; clear ho hb nX nF m0 q0 m61 q61) | ((with_reducible refine gate_n (N := 21) rfl ?_); (with_reducible refine gate_w1 61 ?_); have hO := Kd.R_alloc (Kd.R_elderB (HO.out) _ (Nat.le_refl _)) (Obj.cells #[Value.int IntKind.u8 61] 5); have hB := below_alloc (HB.out) (Obj.cells #[Value.int IntKind.u8 61] 5); have hX := blk_alloc (BX.out) (Obj.cells #[Value.int IntKind.u8 61] 5); have hF := pend1 (HF.out) (Obj.cells #[Value.int IntKind.u8 61] 5); have hL61 := lit_new HB.out 61; have hN61 := N_of_R hO; refine Kd.R_append_rows_step (Kd.int .u8) (w0 := w) w.heap.size (by rfl) (.tmp 19) (.tmp 20) 22 5 (.int .u8 0) 1 (by rfl) Tryd.underlying22 info5 rfl (by decide) (by omega) _ y1 [61] _ 1 1 _ (fun _ => False) (by rfl) (by rfl) hO hL61 (fun _ _ h => h) (fun _ h => h.elim) hF hB (below_size hB) (by have h9 := HLEN.out; have h1 := HL1.out; omega) ?_; intro v1 w1 ho hb hg hat; clear hat; have hLL : (y1 ++ [61]).length = y1.length + 1 := (by rw [List.length_append]; rfl); generalize hyy : y1 ++ [61] = y2 at ho hLL; have HY2 := Aside0.mk hyy; have HL2 := Aside0.mk hLL; clear hyy hLL; have nX := Aside0.mk (blk_grown hX hg (Kd.R_ne hO hX (by decide))); have m61 := Aside0.mk (C_grown_lit hO hg hL61 hN61); have q61 := Aside0.mk hN61; have nF := Aside0.mk (fresh_grown hF hg); clear HO HB BX HF hO hB hX hF hg hL61 hN61; obtain ⟨A9, c9, e9⟩ := Kd.R_slice ho; subst e9; have HO := Aside0.mk ho; have HB := Aside0.mk hb; have BX := nX; have HF := nF; have L61 := m61; have N61 := q61; clear ho hb nX nF m61 q61) | ((with_reducible refine gate_n (N := 19) rfl ?_); (with_reducible refine gate_d1 61 ?_); have hO := Kd.R_alloc (Kd.R_elderB (HO.out) _ (Nat.le_refl _)) (Obj.cells #[Value.int IntKind.u8 61] 5); have hB := below_alloc (HB.out) (Obj.cells #[Value.int IntKind.u8 61] 5); have hX := blk_alloc (BX.out) (Obj.cells #[Value.int IntKind.u8 61] 5); have hF := pend1 (HF.out) (Obj.cells #[Value.int IntKind.u8 61] 5); have hL61 := lit_new HB.out 61; have hN61 := N_of_R hO; refine app_str_step (w0 := w) w.heap.size (by rfl) (.tmp 16) (.tmp 18) (by rfl) _ xs nm _ (by rfl) (by rfl) hO hF hB (below_size hB) (by have h9 := HLEN.out; omega) ?_; intro v1 w1 ho hb hg; have hLL : (xs ++ bytesOf nm).length = xs.length + nm.size := (by rw [List.length_append, bytesOf_length]); generalize hyy : xs ++ bytesOf nm = y1 at ho hLL; have HY1 := Aside0.mk hyy; have HL1 := Aside0.mk hLL; clear hyy hLL; have nX := Aside0.mk (blk_grown hX hg (Kd.R_ne hO hX (by decide))); have m61 := Aside0.mk (C_grown_lit hO hg hL61 hN61); have q61 := Aside0.mk hN61; have nF := Aside0.mk (fresh_grown hF hg); clear HO HB BX HF hO hB hX hF hg hL61 hN61; obtain ⟨A9, c9, e9⟩ := Kd.R_slice ho; subst e9; have HO := Aside0.mk ho; have HB := Aside0.mk hb; have BX := nX; have HF := nF; have L61 := m61; have N61 := q61; clear ho hb nX nF m61 q61) | ((with_reducible refine gate_n (N := 19) rfl ?_); (with_reducible refine gate_d1 0 ?_); have hO := Kd.R_alloc (Kd.R_elderB (HO.out) _ (Nat.le_refl _)) (Obj.cells #[Value.int IntKind.u8 0] 5); have hB := below_alloc (HB.out) (Obj.cells #[Value.int IntKind.u8 0] 5); have hX := blk_alloc (BX.out) (Obj.cells #[Value.int IntKind.u8 0] 5); have hF := pend1 (HF.out) (Obj.cells #[Value.int IntKind.u8 0] 5); have hL0 := lit_new HB.out 0; have hN0 := N_of_R hO; refine app_str_step (w0 := w) w.heap.size (by rfl) (.tmp 16) (.tmp 18) (by rfl) _ xs nm _ (by rfl) (by rfl) hO hF hB (below_size hB) (by have h9 := HLEN.out; omega) ?_; intro v1 w1 ho hb hg; have hLL : (xs ++ bytesOf nm).length = xs.length + nm.size := (by rw [List.length_append, bytesOf_length]); generalize hyy : xs ++ bytesOf nm = y1 at ho hLL; have HY1 := Aside0.mk hyy; have HL1 := Aside0.mk hLL; clear hyy hLL; have nX := Aside0.mk (blk_grown hX hg (Kd.R_ne hO hX (by decide))); have m0 := Aside0.mk (C_grown_lit hO hg hL0 hN0); have q0 := Aside0.mk hN0; have nF := Aside0.mk (fresh_grown hF hg); clear HO HB BX HF hO hB hX hF hg hL0 hN0; obtain ⟨A9, c9, e9⟩ := Kd.R_slice ho; subst e9; have HO := Aside0.mk ho; have HB := Aside0.mk hb; have BX := nX; have HF := nF; have L0 := m0; have N0 := q0; clear ho hb nX nF m0 q0) | ((with_reducible refine gate_n (N := 26) rfl ?_); have hh0 := N0.out; clear hh0; have hh61 := N61.out; clear hh61; have hO := HO.out; have hB := HB.out; have hX := BX.out; have hF := HF.out; have hL0 := L0.out; have hN0 := N0.out; have hL61 := L61.out; have hN61 := N61.out; refine Kd.R_append_rows_step (Kd.int .u8) (w0 := w) w.heap.size (by rfl) (.tmp 24) (.tmp 25) 22 5 (.int .u8 0) 1 (by rfl) Tryd.underlying22 info5 rfl (by decide) (by omega) _ y3 [0] _ 1 1 _ (fun _ => False) (by rfl) (by rfl) hO hL0 (fun _ _ h => h) (fun _ h => h.elim) hF hB (below_size hB) (by have h9 := HLEN.out; have h1 := HL1.out; have h2 := HL2.out; have h3 := HL3.out; omega) ?_; intro v1 w1 ho hb hg hat; clear hat; have hLL : (y3 ++ [0]).length = y3.length + 1 := (by rw [List.length_append]; rfl); generalize hyy : y3 ++ [0] = y4 at ho hLL; have HY4 := Aside0.mk hyy; have HL4 := Aside0.mk hLL; clear hyy hLL; have nX := Aside0.mk (blk_grown hX hg (Kd.R_ne hO hX (by decide))); have m0 := Aside0.mk (C_grown_lit hO hg hL0 hN0); have q0 := Aside0.mk hN0; have m61 := Aside0.mk (C_grown_lit hO hg hL61 hN61); have q61 := Aside0.mk hN61; have nF := Aside0.mk (fresh_grown hF hg); clear HO HB BX HF hO hB hX hF hg hL0 hN0 hL61 hN61 L0 N0 L61 N61; obtain ⟨A9, c9, e9⟩ := Kd.R_slice ho; subst e9; have HO := Aside0.mk ho; have HB := Aside0.mk hb; have BX := nX; have HF := nF; have L0 := m0; have N0 := q0; have L61 := m61; have N61 := q61; clear ho hb nX nF m0 q0 m61 q61) | ((with_reducible refine gate_n (N := 24) rfl ?_); have hh0 := N0.out; clear hh0; have hh61 := N61.out; clear hh61; have hO := HO.out; have hB := HB.out; have hX := BX.out; have hF := HF.out; have hL0 := L0.out; have hN0 := N0.out; have hL61 := L61.out; have hN61 := N61.out; refine app_str_step (w0 := w) w.heap.size (by rfl) (.tmp 21) (.tmp 23) (by rfl) _ y2 vl _ (by rfl) (by rfl) hO hF hB (below_size hB) (by have h9 := HLEN.out; have h1 := HL1.out; have h2 := HL2.out; omega) ?_; intro v1 w1 ho hb hg; have hLL : (y2 ++ bytesOf vl).length = y2.length + vl.size := (by rw [List.length_append, bytesOf_length]); generalize hyy : y2 ++ bytesOf vl = y3 at ho hLL; have HY3 := Aside0.mk hyy; have HL3 := Aside0.mk hLL; clear hyy hLL; have nX := Aside0.mk (blk_grown hX hg (Kd.R_ne hO hX (by decide))); have m0 := Aside0.mk (C_grown_lit hO hg hL0 hN0); have q0 := Aside0.mk hN0; have m61 := Aside0.mk (C_grown_lit hO hg hL61 hN61); have q61 := Aside0.mk hN61; have nF := Aside0.mk (fresh_grown hF hg); clear HO HB BX HF hO hB hX hF hg hL0 hN0 hL61 hN61 L0 N0 L61 N61; obtain ⟨A9, c9, e9⟩ := Kd.R_slice ho; subst e9; have HO := Aside0.mk ho; have HB := Aside0.mk hb; have BX := nX; have HF := nF; have L0 := m0; have N0 := q0; have L61 := m61; have N61 := q61; clear ho hb nX nF m0 q0 m61 q61) | ((with_reducible refine gate_n (N := 21) rfl ?_); have hh0 := N0.out; clear hh0; have hh61 := N61.out; clear hh61; have hO := HO.out; have hB := HB.out; have hX := BX.out; have hF := HF.out; have hL0 := L0.out; have hN0 := N0.out; have hL61 := L61.out; have hN61 := N61.out; refine Kd.R_append_rows_step (Kd.int .u8) (w0 := w) w.heap.size (by rfl) (.tmp 19) (.tmp 20) 22 5 (.int .u8 0) 1 (by rfl) Tryd.underlying22 info5 rfl (by decide) (by omega) _ y1 [61] _ 1 1 _ (fun _ => False) (by rfl) (by rfl) hO hL61 (fun _ _ h => h) (fun _ h => h.elim) hF hB (below_size hB) (by have h9 := HLEN.out; have h1 := HL1.out; omega) ?_; intro v1 w1 ho hb hg hat; clear hat; have hLL : (y1 ++ [61]).length = y1.length + 1 := (by rw [List.length_append]; rfl); generalize hyy : y1 ++ [61] = y2 at ho hLL; have HY2 := Aside0.mk hyy; have HL2 := Aside0.mk hLL; clear hyy hLL; have nX := Aside0.mk (blk_grown hX hg (Kd.R_ne hO hX (by decide))); have m0 := Aside0.mk (C_grown_lit hO hg hL0 hN0); have q0 := Aside0.mk hN0; have m61 := Aside0.mk (C_grown_lit hO hg hL61 hN61); have q61 := Aside0.mk hN61; have nF := Aside0.mk (fresh_grown hF hg); clear HO HB BX HF hO hB hX hF hg hL0 hN0 hL61 hN61 L0 N0 L61 N61; obtain ⟨A9, c9, e9⟩ := Kd.R_slice ho; subst e9; have HO := Aside0.mk ho; have HB := Aside0.mk hb; have BX := nX; have HF := nF; have L0 := m0; have N0 := q0; have L61 := m61; have N61 := q61; clear ho hb nX nF m0 q0 m61 q61) | ((with_reducible refine gate_n (N := 24) rfl ?_); have hh61 := N61.out; clear hh61; have hO := HO.out; have hB := HB.out; have hX := BX.out; have hF := HF.out; have hL61 := L61.out; have hN61 := N61.out; refine app_str_step (w0 := w) w.heap.size (by rfl) (.tmp 21) (.tmp 23) (by rfl) _ y2 vl _ (by rfl) (by rfl) hO hF hB (below_size hB) (by have h9 := HLEN.out; have h1 := HL1.out; have h2 := HL2.out; omega) ?_; intro v1 w1 ho hb hg; have hLL : (y2 ++ bytesOf vl).length = y2.length + vl.size := (by rw [List.length_append, bytesOf_length]); generalize hyy : y2 ++ bytesOf vl = y3 at ho hLL; have HY3 := Aside0.mk hyy; have HL3 := Aside0.mk hLL; clear hyy hLL; have nX := Aside0.mk (blk_grown hX hg (Kd.R_ne hO hX (by decide))); have m61 := Aside0.mk (C_grown_lit hO hg hL61 hN61); have q61 := Aside0.mk hN61; have nF := Aside0.mk (fresh_grown hF hg); clear HO HB BX HF hO hB hX hF hg hL61 hN61 L61 N61; obtain ⟨A9, c9, e9⟩ := Kd.R_slice ho; subst e9; have HO := Aside0.mk ho; have HB := Aside0.mk hb; have BX := nX; have HF := nF; have L61 := m61; have N61 := q61; clear ho hb nX nF m61 q61) | ((with_reducible refine gate_n (N := 21) rfl ?_); have hh61 := N61.out; clear hh61; have hO := HO.out; have hB := HB.out; have hX := BX.out; have hF := HF.out; have hL61 := L61.out; have hN61 := N61.out; refine Kd.R_append_rows_step (Kd.int .u8) (w0 := w) w.heap.size (by rfl) (.tmp 19) (.tmp 20) 22 5 (.int .u8 0) 1 (by rfl) Tryd.underlying22 info5 rfl (by decide) (by omega) _ y1 [61] _ 1 1 _ (fun _ => False) (by rfl) (by rfl) hO hL61 (fun _ _ h => h) (fun _ h => h.elim) hF hB (below_size hB) (by have h9 := HLEN.out; have h1 := HL1.out; omega) ?_; intro v1 w1 ho hb hg hat; clear hat; have hLL : (y1 ++ [61]).length = y1.length + 1 := (by rw [List.length_append]; rfl); generalize hyy : y1 ++ [61] = y2 at ho hLL; have HY2 := Aside0.mk hyy; have HL2 := Aside0.mk hLL; clear hyy hLL; have nX := Aside0.mk (blk_grown hX hg (Kd.R_ne hO hX (by decide))); have m61 := Aside0.mk (C_grown_lit hO hg hL61 hN61); have q61 := Aside0.mk hN61; have nF := Aside0.mk (fresh_grown hF hg); clear HO HB BX HF hO hB hX hF hg hL61 hN61 L61 N61; obtain ⟨A9, c9, e9⟩ := Kd.R_slice ho; subst e9; have HO := Aside0.mk ho; have HB := Aside0.mk hb; have BX := nX; have HF := nF; have L61 := m61; have N61 := q61; clear ho hb nX nF m61 q61) | ((with_reducible refine gate_n (N := 19) rfl ?_); have hO := HO.out; have hB := HB.out; have hX := BX.out; have hF := HF.out; refine app_str_step (w0 := w) w.heap.size (by rfl) (.tmp 16) (.tmp 18) (by rfl) _ xs nm _ (by rfl) (by rfl) hO hF hB (below_size hB) (by have h9 := HLEN.out; omega) ?_; intro v1 w1 ho hb hg; have hLL : (xs ++ bytesOf nm).length = xs.length + nm.size := (by rw [List.length_append, bytesOf_length]); generalize hyy : xs ++ bytesOf nm = y1 at ho hLL; have HY1 := Aside0.mk hyy; have HL1 := Aside0.mk hLL; clear hyy hLL; have nX := Aside0.mk (blk_grown hX hg (Kd.R_ne hO hX (by decide))); have nF := Aside0.mk (fresh_grown hF hg); clear HO HB BX HF hO hB hX hF hg; obtain ⟨A9, c9, e9⟩ := Kd.R_slice ho; subst e9; have HO := Aside0.mk ho; have HB := Aside0.mk hb; have BX := nX; have HF := nF; clear ho hb nX nF))
          all_goals (
            go_wp2
            go_roundg k1
            (case measure => omega)
            (case rel => exact ⟨j + 1, y4, by rw [show wrap64 ((j : Int) + 1) = ((j + 1 : Nat) : Int) by have := HM.out; have := HJ.out; unfold wrap64; omega], ⟨by have := HJ.out; omega⟩, ⟨by rw [← HY4.out, ← HY3.out, ← HY2.out, ← HY1.out, ← HX.out, drop31 l0 j (by have := HJ.out; omega), bytesR, HNM.out, HVL.out]; simp only [List.append_assoc]⟩, ⟨Kd.R_mono HO.out (fun _ _ => trivial)⟩, HB⟩))
    · rw [if_neg hbig] at h
      cases h
end

/-! ### vars_Save: function 8 -/
def vars_Save.f (k : Nat) (l0 : List Int) (l1 : List (S31)) : Option ((List (S64)) × Int) := (vars_Encode.f k l1).bind fun bt169 => (if bt169.2 = 0 then ((nvram_Plan.f l0 bt169.1).bind fun bt173 => (some (bt173.1, bt173.2))) else (some (([] : List (S64)), bt169.2)))
theorem vars_Save.mono : ∀ a0 a1 k, LeO (vars_Save.f k a0 a1) (vars_Save.f (k + 1) a0 a1) := by
  intro a0 a1 k
  unfold vars_Save.f
  repeat' first
      | (with_reducible exact vars_Encode.mono _ _)
      | (with_reducible exact LeO.refl _)
      | (with_reducible exact LeO.none _)
      | (with_reducible refine LeO.ite ?_ ?_)
      | (with_reducible refine LeO.bind ?_ (fun _ => ?_))
      | exact vars_Encode.mono _ _
      | exact LeO.none _
      | refine LeO.ite ?_ ?_
      | refine LeO.bind ?_ (fun _ => ?_)
set_option maxHeartbeats 8000000 in
set_option maxRecDepth 100000 in
theorem vars_Save.calls (k : Nat) (A0 : Option Addr) (c0 : Nat) (l0 : List Int) (A1 : Option Addr) (c1 : Nat) (l1 : List (S31)) (r1 : List (S64)) (r2 : Int) (w : World) (hr0 : Kd.C (Kd.int .u8) w A0 l0.length l0) (hc0 : l0.length ≤ c0) (hr1 : Kd.C k31 w A1 l1.length l1) (hc1 : l1.length ≤ c1) (h : vars_Save.f k l0 l1 = some (r1, r2)) (htab : TabOK w) :
    Calls Tryd.prog 8 #[.slice A0 l0.length c0, .slice A1 l1.length c1] w fun e w' => ∃ v0_ : Value, e = .returned (.tuple #[v0_, .int .i64 r2]) ∧ Kd.R k64 64 w' w.heap.size (fun _ => True) v0_ r1 ∧ Below w.heap.size w w' := by
  have HR0 := Aside0.mk hr0
  have HC0 := Aside0.mk hc0
  clear hr0 hc0
  have HR1 := Aside0.mk hr1
  have HC1 := Aside0.mk hc1
  clear hr1 hc1
  have HB := Aside0.mk (Below.refl w.heap.size w)
  have HT := Aside0.mk htab
  clear htab
  have H : ((vars_Encode.f k l1).bind fun bt169 => (if bt169.2 = 0 then ((nvram_Plan.f l0 bt169.1).bind fun bt173 => (some (bt173.1, bt173.2))) else (some (([] : List (S64)), bt169.2)))) = some (r1, r2) := h
  clear h
  replace H := Option.bind_eq_some_iff.mp H
  obtain ⟨⟨t169, t170⟩, A30, H⟩ := H
  replace H : (if t170 = 0 then ((nvram_Plan.f l0 t169).bind fun bt173 => (some (bt173.1, bt173.2))) else (some (([] : List (S64)), t170))) = some (r1, r2) := H
  have A3 := Aside0.mk A30
  clear A30
  by_cases c4 : t170 = 0
  · rw [if_pos c4] at H
    have c4b0 : (t170 == 0) = true := beq_iff_eq.mpr c4
    have c4b1 : (t170 != 0) = false := bne_eq_false_iff_eq.mpr c4
    clear c4
    replace H := Option.bind_eq_some_iff.mp H
    obtain ⟨⟨t173, t174⟩, A50, H⟩ := H
    replace H : (some (t173, t174)) = some (r1, r2) := H
    have A5 := Aside0.mk A50
    clear A50
    simp only [Option.some.injEq, Prod.mk.injEq] at H
    obtain ⟨rfl, rfl⟩ := H
    go_enter Tryd.func8, Tryd.ntmps8
    go_wp2_with (first | ((with_reducible refine gate_callee (f := 25) rfl ?_); refine goesL_ (some 10) rfl rfl Tryd.func25 (by kernel_rfl) rfl #[.slice A1 l1.length c1] rfl (by (try simp only [List.map_toArray, List.map_cons, List.map_nil]); first | done | rfl | (simp only [List.length_drop, List.length_take]; rfl)) ?_; (with_reducible refine (vars_Encode.calls k _ _ l1 t169 t170 _ ?side1 ?side2 A3.out ?sidet).mono ?_); (case sidet => exact HT.out.below (by repeat (first | (with_reducible first | exact HB.out | apply below_alloc | apply pw_below_drewN | apply below_drew1) | exact HB.out))); (case side1 => repeat (first | exact HR1.out | (with_reducible refine Kd.C_alloc ?_ _) | (with_reducible refine Kd.C_drewN ?_ _) | (with_reducible refine Kd.C_drew ?_))); (case side2 => exact HC1.out); rintro e w6 ⟨v171, rfl, ho0, hb⟩; refine ⟨_, rfl, ?_⟩; have n0_ := Aside0.mk (Kd.R_lower ho0 (below_size (by repeat (first | (with_reducible first | exact HB.out | apply below_alloc | apply pw_below_drewN | apply below_drew1) | exact HB.out)))); have n1_ := Aside0.mk (below_step (by repeat (first | (with_reducible first | exact HB.out | apply below_alloc | apply pw_below_drewN | apply below_drew1) | exact HB.out)) hb); clear HB; have HO172 := n0_; have HB := n1_; clear n0_ n1_; (try clear hb); (try clear hb2); (try clear hk); (try clear hi); (try clear ho0); obtain ⟨Ao7, co7, eo7⟩ := Kd.R_slice HO172.out; subst eo7) | ((with_reducible refine gate_callee (f := 26) rfl ?_); refine goesL_ (some 18) rfl rfl Tryd.func26 (by kernel_rfl) rfl #[.slice A0 l0.length c0, .slice Ao7 t169.length co7] rfl (by (try simp only [List.map_toArray, List.map_cons, List.map_nil]); first | done | rfl | (simp only [List.length_drop, List.length_take]; rfl)) ?_; (with_reducible refine (nvram_Plan.calls _ _ l0 _ _ t169 t173 t174 _ ?side1 ?side2 ?side3 ?side4 A5.out).mono ?_); (case side1 => repeat (first | exact (Kd.C_below HR0.out HB.out) | (with_reducible refine Kd.C_alloc ?_ _) | (with_reducible refine Kd.C_drewN ?_ _) | (with_reducible refine Kd.C_drew ?_))); (case side2 => exact HC0.out); (case side3 => repeat (first | exact (Kd.R_reads' HO172.out).2.2 | (with_reducible refine Kd.C_alloc ?_ _) | (with_reducible refine Kd.C_drewN ?_ _) | (with_reducible refine Kd.C_drew ?_))); (case side4 => exact (Kd.R_reads' HO172.out).2.1); rintro e w8 ⟨v175, rfl, ho0, hb⟩; refine ⟨_, rfl, ?_⟩; have n0_ := Aside0.mk (Kd.R_below (by (with_reducible repeat (first | apply Kd.R_alloc | apply Kd.R_drewN | apply Kd.R_drew)); exact HO172.out) hb); have n1_ := Aside0.mk (Kd.R_lower ho0 (below_size (by repeat (first | (with_reducible first | exact HB.out | apply below_alloc | apply pw_below_drewN | apply below_drew1) | exact HB.out)))); have n2_ := Aside0.mk (below_step (by repeat (first | (with_reducible first | exact HB.out | apply below_alloc | apply pw_below_drewN | apply below_drew1) | exact HB.out)) hb); clear HO172; clear HB; have HO172 := n0_; have HO176 := n1_; have HB := n2_; clear n0_ n1_ n2_; (try clear hb); (try clear hb2); (try clear hk); (try clear hi); (try clear ho0)))
    go_ret2
    exact ⟨_, by first | rfl | (simp [errW_none, errW_some] <;> rfl) | (simp [*, errW_none, errW_some] <;> rfl), by (with_reducible repeat (first | apply Kd.R_alloc | apply Kd.R_drewN | apply Kd.R_drew)); exact HO176.out, by repeat (first | (with_reducible first | exact HB.out | apply below_alloc | apply pw_below_drewN | apply below_drew1) | exact HB.out)⟩
  · rw [if_neg c4] at H
    have c4b0 : (t170 == 0) = false := beq_eq_false_iff_ne.mpr c4
    have c4b1 : (t170 != 0) = true := bne_iff_ne.mpr c4
    simp only [Option.some.injEq, Prod.mk.injEq] at H
    obtain ⟨rfl, rfl⟩ := H
    go_enter Tryd.func8, Tryd.ntmps8
    go_wp2_with (first | ((with_reducible refine gate_callee (f := 25) rfl ?_); refine goesL_ (some 10) rfl rfl Tryd.func25 (by kernel_rfl) rfl #[.slice A1 l1.length c1] rfl (by (try simp only [List.map_toArray, List.map_cons, List.map_nil]); first | done | rfl | (simp only [List.length_drop, List.length_take]; rfl)) ?_; (with_reducible refine (vars_Encode.calls k _ _ l1 t169 t170 _ ?side1 ?side2 A3.out ?sidet).mono ?_); (case sidet => exact HT.out.below (by repeat (first | (with_reducible first | exact HB.out | apply below_alloc | apply pw_below_drewN | apply below_drew1) | exact HB.out))); (case side1 => repeat (first | exact HR1.out | (with_reducible refine Kd.C_alloc ?_ _) | (with_reducible refine Kd.C_drewN ?_ _) | (with_reducible refine Kd.C_drew ?_))); (case side2 => exact HC1.out); rintro e w9 ⟨v171, rfl, ho0, hb⟩; refine ⟨_, rfl, ?_⟩; have n0_ := Aside0.mk (Kd.R_lower ho0 (below_size (by repeat (first | (with_reducible first | exact HB.out | apply below_alloc | apply pw_below_drewN | apply below_drew1) | exact HB.out)))); have n1_ := Aside0.mk (below_step (by repeat (first | (with_reducible first | exact HB.out | apply below_alloc | apply pw_below_drewN | apply below_drew1) | exact HB.out)) hb); clear HB; have HO172 := n0_; have HB := n1_; clear n0_ n1_; (try clear hb); (try clear hb2); (try clear hk); (try clear hi); (try clear ho0)))
    go_ret2
    exact ⟨_, by first | rfl | (simp [errW_none, errW_some] <;> rfl) | (simp [*, errW_none, errW_some] <;> rfl), by first | exact Kd.R_nil _ _ _ _ _ | exact Kd.N_nil _ _ _ _ _ | exact Kd.V_nil _ _ _ _ _ | exact Kd.Q_nil _ _ _ _ _ | exact Kd.S_nil _ _ _ _ _, by repeat (first | (with_reducible first | exact HB.out | apply below_alloc | apply pw_below_drewN | apply below_drew1) | exact HB.out)⟩

end Go.Proofs.YtdobpgomgnaleaaDoor.P
