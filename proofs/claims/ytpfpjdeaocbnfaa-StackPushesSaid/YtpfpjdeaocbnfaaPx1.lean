/- The machine's side: functions of the translation as plain Lean functions, and that the machine's calls come to what they say. No condition. Written by a program (wip/tools/pp.py over the kit's printer); Lean checks it. -/
import Derived.Test.YtpfpjdeaocbnfaaPx0
namespace Go.Proofs.Ytpfpjdeaocbnfaa.P
open Go.RowKit Go.Proofs.YtpfpjdeaocbnfaaW.PrintWords Go.Proofs.YtpfpjdeaocbnfaaW.PrintLast Go.Proofs.YtpfpjdeaocbnfaaW.PrintMore
attribute [local go_sem] max2_int min2_int max_two min_two max_three min_three max_four min_four   -- for this text's walks alone
set_option linter.unusedVariables false
set_option linter.unusedSimpArgs false

/-! ### stack_Push: function 13 -/
/-! A row of zeros longer than the kit's laws take (no row was there: its number of cells is just what is asked), and what is put into the room that a row has. -/
section
variable {P : Program}
theorem big_zeros_run (w : World) (base : Nat) (t ti ty e : TypeId) (i : TypeInfo) (z : Value) (bytes : Nat) (ht : P.underlying t = some (.slice e)) {k : IntKind} (hti : P.underlying ti = some (.int k)) (hi : P.info? e = some i) (hz : i.zero = some z)
    (hsize : i.size = 1) (hby : i.bytes = bytes) (hzs : z.cells.size = 1) (hb0 : 0 < bytes) (kx : IntKind) (m : Nat) (hm : 0 < m) (hbytes : m * bytes ≤ 281474976710656) (hbase : base ≤ w.heap.size) :
    ∃ cap w', (Builtin.append_ #[t, ti] ty #[.slice none 0 0, .int kx m]).run P w = .ok (.slice (some ⟨w.heap.size, 0, none⟩) m cap) w' ∧ w'.ownsRow base e 1 (.slice (some ⟨w.heap.size, 0, none⟩) m cap) m (Builtin.zeroCells z.cells m).toList ∧ w.grownBy w' none ∧ m ≤ cap := by
  subst hby
  have hle : m ≤ 281474976710656 := Nat.le_trans (Nat.le_mul_of_pos_right _ hb0) hbytes
  have h63 : m ≤ maxLen := by simp only [maxLen]; omega
  have hw : IntKind.i64.wrap (m : Int) = m := by rw [IntKind.wrap_i64]; omega
  have hneg : ¬ ((m : Int) < 0) := by omega
  have hbig : ¬ (281474976710656 < (m : Int) * (i.bytes : Int)) := by
    rw [← Int.natCast_mul]
    omega
  obtain ⟨news, hnews⟩ : ∃ news, news = (Builtin.zeroCells z.cells m).toList := ⟨_, rfl⟩
  rw [← hnews]
  have hl : news.length = m := by rw [hnews, Array.length_toList, size_zeroCells, hzs, Nat.mul_one]
  have hna : Builtin.zeroCells z.cells m = news.toArray := by rw [hnews]
  have hn : m ≠ 0 := by omega
  have h63' : ¬ (9223372036854775807 < (m : Int)) := by omega
  have h48' : ¬ (281474976710656 < Builtin.nextslicecap m 0 * i.bytes) := by rw [nextslicecap_zero hm]; omega
  have hge := grownCap_ge w m 0 e
  have hcm : grownCap w m 0 e ≤ maxLen := grownCap_le_maxLen w m 0 e h63
  refine ⟨grownCap w m 0 e, w.drew.alloc (.cells (news.toArray ++ Builtin.zeroCells z.cells (grownCap w m 0 e - m)) e), ?_, ⟨by rw [hl, Nat.mul_one], .inr ⟨w.heap.size, _, _, rfl, hbase, heap_alloc_new w.drew _, hge, hcm, ?_, ?_⟩⟩, ⟨rfl, rfl, rfl, by simp, fun k hk _ => heap_alloc_old w.drew _ hk⟩, hge⟩
  · simp [Builtin.append_, run_underlying ht, run_underlying hti, sizeOf, typeInfo, zeroValue, hi, hz, hsize, asInt, asIntOf, hw, hneg, hbig, hn, h63', h48', Question.forced, newRow, grownCap, hna, Builtin.firstCells]
  · simp only [Array.size_append, List.size_toArray, size_zeroCells, hzs, hl]
    omega
  · simp only [Array.toList_append]
    rw [Nat.mul_one, ← hl]
    exact List.take_left
theorem big_room_run (w : World) (base : Nat) (t ty e : TypeId) (i : TypeInfo) (ht : P.underlying t = some (.slice e)) (hi : P.info? e = some i) (hsize : i.size = 1)
    (g n cap : Nat) (xs : List Value) (hown : w.ownsRow base e 1 (.slice (some ⟨g, 0, none⟩) n cap) n xs) (A : Option Addr) (m c : Nat) (news : List Value) (hl : news.length = m) (hA : 0 < m → ∃ a, A = some a ∧ ∀ j u, news[j]? = some u → w.cell? (a.add j) = some u)
    (h1 : ∀ u ∈ news, u.oneCell' = true) (hroom : n + m ≤ cap) :
    ∃ w', (Builtin.append_ #[t, t] ty #[.slice (some ⟨g, 0, none⟩) n cap, .slice A m c]).run P w = .ok (.slice (some ⟨g, 0, none⟩) (n + m) cap) w' ∧ w'.ownsRow base e 1 (.slice (some ⟨g, 0, none⟩) (n + m) cap) (n + m) (xs ++ news) ∧ w.grownBy w' (some g) := by
  have hx : xs.length = n := by rw [hown.1, Nat.mul_one]
  rcases hown.2 with ⟨he, _⟩ | ⟨g', cap', cur, he, hbg, hg, hnc, hcm, hcs, htake⟩
  · cases he
  · injection he with he1 he2 he3
    injection he1 with he1
    injection he1 with he1
    subst he1 he3
    rcases Nat.eq_zero_or_pos m with hm | hm
    · subst hm
      have hn : news = [] := List.eq_nil_of_length_eq_zero hl
      subst hn
      refine ⟨w, ?_, by rw [List.append_nil, Nat.add_zero]; exact hown, ⟨rfl, rfl, rfl, Nat.le_refl _, fun _ _ _ => rfl⟩⟩
      cases A <;> simp [Builtin.append_, run_underlying ht, sizeOf, typeInfo, hi, Builtin.lenOf, Builtin.firstCells, hnc, storeCells, loadCells, loadCellsFrom, hsize]
    · obtain ⟨a, rfl, hnews⟩ := hA hm
      have hfit : n * i.size + news.length ≤ cur.size := by rw [hsize, hl, hcs, Nat.mul_one, Nat.mul_one]; exact hroom
      have hr := run_append_room (P := P) w t ty e i ht hi g n cap cur hg a m c news (by rw [hsize, Nat.mul_one]; exact hl) hnews h1 hroom hfit
      refine ⟨_, hr, ⟨by rw [List.length_append, hx, hl, Nat.mul_one], .inr ⟨g, cap, _, rfl, hbg, setRow_heap w g cur _ e _ hg, hroom, hcm, ?_, ?_⟩⟩, ⟨rfl, rfl, rfl, by simp, fun k _ hk => setRow_other w g k _ (fun e => hk (by rw [e]))⟩⟩
      · simp only [List.size_toArray, List.length_append, List.length_take, List.length_drop, Array.length_toList]
        omega
      · rw [hsize, Nat.mul_one, Nat.mul_one]
        rw [Nat.mul_one] at htake
        rw [htake, show n + m = (xs ++ news).length by rw [List.length_append, hx, hl]]
        exact List.take_left
end
section
variable {P : Program} {ops : Array Oper} {rest : List Oper} {o : Oper} {a : Act} {Q : Exit → Act → World → Prop}
theorem big_zeros {w0 W : World} (base : Nat) (hgd : o.guard = none) (s x : Operand) (t ti e : TypeId) (z : Value) (bytes : Nat)
    (ho : o.op = .call { callee := .builtin .append, args := #[s, x], argTypes := #[t, ti] }) (ht : P.underlying t = some (.slice e)) {k : IntKind} (hti : P.underlying ti = some (.int k))
    (hinfo : (P.info? e).map (fun i => (i.zero, i.size, i.bytes)) = some (some z, 1, bytes)) (hz : z.cells.size = 1) (hb0 : 0 < bytes) {kx : IntKind} (n : Int) (hs : a.eval s = .slice none 0 0) (hx : a.eval x = .int kx n) (hzero : z.cells.toList = [.int .u32 0])
    (h0 : 0 < n) (HB : Below base w0 W) (hbase : base ≤ W.heap.size) (hl : n.toNat * bytes ≤ 281474976710656)
    (h : ∀ g cap w1, Kd.R (Kd.int .u32) e w1 base (fun _ => True) (.slice (some ⟨g, 0, none⟩) n.toNat cap) (List.replicate n.toNat (0 : Int)) → Below base w0 w1 → n.toNat ≤ cap → wpList P ops Q rest (a.put o.dst (.slice (some ⟨g, 0, none⟩) n.toNat cap)) w1) :
    wpList P ops Q (o :: rest) a W := by
  obtain ⟨m, rfl⟩ := Int.eq_ofNat_of_zero_le (Int.le_of_lt h0)
  simp only [Int.toNat_natCast] at hl h ⊢
  obtain ⟨i0, hi, hzz⟩ := Option.map_eq_some_iff.1 hinfo
  simp only [Prod.mk.injEq] at hzz
  obtain ⟨hz0, hz1, hz2⟩ := hzz
  obtain ⟨cap, w1, hrun, hown, hg, hcap⟩ := big_zeros_run (P := P) W base t ti o.type e i0 z bytes ht hti hi hz0 hz1 hz2 hz hb0 kx m (by omega) hl hbase
  refine wpList_plain hgd fun K hK => ?_
  unfold Oper.wp execOp
  simp only [ho, resolve, invoke, builtin, Sem.run_bind, Sem.run_pure, Result.andThen_ok, List.map_toArray, List.map_cons, List.map_nil, hs, hx, hrun]
  refine hK _ _ (h _ cap w1 (Kd.R_of_own ?_ (fun _ _ => trivial)) (HB.grown hg hbase (fun k hk => by cases hk)) hcap)
  rw [List.length_replicate]
  have : encs (Value.int .u32) (List.replicate m (0 : Int)) = (Builtin.zeroCells z.cells m).toList := by
    have hzc : z.cells = #[.int .u32 0] := by rw [← Array.toArray_toList (xs := z.cells), hzero]
    unfold encs Builtin.zeroCells
    rw [List.map_replicate]
    simp [hzc, Nat.mod_one]
    apply List.ext_getElem
    · simp
    · intro i h1 h2
      simp
  rw [this]
  exact hown
theorem big_room {w0 W : World} (base : Nat) (hgd : o.guard = none) (s x : Operand) (t e : TypeId) (z : Value) (bytes : Nat)
    (ho : o.op = .call { callee := .builtin .append, args := #[s, x], argTypes := #[t, t] }) (ht : P.underlying t = some (.slice e))
    (hinfo : (P.info? e).map (fun i => (i.zero, i.size, i.bytes)) = some (some z, 1, bytes)) (g n cap : Nat) (xs ys : List Int) (A : Option Addr) (m c : Nat) (hs : a.eval s = .slice (some ⟨g, 0, none⟩) n cap) (hx : a.eval x = .slice A m c)
    (HO : Kd.R (Kd.int .u32) e W base (fun _ => True) (.slice (some ⟨g, 0, none⟩) n cap) xs) (HR : Kd.C (Kd.int .u32) W A m ys) (HB : Below base w0 W) (hbase : base ≤ W.heap.size) (hroom : n + m ≤ cap)
    (h : ∀ w1, Kd.R (Kd.int .u32) e w1 base (fun _ => True) (.slice (some ⟨g, 0, none⟩) (n + m) cap) (xs ++ ys) → Below base w0 w1 → wpList P ops Q rest (a.put o.dst (.slice (some ⟨g, 0, none⟩) (n + m) cap)) w1) :
    wpList P ops Q (o :: rest) a W := by
  obtain ⟨i0, hi, hzz⟩ := Option.map_eq_some_iff.1 hinfo
  simp only [Prod.mk.injEq] at hzz
  obtain ⟨hz0, hz1, hz2⟩ := hzz
  have hn : n = xs.length := (Kd.R_reads' HO).1
  have hown := Kd.own_of_R HO
  rw [← hn] at hown
  have hym : ys.length = m := HR.1
  obtain ⟨w1, hrun, hown1, hg⟩ := big_room_run (P := P) W base t o.type e i0 ht hi hz1 g n cap (encs (Value.int .u32) xs) hown A m c (encs (Value.int .u32) ys) (by simp [encs, hym]) (fun hm => by
    obtain ⟨ad, e1, hc⟩ := (Kd.reads_of_C (d := (0 : Int)) HR).2.2 hm
    refine ⟨ad, e1, fun j u hj => ?_⟩
    unfold encs at hj
    rw [List.getElem?_map] at hj
    obtain ⟨y, hy, rfl⟩ := Option.map_eq_some_iff.1 hj
    have hjl : j < ys.length := (List.getElem?_eq_some_iff.1 hy).1
    have := hc j (by omega)
    rw [List.getD_eq_getElem?_getD, hy] at this
    exact this) (fun u hu => by
    unfold encs at hu
    obtain ⟨y, _, rfl⟩ := List.mem_map.1 hu
    rfl) hroom
  refine wpList_plain hgd fun K hK => ?_
  unfold Oper.wp execOp
  simp only [ho, resolve, invoke, builtin, Sem.run_bind, Sem.run_pure, Result.andThen_ok, List.map_toArray, List.map_cons, List.map_nil, hs, hx, hrun]
  refine hK _ _ (h w1 (Kd.R_of_own ?_ (fun _ _ => trivial)) (HB.grown hg hbase (fun k hk => by injection hk with hk; subst hk; exact Kd.R_base HO g (by simp [Value.ownBlock]))))
  rw [List.length_append, hym, ← hn]
  have : encs (Value.int .u32) (xs ++ ys) = encs (Value.int .u32) xs ++ encs (Value.int .u32) ys := by simp [encs]
  rw [this]
  exact hown1
end
theorem cell_lit (w : World) (vs : Array Value) (e j : Nat) : (w.alloc (.cells vs e)).cell? ⟨w.heap.size, j, none⟩ = vs[j]? := by
  unfold World.cell? World.alloc
  simp
set_option maxHeartbeats 800000 in
set_option maxRecDepth 100000 in
theorem stack_Push.grow (n : Int) (w : World) (h0 : 0 ≤ n) (h1 : n.toNat < 35184372088832) :
    Calls Try.prog 24 #[.slice none 0 0, .int .i64 n] w fun e w' => ∃ v0_ : Value, e = .returned (v0_) ∧ Kd.R (Kd.int .u32) 39 w' w.heap.size (fun _ => True) v0_ ([] : List Int) ∧ Below w.heap.size w w' := by
  have HB := Aside0.mk (Below.refl w.heap.size w)
  have hn0 : decide (n < 0) = false := decide_eq_false (by omega)
  have hw0 : wrap64 (n - wrap64 0) = n := by unfold wrap64; omega
  by_cases hz : n = 0
  · subst hz
    go_enter Try.func24, Try.ntmps24
    go_wp2
    go_ret
    exact ⟨_, rfl, Kd.R_nil _ _ _ _ _, HB.out⟩
  · have hn1 : decide (0 < n) = true := decide_eq_true (by omega)
    go_enter Try.func24, Try.ntmps24
    go_wp2_with (first
      | ((with_reducible refine gate_builtin (b := .append) (xs := #[.tmp 20, .tmp 21]) rfl ?_); at_builtin; go_must (refine Kd.R_append_zeros (Kd.int .u32) (w0 := w) w.heap.size rfl (.tmp 20) (.tmp 21) 22 3 39 (.int .u32 0) 4 rfl Try.underlying22 Try.underlying3 info39 rfl (by decide) (by omega) (.slice none 0 0) ([] : List Int) (0 : Int) n (fun _ => True) rfl rfl ?aF ?aO (Kd.R_nil _ _ _ _ _) ?aN ?aB ?aS ?aL ?_); (case aF => rfl); (case aO => exact (fun _ _ => trivial)); (case aN => omega); (case aB => exact HB.out); (case aS => exact below_size HB.out); (case aL => simp only [List.length_nil]; omega); intro v2 w2 ho hb hg hat; have HO2 := Aside0.mk ho; have HB2 := Aside0.mk hb; clear ho hb hg hat; obtain ⟨A2, c2, e2⟩ := Kd.R_slice HO2.out; subst e2))
    go_ret
    exact ⟨_, rfl, Kd.R_take (m := 0) HO2.out (Nat.zero_le _), HB2.out⟩

set_option maxHeartbeats 1600000 in
set_option maxRecDepth 100000 in
theorem stack_Push.concat (g : Nat) (A0 : Option Addr) (c0 : Nat) (l0 : List Int) (A1 : Option Addr) (c1 : Nat) (l1 : List Int) (w : World) (hr0 : Kd.C (Kd.int .u32) w A0 l0.length l0) (hr1 : Kd.C (Kd.int .u32) w A1 l1.length l1)
    (hg0 : w.cell? ⟨g, 0, none⟩ = some (.slice A0 l0.length c0)) (hg1 : w.cell? ⟨g, 1, none⟩ = some (.slice A1 l1.length c1)) (hl : l0.length + l1.length < 35184372088832) :
    Calls Try.prog 22 #[.slice (some ⟨g, 0, none⟩) 2 2] w fun e w' => ∃ v0_ : Value, e = .returned (v0_) ∧ Kd.R (Kd.int .u32) 39 w' w.heap.size (fun _ => True) v0_ (l0 ++ l1) ∧ Below w.heap.size w w' := by
  have HB := Aside0.mk (Below.refl w.heap.size w)
  have HR0 := Aside0.mk hr0
  have HR1 := Aside0.mk hr1
  have HL := Aside0.mk hl
  have hw0 : wrap64 (l0.length : Int) = (l0.length : Int) := by unfold wrap64; omega
  have hw1 : wrap64 ((l0.length : Int) + (l1.length : Int)) = (l0.length : Int) + (l1.length : Int) := by unfold wrap64; omega
  have hd0 : decide ((l0.length : Int) < 0) = false := decide_eq_false (by omega)
  have hd1 : decide ((l0.length : Int) + (l1.length : Int) < 0) = false := decide_eq_false (by omega)
  clear hr0 hr1 hl
  go_enter Try.func22, Try.ntmps22
  go_wp2
  refine wp_loop_rounds 3 ?_
  rw [rounds_succ]
  go_wp2_with fail
  rw [rounds_succ]
  go_wp2_with fail
  rw [rounds_succ]
  go_wp2_with fail
  (with_reducible refine (stack_Push.grow _ _ ?s1 ?s2).mono ?_)
  (case s1 => omega)
  (case s2 => have := HL.out; omega)
  rintro e w1 ⟨v1, rfl, ho1, hb1⟩
  have HB1 := Aside0.mk hb1
  have HO1 := Aside0.mk ho1
  obtain ⟨A2, c2, e2⟩ := Kd.R_slice HO1.out
  subst e2
  have HG1 := Aside0.mk hg1
  replace hg0 := (hb1.cell (World.block_lt_of_cell? w _ hg0)).trans hg0
  have HS0 := Aside0.mk (Kd.C_below HR0.out hb1)
  clear ho1 hb1 hg1
  go_wp2_with fail
  refine wp_loop_rounds 3 ?_
  rw [rounds_succ]
  go_wp2_with (first
    | ((with_reducible refine gate_builtin (b := .append) (xs := #[.tmp 31, .tmp 32]) rfl ?_); at_builtin; go_must (refine Kd.R_append_rows (Kd.int .u32) (w0 := w) w.heap.size rfl (.tmp 31) (.tmp 32) 22 39 (.int .u32 0) 4 rfl Try.underlying22 info39 rfl (by decide) (by omega) _ ([] : List Int) l0 _ _ _ (fun _ => True) (fun _ => False) rfl rfl ?aO ?aR (fun _ _ h => h) (fun _ h => h.elim) ?aF ?aB ?aS ?aL ?_); (case aR => exact HS0.out); (case aB => exact HB1.out); (case aF => exact (fun _ _ => trivial)); (case aO => exact HO1.out); (case aS => exact below_size HB1.out); (case aL => have := HL.out; simp only [List.length_nil]; omega); intro v2 w2 ho hb hg hat; have HO2 := Aside0.mk ho; have HB2 := Aside0.mk hb; clear ho hb hg hat))
  clear hg0
  have hg1 := (HB2.out.cell (World.block_lt_of_cell? w _ HG1.out)).trans HG1.out
  have HS1 := Aside0.mk (Kd.C_below HR1.out HB2.out)
  obtain ⟨A3, c3, e3⟩ := Kd.R_slice HO2.out
  subst e3
  rw [rounds_succ]
  go_wp2_with (first
    | ((with_reducible refine gate_builtin (b := .append) (xs := #[.tmp 31, .tmp 32]) rfl ?_); at_builtin; go_must (refine Kd.R_append_rows (Kd.int .u32) (w0 := w) w.heap.size rfl (.tmp 31) (.tmp 32) 22 39 (.int .u32 0) 4 rfl Try.underlying22 info39 rfl (by decide) (by omega) _ ([] ++ l0 : List Int) l1 _ _ _ (fun _ => True) (fun _ => False) rfl rfl ?aO ?aR (fun _ _ h => h) (fun _ h => h.elim) ?aF ?aB ?aS ?aL ?_); (case aR => exact HS1.out); (case aB => exact HB2.out); (case aF => exact (fun _ _ => trivial)); (case aO => exact HO2.out); (case aS => exact below_size HB2.out); (case aL => have := HL.out; simp only [List.nil_append]; omega); intro v4 w4 ho hb hg hat; have HO4 := Aside0.mk ho; have HB4 := Aside0.mk hb; clear ho hb hg hat))
  clear hg1
  rw [rounds_succ]
  go_wp2_with fail
  go_ret
  exact ⟨_, rfl, HO4.out, HB4.out⟩
set_option maxHeartbeats 800000 in
set_option maxRecDepth 100000 in
theorem stack_Push.grow_big (n : Int) (w : World) (h0 : 0 < n) (h1 : n.toNat * 4 ≤ 281474976710656) :
    Calls Try.prog 24 #[.slice none 0 0, .int .i64 n] w fun e w' => ∃ (g cap : Nat), e = .returned (.slice (some ⟨g, 0, none⟩) 0 cap) ∧ Kd.R (Kd.int .u32) 39 w' w.heap.size (fun _ => True) (.slice (some ⟨g, 0, none⟩) 0 cap) ([] : List Int) ∧ n.toNat ≤ cap ∧ Below w.heap.size w w' := by
  have HB := Aside0.mk (Below.refl w.heap.size w)
  have hn0 : decide (n < 0) = false := decide_eq_false (by omega)
  have hw0 : wrap64 (n - wrap64 0) = n := by unfold wrap64; omega
  have hn1 : decide (0 < n) = true := decide_eq_true h0
  go_enter Try.func24, Try.ntmps24
  go_wp2_with (first
    | ((with_reducible refine gate_builtin (b := .append) (xs := #[.tmp 20, .tmp 21]) rfl ?_); at_builtin; go_must (refine big_zeros (w0 := w) w.heap.size rfl (.tmp 20) (.tmp 21) 22 3 39 (.int .u32 0) 4 rfl Try.underlying22 Try.underlying3 info39 rfl (by omega) n rfl rfl rfl ?aN ?aB ?aS ?aL ?_); (case aN => omega); (case aB => exact HB.out); (case aS => exact below_size HB.out); (case aL => omega); intro g2 c2 w2 ho hb hcap; have HO2 := Aside0.mk ho; have HB2 := Aside0.mk hb; have HC2 := Aside0.mk hcap; clear ho hb hcap))
  go_ret
  exact ⟨_, _, rfl, Kd.R_take (m := 0) HO2.out (Nat.zero_le _), HC2.out, HB2.out⟩
set_option maxHeartbeats 1600000 in
set_option maxRecDepth 100000 in
theorem stack_Push.concat_big (g : Nat) (A0 : Option Addr) (c0 : Nat) (l0 : List Int) (A1 : Option Addr) (c1 : Nat) (l1 : List Int) (w : World) (hr0 : Kd.C (Kd.int .u32) w A0 l0.length l0) (hr1 : Kd.C (Kd.int .u32) w A1 l1.length l1)
    (hg0 : w.cell? ⟨g, 0, none⟩ = some (.slice A0 l0.length c0)) (hg1 : w.cell? ⟨g, 1, none⟩ = some (.slice A1 l1.length c1)) (hp : 0 < l0.length + l1.length) (hl : (l0.length + l1.length) * 4 ≤ 281474976710656) :
    Calls Try.prog 22 #[.slice (some ⟨g, 0, none⟩) 2 2] w fun e w' => ∃ (A : Option Addr) (c : Nat), e = .returned (.slice A (l0.length + l1.length) c) ∧ Below w.heap.size w w' := by
  have HB := Aside0.mk (Below.refl w.heap.size w)
  have HR0 := Aside0.mk hr0
  have HR1 := Aside0.mk hr1
  have HL := Aside0.mk hl
  have HP := Aside0.mk hp
  have hw0 : wrap64 (l0.length : Int) = (l0.length : Int) := by unfold wrap64; omega
  have hw1 : wrap64 ((l0.length : Int) + (l1.length : Int)) = (l0.length : Int) + (l1.length : Int) := by unfold wrap64; omega
  have hd0 : decide ((l0.length : Int) < 0) = false := decide_eq_false (by omega)
  have hd1 : decide ((l0.length : Int) + (l1.length : Int) < 0) = false := decide_eq_false (by omega)
  clear hr0 hr1 hl hp
  go_enter Try.func22, Try.ntmps22
  go_wp2
  refine wp_loop_rounds 3 ?_
  rw [rounds_succ]
  go_wp2_with fail
  rw [rounds_succ]
  go_wp2_with fail
  rw [rounds_succ]
  go_wp2_with fail
  (with_reducible refine (stack_Push.grow_big _ _ ?s1 ?s2).mono ?_)
  (case s1 => have := HP.out; omega)
  (case s2 => have := HL.out; omega)
  rintro e w1 ⟨g2, cap, rfl, ho1, hcap, hb1⟩
  have HB1 := Aside0.mk hb1
  have HO1 := Aside0.mk ho1
  have HC := Aside0.mk (show l0.length + l1.length ≤ cap by omega)
  have HG1 := Aside0.mk hg1
  replace hg0 := (hb1.cell (World.block_lt_of_cell? w _ hg0)).trans hg0
  have HS0 := Aside0.mk (Kd.C_below HR0.out hb1)
  clear ho1 hb1 hg1 hcap
  go_wp2_with fail
  refine wp_loop_rounds 3 ?_
  rw [rounds_succ]
  go_wp2_with (first
    | ((with_reducible refine gate_builtin (b := .append) (xs := #[.tmp 31, .tmp 32]) rfl ?_); at_builtin; go_must (refine big_room (w0 := w) w.heap.size rfl (.tmp 31) (.tmp 32) 22 39 (.int .u32 0) 4 rfl Try.underlying22 info39 g2 0 cap ([] : List Int) l0 _ _ _ rfl rfl ?aO ?aR ?aB ?aS ?aL ?_); (case aR => exact HS0.out); (case aB => exact HB1.out); (case aO => exact HO1.out); (case aS => exact below_size HB1.out); (case aL => have := HC.out; omega); intro w2 ho hb; have HO2 := Aside0.mk ho; have HB2 := Aside0.mk hb; clear ho hb))
  clear hg0
  rw [Nat.zero_add] at HO2
  have hg1 := (HB2.out.cell (World.block_lt_of_cell? w _ HG1.out)).trans HG1.out
  have HS1 := Aside0.mk (Kd.C_below HR1.out HB2.out)
  rw [rounds_succ]
  go_wp2_with (first
    | ((with_reducible refine gate_builtin (b := .append) (xs := #[.tmp 31, .tmp 32]) rfl ?_); at_builtin; go_must (refine big_room (w0 := w) w.heap.size rfl (.tmp 31) (.tmp 32) 22 39 (.int .u32 0) 4 rfl Try.underlying22 info39 g2 l0.length cap ([] ++ l0 : List Int) l1 _ _ _ (by first | rfl | (simp; done) | (simp; rfl)) rfl ?aO ?aR ?aB ?aS ?aL ?_); (case aR => exact HS1.out); (case aB => exact HB2.out); (case aO => exact HO2.out); (case aS => exact below_size HB2.out); (case aL => have := HC.out; omega); intro w4 ho hb; have HO4 := Aside0.mk ho; have HB4 := Aside0.mk hb; clear ho hb))
  clear hg1
  rw [rounds_succ]
  go_wp2_with fail
  go_ret
  exact ⟨_, _, rfl, HB4.out⟩
set_option maxHeartbeats 800000 in
set_option maxRecDepth 100000 in
theorem stack_Push.full (A : Option Addr) (n c : Nat) (w : World) :
    Calls Try.prog 18 #[.slice A n c] w fun e w' => e = .returned (.tuple #[if (n : Int) > 64 then .slice none 0 0 else .slice A n c, .int .i64 (if (n : Int) > 64 then 6 else 0)]) ∧ w' = w := by
  by_cases h : (n : Int) > 64
  · have hb : decide (64 < (n : Int)) = true := decide_eq_true h
    rw [if_pos h, if_pos h]
    clear h
    go_enter Try.func18, Try.ntmps18
    go_wp2
    go_ret2
    exact ⟨rfl, rfl⟩
  · have hb : decide (64 < (n : Int)) = false := decide_eq_false h
    rw [if_neg h, if_neg h]
    clear h
    go_enter Try.func18, Try.ntmps18
    go_wp2
    go_ret2
    exact ⟨rfl, rfl⟩
def stack_Push.f (l0 l1 : List Int) : Option (List Int × Int) := if l0.length + l1.length < 35184372088832 then (if ((l0 ++ l1).length : Int) > 64 then some ([], 6) else some (l0 ++ l1, 0)) else if (l0.length + l1.length) * 4 ≤ 281474976710656 then some ([], 6) else none
set_option maxHeartbeats 800000 in
set_option maxRecDepth 100000 in
theorem stack_Push.calls (A0 : Option Addr) (c0 : Nat) (l0 : List Int) (A1 : Option Addr) (c1 : Nat) (l1 : List Int) (r1 : List Int) (r2 : Int) (w : World) (hr0 : Kd.C (Kd.int .u32) w A0 l0.length l0) (hc0 : l0.length ≤ c0) (hr1 : Kd.C (Kd.int .u32) w A1 l1.length l1) (hc1 : l1.length ≤ c1) (h : stack_Push.f l0 l1 = some (r1, r2)) :
    Calls Try.prog 13 #[.slice A0 l0.length c0, .slice A1 l1.length c1] w fun e w' => ∃ v0_ : Value, e = .returned (.tuple #[v0_, .int .i64 r2]) ∧ Kd.R (Kd.int .u32) 39 w' w.heap.size (fun _ => True) v0_ r1 ∧ Below w.heap.size w w' := by
  unfold stack_Push.f at h
  by_cases hb : l0.length + l1.length < 35184372088832
  · rw [if_pos hb] at h
    have HB := Aside0.mk (Below.refl w.heap.size w)
    have HR0 := Aside0.mk hr0
    have HR1 := Aside0.mk hr1
    have HL := Aside0.mk hb
    have H := Aside0.mk h
    clear hr0 hr1 hc0 hc1 hb h
    go_enter Try.func13, Try.ntmps13
    go_wp2_with fail
    have hq0 : (w.alloc (.cells #[.slice A0 l0.length c0, .slice A1 l1.length c1] 22)).cell? ⟨w.heap.size, 0, none⟩ = some (.slice A0 l0.length c0) := cell_lit w _ 22 0
    have hq1 : (w.alloc (.cells #[.slice A0 l0.length c0, .slice A1 l1.length c1] 22)).cell? ⟨w.heap.size, 1, none⟩ = some (.slice A1 l1.length c1) := cell_lit w _ 22 1
    (with_reducible refine (stack_Push.concat _ A0 c0 l0 A1 c1 l1 _ ?s1 ?s2 hq0 hq1 ?s3).mono ?_)
    (case s1 => exact Kd.C_alloc HR0.out _)
    (case s2 => exact Kd.C_alloc HR1.out _)
    (case s3 => exact HL.out)
    rintro e w1 ⟨v1, rfl, ho1, hb1⟩
    have HB1 := Aside0.mk (below_step (below_alloc HB.out _) hb1)
    obtain ⟨A2, c2, e2⟩ := Kd.R_slice ho1
    subst e2
    have HO1 := Aside0.mk (Kd.R_lower ho1 (below_size (below_alloc HB.out _)))
    clear ho1 hb1 hq0 hq1
    go_wp2_with fail
    (with_reducible refine (stack_Push.full A2 (l0.length + l1.length) c2 w1).mono ?_)
    rintro e w2 ⟨rfl, rfl⟩
    by_cases hc : ((l0.length + l1.length : Nat) : Int) > 64
    · have H2 := H.out
      rw [List.length_append] at H2
      rw [if_pos hc] at H2
      simp only [Option.some.injEq, Prod.mk.injEq] at H2
      obtain ⟨rfl, rfl⟩ := H2
      rw [if_pos hc, if_pos hc]
      clear hc
      go_wp2_with fail
      go_ret2
      exact ⟨_, rfl, Kd.R_nil _ _ _ _ _, HB1.out⟩
    · have H2 := H.out
      rw [List.length_append] at H2
      rw [if_neg hc] at H2
      simp only [Option.some.injEq, Prod.mk.injEq] at H2
      obtain ⟨rfl, rfl⟩ := H2
      rw [if_neg hc, if_neg hc]
      clear hc
      go_wp2_with fail
      go_ret2
      exact ⟨_, rfl, by rw [← List.length_append]; exact HO1.out, HB1.out⟩
  · rw [if_neg hb] at h
    by_cases hb2 : (l0.length + l1.length) * 4 ≤ 281474976710656
    rotate_left
    · rw [if_neg hb2] at h
      cases h
    rw [if_pos hb2] at h
    simp only [Option.some.injEq, Prod.mk.injEq] at h
    obtain ⟨rfl, rfl⟩ := h
    have HB := Aside0.mk (Below.refl w.heap.size w)
    have HR0 := Aside0.mk hr0
    have HR1 := Aside0.mk hr1
    have HL := Aside0.mk hb2
    have HM := Aside0.mk (Nat.le_of_not_lt hb)
    clear hr0 hr1 hc0 hc1 hb hb2
    go_enter Try.func13, Try.ntmps13
    go_wp2_with fail
    have hq0 : (w.alloc (.cells #[.slice A0 l0.length c0, .slice A1 l1.length c1] 22)).cell? ⟨w.heap.size, 0, none⟩ = some (.slice A0 l0.length c0) := cell_lit w _ 22 0
    have hq1 : (w.alloc (.cells #[.slice A0 l0.length c0, .slice A1 l1.length c1] 22)).cell? ⟨w.heap.size, 1, none⟩ = some (.slice A1 l1.length c1) := cell_lit w _ 22 1
    (with_reducible refine (stack_Push.concat_big _ A0 c0 l0 A1 c1 l1 _ ?s1 ?s2 hq0 hq1 ?s4 ?s3).mono ?_)
    (case s1 => exact Kd.C_alloc HR0.out _)
    (case s2 => exact Kd.C_alloc HR1.out _)
    (case s3 => exact HL.out)
    (case s4 => have := HM.out; omega)
    rintro e w1 ⟨A2, c2, rfl, hb1⟩
    have HB1 := Aside0.mk (below_step (below_alloc HB.out _) hb1)
    clear hb1 hq0 hq1
    go_wp2_with fail
    (with_reducible refine (stack_Push.full A2 (l0.length + l1.length) c2 w1).mono ?_)
    rintro e w2 ⟨rfl, rfl⟩
    have hc : ((l0.length + l1.length : Nat) : Int) > 64 := by have := HM.out; omega
    rw [if_pos hc, if_pos hc]
    clear hc
    go_wp2_with fail
    go_ret2
    exact ⟨_, rfl, Kd.R_nil _ _ _ _ _, HB1.out⟩

/-! ### slices_Clone_uint32_uint32: function 20 -/
def slices_Clone_uint32_uint32.f (l0 : List Int) : Option (List Int) := if l0.length < 35184372088832 then some l0 else none
set_option maxHeartbeats 800000 in
set_option maxRecDepth 100000 in
theorem slices_Clone_uint32_uint32.calls (A0 : Option Addr) (c0 : Nat) (l0 : List Int) (r : List Int) (w : World) (hr0 : Kd.C (Kd.int .u32) w A0 l0.length l0) (hc0 : l0.length ≤ c0) (h : slices_Clone_uint32_uint32.f l0 = some r) :
    Calls Try.prog 20 #[.slice A0 l0.length c0] w fun e w' => ∃ v0_ : Value, e = .returned (v0_) ∧ Kd.R (Kd.int .u32) 39 w' w.heap.size (fun _ => True) v0_ r ∧ Below w.heap.size w w' := by
  unfold slices_Clone_uint32_uint32.f at h
  by_cases c2 : l0.length < 35184372088832
  · rw [if_pos c2] at h
    obtain rfl := Option.some.inj h
    have LM := Aside0.mk c2
    clear c2
    have HB := Aside0.mk (Below.refl w.heap.size w)
    have ke := fun (w : World) (a : Option Addr) (n c : Nat) => Lib.run_eql_slice_nil (P := Try.prog) w 22 39 a n c 0 0 Try.underlying22
    cases A0 with
    | none =>
      have h0 : l0 = [] := by
        rcases Nat.eq_zero_or_pos l0.length with h0 | h0
        · exact List.eq_nil_of_length_eq_zero h0
        · obtain ⟨ad, h1, _⟩ := hr0.2.2 h0
          cases h1
      subst h0
      go_enter Try.func20, Try.ntmps20
      go_wp2
      go_ret
      exact ⟨_, rfl, Kd.R_nil _ _ _ _ _, Below.refl _ _⟩
    | some a =>
      have HR0 := Aside0.mk hr0
      have HC0 := Aside0.mk hc0
      clear hr0 hc0 h
      go_enter Try.func20, Try.ntmps20
      go_wp2_with (first
        | ((with_reducible refine gate_dst (N := 5) rfl ?_); refine Kd.R_lit (Kd.int .u32) _ 39 ?hg (N := 5) ?hd (xs := ([] : List Int)) (inner := []) (ok := fun _ => True) (okp := fun _ => True) ?hr ?hp (fun _ hk => hk) trivial (Below.refl _ _) (Nat.le_refl _) (by simp) ?_; (case hd => rfl); (case hg => rfl); (case hr => first | (go_simp; done) | (go_simp; rfl)); (case hp => exact (Reps.none _ _)); intro v1 w1 ho hb hg_ hnew_; clear hg_ hnew_; have n0_ := Aside0.mk ho; have n1_ := Aside0.mk hb; have HR1 := Aside0.mk (Kd.C_below HR0.out hb); clear hb ho; obtain ⟨A1, c1, e1⟩ := Kd.R_slice n0_.out; subst e1)
        | ((with_reducible refine gate_builtin (b := .append) (xs := #[.tmp 5, .tmp 6]) rfl ?_); at_builtin; refine Kd.R_append_rows (Kd.int .u32) (w0 := w) w.heap.size rfl (.tmp 5) (.tmp 6) 22 39 (.int .u32 0) 4 rfl Try.underlying22 info39 rfl (by decide) (by omega) _ ([] : List Int) l0 _ _ _ (fun _ => True) (fun _ => False) rfl rfl ?aO ?aR (fun _ _ h => h) (fun _ h => h.elim) ?aF ?aB ?aS ?aL ?_; (case aR => exact HR1.out); (case aB => exact n1_.out); (case aF => exact (fun _ _ => trivial)); (case aO => exact n0_.out); (case aS => exact below_size n1_.out); (case aL => have := LM.out; simp only [List.length_nil]; omega); intro v2 w2 ho hb hg hat; have HO2 := Aside0.mk ho; have HB2 := Aside0.mk hb; clear ho hb hg hat))
      go_ret
      exact ⟨_, rfl, HO2.out, HB2.out⟩
  · rw [if_neg c2] at h
    cases h

/-! ### stack_Pop: function 15 -/
def stack_Pop.f (l0 : List Int) (a1 : Int) : Option (List Int × List Int × Int) := if a1 < 0 then (some (([] : List Int), ([] : List Int), 1)) else (if a1 > (l0.length : Int) then (some (([] : List Int), ([] : List Int), 5)) else (if 0 ≤ (wrap64 ((l0.length : Int) - a1)) then (if (wrap64 ((l0.length : Int) - a1)) ≤ (l0.length : Int) then ((slices_Clone_uint32_uint32.f (l0.take ((wrap64 ((l0.length : Int) - a1)) : Int).toNat)).bind fun t102 => ((slices_Clone_uint32_uint32.f (l0.drop ((wrap64 ((l0.length : Int) - a1)) : Int).toNat)).bind fun t106 => (some (t102, t106, 0)))) else (none)) else (none)))
def stack_Pop.T6 : Bool × List (List Nat × List Nat) := (true, [([], []), ([], []), ([0, 1], [0, 1]), ([2], [2]), ([], []), ([], []), ([4, 5], [4, 5]), ([6, 3], [6]), ([3, 7, 0, 1, 2, 3], [3]), ([7, 8, 0, 1, 2, 3, 4, 5, 6, 7, 8], [7]), ([9, 0, 1, 2, 3, 4, 5, 6, 7, 8, 9], [])])
def stack_Pop.B6 : List Nat := [0, 0, 3, 7, 0, 0, 48, 127, 255, 511, 1023]
theorem stack_Pop.tab6 : rtab .any (opsOf Try.f15 6) = stack_Pop.T6 := by kernel_rfl
theorem stack_Pop.bits6 : waitsOk stack_Pop.T6.2 stack_Pop.B6 = true := by kernel_rfl
set_option maxHeartbeats 8000000 in
set_option maxRecDepth 100000 in
theorem stack_Pop.calls (A0 : Option Addr) (c0 : Nat) (l0 : List Int) (a1 : Int) (r1 : List Int) (r2 : List Int) (r3 : Int) (w : World) (hr0 : Kd.C (Kd.int .u32) w A0 l0.length l0) (hc0 : l0.length ≤ c0) (h : stack_Pop.f l0 a1 = some (r1, r2, r3)) :
    Calls Try.prog 15 #[.slice A0 l0.length c0, .int .i64 a1] w fun e w' => ∃ v0_ v1_ : Value, e = .returned (.tuple #[v0_, v1_, .int .i64 r3]) ∧ Kd.R (Kd.int .u32) 39 w' w.heap.size (fun k_ => some k_ ≠ (v1_ : Value).ownBlock) v0_ r1 ∧ Kd.R (Kd.int .u32) 39 w' w.heap.size (fun k_ => some k_ ≠ (v0_ : Value).ownBlock) v1_ r2 ∧ Below w.heap.size w w' := by
  have HR0 := Aside0.mk hr0
  have HC0 := Aside0.mk hc0
  clear hr0 hc0
  have HB := Aside0.mk (Below.refl w.heap.size w)
  have H : (if a1 < 0 then (some (([] : List Int), ([] : List Int), 1)) else (if a1 > (l0.length : Int) then (some (([] : List Int), ([] : List Int), 5)) else (if 0 ≤ (wrap64 ((l0.length : Int) - a1)) then (if (wrap64 ((l0.length : Int) - a1)) ≤ (l0.length : Int) then ((slices_Clone_uint32_uint32.f (l0.take ((wrap64 ((l0.length : Int) - a1)) : Int).toNat)).bind fun t102 => ((slices_Clone_uint32_uint32.f (l0.drop ((wrap64 ((l0.length : Int) - a1)) : Int).toNat)).bind fun t106 => (some (t102, t106, 0)))) else (none)) else (none)))) = some (r1, r2, r3) := h
  clear h
  by_cases c3 : a1 < 0
  · rw [if_pos c3] at H
    have c3b0 : decide (a1 < 0) = true := decide_eq_true c3
    clear c3
    simp only [Option.some.injEq, Prod.mk.injEq] at H
    obtain ⟨rfl, rfl, rfl⟩ := H
    go_enter Try.func15, Try.ntmps15
    go_wp2
    go_ret3
    exact ⟨_, _, by first | rfl | (simp [errW_none, errW_some] <;> rfl) | (simp [*, errW_none, errW_some] <;> rfl), by first | exact Kd.R_nil _ _ _ _ _ | exact Kd.N_nil _ _ _ _ _ | exact Kd.V_nil _ _ _ _ _ | exact Kd.Q_nil _ _ _ _ _ | exact Kd.S_nil _ _ _ _ _, by first | exact Kd.R_nil _ _ _ _ _ | exact Kd.N_nil _ _ _ _ _ | exact Kd.V_nil _ _ _ _ _ | exact Kd.Q_nil _ _ _ _ _ | exact Kd.S_nil _ _ _ _ _, by repeat (first | (with_reducible first | exact HB.out | apply below_alloc | apply pw_below_drewN | apply below_drew1) | exact HB.out)⟩
  · rw [if_neg c3] at H
    have c3b0 : decide (a1 < 0) = false := decide_eq_false c3
    clear c3
    by_cases c4 : a1 > (l0.length : Int)
    · rw [if_pos c4] at H
      have c4b0 : decide ((l0.length : Int) < a1) = true := decide_eq_true c4
      clear c4
      simp only [Option.some.injEq, Prod.mk.injEq] at H
      obtain ⟨rfl, rfl, rfl⟩ := H
      go_enter Try.func15, Try.ntmps15
      go_wp2
      go_ret3
      exact ⟨_, _, by first | rfl | (simp [errW_none, errW_some] <;> rfl) | (simp [*, errW_none, errW_some] <;> rfl), by first | exact Kd.R_nil _ _ _ _ _ | exact Kd.N_nil _ _ _ _ _ | exact Kd.V_nil _ _ _ _ _ | exact Kd.Q_nil _ _ _ _ _ | exact Kd.S_nil _ _ _ _ _, by first | exact Kd.R_nil _ _ _ _ _ | exact Kd.N_nil _ _ _ _ _ | exact Kd.V_nil _ _ _ _ _ | exact Kd.Q_nil _ _ _ _ _ | exact Kd.S_nil _ _ _ _ _, by repeat (first | (with_reducible first | exact HB.out | apply below_alloc | apply pw_below_drewN | apply below_drew1) | exact HB.out)⟩
    · rw [if_neg c4] at H
      have c4b0 : decide ((l0.length : Int) < a1) = false := decide_eq_false c4
      clear c4
      obtain ⟨ji5, hji5⟩ : ∃ j_ : Int, (wrap64 ((l0.length : Int) - a1)) = j_ := ⟨_, rfl⟩
      replace H : (if 0 ≤ (ji5) then (if (ji5) ≤ (l0.length : Int) then ((slices_Clone_uint32_uint32.f (l0.take ((ji5) : Int).toNat)).bind fun t102 => ((slices_Clone_uint32_uint32.f (l0.drop ((ji5) : Int).toNat)).bind fun t106 => (some (t102, t106, 0)))) else (none)) else (none)) = some (r1, r2, r3) := by first | (rw [hji5] at H; exact H) | (simp only [hji5] at H ⊢; exact H)
      have hji5w : (IntKind.i64.wrap ((l0.length : Int) - a1)) = ji5 := (i64_w _).trans hji5
      by_cases c6 : 0 ≤ (ji5)
      · rw [if_pos c6] at H
        have c6b0 := eq_true c6
        have c6b1 : decide (0 ≤ (ji5)) = true := decide_eq_true c6
        clear c6
        by_cases c7 : (ji5) ≤ (l0.length : Int)
        · rw [if_pos c7] at H
          have c7b0 := eq_true c7
          have c7b1 : decide ((ji5) ≤ (l0.length : Int)) = true := decide_eq_true c7
          clear c7
          replace H := Option.bind_eq_some_iff.mp H
          obtain ⟨t102, A80, H⟩ := H
          replace H : ((slices_Clone_uint32_uint32.f (l0.drop ((ji5) : Int).toNat)).bind fun t106 => (some (t102, t106, 0))) = some (r1, r2, r3) := H
          have A8 := Aside0.mk A80
          clear A80
          have c9b0 := eq_true (of_decide_eq_true (by first | (with_reducible assumption) | assumption) : 0 ≤ (ji5))
          have c10b0 := eq_true (of_decide_eq_true (by first | (with_reducible assumption) | assumption) : (ji5) ≤ (l0.length : Int))
          replace H := Option.bind_eq_some_iff.mp H
          obtain ⟨t106, A110, H⟩ := H
          replace H : (some (t102, t106, 0)) = some (r1, r2, r3) := H
          have A11 := Aside0.mk A110
          clear A110
          simp only [Option.some.injEq, Prod.mk.injEq] at H
          obtain ⟨rfl, rfl, rfl⟩ := H
          go_enter Try.func15, Try.ntmps15
          try go_wp2
          have n0_ := Aside0.mk (below_drew1 HB.out)
          clear HB
          have HB := n0_
          clear n0_
          obtain ⟨i013, hi013, _, hsz13, _⟩ := info_parts info39
          obtain ⟨hcut13, hA13, hC13⟩ := print_take_of (P := Try.prog) (Value.int .u32) 0 22 39 .i64 Try.underlying22 hi013 hsz13 A0 c0 l0 (ji5) (of_decide_eq_true (by first | (with_reducible assumption) | assumption)) (of_decide_eq_true (by first | (with_reducible assumption) | assumption)) HC0.out
          have HR101 := Aside0.mk (Kd.C_of_reads (h1 := fun _ => rfl) (hA13 _ (Kd.reads_of_C HR0.out)))
          have HC101 := Aside0.mk hC13
          clear hA13 hC13 hi013 hsz13
          obtain ⟨i014, hi014, _, hsz14, _⟩ := info_parts info39
          obtain ⟨A14, hcut14, hA14, hC14⟩ := print_drop_of (P := Try.prog) (Value.int .u32) 0 22 39 .i64 Try.underlying22 hi014 hsz14 A0 c0 l0 (ji5) (of_decide_eq_true (by first | (with_reducible assumption) | assumption)) (of_decide_eq_true (by first | (with_reducible assumption) | assumption)) HC0.out
          have HR105 := Aside0.mk (Kd.C_of_reads (h1 := fun _ => rfl) (hA14 _ (Kd.reads_of_C HR0.out)))
          have HC105 := Aside0.mk hC14
          clear hA14 hC14 hi014 hsz14
          refine start_ (n := 11) (S := fun w' => True) (ds := []) #[false, false, false, false, false, false, false, false, false, false, false] (by kernel_rfl) rfl rfl trivial (fun hHeld => ?_); refine with_tabW stack_Pop.tab6 stack_Pop.bits6 (fun HT_ HW_ => ?_)
          generalize w.drew = w12 at HB HR101 HR105 hHeld ⊢
          refine pure_ (i := 0) (N := some 18) (v := ?_) (a' := ?_) #[true, false, false, false, false, false, false, false, false, false, false] rfl rfl (any_of HT_.out (by kernel_rfl)) (fun _ _ _ h => h) (Or.inl ⟨by rfl, ?_⟩) ?_ ?_
          rotate_left
          · intro w'
            go_simp
            with_reducible rfl
          rotate_left
          · simp only [Act.put, List.setIfInBounds_toArray, List.set_cons_zero, List.set_cons_succ, i64_w, i32_w]
            rfl
          refine pure_ (i := 1) (N := some 19) (v := ?_) (a' := ?_) #[true, true, false, false, false, false, false, false, false, false, false] rfl rfl (any_of HT_.out (by kernel_rfl)) (fun _ _ _ h => h) (Or.inl ⟨by rfl, ?_⟩) ?_ ?_
          rotate_left
          · intro w'
            go_simp
            with_reducible rfl
          rotate_left
          · simp only [Act.put, List.setIfInBounds_toArray, List.set_cons_zero, List.set_cons_succ, i64_w, i32_w]
            rfl
          refine pure_ (i := 2) (N := some 20) (v := ?_) (a' := ?_) #[true, true, true, false, false, false, false, false, false, false, false] rfl rfl (any_of HT_.out (by kernel_rfl)) (fun _ _ _ h => h) (Or.inl ⟨by rfl, ?_⟩) ?_ ?_
          rotate_left
          · intro w'
            go_simp
            with_reducible rfl
          rotate_left
          · simp only [Act.put, List.setIfInBounds_toArray, List.set_cons_zero, List.set_cons_succ, i64_w, i32_w]
            rfl
          refine pure_ (i := 4) (N := some 22) (v := ?_) (a' := ?_) #[true, true, true, false, true, false, false, false, false, false, false] rfl rfl (any_of HT_.out (by kernel_rfl)) (fun _ _ _ h => h) (Or.inl ⟨by rfl, ?_⟩) ?_ ?_
          rotate_left
          · intro w'
            go_simp
            with_reducible rfl
          rotate_left
          · simp only [Act.put, List.setIfInBounds_toArray, List.set_cons_zero, List.set_cons_succ, i64_w, i32_w]
            rfl
          refine pure_ (i := 5) (N := some 23) (v := ?_) (a' := ?_) #[true, true, true, false, true, true, false, false, false, false, false] rfl rfl (any_of HT_.out (by kernel_rfl)) (fun _ _ _ h => h) (Or.inl ⟨by rfl, ?_⟩) ?_ ?_
          rotate_left
          · intro w'
            go_simp
            with_reducible rfl
          rotate_left
          · simp only [Act.put, List.setIfInBounds_toArray, List.set_cons_zero, List.set_cons_succ, i64_w, i32_w]
            rfl
          refine pure_ (i := 6) (N := some 24) (v := ?_) (a' := ?_) #[true, true, true, false, true, true, true, false, false, false, false] rfl rfl (any_of HT_.out (by kernel_rfl)) (fun _ _ _ h => h) (Or.inl ⟨by rfl, ?_⟩) ?_ ?_
          rotate_left
          · intro w'
            go_simp
            with_reducible rfl
          rotate_left
          · simp only [Act.put, List.setIfInBounds_toArray, List.set_cons_zero, List.set_cons_succ, i64_w, i32_w]
            rfl
          refine one_ (i := 3) (N := some 21) #[true, true, true, true, true, true, true, false, false, false, false] rfl rfl (one_of HT_.out (by kernel_rfl)) (by decide) (fun K hK => ?_)
          refine goes_ Try.func20 (by kernel_rfl) rfl #[.slice A0 (l0.take ((ji5) : Int).toNat).length c0] (by rfl) rfl rfl (by (try simp only [List.map_toArray, List.map_cons, List.map_nil]); first | done | (rw [show (l0.take ((ji5) : Int).toNat).length = (ji5).toNat from (by rw [List.length_take]; have h_ : ((ji5) : Int) ≤ (l0.length : Int) := of_decide_eq_true (by first | (with_reducible assumption) | assumption); omega)] <;> rfl) | (simp only [hji5]; rfl) | rfl | (simp only [List.length_drop, List.length_take]; rfl)) ?_
          with_reducible refine (slices_Clone_uint32_uint32.calls _ _ (l0.take ((ji5) : Int).toNat) t102 _ ?side1 ?side2 A8.out).mono ?_
          (case side1 => repeat (first | exact (Kd.C_below HR101.out HB.out) | (with_reducible refine Kd.C_alloc ?_ _) | (with_reducible refine Kd.C_drewN ?_ _) | (with_reducible refine Kd.C_drew ?_)))
          (case side2 => exact HC101.out)
          rintro e w15 ⟨v103, rfl, ho0, hb⟩
          refine ⟨_, rfl, ?_⟩
          have n0_ := Aside0.mk (Kd.R_lower ho0 (below_size (by repeat (first | (with_reducible first | exact HB.out | apply below_alloc | apply pw_below_drewN | apply below_drew1) | exact HB.out))))
          have n1_ := Aside0.mk (below_step (by repeat (first | (with_reducible first | exact HB.out | apply below_alloc | apply pw_below_drewN | apply below_drew1) | exact HB.out)) hb)
          clear HB
          have HO104 := n0_
          have HB := n1_
          clear n0_ n1_
          (try clear hb)
          (try clear hb2)
          (try clear hk)
          (try clear hi)
          (try clear ho0)
          refine hK.out _ _ trivial (fun hHeld => ?_)
          clear hK K
          refine norm_ (a' := ?_) ?_ ?_
          rotate_left
          · show Act.put _ (some 21) _ = _
            simp only [Act.put, List.setIfInBounds_toArray, List.set_cons_zero, List.set_cons_succ, i64_w, i32_w]
            rfl
          refine one_ (i := 7) (N := some 25) #[true, true, true, true, true, true, true, true, false, false, false] rfl rfl (one_of HT_.out (by kernel_rfl)) (by decide) (fun K hK => ?_)
          refine goes_ Try.func20 (by kernel_rfl) rfl #[.slice A14 (l0.drop ((ji5) : Int).toNat).length (c0 - (ji5).toNat)] (by rfl) rfl rfl (by (try simp only [List.map_toArray, List.map_cons, List.map_nil]); first | done | (rw [show (l0.drop ((ji5) : Int).toNat).length = (l0.length - (ji5).toNat) from List.length_drop] <;> rfl) | (simp only [hji5]; rfl) | rfl | (simp only [List.length_drop, List.length_take]; rfl)) ?_
          with_reducible refine (slices_Clone_uint32_uint32.calls _ _ (l0.drop ((ji5) : Int).toNat) t106 _ ?side1 ?side2 A11.out).mono ?_
          (case side1 => repeat (first | exact (Kd.C_below HR105.out HB.out) | (with_reducible refine Kd.C_alloc ?_ _) | (with_reducible refine Kd.C_drewN ?_ _) | (with_reducible refine Kd.C_drew ?_)))
          (case side2 => exact HC105.out)
          rintro e w16 ⟨v107, rfl, ho0, hb⟩
          refine ⟨_, rfl, ?_⟩
          have n0_ := Aside0.mk (Kd.R_elder' (by (with_reducible repeat (first | apply Kd.R_alloc | apply Kd.R_drewN | apply Kd.R_drew)); exact HO104.out) (Kd.R_base ho0) hb)
          have n1_ := Aside0.mk (Kd.R_lower (Kd.R_new' ho0 (Kd.R_lt (by (with_reducible repeat (first | apply Kd.R_alloc | apply Kd.R_drewN | apply Kd.R_drew)); exact HO104.out))) (below_size (by repeat (first | (with_reducible first | exact HB.out | apply below_alloc | apply pw_below_drewN | apply below_drew1) | exact HB.out))))
          have n2_ := Aside0.mk (below_step (by repeat (first | (with_reducible first | exact HB.out | apply below_alloc | apply pw_below_drewN | apply below_drew1) | exact HB.out)) hb)
          clear HO104
          clear HB
          have HO104 := n0_
          have HO108 := n1_
          have HB := n2_
          clear n0_ n1_ n2_
          (try clear hb)
          (try clear hb2)
          (try clear hk)
          (try clear hi)
          (try clear ho0)
          refine hK.out _ _ trivial (fun hHeld => ?_)
          clear hK K
          refine norm_ (a' := ?_) ?_ ?_
          rotate_left
          · show Act.put _ (some 25) _ = _
            simp only [Act.put, List.setIfInBounds_toArray, List.set_cons_zero, List.set_cons_succ, i64_w, i32_w]
            rfl
          refine pure_ (i := 8) (N := some 4) (v := ?_) (a' := ?_) #[true, true, true, true, true, true, true, true, true, false, false] rfl rfl (any_of HT_.out (by kernel_rfl)) (fun _ _ _ h => h) (Or.inl ⟨by rfl, ?_⟩) ?_ ?_
          rotate_left
          · intro w'
            go_simp
            with_reducible rfl
          rotate_left
          · simp only [Act.put, List.setIfInBounds_toArray, List.set_cons_zero, List.set_cons_succ, i64_w, i32_w]
            rfl
          refine pure_ (i := 9) (N := some 5) (v := ?_) (a' := ?_) #[true, true, true, true, true, true, true, true, true, true, false] rfl rfl (any_of HT_.out (by kernel_rfl)) (fun _ _ _ h => h) (Or.inl ⟨by rfl, ?_⟩) ?_ ?_
          rotate_left
          · intro w'
            go_simp
            with_reducible rfl
          rotate_left
          · simp only [Act.put, List.setIfInBounds_toArray, List.set_cons_zero, List.set_cons_succ, i64_w, i32_w]
            rfl
          refine pure_ (i := 10) (N := some 6) (v := ?_) (a' := ?_) #[true, true, true, true, true, true, true, true, true, true, true] rfl rfl (any_of HT_.out (by kernel_rfl)) (fun _ _ _ h => h) (Or.inl ⟨by rfl, ?_⟩) ?_ ?_
          rotate_left
          · intro w'
            go_simp
            with_reducible rfl
          rotate_left
          · simp only [Act.put, List.setIfInBounds_toArray, List.set_cons_zero, List.set_cons_succ, i64_w, i32_w]
            rfl
          refine done_ (done_of HT_.out (by kernel_rfl)) ?_
          try go_wp2
          go_ret3
          exact ⟨_, _, by first | rfl | (simp [errW_none, errW_some] <;> rfl) | (simp only [← hji5]; first | rfl | (simp [errW_none, errW_some] <;> rfl)) | (simp [*, errW_none, errW_some] <;> rfl), by (with_reducible repeat (first | apply Kd.R_alloc | apply Kd.R_drewN | apply Kd.R_drew)); exact Kd.R_mono HO104.out (fun _ hk => hk.2), by (with_reducible repeat (first | apply Kd.R_alloc | apply Kd.R_drewN | apply Kd.R_drew)); exact Kd.R_mono HO108.out (fun _ hk => hk.2), by repeat (first | (with_reducible first | exact HB.out | apply below_alloc | apply pw_below_drewN | apply below_drew1) | exact HB.out)⟩
        · rw [if_neg c7] at H
          exact absurd H (by simp)
      · rw [if_neg c6] at H
        exact absurd H (by simp)

end Go.Proofs.Ytpfpjdeaocbnfaa.P
