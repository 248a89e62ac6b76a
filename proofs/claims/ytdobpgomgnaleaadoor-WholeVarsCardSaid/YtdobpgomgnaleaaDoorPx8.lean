/- The machine's side: functions of the translation as plain Lean functions, and that the machine's calls come to what they say. No condition. Written by a program (wip/tools/pp.py over the kit's printer); Lean checks it. -/
import Derived.Test.YtdobpgomgnaleaaDoorPx0
import Derived.Test.YtdobpgomgnaleaaDoorPx4
namespace Go.Proofs.YtdobpgomgnaleaaDoor.P
open Go.RowKit Go.Proofs.YtdobpgomgnaleaaDoorW.PrintWords Go.Proofs.YtdobpgomgnaleaaDoorW.PrintLast Go.Proofs.YtdobpgomgnaleaaDoorW.PrintMore
attribute [local go_sem] max2_int min2_int max_two min_two max_three min_three max_four min_four   -- for this text's walks alone
set_option linter.unusedVariables false
set_option linter.unusedSimpArgs false

/-! ### vars_named: function 21 -/
section
open Go.Proofs.YtdobpgomgnaleaaDoor.G
set_option maxHeartbeats 4000000 in
set_option maxRecDepth 100000 in
theorem named1_calls (g : Nat) (s : ByteArray) (x : S31) (w : World) (hh : w.heap[g]? = some (.cells #[.string s] 9 (0, 0))) :
    Calls Tryd.prog 34 #[.agg #[.string x.f0, .string x.f1], .pointer (some ⟨g, 0, none⟩)] w fun e w' => e = .returned (.bool (x.f0.toList == s.toList)) ∧ Below w.heap.size w w' := by
  have BK := Aside0.mk hh
  have HB := Aside0.mk (Below.refl w.heap.size w)
  clear hh
  go_enter Tryd.func34, Tryd.ntmps34
  go_upto_region 1 with (fail)
  have x1 := blk_alloc BK.out (Obj.cells #[Value.string x.f0, Value.string x.f1] 31)
  have x2 := blk_new w (Obj.cells #[Value.string x.f0, Value.string x.f1] 31)
  have x3 := below_alloc HB.out (Obj.cells #[Value.string x.f0, Value.string x.f1] 31)
  obtain ⟨gv, hgv⟩ : ∃ gv, w.heap.size = gv := ⟨_, rfl⟩
  rw [hgv] at x2 ⊢
  generalize (w.alloc (Obj.cells #[Value.string x.f0, Value.string x.f1] 31)) = w2 at x1 x2 x3 ⊢
  clear BK HB hgv
  have HB := Aside0.mk x3
  clear x3
  have z0 := (blk_cell x1 0).trans (show _ = some (Value.string s) from rfl)
  have z1 := (blk_cell x2 0).trans (show _ = some (Value.string x.f0) from rfl)
  clear x1 x2
  go_wp2
  go_ret
  exact ⟨rfl, HB.out⟩
set_option maxHeartbeats 4000000 in
set_option maxRecDepth 100000 in
theorem set1_calls (k : Nat) (g : Nat) (n : Int) (x : S31) (t1 t3 : ByteArray) (t2 t4 : Int) (t5 : Bool) (w : World) (hh : w.heap[g]? = some (.cells #[.int .i64 n] 3 (0, 0))) (hf : vars_find.f k x.f0 = some (t1, t2, t3, t4, t5)) :
    Calls Tryd.prog 23 #[.agg #[.string x.f0, .string x.f1], .pointer (some ⟨g, 0, none⟩)] w fun e w' => e = .returned (.bool (decide (n < t4))) ∧ Below w.heap.size w w' := by
  have BK := Aside0.mk hh
  have HB := Aside0.mk (Below.refl w.heap.size w)
  have HF := Aside0.mk hf
  clear hh hf
  go_enter Tryd.func23, Tryd.ntmps23
  go_upto_region 2 with (go_at_call 18; refine (vars_find.calls k _ t1 t2 t3 t4 t5 _ HF.out).mono ?_; rintro e w2 ⟨rfl, hb⟩; have n0_ := Aside0.mk (below_step (below_alloc HB.out _) hb); have n1_ := Aside0.mk (blk_below (blk_alloc BK.out _) hb); clear HB BK hb; have HB := n0_; have BK := n1_; clear n0_ n1_)
  have x1 := blk_alloc BK.out (Obj.cells #[Value.string t1, Value.int IntKind.i64 t2, Value.string t3] 50)
  have x3 := below_alloc HB.out (Obj.cells #[Value.string t1, Value.int IntKind.i64 t2, Value.string t3] 50)
  generalize (w2.alloc (Obj.cells #[Value.string t1, Value.int IntKind.i64 t2, Value.string t3] 50)) = w3 at x1 x3 ⊢
  clear BK HB
  have HB := Aside0.mk x3
  clear x3
  have z0 := (blk_cell x1 0).trans (show _ = some (Value.int .i64 n) from rfl)
  clear x1
  go_wp2
  go_ret
  exact ⟨rfl, HB.out⟩
def idxN (s : ByteArray) : Nat → List S31 → Int
  | _, [] => -1
  | i, x :: t => if (x.f0.toList == s.toList) = true then (i : Int) else idxN s (i + 1) t
def idxS (k : Nat) (n : Int) : Nat → List S31 → Option Int
  | _, [] => some (-1)
  | i, x :: t => (vars_find.f k x.f0).bind fun fr => if decide (n < fr.2.2.2.1) = true then some (i : Int) else idxS k n (i + 1) t
theorem drop_T31 (l : List S31) (j : Nat) (h : j < l.length) : l.drop j = rd_T31 l (j : Int) :: l.drop (j + 1) := by
  show l.drop j = l.getD ((j : Int).toNat) z31 :: l.drop (j + 1)
  rw [Int.toNat_natCast, List.getD_eq_getElem?_getD, List.getElem?_eq_getElem h]
  exact List.drop_eq_getElem_cons h
set_option maxHeartbeats 4000000 in
set_option maxRecDepth 100000 in
theorem index34 (g : Nat) (s : ByteArray) (A0 : Option Addr) (c0 : Nat) (l0 : List S31) (w : World) (hr0 : Kd.C k31 w A0 l0.length l0) (hh : w.heap[g]? = some (.cells #[.string s] 9 (0, 0))) :
    Calls Tryd.prog 22 #[.slice A0 l0.length c0, .func (.func 34) #[] #[.pointer (some ⟨g, 0, none⟩)]] w fun e w' => e = .returned (.int .i64 (idxN s 0 l0)) ∧ Below w.heap.size w w' := by
  have HR := Aside0.mk hr0
  have BK := Aside0.mk hh
  have HB := Aside0.mk (Below.refl w.heap.size w)
  have HM := Aside0.mk (Kd.C_max hr0)

  clear hr0 hh
  go_enter Tryd.func22, Tryd.ntmps22
  go_wp2
  go_loopg [8] l0.length (fun kq v w' => ∃ (j : Nat), v = .int .i64 j ∧ Aside0 (j + kq = l0.length) ∧ Aside0 (idxN s j (l0.drop j) = idxN s 0 l0) ∧ Aside0 (Below w.heap.size w w'))
  case atStart => exact ⟨0, rfl, ⟨by omega⟩, ⟨rfl⟩, HB⟩
  case round =>
    clear HB
    obtain ⟨j, rfl, HJ, HX, HB⟩ := hrel
    cases gk with
    | zero =>
      have c : decide ((j : Int) < (l0.length : Int)) = false := decide_eq_false (by have := HJ.out; omega)
      have hj : j = l0.length := by have := HJ.out; omega
      have e1 : idxN s 0 l0 = -1 := by rw [← HX.out, hj, List.drop_length]; rfl
      have E1 := Aside0.mk e1
      clear e1
      go_wp2
      go_ret
      exact ⟨by rw [E1.out]; rfl, HB.out⟩
    | succ kk =>
      have hlt : j < l0.length := by have := HJ.out; omega
      have c : decide ((j : Int) < (l0.length : Int)) = true := decide_eq_true (by omega)
      obtain ⟨ad, e, hx0, hx1⟩ := at_T31 HR.out (j : Int) (by omega) (by omega)
      cases e
      rw [Int.toNat_natCast] at hx0 hx1
      replace hx0 := (HB.out.cell (World.block_lt_of_cell? w _ hx0)).trans hx0
      replace hx1 := (HB.out.cell (World.block_lt_of_cell? w _ hx1)).trans hx1
      generalize hxe : rd_T31 l0 (j : Int) = x at hx0 hx1
      have HXE := Aside0.mk hxe
      clear hxe
      have HX2 := HX.out.symm.trans ((congrArg (idxN s j) (drop_T31 l0 j hlt)).trans (congrArg (fun y => idxN s j (y :: l0.drop (j + 1))) HXE.out))
      replace HX2 : idxN s 0 l0 = if (x.f0.toList == s.toList) = true then (j : Int) else idxN s (j + 1) (l0.drop (j + 1)) := HX2
      by_cases hp : (x.f0.toList == s.toList) = true
      · have cb : (x.f0.toList == s.toList) = true := hp
        have E1 : Aside0 ((idxN s 0 l0) = (j : Int)) := ⟨by rw [HX2, if_pos hp]⟩
        clear hp
        go_wp2_with (go_at_call 34; refine (named1_calls g s x _ (blk_below BK.out HB.out)).mono ?_; rintro e w2 ⟨rfl, hb⟩; have n0_ := Aside0.mk (below_step HB.out hb); clear HB hb; have HB := n0_; clear n0_; rw [cb])
        go_ret
        exact ⟨by rw [E1.out]; rfl, HB.out⟩
      · have cb : (x.f0.toList == s.toList) = false := Bool.eq_false_iff.mpr hp
        have HX3 : Aside0 (idxN s (j + 1) (l0.drop (j + 1)) = idxN s 0 l0) := ⟨by rw [HX2, if_neg hp]⟩
        clear hp HX
        go_wp2_with (go_at_call 34; refine (named1_calls g s x _ (blk_below BK.out HB.out)).mono ?_; rintro e w2 ⟨rfl, hb⟩; have n0_ := Aside0.mk (below_step HB.out hb); clear HB hb; have HB := n0_; clear n0_; rw [cb])
        go_roundg kk
        case measure => omega
        case rel => exact ⟨j + 1, by rw [show wrap64 ((j : Int) + 1) = ((j + 1 : Nat) : Int) by have := HM.out; unfold wrap64; omega], ⟨by have := HJ.out; omega⟩, HX3, HB⟩
set_option maxHeartbeats 4000000 in
set_option maxRecDepth 100000 in
theorem index23 (k : Nat) (g : Nat) (n r : Int) (A0 : Option Addr) (c0 : Nat) (l0 : List S31) (w : World) (hr0 : Kd.C k31 w A0 l0.length l0) (hh : w.heap[g]? = some (.cells #[.int .i64 n] 3 (0, 0))) (hx : idxS k n 0 l0 = some r) :
    Calls Tryd.prog 22 #[.slice A0 l0.length c0, .func (.func 23) #[] #[.pointer (some ⟨g, 0, none⟩)]] w fun e w' => e = .returned (.int .i64 r) ∧ Below w.heap.size w w' := by
  have HR := Aside0.mk hr0
  have BK := Aside0.mk hh
  have HB := Aside0.mk (Below.refl w.heap.size w)
  have HM := Aside0.mk (Kd.C_max hr0)
  have HX0 := Aside0.mk hx
  clear hx
  clear hr0 hh
  go_enter Tryd.func22, Tryd.ntmps22
  go_wp2
  go_loopg [8] l0.length (fun kq v w' => ∃ (j : Nat), v = .int .i64 j ∧ Aside0 (j + kq = l0.length) ∧ Aside0 (idxS k n j (l0.drop j) = some r) ∧ Aside0 (Below w.heap.size w w'))
  case atStart => exact ⟨0, rfl, ⟨by omega⟩, HX0, HB⟩
  case round =>
    clear HB
    obtain ⟨j, rfl, HJ, HX, HB⟩ := hrel
    cases gk with
    | zero =>
      have c : decide ((j : Int) < (l0.length : Int)) = false := decide_eq_false (by have := HJ.out; omega)
      have hj : j = l0.length := by have := HJ.out; omega
      have e1 : r = -1 := by have h1 := HX.out; rw [hj, List.drop_length] at h1; exact (Option.some.inj h1).symm
      have E1 := Aside0.mk e1
      clear e1
      go_wp2
      go_ret
      exact ⟨by rw [E1.out]; rfl, HB.out⟩
    | succ kk =>
      have hlt : j < l0.length := by have := HJ.out; omega
      have c : decide ((j : Int) < (l0.length : Int)) = true := decide_eq_true (by omega)
      obtain ⟨ad, e, hx0, hx1⟩ := at_T31 HR.out (j : Int) (by omega) (by omega)
      cases e
      rw [Int.toNat_natCast] at hx0 hx1
      replace hx0 := (HB.out.cell (World.block_lt_of_cell? w _ hx0)).trans hx0
      replace hx1 := (HB.out.cell (World.block_lt_of_cell? w _ hx1)).trans hx1
      generalize hxe : rd_T31 l0 (j : Int) = x at hx0 hx1
      have HXE := Aside0.mk hxe
      clear hxe
      have HX2 := (congrArg (fun y => idxS k n j (y :: l0.drop (j + 1))) HXE.out).symm.trans ((congrArg (idxS k n j) (drop_T31 l0 j hlt)).symm.trans HX.out)
      obtain ⟨⟨t1, t2, t3, t4, t5⟩, hf, HX2⟩ := Option.bind_eq_some_iff.mp HX2
      replace HX2 : (if decide (n < t4) = true then some (j : Int) else idxS k n (j + 1) (l0.drop (j + 1))) = some r := HX2
      have HF := Aside0.mk hf
      clear hf
      by_cases hp : decide (n < t4) = true
      · have cb : (decide (n < t4)) = true := hp
        have E1 : Aside0 (r = (j : Int)) := ⟨by rw [if_pos hp] at HX2; exact (Option.some.inj HX2).symm⟩
        clear hp
        go_wp2_with (go_at_call 23; refine (set1_calls k g n x t1 t3 t2 t4 t5 _ (blk_below BK.out HB.out) HF.out).mono ?_; rintro e w2 ⟨rfl, hb⟩; have n0_ := Aside0.mk (below_step HB.out hb); clear HB hb; have HB := n0_; clear n0_; rw [cb])
        go_ret
        exact ⟨by rw [E1.out]; rfl, HB.out⟩
      · have cb : (decide (n < t4)) = false := Bool.eq_false_iff.mpr hp
        have HX3 : Aside0 (idxS k n (j + 1) (l0.drop (j + 1)) = some r) := ⟨by rw [if_neg hp] at HX2; exact HX2⟩
        clear hp HX
        go_wp2_with (go_at_call 23; refine (set1_calls k g n x t1 t3 t2 t4 t5 _ (blk_below BK.out HB.out) HF.out).mono ?_; rintro e w2 ⟨rfl, hb⟩; have n0_ := Aside0.mk (below_step HB.out hb); clear HB hb; have HB := n0_; clear n0_; rw [cb])
        go_roundg kk
        case measure => omega
        case rel => exact ⟨j + 1, by rw [show wrap64 ((j : Int) + 1) = ((j + 1 : Nat) : Int) by have := HM.out; unfold wrap64; omega], ⟨by have := HJ.out; omega⟩, HX3, HB⟩
theorem Kd.R_tail {α : Type} {d : Kd α} {e base g n cap : Nat} {ok : Nat → Prop} {W : World} {xs : List α} (h : d.R e W base ok (.slice (some ⟨g, 0, none⟩) n cap) xs) (off : Nat) (seg : List Value) (h0 : n * d.sz ≤ off) (h1 : off + seg.length ≤ cap * d.sz) :
    d.R e (W.setCells g off seg) base ok (.slice (some ⟨g, 0, none⟩) n cap) xs ∧ W.grownBy (W.setCells g off seg) (some g) := by
  obtain ⟨hn, hnc, _⟩ := Kd.R_reads' h
  obtain ⟨hok, inner, ho, hr⟩ := h
  obtain ⟨ho1, ho2⟩ := ho
  rcases ho2 with ⟨hv, _⟩ | ⟨g', cap', cur, hv, hb, hh, hnc', hcm, hcs, ht⟩
  · cases hv
  injection hv with ha _ hc
  injection ha with ha
  injection ha with hg
  subst hg; subst hc
  obtain ⟨cur', h3, h4, h5⟩ := setCells_row seg off W cur hh (by omega)
  obtain ⟨s1, s2, s3, s4⟩ := setCells_same g seg off W
  have hfar : ∀ k, k ≠ g → (W.setCells g off seg).heap[k]? = W.heap[k]? := fun k hk => setCells_far seg _ k hk
  have hgo : some g = (Value.slice (some ⟨g, 0, none⟩) n cap).ownBlock := by simp [Value.ownBlock]
  refine ⟨⟨hok, inner, ⟨ho1, .inr ⟨g, cap, cur', by rw [hn], hb, h3, hnc', hcm, by rw [h4, hcs], ?_⟩⟩, hr.imp_ (fun _ _ hp => d.M_move (fun k hk => hfar k (fun he => hk.2 (by rw [he]; exact hgo))) hp)⟩, ⟨s1, s2, s3, by rw [s4]; exact Nat.le_refl _, fun k _ hk => hfar k (fun he => hk (by rw [he]))⟩⟩
  rw [h5, ← ht, ← hn, List.append_assoc, List.take_append_of_le_length (by rw [List.length_take, Array.length_toList]; omega), List.take_take, Nat.min_eq_left h0]
theorem run_clear_any {P : Program} {W : World} {g e : Nat} {cur : Array Value} (t ty : TypeId) (z : Value) (ht : P.underlying t = some (.slice e)) (hv : ∀ w, (zeroValue e).run P w = .ok z w) (h1 : ∀ q ∈ z.cells.toList, q.oneCell' = true)
    (hh : W.heap[g]? = some (.cells cur e (0, 0))) (o n c : Nat) (hn : 0 < n) (hfit : o + n * z.cells.size ≤ cur.size) :
    (Builtin.clear_ #[t] ty #[.slice (some ⟨g, o, none⟩) n c]).run P W = .ok (.tuple #[]) (W.setCells g o (Builtin.zeroCells z.cells n).toList) := by
  have hz : ∀ q ∈ (Builtin.zeroCells z.cells n).toList, q.oneCell' = true := by
    intro q hq
    simp [Builtin.zeroCells] at hq
    obtain ⟨i, hi, rfl⟩ := hq
    have hs : 0 < z.cells.size := Nat.pos_of_ne_zero (fun h => by rw [h] at hi; omega)
    rw [getElem!_pos z.cells (i % z.cells.size) (Nat.mod_lt _ hs)]
    exact h1 _ (Array.getElem_mem_toList _)
  have hst := run_storeCells_cells (P := P) g o (Builtin.zeroCells z.cells n).toList 0 W (fun j hj => by rw [cell_of_row W g _ cur e (0, 0) hh]; rw [Array.length_toList, size_zeroCells] at hj; simp; omega) (fun j _ => blk_frozen hh _) hz
  simp only [Nat.add_zero] at hst
  obtain ⟨m, rfl⟩ : ∃ m, n = m + 1 := ⟨n - 1, by omega⟩
  simp [Builtin.clear_, run_underlying ht, hv, hst]
def keepN (s : ByteArray) (l : List S31) : List S31 := l.filter fun x => !(x.f0.toList == s.toList)
theorem idxN_spec (s : ByteArray) : ∀ (l : List S31) (i : Nat), (idxN s i l = -1 ∧ keepN s l = l) ∨ ∃ j, idxN s i l = ((i + j : Nat) : Int) ∧ j < l.length ∧ keepN s (l.take (j + 1)) = l.take j
  | [], i => .inl ⟨rfl, rfl⟩
  | x :: t, i => by
    by_cases hp : (x.f0.toList == s.toList) = true
    · refine .inr ⟨0, ?_, by simp, ?_⟩
      · show (if (x.f0.toList == s.toList) = true then (i : Int) else idxN s (i + 1) t) = _
        rw [if_pos hp, Nat.add_zero]
      · simp [keepN, hp]
    · have hpf : (x.f0.toList == s.toList) = false := Bool.eq_false_iff.mpr hp
      rcases idxN_spec s t (i + 1) with ⟨h1, h2⟩ | ⟨j, h1, h2, h3⟩
      · refine .inl ⟨?_, ?_⟩
        · show (if (x.f0.toList == s.toList) = true then (i : Int) else idxN s (i + 1) t) = _
          rw [if_neg hp, h1]
        · unfold keepN at h2 ⊢
          rw [List.filter_cons, hpf, h2]
          rfl
      · refine .inr ⟨j + 1, ?_, by simpa using h2, ?_⟩
        · show (if (x.f0.toList == s.toList) = true then (i : Int) else idxN s (i + 1) t) = _
          rw [if_neg hp, h1, show i + 1 + j = i + (j + 1) by omega]
        · unfold keepN at h3 ⊢
          rw [List.take_succ_cons, List.filter_cons, hpf, h3]
          rfl
theorem keepN_take (s : ByteArray) (l : List S31) (j : Nat) (h : j < l.length) : keepN s (l.take (j + 1)) = keepN s (l.take j) ++ (if ((rd_T31 l (j : Int)).f0.toList == s.toList) = true then [] else [rd_T31 l (j : Int)]) := by
  have e1 : l.take (j + 1) = l.take j ++ [rd_T31 l (j : Int)] := by
    rw [List.take_succ_eq_append_getElem h]
    show _ = _ ++ [l.getD ((j : Int).toNat) z31]
    rw [Int.toNat_natCast, List.getD_eq_getElem?_getD, List.getElem?_eq_getElem h]
    rfl
  rw [e1]
  unfold keepN
  rw [List.filter_append]
  congr 1
  by_cases hp : ((rd_T31 l (j : Int)).f0.toList == s.toList) = true
  · rw [if_pos hp]; simp [hp]
  · rw [if_neg hp]; simp [Bool.eq_false_iff.mpr hp]
theorem wpList_store_run {P : Program} {ops : Array Oper} {rest : List Oper} {o : Oper} {a : Act} {Q : Exit → Act → World → Prop} {W : World} (hN : o.dst = none) (hgd : o.guard = none) (t : TypeId) (p x : Operand) (ho : o.op = .store t p x) (A : Addr) (u : Value) (Wd : World)
    (haddr : a.eval p = .pointer (some A)) (hx : a.eval x = u) (hrun : (Instr.storeAt t (.pointer (some A)) u).run P W = .ok () Wd) (h : wpList P ops Q rest a Wd) : wpList P ops Q (o :: rest) a W := by
  refine wpList_plain hgd fun K hK => ?_
  unfold Oper.wp execOp
  simp only [ho, haddr, hx, Sem.run_bind, Sem.run_pure, Result.andThen_ok, hrun]
  show K (a.put o.dst undef) _
  rw [hN]
  exact hK a _ h
theorem gby_trans {a w w' : World} {row : Option Nat} (h : a.grownBy w row) (k : w.grownBy w' row) : a.grownBy w' row := ⟨k.os.trans h.os, k.tape.trans h.tape, k.output.trans h.output, Nat.le_trans h.size k.size, fun i hi hr => (k.block i (Nat.lt_of_lt_of_le hi h.size) hr).trans (h.block i hi hr)⟩
theorem gby_alloc {a w : World} {row : Option Nat} (h : a.grownBy w row) (o : Obj) : a.grownBy (w.alloc o) row := gby_trans h (World.grownBy_alloc w o row)
theorem gby_below {a w w' : World} {row : Option Nat} (h : a.grownBy w row) (hb : Below w.heap.size w w') : a.grownBy w' row := gby_trans h (grown_of_below hb row)
set_option maxHeartbeats 4000000 in
set_option maxRecDepth 100000 in
theorem delete_calls (g : Nat) (s : ByteArray) (A : Option Addr) (c0 : Nat) (l0 : List S31) (w0 w : World) (ok : Nat → Prop) (hB : Below w0.heap.size w0 w) (hR : Kd.R k31 31 w w0.heap.size ok (.slice A l0.length c0) l0) (hh : w.heap[g]? = some (.cells #[.string s] 9 (0, 0))) :
    Calls Tryd.prog 19 #[.slice A l0.length c0, .func (.func 34) #[] #[.pointer (some ⟨g, 0, none⟩)]] w fun e w' => e = .returned (.slice A (keepN s l0).length c0) ∧ Kd.R k31 31 w' w0.heap.size ok (.slice A (keepN s l0).length c0) (keepN s l0) ∧ Below w0.heap.size w0 w' ∧ w.grownBy w' (Value.slice A l0.length c0).ownBlock := by
  have hmax : l0.length ≤ 9223372036854775807 := Kd.C_max (Kd.R_reads' hR).2.2
  have hcap : l0.length ≤ c0 := (Kd.R_reads' hR).2.1
  have HC := Aside0.mk (Kd.R_reads' hR).2.2
  rcases idxN_spec s l0 0 with ⟨e1, e2⟩ | ⟨i0, e1, hi0, e2⟩
  · rw [e2]
    have HB := Aside0.mk hB
    have HR := Aside0.mk hR
    have BK := Aside0.mk hh
    clear hB hR hh e2 hcap hmax
    go_enter Tryd.func19, Tryd.ntmps19
    go_wp2_with (go_at_call 22; refine (index34 g s A c0 l0 _ HC.out BK.out).mono ?_; rintro e w2 ⟨rfl, hb⟩; rw [e1]; have n0_ := Aside0.mk hb; clear hb)
    go_ret
    exact ⟨rfl, Kd.R_below HR.out n0_.out, below_step HB.out n0_.out, grown_of_below n0_.out _⟩
  · rw [Nat.zero_add] at e1
    obtain ⟨gA, cap, hv, hbg, hgl, cells, hcells⟩ := Kd.R_form hR (by omega)
    injection hv with hA _ hc
    subst hc
    obtain ⟨ad, hA2, had⟩ : ∃ ad, A = some ad ∧ ad = (⟨gA, 0, none⟩ : Addr) := ⟨_, hA, rfl⟩
    clear hA
    subst hA2
    have hne : g ≠ gA := by
      rintro rfl
      rw [hh] at hcells
      simp at hcells
    have hrow : (Value.slice (some ad) l0.length c0).ownBlock = some gA := by rw [had]; simp [Value.ownBlock]
    rw [hrow]
    have HN := Aside0.mk hne
    have HAD := Aside0.mk had
    have HB := Aside0.mk hB
    have HR := Aside0.mk hR
    have BK := Aside0.mk hh
    have HI := Aside0.mk hi0
    have HE := Aside0.mk e2
    have HCAP := Aside0.mk hcap
    have HM := Aside0.mk hmax
    have hb1 : ((i0 : Int) == -1) = false := beq_eq_false_iff_ne.2 (by omega)
    have hwr : IntKind.i64.wrap ((i0 : Int) + 1) = ((i0 + 1 : Nat) : Int) := by rw [G.ww64 (by omega) (by omega)]; omega
    have h0 : (0 : Int) ≤ (i0 : Int) := by omega
    clear hB hR hh e2 hcap hmax hcells hgl hrow had hi0 hne hbg
    go_enter Tryd.func19, Tryd.ntmps19
    go_upto_region 4 with (go_at_call 22; refine (index34 g s (some ad) c0 l0 _ HC.out BK.out).mono ?_; rintro e w2 ⟨rfl, hb⟩; rw [e1]; have n0_ := Aside0.mk (Kd.R_below HR.out hb); have n1_ := Aside0.mk (below_step HB.out hb); have GB := Aside0.mk (grown_of_below hb (some gA)); clear HR HB hb HC; have HR := n0_; have HB := n1_; clear n0_ n1_)
    have BK := Aside0.mk (blk_grown BK.out GB.out (by simpa using HN.out))
    go_wp2
    go_loopg [5, 6] (l0.length - (i0 + 1)) (fun kq v5 v6 w' => ∃ (i j : Nat) (xs : List S31), v5 = .int .i64 i ∧ v6 = .int .i64 j ∧ Aside0 (j + kq = l0.length ∧ i < j) ∧ Aside0 (xs.length = l0.length ∧ xs.drop j = l0.drop j ∧ xs.take i = keepN s (l0.take j)) ∧ Aside0 (Kd.R k31 31 w' w0.heap.size ok (.slice (some ad) l0.length c0) xs) ∧ Aside0 (Below w0.heap.size w0 w') ∧ Aside0 (w.grownBy w' (some gA)) ∧ Aside0 (w'.heap[g]? = some (.cells #[.string s] 9 (0, 0))))
    case atStart => exact ⟨i0, i0 + 1, l0, rfl, rfl, ⟨by have := HI.out; omega⟩, ⟨rfl, rfl, HE.out.symm⟩, HR, HB, GB, BK⟩
    case round =>
      clear HB HR GB BK hwr hb1 h0
      obtain ⟨i, j, xs, rfl, rfl, HJ, HX, HR, HB, GB, BK⟩ := hrel
      cases gk with
      | zero =>
        have c : decide ((j : Int) < (l0.length : Int)) = false := decide_eq_false (by have := HJ.out.1; omega)
        have c' : (j < l0.length) = False := eq_false (by have := HJ.out.1; omega)
        have hi : i < l0.length := by have := HJ.out; omega
        have h0 : (0 : Int) ≤ (i : Int) := by omega
        have hfin : keepN s l0 = xs.take i := by
          have h1 := HX.out.2.2
          rw [show j = l0.length by have := HJ.out.1; omega, List.take_length] at h1
          exact h1.symm
        have hlen : (keepN s l0).length = i := by rw [hfin, List.length_take]; have := HX.out.1; omega
        have hsl1 : ∀ W, (Instr.slice 23 (.slice (some ad) l0.length c0) (some (.int .i64 (i : Int))) none none).run Tryd.prog W = .ok (.slice (some (ad.add (i * 2))) (l0.length - i) (c0 - i)) W := fun W => by
          obtain ⟨i0_, hi0_, _, hs_, _⟩ := info_parts info31
          have h1 := cut_from 23 31 .i64 Tryd.underlying23 hi0_ 2 hs_ (some ad) l0.length c0 (i : Int) h0 (by omega) W
          rw [Int.toNat_natCast, if_neg (by have := HCAP.out; omega)] at h1
          exact h1
        have hsl2 : ∀ W, (Instr.slice 23 (.slice (some ad) l0.length c0) none (some (.int .i64 (i : Int))) none).run Tryd.prog W = .ok (.slice (some ad) i c0) W := fun W => by
          obtain ⟨i0_, hi0_, _, hs_, _⟩ := info_parts info31
          have h1 := cut_to 23 31 .i64 Tryd.underlying23 hi0_ (some ad) l0.length c0 (i : Int) h0 (by omega) HCAP.out W
          rw [Int.toNat_natCast] at h1
          exact h1
        have hR1 := Kd.R_take HR.out (m := i) (by have := HX.out.1; omega)
        obtain ⟨cur, hcur, hcsz⟩ : ∃ cur : Array Value, wr.heap[gA]? = some (.cells cur 31 (0, 0)) ∧ cur.size = c0 * 2 := by
          obtain ⟨_, inner, hown, _⟩ := HR.out
          rcases hown.2 with ⟨hv, _⟩ | ⟨g', cap', cur, hv, _, hh, _, _, hcs, _⟩
          · cases hv
          · injection hv with ha _ hc
            injection ha with ha
            rw [HAD.out] at ha
            injection ha with hg
            subst hg; subst hc
            exact ⟨cur, hh, hcs⟩
        have hcl : ∀ ty, (Builtin.clear_ #[23] ty #[.slice (some (ad.add (i * 2))) (l0.length - i) (c0 - i)]).run Tryd.prog wr = .ok (.tuple #[]) (wr.setCells gA (i * 2) (Builtin.zeroCells #[.string ⟨#[]⟩, .string ⟨#[]⟩] (l0.length - i)).toList) := fun ty => by
          rw [HAD.out, add_plain]
          exact run_clear_any 23 ty (.agg #[.string ⟨#[]⟩, .string ⟨#[]⟩]) Tryd.underlying23 (fun w => by obtain ⟨i0_, hi0_, hz_, _⟩ := info_parts info31; simp [zeroValue, typeInfo, hi0_, hz_, go_sem]) (by decide) hcur (i * 2) _ _ (by omega) (by show i * 2 + (l0.length - i) * 2 ≤ cur.size; have := HCAP.out; omega)
        obtain ⟨hR2, hG2⟩ := Kd.R_tail (HAD.out ▸ hR1) (i * 2) (Builtin.zeroCells #[.string ⟨#[]⟩, .string ⟨#[]⟩] (l0.length - i)).toList (Nat.le_refl _) (by rw [Array.length_toList, size_zeroCells]; show i * 2 + (l0.length - i) * 2 ≤ c0 * 2; have := HCAP.out; omega)
        have HR2 := Aside0.mk hR2
        have HG2 := Aside0.mk hG2
        have HLEN := Aside0.mk hlen
        have HFIN := Aside0.mk hfin
        have HB2 : Aside0 (gA = gA ∧ w0.heap.size ≤ gA) := ⟨rfl, Kd.R_base HR.out gA (by rw [HAD.out]; simp [Value.ownBlock])⟩
        clear hR2 hG2 hR1 hcur hcsz hlen hfin HR BK
        go_wp2
        go_ret
        refine ⟨by rw [HLEN.out]; rfl, ?_, pw_below_grown HB.out (some gA) ?_ HG2.out ?_, gby_trans GB.out HG2.out⟩
        · rw [HLEN.out, HFIN.out, HAD.out]
          exact HR2.out
        · exact below_size HB.out
        · intro k hk
          injection hk with hk
          rw [← hk]
          exact HB2.out.2
      | succ kk =>
        have hlt : j < l0.length := by have := HJ.out.1; omega
        have c : decide ((j : Int) < (l0.length : Int)) = true := decide_eq_true (by omega)
        obtain ⟨ad', e, hx0, hx1⟩ := at_T31 (Kd.R_reads' HR.out).2.2 (j : Int) (by omega) (by have := HX.out.1; omega)
        cases e
        rw [Int.toNat_natCast] at hx0 hx1
        have hxj : rd_T31 xs (j : Int) = rd_T31 l0 (j : Int) := by
          have h1 := drop_T31 xs j (by have := HX.out.1; omega)
          rw [HX.out.2.1, drop_T31 l0 j hlt] at h1
          exact (List.cons.inj h1).1.symm
        rw [hxj] at hx0 hx1
        generalize hxe : rd_T31 l0 (j : Int) = x at hx0 hx1
        have HXE := Aside0.mk hxe
        clear hxe hxj
        go_upto_region 8 with (fail)
        have x1 := blk_alloc BK.out (Obj.cells #[Value.string x.f0, Value.string x.f1] 31)
        have x2 := blk_new wr (Obj.cells #[Value.string x.f0, Value.string x.f1] 31)
        have x3 := below_alloc HB.out (Obj.cells #[Value.string x.f0, Value.string x.f1] 31)
        have x4 := Kd.R_alloc HR.out (Obj.cells #[Value.string x.f0, Value.string x.f1] 31)
        have x5 := gby_alloc GB.out (Obj.cells #[Value.string x.f0, Value.string x.f1] 31)
        obtain ⟨gv, hgv⟩ : ∃ gv, wr.heap.size = gv := ⟨_, rfl⟩
        rw [hgv] at x2 ⊢
        generalize (wr.alloc (Obj.cells #[Value.string x.f0, Value.string x.f1] 31)) = w3 at x1 x2 x3 x4 x5 ⊢
        clear HB HR GB BK hgv hx0 hx1
        have BK := Aside0.mk x1
        have HB := Aside0.mk x3
        have HR := Aside0.mk x4
        have GB := Aside0.mk x5
        have BX := Aside0.mk x2
        have z0 := (blk_cell BX.out 0).trans (show _ = some (Value.string x.f0) from rfl)
        have z1 := (blk_cell BX.out 1).trans (show _ = some (Value.string x.f1) from rfl)
        clear x1 x2 x3 x4 x5
        have HX3 := keepN_take s l0 j hlt
        rw [HXE.out] at HX3
        by_cases hp : (x.f0.toList == s.toList) = true
        · rw [if_pos hp, List.append_nil] at HX3
          have HX4 := Aside0.mk HX3
          clear HX3
          go_wp2_with (go_at_call 34; refine (named1_calls g s x _ BK.out).mono ?_; rintro e w4 ⟨rfl, hb⟩; rw [hp]; have n0_ := Aside0.mk (Kd.R_below HR.out hb); have n1_ := Aside0.mk (below_step HB.out hb); have n2_ := Aside0.mk (gby_below GB.out hb); have n3_ := Aside0.mk (blk_below BK.out hb); clear HR HB GB BK hb z0 z1; have HR := n0_; have HB := n1_; have GB := n2_; have BK := n3_; clear n0_ n1_ n2_ n3_)
          go_roundg kk
          case measure => omega
          case rel =>
            refine ⟨i, j + 1, xs, rfl, by rw [show wrap64 ((j : Int) + 1) = ((j + 1 : Nat) : Int) by have := HM.out; unfold wrap64; omega], ⟨by have := HJ.out; omega⟩, ⟨HX.out.1, ?_, by rw [HX4.out]; exact HX.out.2.2⟩, HR, HB, GB, BK⟩
            have h1 := HX.out.2.1
            rw [← List.tail_drop, ← List.tail_drop, h1]
        · have hpf : (x.f0.toList == s.toList) = false := Bool.eq_false_iff.mpr hp
          rw [if_neg hp] at HX3
          have HX4 := Aside0.mk HX3
          clear HX3
          go_upto_region 9 with (go_at_call 34; refine (named1_calls g s x _ BK.out).mono ?_; rintro e w4 ⟨rfl, hb⟩; rw [hpf]; have n0_ := Aside0.mk (Kd.R_below HR.out hb); have n1_ := Aside0.mk (below_step HB.out hb); have n2_ := Aside0.mk (gby_below GB.out hb); have n3_ := Aside0.mk (blk_below BK.out hb); have n4_ := Aside0.mk (blk_below BX.out hb); clear HR HB GB BK BX hb z0 z1; have HR := n0_; have HB := n1_; have GB := n2_; have BK := n3_; have BX := n4_; clear n0_ n1_ n2_ n3_ n4_)
          have hil : i < l0.length := by have := HJ.out; omega
          have h0 : (0 : Int) ≤ (i : Int) := by omega
          have c3 : decide ((i : Int) < (l0.length : Int)) = true := decide_eq_true (by omega)
          have z0 := (blk_cell BX.out 0).trans (show _ = some (Value.string x.f0) from rfl)
          have z1 := (blk_cell BX.out 1).trans (show _ = some (Value.string x.f1) from rfl)
          have hRA := HR.out
          rw [HAD.out] at hRA
          obtain ⟨ce, hcel, _, hcc, _⟩ := Kd.R_elem hRA z31 (i : Int) h0 (by omega)
          obtain ⟨hR3, hG3⟩ := Kd.R_seg (okp := fun _ => False) hRA (i : Int) h0 (by omega) (j := 0) (seg := [.string x.f0, .string x.f1]) hcel hcc (Nat.le_refl _) (x' := x) (by
            have h9 : ce.drop (0 + [Value.string x.f0, Value.string x.f1].length) = [] := List.drop_eq_nil_of_le (by rw [hcel]; exact Nat.le_refl _)
            rw [h9]
            exact k31_mkM _ _ _ x) (fun _ h => h.elim)
          rw [Int.toNat_natCast] at hR3 hG3
          obtain ⟨cur, hcur, hcsz⟩ : ∃ cur : Array Value, w4.heap[gA]? = some (.cells cur 31 (0, 0)) ∧ cur.size = c0 * 2 := by
            obtain ⟨_, inner, hown, _⟩ := HR.out
            rcases hown.2 with ⟨hv, _⟩ | ⟨g', cap', cur, hv, _, hh, _, _, hcs, _⟩
            · cases hv
            · injection hv with ha _ hc
              injection ha with ha
              rw [HAD.out] at ha
              injection ha with hg
              subst hg; subst hc
              exact ⟨cur, hh, hcs⟩
          have hst : (Instr.storeAt 31 (.pointer (some (ad.add (i * 2)))) (.agg #[.string x.f0, .string x.f1])).run Tryd.prog w4 = .ok () (w4.setCells gA (i * 2) [.string x.f0, .string x.f1]) := by
            rw [HAD.out, add_plain]
            exact run_store_run 31 _ _ hcur rfl (by kernel_rfl) (by have := HCAP.out; simp only [List.length_cons, List.length_nil]; omega) (by intro q hq; simp at hq; rcases hq with rfl | rfl <;> rfl)
          have n0_ : Aside0 (Kd.R k31 31 (w4.setCells gA (i * 2) [.string x.f0, .string x.f1]) w0.heap.size ok (.slice (some ad) l0.length c0) (xs.set i x)) := ⟨by rw [HAD.out]; exact hR3⟩
          have n1_ : Aside0 (w.grownBy (w4.setCells gA (i * 2) [.string x.f0, .string x.f1]) (some gA)) := ⟨gby_trans GB.out hG3⟩
          have n2_ : Aside0 (Below w0.heap.size w0 (w4.setCells gA (i * 2) [.string x.f0, .string x.f1])) := ⟨pw_below_grown HB.out (some gA) (below_size HB.out) hG3 (fun k hk => by injection hk with hk; rw [← hk]; exact Kd.R_base hRA gA (by simp [Value.ownBlock]))⟩
          have n3_ : Aside0 ((w4.setCells gA (i * 2) [.string x.f0, .string x.f1]).heap[g]? = some (.cells #[.string s] 9 (0, 0))) := ⟨blk_grown BK.out hG3 (by simpa using HN.out)⟩
          clear HR HB GB BK BX hRA hcel hcc hR3 hG3 hcur hcsz hp hpf c
          have HR := n0_
          have HB := n2_
          have GB := n1_
          have BK := n3_
          clear n0_ n1_ n2_ n3_
          go_wp2_with (refine wpList_store_run rfl rfl 31 (.tmp 33) (.tmp 32) rfl (ad.add (i * 2)) (.agg #[.string x.f0, .string x.f1]) _ rfl rfl hst ?_)
          go_roundg kk
          case measure => omega
          case rel =>
            refine ⟨i + 1, j + 1, xs.set i x, by rw [show wrap64 ((i : Int) + 1) = ((i + 1 : Nat) : Int) by have := HM.out; unfold wrap64; omega], by rw [show wrap64 ((j : Int) + 1) = ((j + 1 : Nat) : Int) by have := HM.out; unfold wrap64; omega], ⟨by have := HJ.out; omega⟩, ⟨by rw [List.length_set]; exact HX.out.1, ?_, ?_⟩, HR, HB, GB, BK⟩
            · have h1 := HX.out.2.1
              rw [List.drop_set_of_lt (by have := HJ.out; omega), ← List.tail_drop, ← List.tail_drop, h1]
            · have hxl := HX.out.1
              rw [HX4.out, ← HX.out.2.2, List.take_succ_eq_append_getElem (by rw [List.length_set]; omega), List.take_set_of_le (Nat.le_refl _), List.getElem_set_self]
theorem named_calls2 (s : ByteArray) (w : World) :
    Calls Tryd.prog 21 #[.string s] w fun e w' => e = .returned (.func (.func 34) #[] #[.pointer (some ⟨w.heap.size, 0, none⟩)]) ∧ w' = w.alloc (.cells #[.string s] 9) := by
  have hmf : ∀ (fn : Fn) (first cap : Array Value) (w : World), (Instr.makeFunc fn first cap).run Tryd.prog w = .ok (.func fn first cap) w := fun _ _ _ _ => rfl
  go_enter Tryd.func21, Tryd.ntmps21
  go_wp2
  go_ret
  exact ⟨rfl, rfl⟩
end

end Go.Proofs.YtdobpgomgnaleaaDoor.P
