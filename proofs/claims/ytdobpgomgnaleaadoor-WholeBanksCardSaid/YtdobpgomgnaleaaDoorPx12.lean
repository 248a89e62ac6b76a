/- The machine's side: functions of the translation as plain Lean functions, and that the machine's calls come to what they say. No condition. Written by a program (wip/tools/pp.py over the kit's printer); Lean checks it. -/
import Derived.Test.YtdobpgomgnaleaaDoorPx0
import Derived.Test.YtdobpgomgnaleaaDoorPx3
import Derived.Test.YtdobpgomgnaleaaDoorPx4
import Derived.Test.YtdobpgomgnaleaaDoorPx6
import Derived.Test.YtdobpgomgnaleaaDoorPx7
namespace Go.Proofs.YtdobpgomgnaleaaDoor.P
open Go.RowKit Go.Proofs.YtdobpgomgnaleaaDoorW.PrintWords Go.Proofs.YtdobpgomgnaleaaDoorW.PrintLast Go.Proofs.YtdobpgomgnaleaaDoorW.PrintMore
attribute [local go_sem] max2_int min2_int max_two min_two max_three min_three max_four min_four   -- for this text's walks alone
set_option linter.unusedVariables false
set_option linter.unusedSimpArgs false

/-! ### vars_Names: function 11 -/
def vars_Names.l0 : Nat → List ByteArray → List (S50) → Int → Int → Option (List ByteArray)
  | 0, _, _, _, _ => none
  | k + 1, x1, x4, x5, x6 => if x6 < x5 then (if 0 ≤ x6 then (if x6 < (x4.length : Int) then (if x1.length < 8796093022208 then (vars_Names.l0 k (x1 ++ [(rd_T50 x4 x6).f0]) x4 x5 (wrap64 (x6 + 1))) else (none)) else (none)) else (none)) else (some x1)
def vars_Names.f (k : Nat)  : Option (List ByteArray) := (vars_all.f).bind fun t208 => (vars_Names.l0 k ([] : List ByteArray) t208 (t208.length : Int) 0)
theorem vars_Names.mono_l : ∀ k, (∀ y0 y1 y2 y3, LeO (vars_Names.l0 k y0 y1 y2 y3) (vars_Names.l0 (k + 1) y0 y1 y2 y3))
  | 0 => fun _ _ _ _ r h => by simp [vars_Names.l0] at h
  | k + 1 => by
    have ih0 := vars_Names.mono_l k
    · intro y0 y1 y2 y3
      unfold vars_Names.l0
      repeat' first
      | (with_reducible exact ih0 _ _ _ _)
      | (with_reducible exact LeO.refl _)
      | (with_reducible exact LeO.none _)
      | (with_reducible refine LeO.ite ?_ ?_)
      | (with_reducible refine LeO.bind ?_ (fun _ => ?_))
      | exact ih0 _ _ _ _
      | exact LeO.none _
      | refine LeO.ite ?_ ?_
      | refine LeO.bind ?_ (fun _ => ?_)
theorem vars_Names.mono : ∀ k, LeO (vars_Names.f k ) (vars_Names.f (k + 1) ) := by
  intro  k
  have ih0 := vars_Names.mono_l k
  unfold vars_Names.f
  repeat' first
      | (with_reducible exact ih0 _ _ _ _)
      | (with_reducible exact LeO.refl _)
      | (with_reducible exact LeO.none _)
      | (with_reducible refine LeO.ite ?_ ?_)
      | (with_reducible refine LeO.bind ?_ (fun _ => ?_))
      | exact ih0 _ _ _ _
      | exact LeO.none _
      | refine LeO.ite ?_ ?_
      | refine LeO.bind ?_ (fun _ => ?_)
set_option maxHeartbeats 8000000 in
set_option maxRecDepth 100000 in
theorem vars_Names.calls (k : Nat)  (r : List ByteArray) (w : World) (h : vars_Names.f k  = some r) :
    Calls Tryd.prog 11 #[] w fun e w' => ∃ v0_ : Value, e = .returned (v0_) ∧ Kd.R Kd.string 9 w' w.heap.size (fun _ => True) v0_ r ∧ Below w.heap.size w w' := by
  have hu50 := Tryd.underlying50
  have HB := Aside0.mk (Below.refl w.heap.size w)
  have H : ((vars_all.f).bind fun t208 => (vars_Names.l0 k ([] : List ByteArray) t208 (t208.length : Int) 0)) = some r := h
  clear h
  replace H := Option.bind_eq_some_iff.mp H
  obtain ⟨t208, A10, H⟩ := H
  replace H : (vars_Names.l0 k ([] : List ByteArray) t208 (t208.length : Int) 0) = some r := H
  have A1 := Aside0.mk A10
  clear A10
  have H' := Aside0.mk H
  clear H
  go_enter Tryd.func11, Tryd.ntmps11
  go_wp2_with (first | ((with_reducible refine gate_callee (f := 28) rfl ?_); refine goesL_ (some 4) rfl rfl Tryd.func28 (by kernel_rfl) rfl #[] rfl (by (try simp only [List.map_toArray, List.map_cons, List.map_nil]); first | done | rfl | (simp only [List.length_drop, List.length_take]; rfl)) ?_; (with_reducible refine (vars_all.calls  t208 _ A1.out).mono ?_); rintro e w2 ⟨v209, rfl, ho0, hb⟩; refine ⟨_, rfl, ?_⟩; have n0_ := Aside0.mk (Kd.R_lower ho0 (below_size (by repeat (first | (with_reducible first | exact HB.out | apply below_alloc | apply pw_below_drewN | apply below_drew1) | exact HB.out)))); have n1_ := Aside0.mk (below_step (by repeat (first | (with_reducible first | exact HB.out | apply below_alloc | apply pw_below_drewN | apply below_drew1) | exact HB.out)) hb); clear HB; have HO210 := n0_; have HB := n1_; clear n0_ n1_; (try clear hb); (try clear hb2); (try clear hk); (try clear hi); (try clear ho0); obtain ⟨Ao3, co3, eo3⟩ := Kd.R_slice HO210.out; subst eo3))
  go_loopg [1, 6] k (fun kq v1 v6 w' => ∃ (x1_1 : List ByteArray) (x6_1 : Int), v6 = .int .i64 x6_1 ∧ Aside0 (vars_Names.l0 kq x1_1 t208 (t208.length : Int) x6_1 = some r) ∧ Aside0 (kq ≤ k) ∧ Aside0 (Kd.R Kd.string 9 w' w.heap.size (fun _ => True) v1 x1_1) ∧ Aside0 (Kd.R k50 50 w' w.heap.size (fun _ => True) (.slice Ao3 t208.length co3) t208) ∧ Aside0 (Below w.heap.size w w'))
  case atStart => exact ⟨(([] : List ByteArray)), (0), (by first | rfl | (simp; done) | (simp [*]; done)), H', ⟨Nat.le_refl _⟩, ⟨by first | exact Kd.R_nil _ _ _ _ _ | exact Kd.N_nil _ _ _ _ _ | exact Kd.V_nil _ _ _ _ _ | exact Kd.Q_nil _ _ _ _ _ | exact Kd.S_nil _ _ _ _ _⟩, ⟨by (with_reducible repeat (first | apply Kd.R_alloc | apply Kd.R_drewN | apply Kd.R_drew)); exact HO210.out⟩, ⟨by repeat (first | (with_reducible first | exact HB.out | apply below_alloc | apply pw_below_drewN | apply below_drew1) | exact HB.out)⟩⟩
  case round =>
    clear H'
    try clear c1
    try clear c2
    try clear p2
    obtain ⟨x1_1, x6_1, rfl, HA, HK1, HO_1, HO_4, HB⟩ := hrel
    cases gk with
    | zero => exact absurd HA.out (by simp [vars_Names.l0])
    | succ k1 =>
      have H := HA.out
      clear HA
      simp only [vars_Names.l0] at H
      by_cases c4 : x6_1 < (t208.length : Int)
      · rw [if_pos c4] at H
        have c4b0 : decide (x6_1 < (t208.length : Int)) = true := decide_eq_true c4
        clear c4
        by_cases c5 : 0 ≤ x6_1
        · rw [if_pos c5] at H
          have c5b0 : decide (0 ≤ x6_1) = true := decide_eq_true c5
          clear c5
          by_cases c6 : x6_1 < (t208.length : Int)
          · rw [if_pos c6] at H
            have c6b0 : decide (x6_1 < (t208.length : Int)) = true := decide_eq_true c6
            clear c6
            by_cases c7 : x1_1.length < 8796093022208
            · rw [if_pos c7] at H
              have LMc7 := Aside0.mk c7
              clear c7
              obtain ⟨y213, hy213⟩ : ∃ y_ : List ByteArray, y_ = (x1_1 ++ [(rd_T50 t208 x6_1).f0]) := ⟨_, rfl⟩
              replace H : (vars_Names.l0 k1 y213 t208 (t208.length : Int) (wrap64 (x6_1 + 1))) = some r := by first | (rw [hy213]; with_reducible exact H) | (have H2_ := (Option.bind_some _ _).symm.trans H; rw [hy213]; with_reducible exact H2_) | (have H2_ := (Option.bind_some _ _).symm.trans H; with_reducible exact H2_) | with_reducible exact H | (rw [hy213]; exact H) | exact H
              have Ny213 := Aside0.mk hy213
              clear hy213
              have H' := Aside0.mk H
              clear H
              have p211 : 0 ≤ (x6_1 : Int) := of_decide_eq_true (by first | (with_reducible assumption) | assumption)
              have q211 : x6_1 < (t208.length : Int) := of_decide_eq_true (by first | (with_reducible assumption) | assumption)
              obtain ⟨ad211, e211, hx211_0, hx211_1, hx211_2⟩ := at_T50 (Kd.R_reads' HO_4.out).2.2 x6_1 p211 q211
              cases e211
              replace p211 := eq_true p211
              replace q211 := eq_true q211
              go_wp2_with (first | ((with_reducible refine gate_dst (N := 3) rfl ?_); refine box_event ?hg (N := 3) ?hd (cs := #[.string (⟨#[]⟩ : ByteArray), .int .i64 0, .string (⟨#[]⟩ : ByteArray)]) (t := 50) ?hr ?_; (case hd => rfl); (case hg => rfl); (case hr => first | (go_simp; done) | (go_simp; rfl)); intro gb212 hg w8 hbox hb; have n0_ := Aside0.mk (Kd.R_below (by (with_reducible repeat (first | apply Kd.R_alloc | apply Kd.R_drewN | apply Kd.R_drew)); exact HO_1.out) hb); have n1_ := Aside0.mk (Kd.R_below (Kd.R_elderB (by (with_reducible repeat (first | apply Kd.R_alloc | apply Kd.R_drewN | apply Kd.R_drew)); exact HO_4.out) gb212 (Nat.le_of_eq hg.symm)) hb); have n2_ := Aside0.mk (below_step (by repeat (first | (with_reducible first | exact HB.out | apply below_alloc | apply pw_below_drewN | apply below_drew1) | exact HB.out)) hb); have n3_ := Aside0.mk (hbox); have n4_ := Aside0.mk ((by rw [hg]; exact (below_size (by repeat (first | (with_reducible first | exact HB.out | apply below_alloc | apply pw_below_drewN | apply below_drew1) | exact HB.out))) : w.heap.size ≤ gb212)); have n5_ := Aside0.mk ((by rw [hg]; exact (below_size (by repeat (first | (with_reducible first | exact HB.out | apply below_alloc | apply pw_below_drewN | apply below_drew1) | exact HB.out))) : w.heap.size ≤ gb212)); clear HO_1; clear HO_4; clear HB; have HO_1 := n0_; have HO_4 := n1_; have HB := n2_; have BK212 := n3_; have GW212 := n4_; have GE212 := n5_; clear n0_ n1_ n2_ n3_ n4_ n5_; clear hb hbox hg; have hcz9_0 : w8.cell? ⟨gb212, 0, none⟩ = some (.string (⟨#[]⟩ : ByteArray)) := (blk_cell BK212.out 0).trans rfl; have hcz9_1 : w8.cell? ⟨gb212, 1, none⟩ = some (.int .i64 0) := (blk_cell BK212.out 1).trans rfl; have hcz9_2 : w8.cell? ⟨gb212, 2, none⟩ = some (.string (⟨#[]⟩ : ByteArray)) := (blk_cell BK212.out 2).trans rfl; have hfz9_0 := blk_frozen BK212.out 0; have hfz9_1 := blk_frozen BK212.out 1; have hfz9_2 := blk_frozen BK212.out 2) | ((with_reducible refine gate_builtin (b := .append) (xs := #[.tmp 10, .tmp 13]) rfl ?_); at_builtin; refine Kd.R_append Kd.string (w0 := w) w.heap.size rfl (.tmp 10) (.tmp 13) 38 9 (.string ⟨#[]⟩) 16 rfl Tryd.underlying38 info9 rfl (by decide) (by omega) u1 x1_1 ((rd_T50 t208 x6_1).f0) [.string ((rd_T50 t208 x6_1).f0)] (fun _ => True) (fun _ => False) rfl (by first | (go_simp; done) | (go_simp; rfl)) ?aP (fun _ hk => hk.elim) ?aF ?aO ?aB ?aS ?aL ?_; (case aP => exact rfl); (case aB => exact (by repeat (first | (with_reducible first | exact HB.out | apply below_alloc | apply pw_below_drewN | apply below_drew1 | refine below_set ?_ GE212.out) | exact HB.out))); (case aF => exact (fun _ _ => trivial)); (case aO => exact (by (with_reducible repeat (first | apply Kd.R_alloc | apply Kd.R_drewN | apply Kd.R_drew)); exact Kd.R_mono (Kd.R_far (p := ⟨gb212, 2, none⟩) (Kd.R_far (p := ⟨gb212, 1, none⟩) (Kd.R_far (p := ⟨gb212, 0, none⟩) (Kd.R_types HO_1.out BK212.out (by decide)) (fun _ hk => hk.2) (.string ((rd_T50 t208 x6_1).f0))) (fun _ hk => hk.2) (.int .i64 ((rd_T50 t208 x6_1).f1))) (fun _ hk => hk.2) (.string ((rd_T50 t208 x6_1).f2))) (fun _ hk => trivial))); (case aS => exact (below_size (by repeat (first | (with_reducible first | exact HB.out | apply below_alloc | apply pw_below_drewN | apply below_drew1 | refine below_set ?_ GE212.out) | exact HB.out)))); (case aL => have := LMc7.out; omega); intro v214 w10 ho hb hg hat; rw [← Ny213.out] at ho; have n0_ := Aside0.mk (Kd.R_over' (by (with_reducible repeat (first | apply Kd.R_alloc | apply Kd.R_drewN | apply Kd.R_drew)); exact (Kd.R_mono (Kd.R_far (p := ⟨gb212, 2, none⟩) (Kd.R_far (p := ⟨gb212, 1, none⟩) (Kd.R_far (p := ⟨gb212, 0, none⟩) (Kd.R_mono HO_4.out (fun k_ hk => (⟨hk, hk.2⟩ : _ ∧ k_ ≠ gb212))) (fun _ hk => hk.2) (.string ((rd_T50 t208 x6_1).f0))) (fun _ hk => hk.2) (.int .i64 ((rd_T50 t208 x6_1).f1))) (fun _ hk => hk.2) (.string ((rd_T50 t208 x6_1).f2))) (fun _ h_ => h_.1))) (Kd.R_typed (by (with_reducible repeat (first | apply Kd.R_alloc | apply Kd.R_drewN | apply Kd.R_drew)); exact (Kd.R_mono (Kd.R_far (p := ⟨gb212, 2, none⟩) (Kd.R_far (p := ⟨gb212, 1, none⟩) (Kd.R_far (p := ⟨gb212, 0, none⟩) (Kd.R_types HO_1.out BK212.out (by decide)) (fun _ hk => hk.2) (.string ((rd_T50 t208 x6_1).f0))) (fun _ hk => hk.2) (.int .i64 ((rd_T50 t208 x6_1).f1))) (fun _ hk => hk.2) (.string ((rd_T50 t208 x6_1).f2))) (fun _ h_ => h_.1)))) (by decide) hg); have n1_ := Aside0.mk (blk_grown (g := gb212) (o := .cells #[.string ((rd_T50 t208 x6_1).f0), .int .i64 ((rd_T50 t208 x6_1).f1), .string ((rd_T50 t208 x6_1).f2)] 50 (0, 0)) (by (with_reducible repeat (first | refine blk_drewN ?_ _ | refine blk_drew ?_ | refine blk_alloc ?_ _)); refine blk_put (cs := #[.string ((rd_T50 t208 x6_1).f0), .int .i64 ((rd_T50 t208 x6_1).f1), .string (⟨#[]⟩ : ByteArray)]) ?_ 2 _ rfl; (with_reducible repeat (first | refine blk_drewN ?_ _ | refine blk_drew ?_ | refine blk_alloc ?_ _)); refine blk_put (cs := #[.string ((rd_T50 t208 x6_1).f0), .int .i64 0, .string (⟨#[]⟩ : ByteArray)]) ?_ 1 _ rfl; (with_reducible repeat (first | refine blk_drewN ?_ _ | refine blk_drew ?_ | refine blk_alloc ?_ _)); refine blk_put (cs := #[.string (⟨#[]⟩ : ByteArray), .int .i64 0, .string (⟨#[]⟩ : ByteArray)]) ?_ 0 _ rfl; (with_reducible repeat (first | refine blk_drewN ?_ _ | refine blk_drew ?_ | refine blk_alloc ?_ _)); exact BK212.out) hg (Kd.R_ne HO_1.out BK212.out (by decide))); have n2_ := Aside0.mk (hb); have n3_ := Aside0.mk (ho); clear HO_4; clear BK212; clear HB; clear HO_1; have HO_4 := n0_; have BK212 := n1_; have HB := n2_; have HO215 := n3_; clear n0_ n1_ n2_ n3_; clear ho hb hg hat))
              go_roundg k1
              case measure => have := HK1.out; omega
              case rel => exact ⟨(y213), (wrap64 (x6_1 + 1)), (by first | rfl | (simp; done) | (simp [*]; done)), H', ⟨by have := HK1.out; omega⟩, ⟨by (with_reducible repeat (first | apply Kd.R_alloc | apply Kd.R_drewN | apply Kd.R_drew)); exact HO215.out⟩, ⟨by (with_reducible repeat (first | apply Kd.R_alloc | apply Kd.R_drewN | apply Kd.R_drew)); exact Kd.R_mono HO_4.out (fun _ hk => trivial)⟩, ⟨by repeat (first | (with_reducible first | exact HB.out | apply below_alloc | apply pw_below_drewN | apply below_drew1 | refine below_set ?_ GE212.out) | exact HB.out)⟩⟩
            · rw [if_neg c7] at H
              exact absurd H (by simp)
          · rw [if_neg c6] at H
            exact absurd H (by simp)
        · rw [if_neg c5] at H
          exact absurd H (by simp)
      · rw [if_neg c4] at H
        have c4b0 : decide (x6_1 < (t208.length : Int)) = false := decide_eq_false c4
        clear c4
        obtain rfl := Option.some.inj H
        go_wp2
        go_ret
        exact ⟨_, by first | rfl | (simp [errW_none, errW_some] <;> rfl) | (simp [*, errW_none, errW_some] <;> rfl), by (with_reducible repeat (first | apply Kd.R_alloc | apply Kd.R_drewN | apply Kd.R_drew)); exact HO_1.out, by repeat (first | (with_reducible first | exact HB.out | apply below_alloc | apply pw_below_drewN | apply below_drew1) | exact HB.out)⟩

/-! ### vars_Default: function 13 -/
def vars_Default.f (k : Nat) (a0 : ByteArray) : Option (ByteArray × Int) := (vars_find.f k a0).bind fun bt216 => (if bt216.2.2.2.2 = true then (some (bt216.2.2.1, 0)) else (some ((⟨#[]⟩ : ByteArray), 2)))
theorem vars_Default.mono : ∀ a0 k, LeO (vars_Default.f k a0) (vars_Default.f (k + 1) a0) := by
  intro a0 k
  unfold vars_Default.f
  repeat' first
      | (with_reducible exact vars_find.mono _ _)
      | (with_reducible exact LeO.refl _)
      | (with_reducible exact LeO.none _)
      | (with_reducible refine LeO.ite ?_ ?_)
      | (with_reducible refine LeO.bind ?_ (fun _ => ?_))
      | exact vars_find.mono _ _
      | exact LeO.none _
      | refine LeO.ite ?_ ?_
      | refine LeO.bind ?_ (fun _ => ?_)
set_option maxHeartbeats 8000000 in
set_option maxRecDepth 100000 in
theorem vars_Default.calls (k : Nat) (a0 : ByteArray) (r1 : ByteArray) (r2 : Int) (w : World) (h : vars_Default.f k a0 = some (r1, r2)) :
    Calls Tryd.prog 13 #[.string a0] w fun e w' => e = .returned (.tuple #[.string r1, .int .i64 r2]) ∧ Below w.heap.size w w' := by
  have hu50 := Tryd.underlying50
  have HB := Aside0.mk (Below.refl w.heap.size w)
  have H : ((vars_find.f k a0).bind fun bt216 => (if bt216.2.2.2.2 = true then (some (bt216.2.2.1, 0)) else (some ((⟨#[]⟩ : ByteArray), 2)))) = some (r1, r2) := h
  clear h
  replace H := Option.bind_eq_some_iff.mp H
  obtain ⟨⟨t216, t217, t218, t219, t220⟩, A20, H⟩ := H
  replace H : (if t220 = true then (some (t218, 0)) else (some ((⟨#[]⟩ : ByteArray), 2))) = some (r1, r2) := H
  have A2 := Aside0.mk A20
  clear A20
  by_cases c3 : t220 = true
  · subst c3
    have H1 : (some (t218, 0)) = some (r1, r2) := by rw [if_pos rfl] at H; exact H
    clear H
    have H := H1
    clear H1
    simp only [Option.some.injEq, Prod.mk.injEq] at H
    obtain ⟨rfl, rfl⟩ := H
    go_enter Tryd.func13, Tryd.ntmps13
    go_wp2_with (first | ((with_reducible refine gate_callee (f := 18) rfl ?_); refine goesL_ (some 9) rfl rfl Tryd.func18 (by kernel_rfl) rfl #[.string a0] rfl (by (try simp only [List.map_toArray, List.map_cons, List.map_nil]); first | done | rfl | (simp only [List.length_drop, List.length_take]; rfl)) ?_; (with_reducible refine (vars_find.calls k a0 t216 t217 t218 t219 true _ A2.out).mono ?_); rintro e w4 ⟨rfl, hb⟩; refine ⟨_, rfl, ?_⟩; have n0_ := Aside0.mk (below_step (by repeat (first | (with_reducible first | exact HB.out | apply below_alloc | apply pw_below_drewN | apply below_drew1) | exact HB.out)) hb); clear HB; have HB := n0_; clear n0_; (try clear hb); (try clear hb2); (try clear hk); (try clear hi)) | ((with_reducible refine gate_dst (N := 4) rfl ?_); refine box_event ?hg (N := 4) ?hd (cs := #[.string (⟨#[]⟩ : ByteArray), .int .i64 0, .string (⟨#[]⟩ : ByteArray)]) (t := 50) ?hr ?_; (case hd => rfl); (case hg => rfl); (case hr => first | (go_simp; done) | (go_simp; rfl)); intro gb221 hg w5 hbox hb; have n0_ := Aside0.mk (below_step (by repeat (first | (with_reducible first | exact HB.out | apply below_alloc | apply pw_below_drewN | apply below_drew1) | exact HB.out)) hb); have n1_ := Aside0.mk (hbox); have n2_ := Aside0.mk ((by rw [hg]; exact (below_size (by repeat (first | (with_reducible first | exact HB.out | apply below_alloc | apply pw_below_drewN | apply below_drew1) | exact HB.out))) : w.heap.size ≤ gb221)); have n3_ := Aside0.mk ((by rw [hg]; exact (below_size (by repeat (first | (with_reducible first | exact HB.out | apply below_alloc | apply pw_below_drewN | apply below_drew1) | exact HB.out))) : w.heap.size ≤ gb221)); clear HB; have HB := n0_; have BK221 := n1_; have GW221 := n2_; have GE221 := n3_; clear n0_ n1_ n2_ n3_; clear hb hbox hg; have hcz6_0 : w5.cell? ⟨gb221, 0, none⟩ = some (.string (⟨#[]⟩ : ByteArray)) := (blk_cell BK221.out 0).trans rfl; have hcz6_1 : w5.cell? ⟨gb221, 1, none⟩ = some (.int .i64 0) := (blk_cell BK221.out 1).trans rfl; have hcz6_2 : w5.cell? ⟨gb221, 2, none⟩ = some (.string (⟨#[]⟩ : ByteArray)) := (blk_cell BK221.out 2).trans rfl; have hfz6_0 := blk_frozen BK221.out 0; have hfz6_1 := blk_frozen BK221.out 1; have hfz6_2 := blk_frozen BK221.out 2))
    go_ret2
    exact ⟨by first | rfl | (simp [errW_none, errW_some] <;> rfl) | (simp [*, errW_none, errW_some] <;> rfl), by repeat (first | (with_reducible first | exact HB.out | apply below_alloc | apply pw_below_drewN | apply below_drew1 | refine below_set ?_ GE221.out) | exact HB.out)⟩
  · replace c3 := Bool.eq_false_iff.mpr c3
    subst c3
    have H1 : (some ((⟨#[]⟩ : ByteArray), 2)) = some (r1, r2) := by rw [if_neg (show ¬ (false = true) by decide)] at H; exact H
    clear H
    have H := H1
    clear H1
    simp only [Option.some.injEq, Prod.mk.injEq] at H
    obtain ⟨rfl, rfl⟩ := H
    go_enter Tryd.func13, Tryd.ntmps13
    go_wp2_with (first | ((with_reducible refine gate_callee (f := 18) rfl ?_); refine goesL_ (some 9) rfl rfl Tryd.func18 (by kernel_rfl) rfl #[.string a0] rfl (by (try simp only [List.map_toArray, List.map_cons, List.map_nil]); first | done | rfl | (simp only [List.length_drop, List.length_take]; rfl)) ?_; (with_reducible refine (vars_find.calls k a0 t216 t217 t218 t219 false _ A2.out).mono ?_); rintro e w7 ⟨rfl, hb⟩; refine ⟨_, rfl, ?_⟩; have n0_ := Aside0.mk (below_step (by repeat (first | (with_reducible first | exact HB.out | apply below_alloc | apply pw_below_drewN | apply below_drew1) | exact HB.out)) hb); clear HB; have HB := n0_; clear n0_; (try clear hb); (try clear hb2); (try clear hk); (try clear hi)) | ((with_reducible refine gate_dst (N := 4) rfl ?_); refine box_event ?hg (N := 4) ?hd (cs := #[.string (⟨#[]⟩ : ByteArray), .int .i64 0, .string (⟨#[]⟩ : ByteArray)]) (t := 50) ?hr ?_; (case hd => rfl); (case hg => rfl); (case hr => first | (go_simp; done) | (go_simp; rfl)); intro gb221 hg w8 hbox hb; have n0_ := Aside0.mk (below_step (by repeat (first | (with_reducible first | exact HB.out | apply below_alloc | apply pw_below_drewN | apply below_drew1) | exact HB.out)) hb); have n1_ := Aside0.mk (hbox); have n2_ := Aside0.mk ((by rw [hg]; exact (below_size (by repeat (first | (with_reducible first | exact HB.out | apply below_alloc | apply pw_below_drewN | apply below_drew1) | exact HB.out))) : w.heap.size ≤ gb221)); have n3_ := Aside0.mk ((by rw [hg]; exact (below_size (by repeat (first | (with_reducible first | exact HB.out | apply below_alloc | apply pw_below_drewN | apply below_drew1) | exact HB.out))) : w.heap.size ≤ gb221)); clear HB; have HB := n0_; have BK221 := n1_; have GW221 := n2_; have GE221 := n3_; clear n0_ n1_ n2_ n3_; clear hb hbox hg; have hcz9_0 : w8.cell? ⟨gb221, 0, none⟩ = some (.string (⟨#[]⟩ : ByteArray)) := (blk_cell BK221.out 0).trans rfl; have hcz9_1 : w8.cell? ⟨gb221, 1, none⟩ = some (.int .i64 0) := (blk_cell BK221.out 1).trans rfl; have hcz9_2 : w8.cell? ⟨gb221, 2, none⟩ = some (.string (⟨#[]⟩ : ByteArray)) := (blk_cell BK221.out 2).trans rfl; have hfz9_0 := blk_frozen BK221.out 0; have hfz9_1 := blk_frozen BK221.out 1; have hfz9_2 := blk_frozen BK221.out 2))
    go_ret2
    exact ⟨by first | rfl | (simp [errW_none, errW_some] <;> rfl) | (simp [*, errW_none, errW_some] <;> rfl), by repeat (first | (with_reducible first | exact HB.out | apply below_alloc | apply pw_below_drewN | apply below_drew1 | refine below_set ?_ GE221.out) | exact HB.out)⟩

/-! ### vars_Get: function 12 -/
section
open Go.Proofs.YtdobpgomgnaleaaDoor.G
def vars_Get.f (k : Nat) (l0 : List S31) (a1 : ByteArray) : Option (ByteArray × Int) :=
  if l0.isEmpty = true then (vars_Right.f k []).bind fun ok => if ok = true then vars_Default.f k a1 else some (⟨#[]⟩, 1) else none
theorem vars_Get.mono : ∀ l0 a1 k, LeO (vars_Get.f k l0 a1) (vars_Get.f (k + 1) l0 a1) := by
  intro l0 a1 k
  unfold vars_Get.f
  exact LeO.ite (LeO.bind (vars_Right.mono _ _) (fun _ => LeO.ite (vars_Default.mono _ _) (LeO.refl _))) (LeO.none _)
set_option maxHeartbeats 4000000 in
set_option maxRecDepth 100000 in
theorem vars_Get.calls (k : Nat) (A0 : Option Addr) (c0 : Nat) (l0 : List S31) (a1 : ByteArray) (r1 : ByteArray) (r2 : Int) (w : World) (hr0 : Kd.C k31 w A0 l0.length l0) (hc0 : l0.length ≤ c0) (h : vars_Get.f k l0 a1 = some (r1, r2)) :
    Calls Tryd.prog 12 #[.slice A0 l0.length c0, .string a1] w fun e w' => e = .returned (.tuple #[.string r1, .int .i64 r2]) ∧ Below w.heap.size w w' := by
  unfold vars_Get.f at h
  by_cases hl : l0.isEmpty = true
  · rw [if_pos hl] at h
    obtain rfl : l0 = [] := List.isEmpty_iff.mp hl
    obtain ⟨okr, h1, h⟩ := Option.bind_eq_some_iff.mp h
    have HB := Aside0.mk (Below.refl w.heap.size w)
    have HR0 := Aside0.mk hr0
    have HC0 := Aside0.mk hc0
    have H1 := Aside0.mk h1
    clear hr0 hc0 h1 hl
    cases okr with
    | true =>
      rw [if_pos rfl] at h
      have H2 := Aside0.mk h
      clear h
      go_enter Tryd.func12, Tryd.ntmps12
      go_wp2_with (first | (go_at_call 16; refine (vars_Right.calls k A0 c0 [] true _ HR0.out HC0.out H1.out).mono ?_; rintro e w2 ⟨rfl, hb⟩; have n0_ := Aside0.mk (below_step HB.out hb); clear HB hb; have HB := n0_; clear n0_) | (go_at_call 21; refine (named_calls a1 _).mono ?_; rintro e w5 ⟨⟨fv, rfl⟩, hb⟩; have n0_ := Aside0.mk (below_step HB.out hb); clear HB hb; have HB := n0_; clear n0_) | (go_at_call 22; refine (index0 A0 c0 _ _).mono ?_; rintro e w7 ⟨rfl, rfl⟩) | (go_at_call 13; refine (vars_Default.calls k a1 r1 r2 _ H2.out).mono ?_; rintro e w8 ⟨rfl, hb⟩; have n0_ := Aside0.mk (below_step HB.out hb); clear HB hb; have HB := n0_; clear n0_))
      go_ret2
      exact ⟨rfl, HB.out⟩
    | false =>
      rw [if_neg (by decide)] at h
      simp only [Option.some.injEq, Prod.mk.injEq] at h
      obtain ⟨rfl, rfl⟩ := h
      go_enter Tryd.func12, Tryd.ntmps12
      go_wp2_with (go_at_call 16; refine (vars_Right.calls k A0 c0 [] false _ HR0.out HC0.out H1.out).mono ?_; rintro e w2 ⟨rfl, hb⟩; have n0_ := Aside0.mk (below_step HB.out hb); clear HB hb; have HB := n0_; clear n0_)
      go_ret2
      exact ⟨rfl, HB.out⟩
  · rw [if_neg hl] at h
    cases h
end

end Go.Proofs.YtdobpgomgnaleaaDoor.P
