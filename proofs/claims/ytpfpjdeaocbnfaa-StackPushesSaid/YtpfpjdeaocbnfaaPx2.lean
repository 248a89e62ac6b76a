/- The machine's side: functions of the translation as plain Lean functions, and that the machine's calls come to what they say. No condition. Written by a program (wip/tools/pp.py over the kit's printer); Lean checks it. -/
import Derived.Test.YtpfpjdeaocbnfaaPx0
import Derived.Test.YtpfpjdeaocbnfaaPx1
namespace Go.Proofs.Ytpfpjdeaocbnfaa.P
open Go.RowKit Go.Proofs.YtpfpjdeaocbnfaaW.PrintWords Go.Proofs.YtpfpjdeaocbnfaaW.PrintLast Go.Proofs.YtpfpjdeaocbnfaaW.PrintMore
attribute [local go_sem] max2_int min2_int max_two min_two max_three min_three max_four min_four   -- for this text's walks alone
set_option linter.unusedVariables false
set_option linter.unusedSimpArgs false

/-! ### stack_turns: function 17 -/
def stack_turns.f (a0 : Int) : Option (Int × List Int × Bool) := if a0 = 70 then (some (1, ([] : List Int), true)) else (if a0 = 71 then (some (1, (([0, 0] : List Int)), true)) else (if a0 = 72 then (some (2, (([0, 1, 0] : List Int)), true)) else (if a0 = 73 then (some (2, (([1, 0] : List Int)), true)) else (if a0 = 74 then (some (3, (([1, 2, 0] : List Int)), true)) else (if a0 = 75 then (some (3, (([2, 0, 1] : List Int)), true)) else (if a0 = 76 then (some (2, (([1, 0, 1] : List Int)), true)) else (if a0 = 77 then (some (2, (([1] : List Int)), true)) else (if a0 = 82 then (some (2, ([] : List Int), true)) else (if a0 = 83 then (some (2, (([0, 1, 0, 1] : List Int)), true)) else (if a0 = 84 then (some (4, (([0, 1, 2, 3, 0, 1] : List Int)), true)) else (if a0 = 85 then (some (4, (([2, 3, 0, 1] : List Int)), true)) else (if a0 = 86 then (some (6, (([2, 3, 4, 5, 0, 1] : List Int)), true)) else (some (0, ([] : List Int), false))))))))))))))
set_option maxHeartbeats 8000000 in
set_option maxRecDepth 100000 in
theorem stack_turns.calls (a0 : Int) (r1 : Int) (r2 : List Int) (r3 : Bool) (w : World) (h : stack_turns.f a0 = some (r1, r2, r3)) :
    Calls Try.prog 17 #[.int .i64 a0] w fun e w' => ∃ v1_ : Value, e = .returned (.tuple #[.agg #[.int .i64 r1, v1_], .bool r3]) ∧ Kd.R (Kd.int .i64) 3 w' w.heap.size (fun _ => True) v1_ r2 ∧ Below w.heap.size w w' := by
  have hu41 := Try.underlying41
  have HB := Aside0.mk (Below.refl w.heap.size w)
  have H : (if a0 = 70 then (some (1, ([] : List Int), true)) else (if a0 = 71 then (some (1, (([0, 0] : List Int)), true)) else (if a0 = 72 then (some (2, (([0, 1, 0] : List Int)), true)) else (if a0 = 73 then (some (2, (([1, 0] : List Int)), true)) else (if a0 = 74 then (some (3, (([1, 2, 0] : List Int)), true)) else (if a0 = 75 then (some (3, (([2, 0, 1] : List Int)), true)) else (if a0 = 76 then (some (2, (([1, 0, 1] : List Int)), true)) else (if a0 = 77 then (some (2, (([1] : List Int)), true)) else (if a0 = 82 then (some (2, ([] : List Int), true)) else (if a0 = 83 then (some (2, (([0, 1, 0, 1] : List Int)), true)) else (if a0 = 84 then (some (4, (([0, 1, 2, 3, 0, 1] : List Int)), true)) else (if a0 = 85 then (some (4, (([2, 3, 0, 1] : List Int)), true)) else (if a0 = 86 then (some (6, (([2, 3, 4, 5, 0, 1] : List Int)), true)) else (some (0, ([] : List Int), false))))))))))))))) = some (r1, r2, r3) := h
  clear h
  by_cases c2 : a0 = 70
  · rw [if_pos c2] at H
    have c2b0 : (a0 == 70) = true := beq_iff_eq.mpr c2
    have c2b1 : (a0 != 70) = false := bne_eq_false_iff_eq.mpr c2
    clear c2
    simp only [Option.some.injEq, Prod.mk.injEq] at H
    obtain ⟨rfl, rfl, rfl⟩ := H
    go_enter Try.func17, Try.ntmps17
    go_wp2_with (first | ((with_reducible refine gate_dst (N := 2) rfl ?_); refine box_event ?hg (N := 2) ?hd (cs := #[.int .i64 0, .slice none 0 0]) (t := 41) ?hr ?_; (case hd => rfl); (case hg => rfl); (case hr => first | (go_simp; done) | (go_simp; rfl)); intro gb109 hg w3 hbox hb; have n0_ := Aside0.mk (below_step (by repeat (first | (with_reducible first | exact HB.out | apply below_alloc | apply pw_below_drewN | apply below_drew1) | exact HB.out)) hb); have n1_ := Aside0.mk (hbox); have n2_ := Aside0.mk ((by rw [hg]; exact (below_size (by repeat (first | (with_reducible first | exact HB.out | apply below_alloc | apply pw_below_drewN | apply below_drew1) | exact HB.out))) : w.heap.size ≤ gb109)); have n3_ := Aside0.mk ((by rw [hg]; exact (below_size (by repeat (first | (with_reducible first | exact HB.out | apply below_alloc | apply pw_below_drewN | apply below_drew1) | exact HB.out))) : w.heap.size ≤ gb109)); clear HB; have HB := n0_; have BK109 := n1_; have GW109 := n2_; have GE109 := n3_; clear n0_ n1_ n2_ n3_; clear hb hbox hg; have hcz4_0 : w3.cell? ⟨gb109, 0, none⟩ = some (.int .i64 0) := (blk_cell BK109.out 0).trans rfl; have hcz4_1 : w3.cell? ⟨gb109, 1, none⟩ = some (.slice none 0 0) := (blk_cell BK109.out 1).trans rfl; have hfz4_0 := blk_frozen BK109.out 0; have hfz4_1 := blk_frozen BK109.out 1))
    refine bodyPost_ret (results_ct rfl _ _ gb109 41 #[.int .i64 1, .slice none 0 0] (0, 0) _ rfl (by (with_reducible repeat (first | refine blk_drewN ?_ _ | refine blk_drew ?_ | refine blk_alloc ?_ _)); refine blk_put (cs := #[.int .i64 1, .slice none 0 0]) ?_ 1 _ rfl; (with_reducible repeat (first | refine blk_drewN ?_ _ | refine blk_drew ?_ | refine blk_alloc ?_ _)); refine blk_put (cs := #[.int .i64 0, .slice none 0 0]) ?_ 0 _ rfl; (with_reducible repeat (first | refine blk_drewN ?_ _ | refine blk_drew ?_ | refine blk_alloc ?_ _)); exact BK109.out) Try.underlying41 rfl (by kernel_rfl)) rfl ?_
    exact ⟨_, by first | rfl | (simp [errW_none, errW_some] <;> rfl) | (simp [*, errW_none, errW_some] <;> rfl), by first | exact Kd.R_nil _ _ _ _ _ | exact Kd.N_nil _ _ _ _ _ | exact Kd.V_nil _ _ _ _ _ | exact Kd.Q_nil _ _ _ _ _ | exact Kd.S_nil _ _ _ _ _, by repeat (first | (with_reducible first | exact HB.out | apply below_alloc | apply pw_below_drewN | apply below_drew1 | refine below_set ?_ GE109.out) | exact HB.out)⟩
  · rw [if_neg c2] at H
    have c2b0 : (a0 == 70) = false := beq_eq_false_iff_ne.mpr c2
    have c2b1 : (a0 != 70) = true := bne_iff_ne.mpr c2
    by_cases c5 : a0 = 71
    · rw [if_pos c5] at H
      have c5b0 : (a0 == 71) = true := beq_iff_eq.mpr c5
      have c5b1 : (a0 != 71) = false := bne_eq_false_iff_eq.mpr c5
      clear c5
      obtain ⟨y110, hy110⟩ : ∃ y_ : List Int, y_ = (([0, 0] : List Int)) := ⟨_, rfl⟩
      replace H : (some (1, y110, true)) = some (r1, r2, r3) := by first | (rw [hy110]; with_reducible exact H) | (have H2_ := (Option.bind_some _ _).symm.trans H; rw [hy110]; with_reducible exact H2_) | (have H2_ := (Option.bind_some _ _).symm.trans H; with_reducible exact H2_) | with_reducible exact H | (rw [hy110]; exact H) | exact H
      have Ny110 := Aside0.mk hy110
      clear hy110
      simp only [Option.some.injEq, Prod.mk.injEq] at H
      obtain ⟨rfl, rfl, rfl⟩ := H
      go_enter Try.func17, Try.ntmps17
      go_wp2_with (first | ((with_reducible refine gate_dst (N := 2) rfl ?_); refine box_event ?hg (N := 2) ?hd (cs := #[.int .i64 0, .slice none 0 0]) (t := 41) ?hr ?_; (case hd => rfl); (case hg => rfl); (case hr => first | (go_simp; done) | (go_simp; rfl)); intro gb109 hg w6 hbox hb; have n0_ := Aside0.mk (below_step (by repeat (first | (with_reducible first | exact HB.out | apply below_alloc | apply pw_below_drewN | apply below_drew1) | exact HB.out)) hb); have n1_ := Aside0.mk (hbox); have n2_ := Aside0.mk ((by rw [hg]; exact (below_size (by repeat (first | (with_reducible first | exact HB.out | apply below_alloc | apply pw_below_drewN | apply below_drew1) | exact HB.out))) : w.heap.size ≤ gb109)); have n3_ := Aside0.mk ((by rw [hg]; exact (below_size (by repeat (first | (with_reducible first | exact HB.out | apply below_alloc | apply pw_below_drewN | apply below_drew1) | exact HB.out))) : w.heap.size ≤ gb109)); clear HB; have HB := n0_; have BK109 := n1_; have GW109 := n2_; have GE109 := n3_; clear n0_ n1_ n2_ n3_; clear hb hbox hg) | ((with_reducible refine gate_dst (N := 10) rfl ?_); refine Kd.R_lit (Kd.int .i64) _ 3 ?hg (N := 10) ?hd (xs := ([0, 0] : List Int)) (inner := [.int .i64 0, .int .i64 0]) (ok := fun _ => True) (okp := fun _ => True) ?hr ?hp (fun _ hk => hk) trivial (Below.refl _ _) (Nat.le_refl _) (by simp) ?_; (case hd => rfl); (case hg => rfl); (case hr => first | (go_simp; done) | (go_simp; rfl)); (case hp => exact (Reps.one (show Kd.M (Kd.int .i64) _ _ _ 0 [.int .i64 0] from rfl) (Reps.one (show Kd.M (Kd.int .i64) _ _ _ 0 [.int .i64 0] from rfl) (Reps.none _ _)))); intro v111 w7 ho8 hb hg_ hnew_; clear hg_ hnew_; (first | rw [← Ny110.out] at ho8 | (simp only [Int.reduceToNat] at ho8; rw [← Ny110.out] at ho8)); have n0_ := Aside0.mk (Kd.R_lower ho8 (below_size (by repeat (first | (with_reducible first | exact HB.out | apply below_alloc | apply pw_below_drewN | apply below_drew1 | refine below_set ?_ GE109.out) | exact HB.out)))); have n1_ := Aside0.mk (blk_below (g := gb109) (o := .cells #[.int .i64 0, .slice none 0 0] 41 (0, 0)) (by (with_reducible repeat (first | refine blk_drewN ?_ _ | refine blk_drew ?_ | refine blk_alloc ?_ _)); exact BK109.out) hb); have n2_ := Aside0.mk (below_step (by repeat (first | (with_reducible first | exact HB.out | apply below_alloc | apply pw_below_drewN | apply below_drew1 | refine below_set ?_ GE109.out) | exact HB.out)) hb); clear BK109; clear HB; have HO112 := n0_; have BK109 := n1_; have HB := n2_; clear n0_ n1_ n2_; clear hb ho8; obtain ⟨Ao9, co9, eo9⟩ := Kd.R_slice HO112.out; subst eo9; have hcz10_0 : w7.cell? ⟨gb109, 0, none⟩ = some (.int .i64 0) := (blk_cell BK109.out 0).trans rfl; have hcz10_1 : w7.cell? ⟨gb109, 1, none⟩ = some (.slice none 0 0) := (blk_cell BK109.out 1).trans rfl; have hfz10_0 := blk_frozen BK109.out 0; have hfz10_1 := blk_frozen BK109.out 1))
      refine bodyPost_ret (results_ct rfl _ _ gb109 41 #[.int .i64 1, .slice Ao9 y110.length co9] (0, 0) _ rfl (by (with_reducible repeat (first | refine blk_drewN ?_ _ | refine blk_drew ?_ | refine blk_alloc ?_ _)); refine blk_put (cs := #[.int .i64 1, .slice none 0 0]) ?_ 1 _ rfl; (with_reducible repeat (first | refine blk_drewN ?_ _ | refine blk_drew ?_ | refine blk_alloc ?_ _)); refine blk_put (cs := #[.int .i64 0, .slice none 0 0]) ?_ 0 _ rfl; (with_reducible repeat (first | refine blk_drewN ?_ _ | refine blk_drew ?_ | refine blk_alloc ?_ _)); exact BK109.out) Try.underlying41 rfl (by kernel_rfl)) rfl ?_
      exact ⟨_, by first | rfl | (simp [errW_none, errW_some] <;> rfl) | (simp [*, errW_none, errW_some] <;> rfl), by (with_reducible repeat (first | apply Kd.R_alloc | apply Kd.R_drewN | apply Kd.R_drew)); exact Kd.R_mono (Kd.R_far (p := ⟨gb109, 1, none⟩) (Kd.R_far (p := ⟨gb109, 0, none⟩) (Kd.R_types HO112.out BK109.out (by decide)) (fun _ hk => hk.2) (.int .i64 1)) (fun _ hk => hk.2) (.slice Ao9 y110.length co9)) (fun _ hk => trivial), by repeat (first | (with_reducible first | exact HB.out | apply below_alloc | apply pw_below_drewN | apply below_drew1 | refine below_set ?_ GE109.out) | exact HB.out)⟩
    · rw [if_neg c5] at H
      have c5b0 : (a0 == 71) = false := beq_eq_false_iff_ne.mpr c5
      have c5b1 : (a0 != 71) = true := bne_iff_ne.mpr c5
      by_cases c11 : a0 = 72
      · rw [if_pos c11] at H
        have c11b0 : (a0 == 72) = true := beq_iff_eq.mpr c11
        have c11b1 : (a0 != 72) = false := bne_eq_false_iff_eq.mpr c11
        clear c11
        obtain ⟨y113, hy113⟩ : ∃ y_ : List Int, y_ = (([0, 1, 0] : List Int)) := ⟨_, rfl⟩
        replace H : (some (2, y113, true)) = some (r1, r2, r3) := by first | (rw [hy113]; with_reducible exact H) | (have H2_ := (Option.bind_some _ _).symm.trans H; rw [hy113]; with_reducible exact H2_) | (have H2_ := (Option.bind_some _ _).symm.trans H; with_reducible exact H2_) | with_reducible exact H | (rw [hy113]; exact H) | exact H
        have Ny113 := Aside0.mk hy113
        clear hy113
        simp only [Option.some.injEq, Prod.mk.injEq] at H
        obtain ⟨rfl, rfl, rfl⟩ := H
        go_enter Try.func17, Try.ntmps17
        go_wp2_with (first | ((with_reducible refine gate_dst (N := 2) rfl ?_); refine box_event ?hg (N := 2) ?hd (cs := #[.int .i64 0, .slice none 0 0]) (t := 41) ?hr ?_; (case hd => rfl); (case hg => rfl); (case hr => first | (go_simp; done) | (go_simp; rfl)); intro gb109 hg w12 hbox hb; have n0_ := Aside0.mk (below_step (by repeat (first | (with_reducible first | exact HB.out | apply below_alloc | apply pw_below_drewN | apply below_drew1) | exact HB.out)) hb); have n1_ := Aside0.mk (hbox); have n2_ := Aside0.mk ((by rw [hg]; exact (below_size (by repeat (first | (with_reducible first | exact HB.out | apply below_alloc | apply pw_below_drewN | apply below_drew1) | exact HB.out))) : w.heap.size ≤ gb109)); have n3_ := Aside0.mk ((by rw [hg]; exact (below_size (by repeat (first | (with_reducible first | exact HB.out | apply below_alloc | apply pw_below_drewN | apply below_drew1) | exact HB.out))) : w.heap.size ≤ gb109)); clear HB; have HB := n0_; have BK109 := n1_; have GW109 := n2_; have GE109 := n3_; clear n0_ n1_ n2_ n3_; clear hb hbox hg) | ((with_reducible refine gate_dst (N := 14) rfl ?_); refine Kd.R_lit (Kd.int .i64) _ 3 ?hg (N := 14) ?hd (xs := ([0, 1, 0] : List Int)) (inner := [.int .i64 0, .int .i64 1, .int .i64 0]) (ok := fun _ => True) (okp := fun _ => True) ?hr ?hp (fun _ hk => hk) trivial (Below.refl _ _) (Nat.le_refl _) (by simp) ?_; (case hd => rfl); (case hg => rfl); (case hr => first | (go_simp; done) | (go_simp; rfl)); (case hp => exact (Reps.one (show Kd.M (Kd.int .i64) _ _ _ 0 [.int .i64 0] from rfl) (Reps.one (show Kd.M (Kd.int .i64) _ _ _ 1 [.int .i64 1] from rfl) (Reps.one (show Kd.M (Kd.int .i64) _ _ _ 0 [.int .i64 0] from rfl) (Reps.none _ _))))); intro v114 w13 ho14 hb hg_ hnew_; clear hg_ hnew_; (first | rw [← Ny113.out] at ho14 | (simp only [Int.reduceToNat] at ho14; rw [← Ny113.out] at ho14)); have n0_ := Aside0.mk (Kd.R_lower ho14 (below_size (by repeat (first | (with_reducible first | exact HB.out | apply below_alloc | apply pw_below_drewN | apply below_drew1 | refine below_set ?_ GE109.out) | exact HB.out)))); have n1_ := Aside0.mk (blk_below (g := gb109) (o := .cells #[.int .i64 0, .slice none 0 0] 41 (0, 0)) (by (with_reducible repeat (first | refine blk_drewN ?_ _ | refine blk_drew ?_ | refine blk_alloc ?_ _)); exact BK109.out) hb); have n2_ := Aside0.mk (below_step (by repeat (first | (with_reducible first | exact HB.out | apply below_alloc | apply pw_below_drewN | apply below_drew1 | refine below_set ?_ GE109.out) | exact HB.out)) hb); clear BK109; clear HB; have HO115 := n0_; have BK109 := n1_; have HB := n2_; clear n0_ n1_ n2_; clear hb ho14; obtain ⟨Ao15, co15, eo15⟩ := Kd.R_slice HO115.out; subst eo15; have hcz16_0 : w13.cell? ⟨gb109, 0, none⟩ = some (.int .i64 0) := (blk_cell BK109.out 0).trans rfl; have hcz16_1 : w13.cell? ⟨gb109, 1, none⟩ = some (.slice none 0 0) := (blk_cell BK109.out 1).trans rfl; have hfz16_0 := blk_frozen BK109.out 0; have hfz16_1 := blk_frozen BK109.out 1))
        refine bodyPost_ret (results_ct rfl _ _ gb109 41 #[.int .i64 2, .slice Ao15 y113.length co15] (0, 0) _ rfl (by (with_reducible repeat (first | refine blk_drewN ?_ _ | refine blk_drew ?_ | refine blk_alloc ?_ _)); refine blk_put (cs := #[.int .i64 2, .slice none 0 0]) ?_ 1 _ rfl; (with_reducible repeat (first | refine blk_drewN ?_ _ | refine blk_drew ?_ | refine blk_alloc ?_ _)); refine blk_put (cs := #[.int .i64 0, .slice none 0 0]) ?_ 0 _ rfl; (with_reducible repeat (first | refine blk_drewN ?_ _ | refine blk_drew ?_ | refine blk_alloc ?_ _)); exact BK109.out) Try.underlying41 rfl (by kernel_rfl)) rfl ?_
        exact ⟨_, by first | rfl | (simp [errW_none, errW_some] <;> rfl) | (simp [*, errW_none, errW_some] <;> rfl), by (with_reducible repeat (first | apply Kd.R_alloc | apply Kd.R_drewN | apply Kd.R_drew)); exact Kd.R_mono (Kd.R_far (p := ⟨gb109, 1, none⟩) (Kd.R_far (p := ⟨gb109, 0, none⟩) (Kd.R_types HO115.out BK109.out (by decide)) (fun _ hk => hk.2) (.int .i64 2)) (fun _ hk => hk.2) (.slice Ao15 y113.length co15)) (fun _ hk => trivial), by repeat (first | (with_reducible first | exact HB.out | apply below_alloc | apply pw_below_drewN | apply below_drew1 | refine below_set ?_ GE109.out) | exact HB.out)⟩
      · rw [if_neg c11] at H
        have c11b0 : (a0 == 72) = false := beq_eq_false_iff_ne.mpr c11
        have c11b1 : (a0 != 72) = true := bne_iff_ne.mpr c11
        by_cases c17 : a0 = 73
        · rw [if_pos c17] at H
          have c17b0 : (a0 == 73) = true := beq_iff_eq.mpr c17
          have c17b1 : (a0 != 73) = false := bne_eq_false_iff_eq.mpr c17
          clear c17
          obtain ⟨y116, hy116⟩ : ∃ y_ : List Int, y_ = (([1, 0] : List Int)) := ⟨_, rfl⟩
          replace H : (some (2, y116, true)) = some (r1, r2, r3) := by first | (rw [hy116]; with_reducible exact H) | (have H2_ := (Option.bind_some _ _).symm.trans H; rw [hy116]; with_reducible exact H2_) | (have H2_ := (Option.bind_some _ _).symm.trans H; with_reducible exact H2_) | with_reducible exact H | (rw [hy116]; exact H) | exact H
          have Ny116 := Aside0.mk hy116
          clear hy116
          simp only [Option.some.injEq, Prod.mk.injEq] at H
          obtain ⟨rfl, rfl, rfl⟩ := H
          go_enter Try.func17, Try.ntmps17
          go_wp2_with (first | ((with_reducible refine gate_dst (N := 2) rfl ?_); refine box_event ?hg (N := 2) ?hd (cs := #[.int .i64 0, .slice none 0 0]) (t := 41) ?hr ?_; (case hd => rfl); (case hg => rfl); (case hr => first | (go_simp; done) | (go_simp; rfl)); intro gb109 hg w18 hbox hb; have n0_ := Aside0.mk (below_step (by repeat (first | (with_reducible first | exact HB.out | apply below_alloc | apply pw_below_drewN | apply below_drew1) | exact HB.out)) hb); have n1_ := Aside0.mk (hbox); have n2_ := Aside0.mk ((by rw [hg]; exact (below_size (by repeat (first | (with_reducible first | exact HB.out | apply below_alloc | apply pw_below_drewN | apply below_drew1) | exact HB.out))) : w.heap.size ≤ gb109)); have n3_ := Aside0.mk ((by rw [hg]; exact (below_size (by repeat (first | (with_reducible first | exact HB.out | apply below_alloc | apply pw_below_drewN | apply below_drew1) | exact HB.out))) : w.heap.size ≤ gb109)); clear HB; have HB := n0_; have BK109 := n1_; have GW109 := n2_; have GE109 := n3_; clear n0_ n1_ n2_ n3_; clear hb hbox hg) | ((with_reducible refine gate_dst (N := 18) rfl ?_); refine Kd.R_lit (Kd.int .i64) _ 3 ?hg (N := 18) ?hd (xs := ([1, 0] : List Int)) (inner := [.int .i64 1, .int .i64 0]) (ok := fun _ => True) (okp := fun _ => True) ?hr ?hp (fun _ hk => hk) trivial (Below.refl _ _) (Nat.le_refl _) (by simp) ?_; (case hd => rfl); (case hg => rfl); (case hr => first | (go_simp; done) | (go_simp; rfl)); (case hp => exact (Reps.one (show Kd.M (Kd.int .i64) _ _ _ 1 [.int .i64 1] from rfl) (Reps.one (show Kd.M (Kd.int .i64) _ _ _ 0 [.int .i64 0] from rfl) (Reps.none _ _)))); intro v117 w19 ho20 hb hg_ hnew_; clear hg_ hnew_; (first | rw [← Ny116.out] at ho20 | (simp only [Int.reduceToNat] at ho20; rw [← Ny116.out] at ho20)); have n0_ := Aside0.mk (Kd.R_lower ho20 (below_size (by repeat (first | (with_reducible first | exact HB.out | apply below_alloc | apply pw_below_drewN | apply below_drew1 | refine below_set ?_ GE109.out) | exact HB.out)))); have n1_ := Aside0.mk (blk_below (g := gb109) (o := .cells #[.int .i64 0, .slice none 0 0] 41 (0, 0)) (by (with_reducible repeat (first | refine blk_drewN ?_ _ | refine blk_drew ?_ | refine blk_alloc ?_ _)); exact BK109.out) hb); have n2_ := Aside0.mk (below_step (by repeat (first | (with_reducible first | exact HB.out | apply below_alloc | apply pw_below_drewN | apply below_drew1 | refine below_set ?_ GE109.out) | exact HB.out)) hb); clear BK109; clear HB; have HO118 := n0_; have BK109 := n1_; have HB := n2_; clear n0_ n1_ n2_; clear hb ho20; obtain ⟨Ao21, co21, eo21⟩ := Kd.R_slice HO118.out; subst eo21; have hcz22_0 : w19.cell? ⟨gb109, 0, none⟩ = some (.int .i64 0) := (blk_cell BK109.out 0).trans rfl; have hcz22_1 : w19.cell? ⟨gb109, 1, none⟩ = some (.slice none 0 0) := (blk_cell BK109.out 1).trans rfl; have hfz22_0 := blk_frozen BK109.out 0; have hfz22_1 := blk_frozen BK109.out 1))
          refine bodyPost_ret (results_ct rfl _ _ gb109 41 #[.int .i64 2, .slice Ao21 y116.length co21] (0, 0) _ rfl (by (with_reducible repeat (first | refine blk_drewN ?_ _ | refine blk_drew ?_ | refine blk_alloc ?_ _)); refine blk_put (cs := #[.int .i64 2, .slice none 0 0]) ?_ 1 _ rfl; (with_reducible repeat (first | refine blk_drewN ?_ _ | refine blk_drew ?_ | refine blk_alloc ?_ _)); refine blk_put (cs := #[.int .i64 0, .slice none 0 0]) ?_ 0 _ rfl; (with_reducible repeat (first | refine blk_drewN ?_ _ | refine blk_drew ?_ | refine blk_alloc ?_ _)); exact BK109.out) Try.underlying41 rfl (by kernel_rfl)) rfl ?_
          exact ⟨_, by first | rfl | (simp [errW_none, errW_some] <;> rfl) | (simp [*, errW_none, errW_some] <;> rfl), by (with_reducible repeat (first | apply Kd.R_alloc | apply Kd.R_drewN | apply Kd.R_drew)); exact Kd.R_mono (Kd.R_far (p := ⟨gb109, 1, none⟩) (Kd.R_far (p := ⟨gb109, 0, none⟩) (Kd.R_types HO118.out BK109.out (by decide)) (fun _ hk => hk.2) (.int .i64 2)) (fun _ hk => hk.2) (.slice Ao21 y116.length co21)) (fun _ hk => trivial), by repeat (first | (with_reducible first | exact HB.out | apply below_alloc | apply pw_below_drewN | apply below_drew1 | refine below_set ?_ GE109.out) | exact HB.out)⟩
        · rw [if_neg c17] at H
          have c17b0 : (a0 == 73) = false := beq_eq_false_iff_ne.mpr c17
          have c17b1 : (a0 != 73) = true := bne_iff_ne.mpr c17
          by_cases c23 : a0 = 74
          · rw [if_pos c23] at H
            have c23b0 : (a0 == 74) = true := beq_iff_eq.mpr c23
            have c23b1 : (a0 != 74) = false := bne_eq_false_iff_eq.mpr c23
            clear c23
            obtain ⟨y119, hy119⟩ : ∃ y_ : List Int, y_ = (([1, 2, 0] : List Int)) := ⟨_, rfl⟩
            replace H : (some (3, y119, true)) = some (r1, r2, r3) := by first | (rw [hy119]; with_reducible exact H) | (have H2_ := (Option.bind_some _ _).symm.trans H; rw [hy119]; with_reducible exact H2_) | (have H2_ := (Option.bind_some _ _).symm.trans H; with_reducible exact H2_) | with_reducible exact H | (rw [hy119]; exact H) | exact H
            have Ny119 := Aside0.mk hy119
            clear hy119
            simp only [Option.some.injEq, Prod.mk.injEq] at H
            obtain ⟨rfl, rfl, rfl⟩ := H
            go_enter Try.func17, Try.ntmps17
            go_wp2_with (first | ((with_reducible refine gate_dst (N := 2) rfl ?_); refine box_event ?hg (N := 2) ?hd (cs := #[.int .i64 0, .slice none 0 0]) (t := 41) ?hr ?_; (case hd => rfl); (case hg => rfl); (case hr => first | (go_simp; done) | (go_simp; rfl)); intro gb109 hg w24 hbox hb; have n0_ := Aside0.mk (below_step (by repeat (first | (with_reducible first | exact HB.out | apply below_alloc | apply pw_below_drewN | apply below_drew1) | exact HB.out)) hb); have n1_ := Aside0.mk (hbox); have n2_ := Aside0.mk ((by rw [hg]; exact (below_size (by repeat (first | (with_reducible first | exact HB.out | apply below_alloc | apply pw_below_drewN | apply below_drew1) | exact HB.out))) : w.heap.size ≤ gb109)); have n3_ := Aside0.mk ((by rw [hg]; exact (below_size (by repeat (first | (with_reducible first | exact HB.out | apply below_alloc | apply pw_below_drewN | apply below_drew1) | exact HB.out))) : w.heap.size ≤ gb109)); clear HB; have HB := n0_; have BK109 := n1_; have GW109 := n2_; have GE109 := n3_; clear n0_ n1_ n2_ n3_; clear hb hbox hg) | ((with_reducible refine gate_dst (N := 22) rfl ?_); refine Kd.R_lit (Kd.int .i64) _ 3 ?hg (N := 22) ?hd (xs := ([1, 2, 0] : List Int)) (inner := [.int .i64 1, .int .i64 2, .int .i64 0]) (ok := fun _ => True) (okp := fun _ => True) ?hr ?hp (fun _ hk => hk) trivial (Below.refl _ _) (Nat.le_refl _) (by simp) ?_; (case hd => rfl); (case hg => rfl); (case hr => first | (go_simp; done) | (go_simp; rfl)); (case hp => exact (Reps.one (show Kd.M (Kd.int .i64) _ _ _ 1 [.int .i64 1] from rfl) (Reps.one (show Kd.M (Kd.int .i64) _ _ _ 2 [.int .i64 2] from rfl) (Reps.one (show Kd.M (Kd.int .i64) _ _ _ 0 [.int .i64 0] from rfl) (Reps.none _ _))))); intro v120 w25 ho26 hb hg_ hnew_; clear hg_ hnew_; (first | rw [← Ny119.out] at ho26 | (simp only [Int.reduceToNat] at ho26; rw [← Ny119.out] at ho26)); have n0_ := Aside0.mk (Kd.R_lower ho26 (below_size (by repeat (first | (with_reducible first | exact HB.out | apply below_alloc | apply pw_below_drewN | apply below_drew1 | refine below_set ?_ GE109.out) | exact HB.out)))); have n1_ := Aside0.mk (blk_below (g := gb109) (o := .cells #[.int .i64 0, .slice none 0 0] 41 (0, 0)) (by (with_reducible repeat (first | refine blk_drewN ?_ _ | refine blk_drew ?_ | refine blk_alloc ?_ _)); exact BK109.out) hb); have n2_ := Aside0.mk (below_step (by repeat (first | (with_reducible first | exact HB.out | apply below_alloc | apply pw_below_drewN | apply below_drew1 | refine below_set ?_ GE109.out) | exact HB.out)) hb); clear BK109; clear HB; have HO121 := n0_; have BK109 := n1_; have HB := n2_; clear n0_ n1_ n2_; clear hb ho26; obtain ⟨Ao27, co27, eo27⟩ := Kd.R_slice HO121.out; subst eo27; have hcz28_0 : w25.cell? ⟨gb109, 0, none⟩ = some (.int .i64 0) := (blk_cell BK109.out 0).trans rfl; have hcz28_1 : w25.cell? ⟨gb109, 1, none⟩ = some (.slice none 0 0) := (blk_cell BK109.out 1).trans rfl; have hfz28_0 := blk_frozen BK109.out 0; have hfz28_1 := blk_frozen BK109.out 1))
            refine bodyPost_ret (results_ct rfl _ _ gb109 41 #[.int .i64 3, .slice Ao27 y119.length co27] (0, 0) _ rfl (by (with_reducible repeat (first | refine blk_drewN ?_ _ | refine blk_drew ?_ | refine blk_alloc ?_ _)); refine blk_put (cs := #[.int .i64 3, .slice none 0 0]) ?_ 1 _ rfl; (with_reducible repeat (first | refine blk_drewN ?_ _ | refine blk_drew ?_ | refine blk_alloc ?_ _)); refine blk_put (cs := #[.int .i64 0, .slice none 0 0]) ?_ 0 _ rfl; (with_reducible repeat (first | refine blk_drewN ?_ _ | refine blk_drew ?_ | refine blk_alloc ?_ _)); exact BK109.out) Try.underlying41 rfl (by kernel_rfl)) rfl ?_
            exact ⟨_, by first | rfl | (simp [errW_none, errW_some] <;> rfl) | (simp [*, errW_none, errW_some] <;> rfl), by (with_reducible repeat (first | apply Kd.R_alloc | apply Kd.R_drewN | apply Kd.R_drew)); exact Kd.R_mono (Kd.R_far (p := ⟨gb109, 1, none⟩) (Kd.R_far (p := ⟨gb109, 0, none⟩) (Kd.R_types HO121.out BK109.out (by decide)) (fun _ hk => hk.2) (.int .i64 3)) (fun _ hk => hk.2) (.slice Ao27 y119.length co27)) (fun _ hk => trivial), by repeat (first | (with_reducible first | exact HB.out | apply below_alloc | apply pw_below_drewN | apply below_drew1 | refine below_set ?_ GE109.out) | exact HB.out)⟩
          · rw [if_neg c23] at H
            have c23b0 : (a0 == 74) = false := beq_eq_false_iff_ne.mpr c23
            have c23b1 : (a0 != 74) = true := bne_iff_ne.mpr c23
            by_cases c29 : a0 = 75
            · rw [if_pos c29] at H
              have c29b0 : (a0 == 75) = true := beq_iff_eq.mpr c29
              have c29b1 : (a0 != 75) = false := bne_eq_false_iff_eq.mpr c29
              clear c29
              obtain ⟨y122, hy122⟩ : ∃ y_ : List Int, y_ = (([2, 0, 1] : List Int)) := ⟨_, rfl⟩
              replace H : (some (3, y122, true)) = some (r1, r2, r3) := by first | (rw [hy122]; with_reducible exact H) | (have H2_ := (Option.bind_some _ _).symm.trans H; rw [hy122]; with_reducible exact H2_) | (have H2_ := (Option.bind_some _ _).symm.trans H; with_reducible exact H2_) | with_reducible exact H | (rw [hy122]; exact H) | exact H
              have Ny122 := Aside0.mk hy122
              clear hy122
              simp only [Option.some.injEq, Prod.mk.injEq] at H
              obtain ⟨rfl, rfl, rfl⟩ := H
              go_enter Try.func17, Try.ntmps17
              go_wp2_with (first | ((with_reducible refine gate_dst (N := 2) rfl ?_); refine box_event ?hg (N := 2) ?hd (cs := #[.int .i64 0, .slice none 0 0]) (t := 41) ?hr ?_; (case hd => rfl); (case hg => rfl); (case hr => first | (go_simp; done) | (go_simp; rfl)); intro gb109 hg w30 hbox hb; have n0_ := Aside0.mk (below_step (by repeat (first | (with_reducible first | exact HB.out | apply below_alloc | apply pw_below_drewN | apply below_drew1) | exact HB.out)) hb); have n1_ := Aside0.mk (hbox); have n2_ := Aside0.mk ((by rw [hg]; exact (below_size (by repeat (first | (with_reducible first | exact HB.out | apply below_alloc | apply pw_below_drewN | apply below_drew1) | exact HB.out))) : w.heap.size ≤ gb109)); have n3_ := Aside0.mk ((by rw [hg]; exact (below_size (by repeat (first | (with_reducible first | exact HB.out | apply below_alloc | apply pw_below_drewN | apply below_drew1) | exact HB.out))) : w.heap.size ≤ gb109)); clear HB; have HB := n0_; have BK109 := n1_; have GW109 := n2_; have GE109 := n3_; clear n0_ n1_ n2_ n3_; clear hb hbox hg) | ((with_reducible refine gate_dst (N := 26) rfl ?_); refine Kd.R_lit (Kd.int .i64) _ 3 ?hg (N := 26) ?hd (xs := ([2, 0, 1] : List Int)) (inner := [.int .i64 2, .int .i64 0, .int .i64 1]) (ok := fun _ => True) (okp := fun _ => True) ?hr ?hp (fun _ hk => hk) trivial (Below.refl _ _) (Nat.le_refl _) (by simp) ?_; (case hd => rfl); (case hg => rfl); (case hr => first | (go_simp; done) | (go_simp; rfl)); (case hp => exact (Reps.one (show Kd.M (Kd.int .i64) _ _ _ 2 [.int .i64 2] from rfl) (Reps.one (show Kd.M (Kd.int .i64) _ _ _ 0 [.int .i64 0] from rfl) (Reps.one (show Kd.M (Kd.int .i64) _ _ _ 1 [.int .i64 1] from rfl) (Reps.none _ _))))); intro v123 w31 ho32 hb hg_ hnew_; clear hg_ hnew_; (first | rw [← Ny122.out] at ho32 | (simp only [Int.reduceToNat] at ho32; rw [← Ny122.out] at ho32)); have n0_ := Aside0.mk (Kd.R_lower ho32 (below_size (by repeat (first | (with_reducible first | exact HB.out | apply below_alloc | apply pw_below_drewN | apply below_drew1 | refine below_set ?_ GE109.out) | exact HB.out)))); have n1_ := Aside0.mk (blk_below (g := gb109) (o := .cells #[.int .i64 0, .slice none 0 0] 41 (0, 0)) (by (with_reducible repeat (first | refine blk_drewN ?_ _ | refine blk_drew ?_ | refine blk_alloc ?_ _)); exact BK109.out) hb); have n2_ := Aside0.mk (below_step (by repeat (first | (with_reducible first | exact HB.out | apply below_alloc | apply pw_below_drewN | apply below_drew1 | refine below_set ?_ GE109.out) | exact HB.out)) hb); clear BK109; clear HB; have HO124 := n0_; have BK109 := n1_; have HB := n2_; clear n0_ n1_ n2_; clear hb ho32; obtain ⟨Ao33, co33, eo33⟩ := Kd.R_slice HO124.out; subst eo33; have hcz34_0 : w31.cell? ⟨gb109, 0, none⟩ = some (.int .i64 0) := (blk_cell BK109.out 0).trans rfl; have hcz34_1 : w31.cell? ⟨gb109, 1, none⟩ = some (.slice none 0 0) := (blk_cell BK109.out 1).trans rfl; have hfz34_0 := blk_frozen BK109.out 0; have hfz34_1 := blk_frozen BK109.out 1))
              refine bodyPost_ret (results_ct rfl _ _ gb109 41 #[.int .i64 3, .slice Ao33 y122.length co33] (0, 0) _ rfl (by (with_reducible repeat (first | refine blk_drewN ?_ _ | refine blk_drew ?_ | refine blk_alloc ?_ _)); refine blk_put (cs := #[.int .i64 3, .slice none 0 0]) ?_ 1 _ rfl; (with_reducible repeat (first | refine blk_drewN ?_ _ | refine blk_drew ?_ | refine blk_alloc ?_ _)); refine blk_put (cs := #[.int .i64 0, .slice none 0 0]) ?_ 0 _ rfl; (with_reducible repeat (first | refine blk_drewN ?_ _ | refine blk_drew ?_ | refine blk_alloc ?_ _)); exact BK109.out) Try.underlying41 rfl (by kernel_rfl)) rfl ?_
              exact ⟨_, by first | rfl | (simp [errW_none, errW_some] <;> rfl) | (simp [*, errW_none, errW_some] <;> rfl), by (with_reducible repeat (first | apply Kd.R_alloc | apply Kd.R_drewN | apply Kd.R_drew)); exact Kd.R_mono (Kd.R_far (p := ⟨gb109, 1, none⟩) (Kd.R_far (p := ⟨gb109, 0, none⟩) (Kd.R_types HO124.out BK109.out (by decide)) (fun _ hk => hk.2) (.int .i64 3)) (fun _ hk => hk.2) (.slice Ao33 y122.length co33)) (fun _ hk => trivial), by repeat (first | (with_reducible first | exact HB.out | apply below_alloc | apply pw_below_drewN | apply below_drew1 | refine below_set ?_ GE109.out) | exact HB.out)⟩
            · rw [if_neg c29] at H
              have c29b0 : (a0 == 75) = false := beq_eq_false_iff_ne.mpr c29
              have c29b1 : (a0 != 75) = true := bne_iff_ne.mpr c29
              by_cases c35 : a0 = 76
              · rw [if_pos c35] at H
                have c35b0 : (a0 == 76) = true := beq_iff_eq.mpr c35
                have c35b1 : (a0 != 76) = false := bne_eq_false_iff_eq.mpr c35
                clear c35
                obtain ⟨y125, hy125⟩ : ∃ y_ : List Int, y_ = (([1, 0, 1] : List Int)) := ⟨_, rfl⟩
                replace H : (some (2, y125, true)) = some (r1, r2, r3) := by first | (rw [hy125]; with_reducible exact H) | (have H2_ := (Option.bind_some _ _).symm.trans H; rw [hy125]; with_reducible exact H2_) | (have H2_ := (Option.bind_some _ _).symm.trans H; with_reducible exact H2_) | with_reducible exact H | (rw [hy125]; exact H) | exact H
                have Ny125 := Aside0.mk hy125
                clear hy125
                simp only [Option.some.injEq, Prod.mk.injEq] at H
                obtain ⟨rfl, rfl, rfl⟩ := H
                go_enter Try.func17, Try.ntmps17
                go_wp2_with (first | ((with_reducible refine gate_dst (N := 2) rfl ?_); refine box_event ?hg (N := 2) ?hd (cs := #[.int .i64 0, .slice none 0 0]) (t := 41) ?hr ?_; (case hd => rfl); (case hg => rfl); (case hr => first | (go_simp; done) | (go_simp; rfl)); intro gb109 hg w36 hbox hb; have n0_ := Aside0.mk (below_step (by repeat (first | (with_reducible first | exact HB.out | apply below_alloc | apply pw_below_drewN | apply below_drew1) | exact HB.out)) hb); have n1_ := Aside0.mk (hbox); have n2_ := Aside0.mk ((by rw [hg]; exact (below_size (by repeat (first | (with_reducible first | exact HB.out | apply below_alloc | apply pw_below_drewN | apply below_drew1) | exact HB.out))) : w.heap.size ≤ gb109)); have n3_ := Aside0.mk ((by rw [hg]; exact (below_size (by repeat (first | (with_reducible first | exact HB.out | apply below_alloc | apply pw_below_drewN | apply below_drew1) | exact HB.out))) : w.heap.size ≤ gb109)); clear HB; have HB := n0_; have BK109 := n1_; have GW109 := n2_; have GE109 := n3_; clear n0_ n1_ n2_ n3_; clear hb hbox hg) | ((with_reducible refine gate_dst (N := 30) rfl ?_); refine Kd.R_lit (Kd.int .i64) _ 3 ?hg (N := 30) ?hd (xs := ([1, 0, 1] : List Int)) (inner := [.int .i64 1, .int .i64 0, .int .i64 1]) (ok := fun _ => True) (okp := fun _ => True) ?hr ?hp (fun _ hk => hk) trivial (Below.refl _ _) (Nat.le_refl _) (by simp) ?_; (case hd => rfl); (case hg => rfl); (case hr => first | (go_simp; done) | (go_simp; rfl)); (case hp => exact (Reps.one (show Kd.M (Kd.int .i64) _ _ _ 1 [.int .i64 1] from rfl) (Reps.one (show Kd.M (Kd.int .i64) _ _ _ 0 [.int .i64 0] from rfl) (Reps.one (show Kd.M (Kd.int .i64) _ _ _ 1 [.int .i64 1] from rfl) (Reps.none _ _))))); intro v126 w37 ho38 hb hg_ hnew_; clear hg_ hnew_; (first | rw [← Ny125.out] at ho38 | (simp only [Int.reduceToNat] at ho38; rw [← Ny125.out] at ho38)); have n0_ := Aside0.mk (Kd.R_lower ho38 (below_size (by repeat (first | (with_reducible first | exact HB.out | apply below_alloc | apply pw_below_drewN | apply below_drew1 | refine below_set ?_ GE109.out) | exact HB.out)))); have n1_ := Aside0.mk (blk_below (g := gb109) (o := .cells #[.int .i64 0, .slice none 0 0] 41 (0, 0)) (by (with_reducible repeat (first | refine blk_drewN ?_ _ | refine blk_drew ?_ | refine blk_alloc ?_ _)); exact BK109.out) hb); have n2_ := Aside0.mk (below_step (by repeat (first | (with_reducible first | exact HB.out | apply below_alloc | apply pw_below_drewN | apply below_drew1 | refine below_set ?_ GE109.out) | exact HB.out)) hb); clear BK109; clear HB; have HO127 := n0_; have BK109 := n1_; have HB := n2_; clear n0_ n1_ n2_; clear hb ho38; obtain ⟨Ao39, co39, eo39⟩ := Kd.R_slice HO127.out; subst eo39; have hcz40_0 : w37.cell? ⟨gb109, 0, none⟩ = some (.int .i64 0) := (blk_cell BK109.out 0).trans rfl; have hcz40_1 : w37.cell? ⟨gb109, 1, none⟩ = some (.slice none 0 0) := (blk_cell BK109.out 1).trans rfl; have hfz40_0 := blk_frozen BK109.out 0; have hfz40_1 := blk_frozen BK109.out 1))
                refine bodyPost_ret (results_ct rfl _ _ gb109 41 #[.int .i64 2, .slice Ao39 y125.length co39] (0, 0) _ rfl (by (with_reducible repeat (first | refine blk_drewN ?_ _ | refine blk_drew ?_ | refine blk_alloc ?_ _)); refine blk_put (cs := #[.int .i64 2, .slice none 0 0]) ?_ 1 _ rfl; (with_reducible repeat (first | refine blk_drewN ?_ _ | refine blk_drew ?_ | refine blk_alloc ?_ _)); refine blk_put (cs := #[.int .i64 0, .slice none 0 0]) ?_ 0 _ rfl; (with_reducible repeat (first | refine blk_drewN ?_ _ | refine blk_drew ?_ | refine blk_alloc ?_ _)); exact BK109.out) Try.underlying41 rfl (by kernel_rfl)) rfl ?_
                exact ⟨_, by first | rfl | (simp [errW_none, errW_some] <;> rfl) | (simp [*, errW_none, errW_some] <;> rfl), by (with_reducible repeat (first | apply Kd.R_alloc | apply Kd.R_drewN | apply Kd.R_drew)); exact Kd.R_mono (Kd.R_far (p := ⟨gb109, 1, none⟩) (Kd.R_far (p := ⟨gb109, 0, none⟩) (Kd.R_types HO127.out BK109.out (by decide)) (fun _ hk => hk.2) (.int .i64 2)) (fun _ hk => hk.2) (.slice Ao39 y125.length co39)) (fun _ hk => trivial), by repeat (first | (with_reducible first | exact HB.out | apply below_alloc | apply pw_below_drewN | apply below_drew1 | refine below_set ?_ GE109.out) | exact HB.out)⟩
              · rw [if_neg c35] at H
                have c35b0 : (a0 == 76) = false := beq_eq_false_iff_ne.mpr c35
                have c35b1 : (a0 != 76) = true := bne_iff_ne.mpr c35
                by_cases c41 : a0 = 77
                · rw [if_pos c41] at H
                  have c41b0 : (a0 == 77) = true := beq_iff_eq.mpr c41
                  have c41b1 : (a0 != 77) = false := bne_eq_false_iff_eq.mpr c41
                  clear c41
                  obtain ⟨y128, hy128⟩ : ∃ y_ : List Int, y_ = (([1] : List Int)) := ⟨_, rfl⟩
                  replace H : (some (2, y128, true)) = some (r1, r2, r3) := by first | (rw [hy128]; with_reducible exact H) | (have H2_ := (Option.bind_some _ _).symm.trans H; rw [hy128]; with_reducible exact H2_) | (have H2_ := (Option.bind_some _ _).symm.trans H; with_reducible exact H2_) | with_reducible exact H | (rw [hy128]; exact H) | exact H
                  have Ny128 := Aside0.mk hy128
                  clear hy128
                  simp only [Option.some.injEq, Prod.mk.injEq] at H
                  obtain ⟨rfl, rfl, rfl⟩ := H
                  go_enter Try.func17, Try.ntmps17
                  go_wp2_with (first | ((with_reducible refine gate_dst (N := 2) rfl ?_); refine box_event ?hg (N := 2) ?hd (cs := #[.int .i64 0, .slice none 0 0]) (t := 41) ?hr ?_; (case hd => rfl); (case hg => rfl); (case hr => first | (go_simp; done) | (go_simp; rfl)); intro gb109 hg w42 hbox hb; have n0_ := Aside0.mk (below_step (by repeat (first | (with_reducible first | exact HB.out | apply below_alloc | apply pw_below_drewN | apply below_drew1) | exact HB.out)) hb); have n1_ := Aside0.mk (hbox); have n2_ := Aside0.mk ((by rw [hg]; exact (below_size (by repeat (first | (with_reducible first | exact HB.out | apply below_alloc | apply pw_below_drewN | apply below_drew1) | exact HB.out))) : w.heap.size ≤ gb109)); have n3_ := Aside0.mk ((by rw [hg]; exact (below_size (by repeat (first | (with_reducible first | exact HB.out | apply below_alloc | apply pw_below_drewN | apply below_drew1) | exact HB.out))) : w.heap.size ≤ gb109)); clear HB; have HB := n0_; have BK109 := n1_; have GW109 := n2_; have GE109 := n3_; clear n0_ n1_ n2_ n3_; clear hb hbox hg) | ((with_reducible refine gate_dst (N := 34) rfl ?_); refine Kd.R_lit (Kd.int .i64) _ 3 ?hg (N := 34) ?hd (xs := ([1] : List Int)) (inner := [.int .i64 1]) (ok := fun _ => True) (okp := fun _ => True) ?hr ?hp (fun _ hk => hk) trivial (Below.refl _ _) (Nat.le_refl _) (by simp) ?_; (case hd => rfl); (case hg => rfl); (case hr => first | (go_simp; done) | (go_simp; rfl)); (case hp => exact (Reps.one (show Kd.M (Kd.int .i64) _ _ _ 1 [.int .i64 1] from rfl) (Reps.none _ _))); intro v129 w43 ho44 hb hg_ hnew_; clear hg_ hnew_; (first | rw [← Ny128.out] at ho44 | (simp only [Int.reduceToNat] at ho44; rw [← Ny128.out] at ho44)); have n0_ := Aside0.mk (Kd.R_lower ho44 (below_size (by repeat (first | (with_reducible first | exact HB.out | apply below_alloc | apply pw_below_drewN | apply below_drew1 | refine below_set ?_ GE109.out) | exact HB.out)))); have n1_ := Aside0.mk (blk_below (g := gb109) (o := .cells #[.int .i64 0, .slice none 0 0] 41 (0, 0)) (by (with_reducible repeat (first | refine blk_drewN ?_ _ | refine blk_drew ?_ | refine blk_alloc ?_ _)); exact BK109.out) hb); have n2_ := Aside0.mk (below_step (by repeat (first | (with_reducible first | exact HB.out | apply below_alloc | apply pw_below_drewN | apply below_drew1 | refine below_set ?_ GE109.out) | exact HB.out)) hb); clear BK109; clear HB; have HO130 := n0_; have BK109 := n1_; have HB := n2_; clear n0_ n1_ n2_; clear hb ho44; obtain ⟨Ao45, co45, eo45⟩ := Kd.R_slice HO130.out; subst eo45; have hcz46_0 : w43.cell? ⟨gb109, 0, none⟩ = some (.int .i64 0) := (blk_cell BK109.out 0).trans rfl; have hcz46_1 : w43.cell? ⟨gb109, 1, none⟩ = some (.slice none 0 0) := (blk_cell BK109.out 1).trans rfl; have hfz46_0 := blk_frozen BK109.out 0; have hfz46_1 := blk_frozen BK109.out 1))
                  refine bodyPost_ret (results_ct rfl _ _ gb109 41 #[.int .i64 2, .slice Ao45 y128.length co45] (0, 0) _ rfl (by (with_reducible repeat (first | refine blk_drewN ?_ _ | refine blk_drew ?_ | refine blk_alloc ?_ _)); refine blk_put (cs := #[.int .i64 2, .slice none 0 0]) ?_ 1 _ rfl; (with_reducible repeat (first | refine blk_drewN ?_ _ | refine blk_drew ?_ | refine blk_alloc ?_ _)); refine blk_put (cs := #[.int .i64 0, .slice none 0 0]) ?_ 0 _ rfl; (with_reducible repeat (first | refine blk_drewN ?_ _ | refine blk_drew ?_ | refine blk_alloc ?_ _)); exact BK109.out) Try.underlying41 rfl (by kernel_rfl)) rfl ?_
                  exact ⟨_, by first | rfl | (simp [errW_none, errW_some] <;> rfl) | (simp [*, errW_none, errW_some] <;> rfl), by (with_reducible repeat (first | apply Kd.R_alloc | apply Kd.R_drewN | apply Kd.R_drew)); exact Kd.R_mono (Kd.R_far (p := ⟨gb109, 1, none⟩) (Kd.R_far (p := ⟨gb109, 0, none⟩) (Kd.R_types HO130.out BK109.out (by decide)) (fun _ hk => hk.2) (.int .i64 2)) (fun _ hk => hk.2) (.slice Ao45 y128.length co45)) (fun _ hk => trivial), by repeat (first | (with_reducible first | exact HB.out | apply below_alloc | apply pw_below_drewN | apply below_drew1 | refine below_set ?_ GE109.out) | exact HB.out)⟩
                · rw [if_neg c41] at H
                  have c41b0 : (a0 == 77) = false := beq_eq_false_iff_ne.mpr c41
                  have c41b1 : (a0 != 77) = true := bne_iff_ne.mpr c41
                  by_cases c47 : a0 = 82
                  · rw [if_pos c47] at H
                    have c47b0 : (a0 == 82) = true := beq_iff_eq.mpr c47
                    have c47b1 : (a0 != 82) = false := bne_eq_false_iff_eq.mpr c47
                    clear c47
                    simp only [Option.some.injEq, Prod.mk.injEq] at H
                    obtain ⟨rfl, rfl, rfl⟩ := H
                    go_enter Try.func17, Try.ntmps17
                    go_wp2_with (first | ((with_reducible refine gate_dst (N := 2) rfl ?_); refine box_event ?hg (N := 2) ?hd (cs := #[.int .i64 0, .slice none 0 0]) (t := 41) ?hr ?_; (case hd => rfl); (case hg => rfl); (case hr => first | (go_simp; done) | (go_simp; rfl)); intro gb109 hg w48 hbox hb; have n0_ := Aside0.mk (below_step (by repeat (first | (with_reducible first | exact HB.out | apply below_alloc | apply pw_below_drewN | apply below_drew1) | exact HB.out)) hb); have n1_ := Aside0.mk (hbox); have n2_ := Aside0.mk ((by rw [hg]; exact (below_size (by repeat (first | (with_reducible first | exact HB.out | apply below_alloc | apply pw_below_drewN | apply below_drew1) | exact HB.out))) : w.heap.size ≤ gb109)); have n3_ := Aside0.mk ((by rw [hg]; exact (below_size (by repeat (first | (with_reducible first | exact HB.out | apply below_alloc | apply pw_below_drewN | apply below_drew1) | exact HB.out))) : w.heap.size ≤ gb109)); clear HB; have HB := n0_; have BK109 := n1_; have GW109 := n2_; have GE109 := n3_; clear n0_ n1_ n2_ n3_; clear hb hbox hg; have hcz49_0 : w48.cell? ⟨gb109, 0, none⟩ = some (.int .i64 0) := (blk_cell BK109.out 0).trans rfl; have hcz49_1 : w48.cell? ⟨gb109, 1, none⟩ = some (.slice none 0 0) := (blk_cell BK109.out 1).trans rfl; have hfz49_0 := blk_frozen BK109.out 0; have hfz49_1 := blk_frozen BK109.out 1))
                    refine bodyPost_ret (results_ct rfl _ _ gb109 41 #[.int .i64 2, .slice none 0 0] (0, 0) _ rfl (by (with_reducible repeat (first | refine blk_drewN ?_ _ | refine blk_drew ?_ | refine blk_alloc ?_ _)); refine blk_put (cs := #[.int .i64 2, .slice none 0 0]) ?_ 1 _ rfl; (with_reducible repeat (first | refine blk_drewN ?_ _ | refine blk_drew ?_ | refine blk_alloc ?_ _)); refine blk_put (cs := #[.int .i64 0, .slice none 0 0]) ?_ 0 _ rfl; (with_reducible repeat (first | refine blk_drewN ?_ _ | refine blk_drew ?_ | refine blk_alloc ?_ _)); exact BK109.out) Try.underlying41 rfl (by kernel_rfl)) rfl ?_
                    exact ⟨_, by first | rfl | (simp [errW_none, errW_some] <;> rfl) | (simp [*, errW_none, errW_some] <;> rfl), by first | exact Kd.R_nil _ _ _ _ _ | exact Kd.N_nil _ _ _ _ _ | exact Kd.V_nil _ _ _ _ _ | exact Kd.Q_nil _ _ _ _ _ | exact Kd.S_nil _ _ _ _ _, by repeat (first | (with_reducible first | exact HB.out | apply below_alloc | apply pw_below_drewN | apply below_drew1 | refine below_set ?_ GE109.out) | exact HB.out)⟩
                  · rw [if_neg c47] at H
                    have c47b0 : (a0 == 82) = false := beq_eq_false_iff_ne.mpr c47
                    have c47b1 : (a0 != 82) = true := bne_iff_ne.mpr c47
                    by_cases c50 : a0 = 83
                    · rw [if_pos c50] at H
                      have c50b0 : (a0 == 83) = true := beq_iff_eq.mpr c50
                      have c50b1 : (a0 != 83) = false := bne_eq_false_iff_eq.mpr c50
                      clear c50
                      obtain ⟨y131, hy131⟩ : ∃ y_ : List Int, y_ = (([0, 1, 0, 1] : List Int)) := ⟨_, rfl⟩
                      replace H : (some (2, y131, true)) = some (r1, r2, r3) := by first | (rw [hy131]; with_reducible exact H) | (have H2_ := (Option.bind_some _ _).symm.trans H; rw [hy131]; with_reducible exact H2_) | (have H2_ := (Option.bind_some _ _).symm.trans H; with_reducible exact H2_) | with_reducible exact H | (rw [hy131]; exact H) | exact H
                      have Ny131 := Aside0.mk hy131
                      clear hy131
                      simp only [Option.some.injEq, Prod.mk.injEq] at H
                      obtain ⟨rfl, rfl, rfl⟩ := H
                      go_enter Try.func17, Try.ntmps17
                      go_wp2_with (first | ((with_reducible refine gate_dst (N := 2) rfl ?_); refine box_event ?hg (N := 2) ?hd (cs := #[.int .i64 0, .slice none 0 0]) (t := 41) ?hr ?_; (case hd => rfl); (case hg => rfl); (case hr => first | (go_simp; done) | (go_simp; rfl)); intro gb109 hg w51 hbox hb; have n0_ := Aside0.mk (below_step (by repeat (first | (with_reducible first | exact HB.out | apply below_alloc | apply pw_below_drewN | apply below_drew1) | exact HB.out)) hb); have n1_ := Aside0.mk (hbox); have n2_ := Aside0.mk ((by rw [hg]; exact (below_size (by repeat (first | (with_reducible first | exact HB.out | apply below_alloc | apply pw_below_drewN | apply below_drew1) | exact HB.out))) : w.heap.size ≤ gb109)); have n3_ := Aside0.mk ((by rw [hg]; exact (below_size (by repeat (first | (with_reducible first | exact HB.out | apply below_alloc | apply pw_below_drewN | apply below_drew1) | exact HB.out))) : w.heap.size ≤ gb109)); clear HB; have HB := n0_; have BK109 := n1_; have GW109 := n2_; have GE109 := n3_; clear n0_ n1_ n2_ n3_; clear hb hbox hg) | ((with_reducible refine gate_dst (N := 41) rfl ?_); refine Kd.R_lit (Kd.int .i64) _ 3 ?hg (N := 41) ?hd (xs := ([0, 1, 0, 1] : List Int)) (inner := [.int .i64 0, .int .i64 1, .int .i64 0, .int .i64 1]) (ok := fun _ => True) (okp := fun _ => True) ?hr ?hp (fun _ hk => hk) trivial (Below.refl _ _) (Nat.le_refl _) (by simp) ?_; (case hd => rfl); (case hg => rfl); (case hr => first | (go_simp; done) | (go_simp; rfl)); (case hp => exact (Reps.one (show Kd.M (Kd.int .i64) _ _ _ 0 [.int .i64 0] from rfl) (Reps.one (show Kd.M (Kd.int .i64) _ _ _ 1 [.int .i64 1] from rfl) (Reps.one (show Kd.M (Kd.int .i64) _ _ _ 0 [.int .i64 0] from rfl) (Reps.one (show Kd.M (Kd.int .i64) _ _ _ 1 [.int .i64 1] from rfl) (Reps.none _ _)))))); intro v132 w52 ho53 hb hg_ hnew_; clear hg_ hnew_; (first | rw [← Ny131.out] at ho53 | (simp only [Int.reduceToNat] at ho53; rw [← Ny131.out] at ho53)); have n0_ := Aside0.mk (Kd.R_lower ho53 (below_size (by repeat (first | (with_reducible first | exact HB.out | apply below_alloc | apply pw_below_drewN | apply below_drew1 | refine below_set ?_ GE109.out) | exact HB.out)))); have n1_ := Aside0.mk (blk_below (g := gb109) (o := .cells #[.int .i64 0, .slice none 0 0] 41 (0, 0)) (by (with_reducible repeat (first | refine blk_drewN ?_ _ | refine blk_drew ?_ | refine blk_alloc ?_ _)); exact BK109.out) hb); have n2_ := Aside0.mk (below_step (by repeat (first | (with_reducible first | exact HB.out | apply below_alloc | apply pw_below_drewN | apply below_drew1 | refine below_set ?_ GE109.out) | exact HB.out)) hb); clear BK109; clear HB; have HO133 := n0_; have BK109 := n1_; have HB := n2_; clear n0_ n1_ n2_; clear hb ho53; obtain ⟨Ao54, co54, eo54⟩ := Kd.R_slice HO133.out; subst eo54; have hcz55_0 : w52.cell? ⟨gb109, 0, none⟩ = some (.int .i64 0) := (blk_cell BK109.out 0).trans rfl; have hcz55_1 : w52.cell? ⟨gb109, 1, none⟩ = some (.slice none 0 0) := (blk_cell BK109.out 1).trans rfl; have hfz55_0 := blk_frozen BK109.out 0; have hfz55_1 := blk_frozen BK109.out 1))
                      refine bodyPost_ret (results_ct rfl _ _ gb109 41 #[.int .i64 2, .slice Ao54 y131.length co54] (0, 0) _ rfl (by (with_reducible repeat (first | refine blk_drewN ?_ _ | refine blk_drew ?_ | refine blk_alloc ?_ _)); refine blk_put (cs := #[.int .i64 2, .slice none 0 0]) ?_ 1 _ rfl; (with_reducible repeat (first | refine blk_drewN ?_ _ | refine blk_drew ?_ | refine blk_alloc ?_ _)); refine blk_put (cs := #[.int .i64 0, .slice none 0 0]) ?_ 0 _ rfl; (with_reducible repeat (first | refine blk_drewN ?_ _ | refine blk_drew ?_ | refine blk_alloc ?_ _)); exact BK109.out) Try.underlying41 rfl (by kernel_rfl)) rfl ?_
                      exact ⟨_, by first | rfl | (simp [errW_none, errW_some] <;> rfl) | (simp [*, errW_none, errW_some] <;> rfl), by (with_reducible repeat (first | apply Kd.R_alloc | apply Kd.R_drewN | apply Kd.R_drew)); exact Kd.R_mono (Kd.R_far (p := ⟨gb109, 1, none⟩) (Kd.R_far (p := ⟨gb109, 0, none⟩) (Kd.R_types HO133.out BK109.out (by decide)) (fun _ hk => hk.2) (.int .i64 2)) (fun _ hk => hk.2) (.slice Ao54 y131.length co54)) (fun _ hk => trivial), by repeat (first | (with_reducible first | exact HB.out | apply below_alloc | apply pw_below_drewN | apply below_drew1 | refine below_set ?_ GE109.out) | exact HB.out)⟩
                    · rw [if_neg c50] at H
                      have c50b0 : (a0 == 83) = false := beq_eq_false_iff_ne.mpr c50
                      have c50b1 : (a0 != 83) = true := bne_iff_ne.mpr c50
                      by_cases c56 : a0 = 84
                      · rw [if_pos c56] at H
                        have c56b0 : (a0 == 84) = true := beq_iff_eq.mpr c56
                        have c56b1 : (a0 != 84) = false := bne_eq_false_iff_eq.mpr c56
                        clear c56
                        obtain ⟨y134, hy134⟩ : ∃ y_ : List Int, y_ = (([0, 1, 2, 3, 0, 1] : List Int)) := ⟨_, rfl⟩
                        replace H : (some (4, y134, true)) = some (r1, r2, r3) := by first | (rw [hy134]; with_reducible exact H) | (have H2_ := (Option.bind_some _ _).symm.trans H; rw [hy134]; with_reducible exact H2_) | (have H2_ := (Option.bind_some _ _).symm.trans H; with_reducible exact H2_) | with_reducible exact H | (rw [hy134]; exact H) | exact H
                        have Ny134 := Aside0.mk hy134
                        clear hy134
                        simp only [Option.some.injEq, Prod.mk.injEq] at H
                        obtain ⟨rfl, rfl, rfl⟩ := H
                        go_enter Try.func17, Try.ntmps17
                        go_wp2_with (first | ((with_reducible refine gate_dst (N := 2) rfl ?_); refine box_event ?hg (N := 2) ?hd (cs := #[.int .i64 0, .slice none 0 0]) (t := 41) ?hr ?_; (case hd => rfl); (case hg => rfl); (case hr => first | (go_simp; done) | (go_simp; rfl)); intro gb109 hg w57 hbox hb; have n0_ := Aside0.mk (below_step (by repeat (first | (with_reducible first | exact HB.out | apply below_alloc | apply pw_below_drewN | apply below_drew1) | exact HB.out)) hb); have n1_ := Aside0.mk (hbox); have n2_ := Aside0.mk ((by rw [hg]; exact (below_size (by repeat (first | (with_reducible first | exact HB.out | apply below_alloc | apply pw_below_drewN | apply below_drew1) | exact HB.out))) : w.heap.size ≤ gb109)); have n3_ := Aside0.mk ((by rw [hg]; exact (below_size (by repeat (first | (with_reducible first | exact HB.out | apply below_alloc | apply pw_below_drewN | apply below_drew1) | exact HB.out))) : w.heap.size ≤ gb109)); clear HB; have HB := n0_; have BK109 := n1_; have GW109 := n2_; have GE109 := n3_; clear n0_ n1_ n2_ n3_; clear hb hbox hg) | ((with_reducible refine gate_dst (N := 45) rfl ?_); refine Kd.R_lit (Kd.int .i64) _ 3 ?hg (N := 45) ?hd (xs := ([0, 1, 2, 3, 0, 1] : List Int)) (inner := [.int .i64 0, .int .i64 1, .int .i64 2, .int .i64 3, .int .i64 0, .int .i64 1]) (ok := fun _ => True) (okp := fun _ => True) ?hr ?hp (fun _ hk => hk) trivial (Below.refl _ _) (Nat.le_refl _) (by simp) ?_; (case hd => rfl); (case hg => rfl); (case hr => first | (go_simp; done) | (go_simp; rfl)); (case hp => exact (Reps.one (show Kd.M (Kd.int .i64) _ _ _ 0 [.int .i64 0] from rfl) (Reps.one (show Kd.M (Kd.int .i64) _ _ _ 1 [.int .i64 1] from rfl) (Reps.one (show Kd.M (Kd.int .i64) _ _ _ 2 [.int .i64 2] from rfl) (Reps.one (show Kd.M (Kd.int .i64) _ _ _ 3 [.int .i64 3] from rfl) (Reps.one (show Kd.M (Kd.int .i64) _ _ _ 0 [.int .i64 0] from rfl) (Reps.one (show Kd.M (Kd.int .i64) _ _ _ 1 [.int .i64 1] from rfl) (Reps.none _ _)))))))); intro v135 w58 ho59 hb hg_ hnew_; clear hg_ hnew_; (first | rw [← Ny134.out] at ho59 | (simp only [Int.reduceToNat] at ho59; rw [← Ny134.out] at ho59)); have n0_ := Aside0.mk (Kd.R_lower ho59 (below_size (by repeat (first | (with_reducible first | exact HB.out | apply below_alloc | apply pw_below_drewN | apply below_drew1 | refine below_set ?_ GE109.out) | exact HB.out)))); have n1_ := Aside0.mk (blk_below (g := gb109) (o := .cells #[.int .i64 0, .slice none 0 0] 41 (0, 0)) (by (with_reducible repeat (first | refine blk_drewN ?_ _ | refine blk_drew ?_ | refine blk_alloc ?_ _)); exact BK109.out) hb); have n2_ := Aside0.mk (below_step (by repeat (first | (with_reducible first | exact HB.out | apply below_alloc | apply pw_below_drewN | apply below_drew1 | refine below_set ?_ GE109.out) | exact HB.out)) hb); clear BK109; clear HB; have HO136 := n0_; have BK109 := n1_; have HB := n2_; clear n0_ n1_ n2_; clear hb ho59; obtain ⟨Ao60, co60, eo60⟩ := Kd.R_slice HO136.out; subst eo60; have hcz61_0 : w58.cell? ⟨gb109, 0, none⟩ = some (.int .i64 0) := (blk_cell BK109.out 0).trans rfl; have hcz61_1 : w58.cell? ⟨gb109, 1, none⟩ = some (.slice none 0 0) := (blk_cell BK109.out 1).trans rfl; have hfz61_0 := blk_frozen BK109.out 0; have hfz61_1 := blk_frozen BK109.out 1))
                        refine bodyPost_ret (results_ct rfl _ _ gb109 41 #[.int .i64 4, .slice Ao60 y134.length co60] (0, 0) _ rfl (by (with_reducible repeat (first | refine blk_drewN ?_ _ | refine blk_drew ?_ | refine blk_alloc ?_ _)); refine blk_put (cs := #[.int .i64 4, .slice none 0 0]) ?_ 1 _ rfl; (with_reducible repeat (first | refine blk_drewN ?_ _ | refine blk_drew ?_ | refine blk_alloc ?_ _)); refine blk_put (cs := #[.int .i64 0, .slice none 0 0]) ?_ 0 _ rfl; (with_reducible repeat (first | refine blk_drewN ?_ _ | refine blk_drew ?_ | refine blk_alloc ?_ _)); exact BK109.out) Try.underlying41 rfl (by kernel_rfl)) rfl ?_
                        exact ⟨_, by first | rfl | (simp [errW_none, errW_some] <;> rfl) | (simp [*, errW_none, errW_some] <;> rfl), by (with_reducible repeat (first | apply Kd.R_alloc | apply Kd.R_drewN | apply Kd.R_drew)); exact Kd.R_mono (Kd.R_far (p := ⟨gb109, 1, none⟩) (Kd.R_far (p := ⟨gb109, 0, none⟩) (Kd.R_types HO136.out BK109.out (by decide)) (fun _ hk => hk.2) (.int .i64 4)) (fun _ hk => hk.2) (.slice Ao60 y134.length co60)) (fun _ hk => trivial), by repeat (first | (with_reducible first | exact HB.out | apply below_alloc | apply pw_below_drewN | apply below_drew1 | refine below_set ?_ GE109.out) | exact HB.out)⟩
                      · rw [if_neg c56] at H
                        have c56b0 : (a0 == 84) = false := beq_eq_false_iff_ne.mpr c56
                        have c56b1 : (a0 != 84) = true := bne_iff_ne.mpr c56
                        by_cases c62 : a0 = 85
                        · rw [if_pos c62] at H
                          have c62b0 : (a0 == 85) = true := beq_iff_eq.mpr c62
                          have c62b1 : (a0 != 85) = false := bne_eq_false_iff_eq.mpr c62
                          clear c62
                          obtain ⟨y137, hy137⟩ : ∃ y_ : List Int, y_ = (([2, 3, 0, 1] : List Int)) := ⟨_, rfl⟩
                          replace H : (some (4, y137, true)) = some (r1, r2, r3) := by first | (rw [hy137]; with_reducible exact H) | (have H2_ := (Option.bind_some _ _).symm.trans H; rw [hy137]; with_reducible exact H2_) | (have H2_ := (Option.bind_some _ _).symm.trans H; with_reducible exact H2_) | with_reducible exact H | (rw [hy137]; exact H) | exact H
                          have Ny137 := Aside0.mk hy137
                          clear hy137
                          simp only [Option.some.injEq, Prod.mk.injEq] at H
                          obtain ⟨rfl, rfl, rfl⟩ := H
                          go_enter Try.func17, Try.ntmps17
                          go_wp2_with (first | ((with_reducible refine gate_dst (N := 2) rfl ?_); refine box_event ?hg (N := 2) ?hd (cs := #[.int .i64 0, .slice none 0 0]) (t := 41) ?hr ?_; (case hd => rfl); (case hg => rfl); (case hr => first | (go_simp; done) | (go_simp; rfl)); intro gb109 hg w63 hbox hb; have n0_ := Aside0.mk (below_step (by repeat (first | (with_reducible first | exact HB.out | apply below_alloc | apply pw_below_drewN | apply below_drew1) | exact HB.out)) hb); have n1_ := Aside0.mk (hbox); have n2_ := Aside0.mk ((by rw [hg]; exact (below_size (by repeat (first | (with_reducible first | exact HB.out | apply below_alloc | apply pw_below_drewN | apply below_drew1) | exact HB.out))) : w.heap.size ≤ gb109)); have n3_ := Aside0.mk ((by rw [hg]; exact (below_size (by repeat (first | (with_reducible first | exact HB.out | apply below_alloc | apply pw_below_drewN | apply below_drew1) | exact HB.out))) : w.heap.size ≤ gb109)); clear HB; have HB := n0_; have BK109 := n1_; have GW109 := n2_; have GE109 := n3_; clear n0_ n1_ n2_ n3_; clear hb hbox hg) | ((with_reducible refine gate_dst (N := 49) rfl ?_); refine Kd.R_lit (Kd.int .i64) _ 3 ?hg (N := 49) ?hd (xs := ([2, 3, 0, 1] : List Int)) (inner := [.int .i64 2, .int .i64 3, .int .i64 0, .int .i64 1]) (ok := fun _ => True) (okp := fun _ => True) ?hr ?hp (fun _ hk => hk) trivial (Below.refl _ _) (Nat.le_refl _) (by simp) ?_; (case hd => rfl); (case hg => rfl); (case hr => first | (go_simp; done) | (go_simp; rfl)); (case hp => exact (Reps.one (show Kd.M (Kd.int .i64) _ _ _ 2 [.int .i64 2] from rfl) (Reps.one (show Kd.M (Kd.int .i64) _ _ _ 3 [.int .i64 3] from rfl) (Reps.one (show Kd.M (Kd.int .i64) _ _ _ 0 [.int .i64 0] from rfl) (Reps.one (show Kd.M (Kd.int .i64) _ _ _ 1 [.int .i64 1] from rfl) (Reps.none _ _)))))); intro v138 w64 ho65 hb hg_ hnew_; clear hg_ hnew_; (first | rw [← Ny137.out] at ho65 | (simp only [Int.reduceToNat] at ho65; rw [← Ny137.out] at ho65)); have n0_ := Aside0.mk (Kd.R_lower ho65 (below_size (by repeat (first | (with_reducible first | exact HB.out | apply below_alloc | apply pw_below_drewN | apply below_drew1 | refine below_set ?_ GE109.out) | exact HB.out)))); have n1_ := Aside0.mk (blk_below (g := gb109) (o := .cells #[.int .i64 0, .slice none 0 0] 41 (0, 0)) (by (with_reducible repeat (first | refine blk_drewN ?_ _ | refine blk_drew ?_ | refine blk_alloc ?_ _)); exact BK109.out) hb); have n2_ := Aside0.mk (below_step (by repeat (first | (with_reducible first | exact HB.out | apply below_alloc | apply pw_below_drewN | apply below_drew1 | refine below_set ?_ GE109.out) | exact HB.out)) hb); clear BK109; clear HB; have HO139 := n0_; have BK109 := n1_; have HB := n2_; clear n0_ n1_ n2_; clear hb ho65; obtain ⟨Ao66, co66, eo66⟩ := Kd.R_slice HO139.out; subst eo66; have hcz67_0 : w64.cell? ⟨gb109, 0, none⟩ = some (.int .i64 0) := (blk_cell BK109.out 0).trans rfl; have hcz67_1 : w64.cell? ⟨gb109, 1, none⟩ = some (.slice none 0 0) := (blk_cell BK109.out 1).trans rfl; have hfz67_0 := blk_frozen BK109.out 0; have hfz67_1 := blk_frozen BK109.out 1))
                          refine bodyPost_ret (results_ct rfl _ _ gb109 41 #[.int .i64 4, .slice Ao66 y137.length co66] (0, 0) _ rfl (by (with_reducible repeat (first | refine blk_drewN ?_ _ | refine blk_drew ?_ | refine blk_alloc ?_ _)); refine blk_put (cs := #[.int .i64 4, .slice none 0 0]) ?_ 1 _ rfl; (with_reducible repeat (first | refine blk_drewN ?_ _ | refine blk_drew ?_ | refine blk_alloc ?_ _)); refine blk_put (cs := #[.int .i64 0, .slice none 0 0]) ?_ 0 _ rfl; (with_reducible repeat (first | refine blk_drewN ?_ _ | refine blk_drew ?_ | refine blk_alloc ?_ _)); exact BK109.out) Try.underlying41 rfl (by kernel_rfl)) rfl ?_
                          exact ⟨_, by first | rfl | (simp [errW_none, errW_some] <;> rfl) | (simp [*, errW_none, errW_some] <;> rfl), by (with_reducible repeat (first | apply Kd.R_alloc | apply Kd.R_drewN | apply Kd.R_drew)); exact Kd.R_mono (Kd.R_far (p := ⟨gb109, 1, none⟩) (Kd.R_far (p := ⟨gb109, 0, none⟩) (Kd.R_types HO139.out BK109.out (by decide)) (fun _ hk => hk.2) (.int .i64 4)) (fun _ hk => hk.2) (.slice Ao66 y137.length co66)) (fun _ hk => trivial), by repeat (first | (with_reducible first | exact HB.out | apply below_alloc | apply pw_below_drewN | apply below_drew1 | refine below_set ?_ GE109.out) | exact HB.out)⟩
                        · rw [if_neg c62] at H
                          have c62b0 : (a0 == 85) = false := beq_eq_false_iff_ne.mpr c62
                          have c62b1 : (a0 != 85) = true := bne_iff_ne.mpr c62
                          by_cases c68 : a0 = 86
                          · rw [if_pos c68] at H
                            have c68b0 : (a0 == 86) = true := beq_iff_eq.mpr c68
                            have c68b1 : (a0 != 86) = false := bne_eq_false_iff_eq.mpr c68
                            clear c68
                            obtain ⟨y140, hy140⟩ : ∃ y_ : List Int, y_ = (([2, 3, 4, 5, 0, 1] : List Int)) := ⟨_, rfl⟩
                            replace H : (some (6, y140, true)) = some (r1, r2, r3) := by first | (rw [hy140]; with_reducible exact H) | (have H2_ := (Option.bind_some _ _).symm.trans H; rw [hy140]; with_reducible exact H2_) | (have H2_ := (Option.bind_some _ _).symm.trans H; with_reducible exact H2_) | with_reducible exact H | (rw [hy140]; exact H) | exact H
                            have Ny140 := Aside0.mk hy140
                            clear hy140
                            simp only [Option.some.injEq, Prod.mk.injEq] at H
                            obtain ⟨rfl, rfl, rfl⟩ := H
                            go_enter Try.func17, Try.ntmps17
                            go_wp2_with (first | ((with_reducible refine gate_dst (N := 2) rfl ?_); refine box_event ?hg (N := 2) ?hd (cs := #[.int .i64 0, .slice none 0 0]) (t := 41) ?hr ?_; (case hd => rfl); (case hg => rfl); (case hr => first | (go_simp; done) | (go_simp; rfl)); intro gb109 hg w69 hbox hb; have n0_ := Aside0.mk (below_step (by repeat (first | (with_reducible first | exact HB.out | apply below_alloc | apply pw_below_drewN | apply below_drew1) | exact HB.out)) hb); have n1_ := Aside0.mk (hbox); have n2_ := Aside0.mk ((by rw [hg]; exact (below_size (by repeat (first | (with_reducible first | exact HB.out | apply below_alloc | apply pw_below_drewN | apply below_drew1) | exact HB.out))) : w.heap.size ≤ gb109)); have n3_ := Aside0.mk ((by rw [hg]; exact (below_size (by repeat (first | (with_reducible first | exact HB.out | apply below_alloc | apply pw_below_drewN | apply below_drew1) | exact HB.out))) : w.heap.size ≤ gb109)); clear HB; have HB := n0_; have BK109 := n1_; have GW109 := n2_; have GE109 := n3_; clear n0_ n1_ n2_ n3_; clear hb hbox hg) | ((with_reducible refine gate_dst (N := 53) rfl ?_); refine Kd.R_lit (Kd.int .i64) _ 3 ?hg (N := 53) ?hd (xs := ([2, 3, 4, 5, 0, 1] : List Int)) (inner := [.int .i64 2, .int .i64 3, .int .i64 4, .int .i64 5, .int .i64 0, .int .i64 1]) (ok := fun _ => True) (okp := fun _ => True) ?hr ?hp (fun _ hk => hk) trivial (Below.refl _ _) (Nat.le_refl _) (by simp) ?_; (case hd => rfl); (case hg => rfl); (case hr => first | (go_simp; done) | (go_simp; rfl)); (case hp => exact (Reps.one (show Kd.M (Kd.int .i64) _ _ _ 2 [.int .i64 2] from rfl) (Reps.one (show Kd.M (Kd.int .i64) _ _ _ 3 [.int .i64 3] from rfl) (Reps.one (show Kd.M (Kd.int .i64) _ _ _ 4 [.int .i64 4] from rfl) (Reps.one (show Kd.M (Kd.int .i64) _ _ _ 5 [.int .i64 5] from rfl) (Reps.one (show Kd.M (Kd.int .i64) _ _ _ 0 [.int .i64 0] from rfl) (Reps.one (show Kd.M (Kd.int .i64) _ _ _ 1 [.int .i64 1] from rfl) (Reps.none _ _)))))))); intro v141 w70 ho71 hb hg_ hnew_; clear hg_ hnew_; (first | rw [← Ny140.out] at ho71 | (simp only [Int.reduceToNat] at ho71; rw [← Ny140.out] at ho71)); have n0_ := Aside0.mk (Kd.R_lower ho71 (below_size (by repeat (first | (with_reducible first | exact HB.out | apply below_alloc | apply pw_below_drewN | apply below_drew1 | refine below_set ?_ GE109.out) | exact HB.out)))); have n1_ := Aside0.mk (blk_below (g := gb109) (o := .cells #[.int .i64 0, .slice none 0 0] 41 (0, 0)) (by (with_reducible repeat (first | refine blk_drewN ?_ _ | refine blk_drew ?_ | refine blk_alloc ?_ _)); exact BK109.out) hb); have n2_ := Aside0.mk (below_step (by repeat (first | (with_reducible first | exact HB.out | apply below_alloc | apply pw_below_drewN | apply below_drew1 | refine below_set ?_ GE109.out) | exact HB.out)) hb); clear BK109; clear HB; have HO142 := n0_; have BK109 := n1_; have HB := n2_; clear n0_ n1_ n2_; clear hb ho71; obtain ⟨Ao72, co72, eo72⟩ := Kd.R_slice HO142.out; subst eo72; have hcz73_0 : w70.cell? ⟨gb109, 0, none⟩ = some (.int .i64 0) := (blk_cell BK109.out 0).trans rfl; have hcz73_1 : w70.cell? ⟨gb109, 1, none⟩ = some (.slice none 0 0) := (blk_cell BK109.out 1).trans rfl; have hfz73_0 := blk_frozen BK109.out 0; have hfz73_1 := blk_frozen BK109.out 1))
                            refine bodyPost_ret (results_ct rfl _ _ gb109 41 #[.int .i64 6, .slice Ao72 y140.length co72] (0, 0) _ rfl (by (with_reducible repeat (first | refine blk_drewN ?_ _ | refine blk_drew ?_ | refine blk_alloc ?_ _)); refine blk_put (cs := #[.int .i64 6, .slice none 0 0]) ?_ 1 _ rfl; (with_reducible repeat (first | refine blk_drewN ?_ _ | refine blk_drew ?_ | refine blk_alloc ?_ _)); refine blk_put (cs := #[.int .i64 0, .slice none 0 0]) ?_ 0 _ rfl; (with_reducible repeat (first | refine blk_drewN ?_ _ | refine blk_drew ?_ | refine blk_alloc ?_ _)); exact BK109.out) Try.underlying41 rfl (by kernel_rfl)) rfl ?_
                            exact ⟨_, by first | rfl | (simp [errW_none, errW_some] <;> rfl) | (simp [*, errW_none, errW_some] <;> rfl), by (with_reducible repeat (first | apply Kd.R_alloc | apply Kd.R_drewN | apply Kd.R_drew)); exact Kd.R_mono (Kd.R_far (p := ⟨gb109, 1, none⟩) (Kd.R_far (p := ⟨gb109, 0, none⟩) (Kd.R_types HO142.out BK109.out (by decide)) (fun _ hk => hk.2) (.int .i64 6)) (fun _ hk => hk.2) (.slice Ao72 y140.length co72)) (fun _ hk => trivial), by repeat (first | (with_reducible first | exact HB.out | apply below_alloc | apply pw_below_drewN | apply below_drew1 | refine below_set ?_ GE109.out) | exact HB.out)⟩
                          · rw [if_neg c68] at H
                            have c68b0 : (a0 == 86) = false := beq_eq_false_iff_ne.mpr c68
                            have c68b1 : (a0 != 86) = true := bne_iff_ne.mpr c68
                            simp only [Option.some.injEq, Prod.mk.injEq] at H
                            obtain ⟨rfl, rfl, rfl⟩ := H
                            go_enter Try.func17, Try.ntmps17
                            go_wp2_with (first | ((with_reducible refine gate_dst (N := 2) rfl ?_); refine box_event ?hg (N := 2) ?hd (cs := #[.int .i64 0, .slice none 0 0]) (t := 41) ?hr ?_; (case hd => rfl); (case hg => rfl); (case hr => first | (go_simp; done) | (go_simp; rfl)); intro gb109 hg w74 hbox hb; have n0_ := Aside0.mk (below_step (by repeat (first | (with_reducible first | exact HB.out | apply below_alloc | apply pw_below_drewN | apply below_drew1) | exact HB.out)) hb); have n1_ := Aside0.mk (hbox); have n2_ := Aside0.mk ((by rw [hg]; exact (below_size (by repeat (first | (with_reducible first | exact HB.out | apply below_alloc | apply pw_below_drewN | apply below_drew1) | exact HB.out))) : w.heap.size ≤ gb109)); have n3_ := Aside0.mk ((by rw [hg]; exact (below_size (by repeat (first | (with_reducible first | exact HB.out | apply below_alloc | apply pw_below_drewN | apply below_drew1) | exact HB.out))) : w.heap.size ≤ gb109)); clear HB; have HB := n0_; have BK109 := n1_; have GW109 := n2_; have GE109 := n3_; clear n0_ n1_ n2_ n3_; clear hb hbox hg; have hcz75_0 : w74.cell? ⟨gb109, 0, none⟩ = some (.int .i64 0) := (blk_cell BK109.out 0).trans rfl; have hcz75_1 : w74.cell? ⟨gb109, 1, none⟩ = some (.slice none 0 0) := (blk_cell BK109.out 1).trans rfl; have hfz75_0 := blk_frozen BK109.out 0; have hfz75_1 := blk_frozen BK109.out 1))
                            refine bodyPost_ret (results_ct rfl _ _ gb109 41 #[.int .i64 0, .slice none 0 0] (0, 0) _ rfl (by (with_reducible repeat (first | refine blk_drewN ?_ _ | refine blk_drew ?_ | refine blk_alloc ?_ _)); refine blk_put (cs := #[.int .i64 0, .slice none 0 0]) ?_ 1 _ rfl; (with_reducible repeat (first | refine blk_drewN ?_ _ | refine blk_drew ?_ | refine blk_alloc ?_ _)); refine blk_put (cs := #[.int .i64 0, .slice none 0 0]) ?_ 0 _ rfl; (with_reducible repeat (first | refine blk_drewN ?_ _ | refine blk_drew ?_ | refine blk_alloc ?_ _)); exact BK109.out) Try.underlying41 rfl (by kernel_rfl)) rfl ?_
                            exact ⟨_, by first | rfl | (simp [errW_none, errW_some] <;> rfl) | (simp [*, errW_none, errW_some] <;> rfl), by first | exact Kd.R_nil _ _ _ _ _ | exact Kd.N_nil _ _ _ _ _ | exact Kd.V_nil _ _ _ _ _ | exact Kd.Q_nil _ _ _ _ _ | exact Kd.S_nil _ _ _ _ _, by repeat (first | (with_reducible first | exact HB.out | apply below_alloc | apply pw_below_drewN | apply below_drew1 | refine below_set ?_ GE109.out) | exact HB.out)⟩

/-! ### stack_full: function 18 -/
def stack_full.f (l0 : List Int) : Option (List Int × Int) := if (l0.length : Int) > 64 then (some (([] : List Int), 6)) else (some (l0, 0))
set_option maxHeartbeats 8000000 in
set_option maxRecDepth 100000 in
theorem stack_full.calls (P0_ : Nat → Prop) (A0 : Option Addr) (c0 : Nat) (l0 : List Int) (r1 : List Int) (r2 : Int) (w : World) (hs0 : Kd.V (Kd.int .u32) 39 w w.heap.size (fun k_ => P0_ k_) (.slice A0 l0.length c0) l0) (h : stack_full.f l0 = some (r1, r2)) :
    Calls Try.prog 18 #[.slice A0 l0.length c0] w fun e w' => ∃ v0_ : Value, e = .returned (.tuple #[v0_, .int .i64 r2]) ∧ Kd.V (Kd.int .u32) 39 w' w.heap.size (fun k_ => (P0_ k_ ∨ w.heap.size ≤ k_)) v0_ r1 ∧ Below w.heap.size w w' := by
  have HO0 := Aside0.mk (show Kd.V (Kd.int .u32) 39 w w.heap.size (fun k_ => (P0_ k_ ∨ w.heap.size ≤ k_)) (.slice A0 l0.length c0) l0 from Kd.V_mono hs0 (fun k_ hk => .inl hk))
  have HB := Aside0.mk (Below.refl w.heap.size w)
  have H : (if (l0.length : Int) > 64 then (some (([] : List Int), 6)) else (some (l0, 0))) = some (r1, r2) := h
  clear h
  by_cases c2 : (l0.length : Int) > 64
  · rw [if_pos c2] at H
    have c2b0 : decide (64 < (l0.length : Int)) = true := decide_eq_true c2
    have c2b1 : decide (64 < l0.length) = true := decide_eq_true (by omega)
    clear c2
    simp only [Option.some.injEq, Prod.mk.injEq] at H
    obtain ⟨rfl, rfl⟩ := H
    go_enter Try.func18, Try.ntmps18
    go_wp2
    go_ret2
    exact ⟨_, by first | rfl | (simp [errW_none, errW_some] <;> rfl) | (simp [*, errW_none, errW_some] <;> rfl), Kd.V_nil _ _ _ _ _, by repeat (first | (with_reducible first | exact HB.out | apply below_alloc | apply pw_below_drewN | apply below_drew1) | exact HB.out)⟩
  · rw [if_neg c2] at H
    have c2b0 : decide (64 < (l0.length : Int)) = false := decide_eq_false c2
    have c2b1 : decide (64 < l0.length) = false := decide_eq_false (by omega)
    clear c2
    simp only [Option.some.injEq, Prod.mk.injEq] at H
    obtain ⟨rfl, rfl⟩ := H
    go_enter Try.func18, Try.ntmps18
    go_wp2
    go_ret2
    exact ⟨_, by first | rfl | (simp [errW_none, errW_some] <;> rfl) | (simp [*, errW_none, errW_some] <;> rfl), by (with_reducible repeat (first | apply Kd.V_alloc | apply Kd.V_drewN | apply Kd.V_drew)); exact HO0.out, by repeat (first | (with_reducible first | exact HB.out | apply below_alloc | apply pw_below_drewN | apply below_drew1) | exact HB.out)⟩

/-! ### stack_deep: function 19 -/
theorem setCells_row (g : Nat) (t : TypeId) : ∀ (vs : List Value) (o : Nat) (cur : Array Value) (w : World), w.heap[g]? = some (.cells cur t (0, 0)) → o + vs.length ≤ cur.size →
    w.setCells g o vs = w.setRow g (cur.toList.take o ++ vs ++ cur.toList.drop (o + vs.length)).toArray
  | [], o, cur, w, hg, _ => by
    simp only [World.setCells, List.append_nil, List.length_nil, Nat.add_zero, List.take_append_drop, Array.toArray_toList]
    rw [setRow_self w g cur t (0, 0) hg]
  | v :: rest, o, cur, w, hg, hl => by
    have ih := setCells_row g t rest (o + 1) (cur.setIfInBounds o v) (w.setRow g (cur.setIfInBounds o v)) (setRow_heap w g cur _ t _ hg) (by simp at hl ⊢; omega)
    simp only [World.setCells]
    rw [setCell_eq_setRow w g o cur t (0, 0) v hg, ih, setRow_setRow]
    have e := list_seg_step cur.toList o v rest (by simp at hl ⊢; omega)
    congr 2
    simpa [Array.toList_setIfInBounds, Nat.add_assoc] using e
/-- The cells that are moved one to the left. -/
def moved (cur : Array Value) (i n : Nat) : List Value := (cur.toList.take n).drop (i + 1)
theorem moved_length {cur : Array Value} {i n : Nat} (h : n ≤ cur.size) : (moved cur i n).length = n - (i + 1) := by
  simp only [moved, List.length_drop, List.length_take, Array.length_toList]
  omega
theorem moved_get {cur : Array Value} {i n j : Nat} {u : Value} (h : (moved cur i n)[j]? = some u) : cur[i + 1 + j]? = some u := by
  simp only [moved, List.getElem?_drop, List.getElem?_take] at h
  by_cases hj : i + 1 + j < n
  · rw [if_pos hj] at h
    simpa using h
  · rw [if_neg hj] at h
    cases h
section
variable {P : Program} {ops : Array Oper} {rest : List Oper} {o : Oper} {a : Act} {Q : Exit → Act → World → Prop}
/-- The builtin clear as a step of the walk. -/
theorem wpList_clear {W w1 : World} (hgd : o.guard = none) (d : Operand) (t : TypeId) (hop : o.op = .call { callee := .builtin .clear, args := #[d], argTypes := #[t] }) (v : Value) (hd : a.eval d = v)
    (hrun : (Builtin.clear_ #[t] o.type #[v]).run P W = .ok (.tuple #[]) w1) (h : wpList P ops Q rest (a.put o.dst (.tuple #[])) w1) : wpList P ops Q (o :: rest) a W := by
  refine wpList_plain hgd fun K hK => ?_
  unfold Oper.wp execOp
  simp only [hop, resolve, invoke, builtin, Sem.run_bind, Sem.run_pure, Result.andThen_ok, List.map_toArray, List.map_cons, List.map_nil, hd, hrun]
  exact hK _ _ h
end
set_option maxHeartbeats 1600000 in
set_option maxRecDepth 1000000 in
theorem stack_deep.delete (g n cap i : Nat) (cur : Array Value) (w : World) (hg : w.heap[g]? = some (.cells cur 39 (0, 0))) (hs : cur.size = cap) (hi : i < n) (hl : n ≤ cap) (hm : cap ≤ 9223372036854775807) (h1 : ∀ v ∈ cur.toList.take n, v.oneCell' = true) :
    Calls Try.prog 23 #[.slice (some ⟨g, 0, none⟩) n cap, .int .i64 (i : Int), .int .i64 ((i : Int) + 1)] w fun e w' => e = .returned (.slice (some ⟨g, 0, none⟩) (n - 1) cap) ∧ w' = (w.drew.setCells g i (moved cur i n)).setCells g (n - 1) (List.replicate 1 (.int .u32 0)) := by
  obtain ⟨i0, hi0, hz0, hz1, hz2⟩ := info_parts info39
  obtain ⟨A, hA, hnews⟩ : ∃ A : Addr, (if cap = i + 1 then some (⟨g, 0, none⟩ : Addr) else some ⟨g, i + 1, none⟩) = some A ∧ Hid (∀ j u, (moved cur i n)[j]? = some u → w.drew.cell? (A.add j) = some u) := by
    by_cases h : cap = i + 1
    · refine ⟨⟨g, 0, none⟩, by simp [h], fun j u hu => ?_⟩
      have h0 : (moved cur i n).length = 0 := by rw [moved_length (by omega)]; omega
      rw [List.length_eq_zero_iff.1 h0] at hu
      simp at hu
    · refine ⟨⟨g, i + 1, none⟩, by simp [h], fun j u hu => ?_⟩
      have hq := moved_get hu
      rw [Addr.add_lit]
      show w.cell? _ = _
      simp [World.cell?, hg, hq]
  have s1 : Hid ((moved cur i n).length = (n - (i + 1)) * 1) := by rw [Nat.mul_one]; exact moved_length (by omega)
  have s2 : Hid (∀ u ∈ moved cur i n, u.oneCell' = true) := by
    intro u hu
    exact h1 u (List.mem_of_mem_drop hu)
  have s3 : Hid (∀ j, j < (moved cur i n).length → (w.drew.cell? ⟨g, 0 + i * 1 + j, none⟩).isSome = true ∧ w.drew.frozen? ⟨g, 0 + i * 1 + j, none⟩ = false) := by
    intro j hj
    rw [moved_length (by omega)] at hj
    constructor
    · show (w.cell? _).isSome = true
      have : i + j < cur.size := by omega
      simp [World.cell?, hg, this]
    · show w.frozen? _ = false
      simp [World.frozen?, hg]
  have hic : i ≤ cap := by omega
  have hin : (i : Int) ≤ (n : Int) := by omega
  have hp0 : (0 : Int) ≤ (i : Int) + 1 := by omega
  have hp1 : (i : Int) + 1 ≤ (n : Int) := by omega
  have hp2 : ((i : Int) + 1).toNat = i + 1 := by omega
  have hp3 : (i : Int) ≤ (i : Int) + 1 := by omega
  have hne : ((i : Int) == (i : Int) + 1) = false := by simp; omega
  clear h1
  have hz : ∀ w, (zeroValue 39).run Try.prog w = .ok (.int .u32 0) w := fun w => by simp [zeroValue, typeInfo, hi0, hz0]
  have hi9 : i + (n - (i + 1)) = n - 1 := by omega
  have hk1 : ((w.drew.setCells g i (moved cur i n)).cell? ⟨g, n - 1 + 0, none⟩).isSome := by
    refine World.isSome_setCells g _ _ _ _ ?_
    show (w.cell? _).isSome = true
    have : n - 1 < cur.size := by omega
    simp [World.cell?, hg, this]
  have hk2 : (w.drew.setCells g i (moved cur i n)).frozen? ⟨g, n - 1 + 0, none⟩ = false := by
    rw [World.frozen?_setCells]
    show w.frozen? _ = false
    simp [World.frozen?, hg]
  have hk3 : ∀ j, j < 1 → ((w.drew.setCells g i (moved cur i n)).cell? ⟨g, n - 1 + j, none⟩).isSome := by
    intro j hj
    have hj0 : j = 0 := by omega
    subst hj0
    exact hk1
  have hk4 : ∀ j, j < 1 → (w.drew.setCells g i (moved cur i n)).frozen? ⟨g, n - 1 + j, none⟩ = false := by
    intro j hj
    have hj0 : j = 0 := by omega
    subst hj0
    exact hk2
  have HK := Aside0.mk (Lib.run_clear_slice (P := Try.prog) (w.drew.setCells g i (moved cur i n)) 22 39 0 (.int .u32 0) Try.underlying22 hz rfl rfl g (n - 1) 1 (cap - (n - 1)) (by omega) hk3 hk4)
  have hle1 : ((n - 1 : Nat) : Int) ≤ (n : Int) := by omega
  have hi8 : n - (n - 1) = 1 := by omega
  clear hg hk1 hk2 hk3 hk4 hz
  go_enter Try.func23, Try.ntmps23
  go_wp2_with fail
  go_region_law (refine step_append_room rfl (.tmp 22) (.tmp 25) 22 rfl 39 i0 1 Try.underlying22 hi0 hz1 g 0 i cap (by simp [Act.eval, Act.put]) A (n - (i + 1)) (cap - (i + 1)) (moved cur i n) (by simp [Act.eval, Act.put]) s1.out hnews.out s2.out (by omega) s3.out ?_)
  go_wp2_with ((with_reducible refine gate_builtin (b := .clear) (xs := #[.tmp 31]) rfl ?_); go_must (refine wpList_clear rfl (.tmp 31) 22 rfl (.slice (some ⟨g, n - 1, none⟩) 1 (cap - (n - 1))) rfl HK.out ?_))
  go_ret
  exact ⟨rfl, rfl⟩
theorem deleted_take {xs : List Int} {i cap : Nat} {cur : Array Value} (hi : i < xs.length) (hc : xs.length ≤ cap) (hs : cur.size = cap) (ht : cur.toList.take xs.length = encs (Value.int .u32) xs) (z : Value) :
    let X := cur.toList.take i ++ moved cur i xs.length ++ cur.toList.drop (i + (moved cur i xs.length).length)
    let Y := X.take (xs.length - 1) ++ [z] ++ X.drop (xs.length - 1 + 1)
    X.length = cap ∧ Y.length = cap ∧ Y.take (xs.length - 1) = encs (Value.int .u32) (xs.take i ++ xs.drop (i + 1)) := by
  intro X Y
  have hml := moved_length (i := i) (show xs.length ≤ cur.size by omega)
  have hcu : cur.toList.length = cur.size := Array.length_toList
  have hX : X.length = cap := by
    show (cur.toList.take i ++ moved cur i xs.length ++ cur.toList.drop (i + (moved cur i xs.length).length)).length = cap
    rw [List.length_append, List.length_append, List.length_take, List.length_drop, hml, hcu]
    omega
  have hXt : X.take (xs.length - 1) = cur.toList.take i ++ moved cur i xs.length := by
    show (cur.toList.take i ++ moved cur i xs.length ++ cur.toList.drop (i + (moved cur i xs.length).length)).take (xs.length - 1) = _
    rw [List.take_append_of_le_length (by rw [List.length_append, List.length_take, hml, hcu]; omega), List.take_of_length_le (by rw [List.length_append, List.length_take, hml, hcu]; omega)]
  refine ⟨hX, ?_, ?_⟩
  · show (X.take (xs.length - 1) ++ [z] ++ X.drop (xs.length - 1 + 1)).length = cap
    rw [List.length_append, List.length_append, List.length_take, List.length_drop, hX]
    simp only [List.length_cons, List.length_nil]
    omega
  · show (X.take (xs.length - 1) ++ [z] ++ X.drop (xs.length - 1 + 1)).take (xs.length - 1) = _
    rw [List.append_assoc, List.take_append_of_le_length (by rw [List.length_take, hX]; omega), List.take_of_length_le (by rw [List.length_take]; omega), hXt]
    unfold moved
    rw [ht]
    have h2 : cur.toList.take i = (encs (Value.int .u32) xs).take i := by
      rw [← ht, List.take_take, Nat.min_eq_left (by omega)]
    rw [h2]
    unfold encs
    rw [List.map_append, List.map_take, List.map_drop]
theorem deleted_R {e : Nat} {xs : List Int} {g cap i base : Nat} {ok : Nat → Prop} {cur : Array Value} {w w0 : World} (hg : w.heap[g]? = some (.cells cur e (0, 0))) (hs : cur.size = cap) (hi : i < xs.length) (hc : xs.length ≤ cap) (hm : cap ≤ maxLen)
    (ht : cur.toList.take xs.length = encs (Value.int .u32) xs) (hb : base ≤ g) (hok : ok g) (HB : Below base w0 w) :
    Kd.R (Kd.int .u32) e ((w.drew.setCells g i (moved cur i xs.length)).setCells g (xs.length - 1) (List.replicate 1 (.int .u32 0))) base ok (.slice (some ⟨g, 0, none⟩) (xs.length - 1) cap) (xs.take i ++ xs.drop (i + 1)) ∧
      Below base w0 ((w.drew.setCells g i (moved cur i xs.length)).setCells g (xs.length - 1) (List.replicate 1 (.int .u32 0))) := by
  have hml := moved_length (i := i) (show xs.length ≤ cur.size by omega)
  obtain ⟨hX, hY, hT⟩ := deleted_take hi hc hs ht (.int .u32 0)
  have hl : (xs.take i ++ xs.drop (i + 1)).length = xs.length - 1 := by
    rw [List.length_append, List.length_take, List.length_drop]
    omega
  have hg0 : w.drew.heap[g]? = some (.cells cur e (0, 0)) := hg
  rw [setCells_row g e _ i cur w.drew hg0 (by rw [hml]; omega), setCells_row g e _ (xs.length - 1) _ _ (setRow_heap _ g _ _ e _ hg0) (by rw [List.size_toArray, hX, List.length_replicate]; omega), setRow_setRow]
  refine ⟨?_, below_setRow (below_drew1 HB) hb _⟩
  have hR := Kd.R_of_own (enc := Value.int .u32) (h1 := fun _ => rfl) (e := e) (w := w.drew.setRow g ((cur.toList.take i ++ moved cur i xs.length ++ cur.toList.drop (i + (moved cur i xs.length).length)).take (xs.length - 1) ++ [Value.int .u32 0] ++ (cur.toList.take i ++ moved cur i xs.length ++ cur.toList.drop (i + (moved cur i xs.length).length)).drop (xs.length - 1 + 1)).toArray) (base := base) (ok := ok) (v := .slice (some ⟨g, 0, none⟩) (xs.take i ++ xs.drop (i + 1)).length cap) (xs := xs.take i ++ xs.drop (i + 1)) ⟨by unfold encs; rw [List.length_map, Nat.mul_one], .inr ⟨g, cap, _, rfl, hb, setRow_heap _ g _ _ e _ hg0, by rw [hl]; omega, hm, by rw [List.size_toArray, hY, Nat.mul_one], by rw [hl, Nat.mul_one, List.toList_toArray]; exact hT⟩⟩ (fun k hk => by
      have : g = k := by simpa [Value.ownBlock] using hk
      rw [← this]
      exact hok)
  rw [hl] at hR
  exact hR
def stack_deep.f (a0 : Int) (l1 : List Int) : Option (List Int × Int) :=
  if l1.length < 35184372088832 then
    (if l1.length = 0 then some ([], 5) else
      (if 0 ≤ l1.getD (l1.length - 1) 0 ∧ l1.getD (l1.length - 1) 0 ≤ 4294967295 then
        (if (l1.length : Int) - 1 ≤ l1.getD (l1.length - 1) 0 then some ([], 5)
         else some ((if a0 = 79 then (l1.take (l1.length - 1)).take (l1.length - 2 - (l1.getD (l1.length - 1) 0).toNat) ++ (l1.take (l1.length - 1)).drop (l1.length - 2 - (l1.getD (l1.length - 1) 0).toNat + 1) else l1.take (l1.length - 1)) ++ [(l1.take (l1.length - 1)).getD (l1.length - 2 - (l1.getD (l1.length - 1) 0).toNat) 0], 0))
       else none))
  else none
set_option maxHeartbeats 1600000 in
set_option maxRecDepth 1000000 in
theorem stack_deep.calls (a0 : Int) (A1 : Option Addr) (c1 : Nat) (l1 : List Int) (r1 : List Int) (r2 : Int) (w : World) (hr1 : Kd.C (Kd.int .u32) w A1 l1.length l1) (hc1 : l1.length ≤ c1) (h : stack_deep.f a0 l1 = some (r1, r2)) :
    Calls Try.prog 19 #[.int .i64 a0, .slice A1 l1.length c1] w fun e w' => ∃ v0_ : Value, e = .returned (.tuple #[v0_, .int .i64 r2]) ∧ Kd.R (Kd.int .u32) 39 w' w.heap.size (fun _ => True) v0_ r1 ∧ Below w.heap.size w w' := by
  unfold stack_deep.f at h
  by_cases hb : l1.length < 35184372088832
  · rw [if_pos hb] at h
    have HR1 := Aside0.mk hr1
    have HC1 := Aside0.mk hc1
    have HL := Aside0.mk hb
    clear hr1 hc1 hb
    by_cases h0 : l1.length = 0
    · rw [if_pos h0] at h
      simp only [Option.some.injEq, Prod.mk.injEq] at h
      obtain ⟨rfl, rfl⟩ := h
      have P1 := Aside0.mk (show stack_Pop.f l1 1 = some ([], [], 5) by
        have c1 : ¬ (1 : Int) < 0 := by omega
        have c2 : (1 : Int) > (l1.length : Int) := by omega
        unfold stack_Pop.f
        rw [if_neg c1, if_pos c2])
      clear h0
      go_enter Try.func19, Try.ntmps19
      go_wp2_with fail
      (with_reducible refine (stack_Pop.calls _ _ l1 1 _ _ _ _ ?s1 ?s2 P1.out).mono ?_)
      (case s1 => exact HR1.out)
      (case s2 => exact HC1.out)
      rintro e w1 ⟨v0, v1, rfl, ho0, ho1, hb1⟩
      have HB1 := Aside0.mk hb1
      obtain ⟨A2, c2, e2⟩ := Kd.R_slice ho0
      obtain ⟨A3, c3, e3⟩ := Kd.R_slice ho1
      subst e2 e3
      clear ho0 ho1 hb1
      go_wp2_with fail
      go_ret2
      exact ⟨_, rfl, Kd.R_nil _ _ _ _ _, HB1.out⟩
    · rw [if_neg h0] at h
      obtain ⟨x, hx⟩ : ∃ x, l1.getD (l1.length - 1) 0 = x := ⟨_, rfl⟩
      obtain ⟨r, hr⟩ : ∃ r, l1.take (l1.length - 1) = r := ⟨_, rfl⟩
      obtain ⟨m, hm⟩ : ∃ m, m = r.length := ⟨_, rfl⟩
      have hlen : l1.length = m + 1 := by rw [hm, ← hr, List.length_take]; omega
      rw [hx, hr, hlen] at h
      have hdrop : l1.drop (l1.length - 1) = [x] := by
        apply List.ext_getElem?
        intro j
        rw [List.getElem?_drop, ← hx]
        rcases Nat.eq_zero_or_pos j with hj | hj
        · subst hj
          rw [Nat.add_zero, List.getElem?_cons_zero, List.getD_eq_getElem?_getD, List.getElem?_eq_getElem (by omega)]
          rfl
        · rw [List.getElem?_eq_none (by omega), List.getElem?_eq_none (by simp; omega)]
      have hw : wrap64 ((l1.length : Int) - 1) = (m : Int) := by unfold wrap64; have := HL.out; omega
      have ht1 : ((m : Nat) : Int).toNat = l1.length - 1 := by omega
      have P1 := Aside0.mk (show stack_Pop.f l1 1 = some (r, [x], 0) by
        have c1 : ¬ (1 : Int) < 0 := by omega
        have c2 : ¬ (1 : Int) > (l1.length : Int) := by omega
        have c3 : 0 ≤ (m : Int) := by omega
        have c4 : (m : Int) ≤ (l1.length : Int) := by omega
        unfold stack_Pop.f slices_Clone_uint32_uint32.f
        rw [if_neg c1, if_neg c2, hw, if_pos c3, if_pos c4, ht1, hr, hdrop, if_pos (by have := HL.out; omega), Option.bind_some, if_pos (by simp only [List.length_cons, List.length_nil]; omega), Option.bind_some])
      by_cases hb : 0 ≤ x ∧ x ≤ 4294967295
      · rw [if_pos hb] at h
        have hx1 := hb.1
        have hx2 := hb.2
        have HM := Aside0.mk (show m < 35184372088832 by have := HL.out; omega)
        clear hdrop hw ht1 hb h0 hx hr hlen
        by_cases hc : ((m + 1 : Nat) : Int) - 1 ≤ x
        · rw [if_pos hc] at h
          simp only [Option.some.injEq, Prod.mk.injEq] at h
          obtain ⟨rfl, rfl⟩ := h
          have hcb : decide ((m : Int) ≤ x) = true := decide_eq_true (by omega)
          have hum : IntKind.u64.wrap (m : Int) = (m : Int) := by have := HM.out; simp [IntKind.wrap, IntKind.bits, IntKind.signed]; omega
          clear hc
          have HMe := Aside0.mk hm
          clear hm
          go_enter Try.func19, Try.ntmps19
          go_wp2_with fail
          (with_reducible refine (stack_Pop.calls _ _ l1 1 _ _ _ _ ?s1 ?s2 P1.out).mono ?_)
          (case s1 => exact HR1.out)
          (case s2 => exact HC1.out)
          rintro e w1 ⟨v0, v1, rfl, ho0, ho1, hb1⟩
          have HB1 := Aside0.mk hb1
          obtain ⟨A2, c2, e2⟩ := Kd.R_slice ho0
          obtain ⟨A3, c3, e3⟩ := Kd.R_slice ho1
          subst e2 e3
          rw [← HMe.out]
          obtain ⟨ad, rfl, hcell⟩ := (Kd.R_reads' ho1).2.2.2.2 (by simp only [List.length_cons, List.length_nil]; omega)
          obtain ⟨cs, _, hK, hq⟩ := hcell 0 x rfl
          have hK' : cs = [Value.int .u32 x] := hK
          have hq0 : w1.cell? ad = some (.int .u32 x) := by
            have h9 := hq 0 (.int .u32 x) (by rw [hK']; rfl)
            rwa [show ad.add (0 * (Kd.int .u32).sz + 0) = ad from by show ad.add (0 * 1 + 0) = ad; cases ad with | mk b o s => cases s <;> simp [Addr.add]] at h9
          clear ho0 ho1 hb1 hq hK hK' hcell
          go_wp2_with fail
          go_ret2
          exact ⟨_, rfl, Kd.R_nil _ _ _ _ _, HB1.out⟩
        · rw [if_neg hc] at h
          simp only [Option.some.injEq, Prod.mk.injEq] at h
          obtain ⟨hr1, rfl⟩ := h
          have hcb : decide ((m : Int) ≤ x) = false := decide_eq_false (by omega)
          have hum : IntKind.u64.wrap (m : Int) = (m : Int) := by have := HM.out; simp [IntKind.wrap, IntKind.bits, IntKind.signed]; omega
          obtain ⟨i, hi⟩ : ∃ i, i = m + 1 - 2 - x.toNat := ⟨_, rfl⟩
          rw [← hi] at hr1
          have hI : i < m := by omega
          have hw1 : wrap64 ((m : Int) - 1) = (m : Int) - 1 := by unfold wrap64; have := HM.out; omega
          have hw2 : wrap64 ((m : Int) - 1 - x) = (i : Int) := by unfold wrap64; have := HM.out; omega
          have hw3 : wrap64 ((i : Int) + 1) = (i : Int) + 1 := by unfold wrap64; have := HM.out; omega
          have hI1 : (0 : Int) ≤ (i : Int) := by omega
          have hI2 : (i : Int) < (m : Int) := by omega
          obtain ⟨y, hy⟩ : ∃ y, r.getD i 0 = y := ⟨_, rfl⟩
          have hy2 : r[i]? = some y := by rw [← hy, List.getD_eq_getElem?_getD, List.getElem?_eq_getElem (by omega)]; rfl
          rw [hy] at hr1
          have HR9 := Aside0.mk hr1
          have HI := Aside0.mk hI
          have HMe := Aside0.mk hm
          clear hc hi hI hy hr1 hm
          go_enter Try.func19, Try.ntmps19
          go_wp2_with fail
          (with_reducible refine (stack_Pop.calls _ _ l1 1 _ _ _ _ ?s3 ?s4 P1.out).mono ?_)
          (case s3 => exact HR1.out)
          (case s4 => exact HC1.out)
          rintro e w1 ⟨v0, v1, rfl, ho0, ho1, hb1⟩
          have HB1 := Aside0.mk hb1
          have hos := Kd.own_of_R ho0
          rcases hos.2 with ⟨_, hn⟩ | ⟨g, c2, cur, e2, hgb, hgh, hgc, hgm, hgs, hgt⟩
          · exact absurd hn (by have := HI.out; have := HMe.out; omega)
          subst e2
          obtain ⟨A3, c3, e3⟩ := Kd.R_slice ho1
          subst e3
          rw [← HMe.out]
          have hok : g ≠ 0 ∨ True := .inr trivial
          obtain ⟨ad, rfl, hcell⟩ := (Kd.R_reads' ho1).2.2.2.2 (by simp only [List.length_cons, List.length_nil]; omega)
          obtain ⟨cs, _, hK, hq⟩ := hcell 0 x rfl
          have hK' : cs = [Value.int .u32 x] := hK
          have hq0 : w1.cell? ad = some (.int .u32 x) := by
            have h9 := hq 0 (.int .u32 x) (by rw [hK']; rfl)
            rwa [show ad.add (0 * (Kd.int .u32).sz + 0) = ad from by show ad.add (0 * 1 + 0) = ad; cases ad with | mk b o s => cases s <;> simp [Addr.add]] at h9
          have hq1 : w1.cell? ⟨g, i, none⟩ = some (.int .u32 y) := by
            obtain ⟨ad1, e9, hcell1⟩ := (Kd.R_reads' ho0).2.2.2.2 (by have := HI.out; have := HMe.out; omega)
            injection e9 with e9
            subst e9
            obtain ⟨cs1, _, hK1, hq9⟩ := hcell1 i y hy2
            have hK1' : cs1 = [Value.int .u32 y] := hK1
            have h9 := hq9 0 (.int .u32 y) (by rw [hK1']; rfl)
            rwa [show (⟨g, 0, none⟩ : Addr).add (i * (Kd.int .u32).sz + 0) = ⟨g, i, none⟩ from by show (⟨g, 0, none⟩ : Addr).add (i * 1 + 0) = _; rw [Addr.add_lit]; simp] at h9
          have ho9 := Kd.R_mono ho0 (ok' := fun _ => True) (fun _ _ => trivial)
          rw [← HMe.out] at ho9
          have HO0 := Aside0.mk ho9
          clear ho9
          have HG := Aside0.mk (And.intro hgb (And.intro hgh (And.intro hgc (And.intro hgm (And.intro hgs hgt)))))
          clear ho0 ho1 hb1 hq hK hK' hcell hos hgb hgh hgc hgm hgs hgt hy2
          by_cases ha : a0 = 79
          · have hab : (a0 == 79) = true := beq_iff_eq.mpr ha
            have H2 := HR9.out
            rw [if_pos ha] at H2
            clear HR9 ha
            subst H2
            go_wp2_with fail
            obtain ⟨hgb, hgh, hgc, hgm, hgs, hgt⟩ := HG.out
            have hrl : r.length ≤ c2 := hgc
            rw [Nat.mul_one] at hgs hgt
            (with_reducible refine (stack_deep.delete g m c2 i cur w1 ?t1 ?t2 ?t3 ?t4 ?t5 ?t6).mono ?_)
            (case t1 => exact hgh)
            (case t2 => exact hgs)
            (case t3 => exact HI.out)
            (case t4 => rw [HMe.out]; exact hgc)
            (case t5 => exact hgm)
            (case t6 => rw [HMe.out, hgt]; intro v hv; unfold encs at hv; obtain ⟨z, _, rfl⟩ := List.mem_map.1 hv; rfl)
            rintro e w2 ⟨rfl, hw⟩
            obtain ⟨hR, hB⟩ := deleted_R (e := 39) (ok := fun _ => True) (i := i) hgh hgs (by rw [← HMe.out]; exact HI.out) hgc hgm hgt hgb trivial HB1.out
            rw [← HMe.out, ← hw] at hR hB
            have HO2 := Aside0.mk hR
            have HB2 := Aside0.mk hB
            clear hR hB hw hgb hgh hgc hgm hgs hgt hrl hq0 hq1
            go_wp2_with (first | ((with_reducible refine gate_builtin (b := .append) (xs := #[.tmp 48, .tmp 50]) rfl ?_); at_builtin; go_must (refine Kd.R_append (Kd.int .u32) (w0 := w) w.heap.size rfl (.tmp 48) (.tmp 50) 22 39 (.int .u32 0) 4 rfl Try.underlying22 info39 rfl (by decide) (by omega) _ (r.take i ++ r.drop (i + 1)) y [.int .u32 y] (fun _ => True) (fun _ => False) rfl rfl ?aP (fun _ hk => hk.elim) ?aF ?aO ?aB ?aS ?aL ?_); (case aP => exact rfl); (case aB => exact HB2.out); (case aF => exact (fun _ _ => trivial)); (case aO => exact HO2.out); (case aS => exact below_size HB2.out); (case aL => have := HM.out; have := HMe.out; rw [List.length_append, List.length_take, List.length_drop]; omega); intro v7 w7 ho hb hg hat; have HO7 := Aside0.mk ho; have HB7 := Aside0.mk hb; clear ho hb hg hat))
            go_ret2
            exact ⟨_, rfl, HO7.out, HB7.out⟩
          · have hab : (a0 == 79) = false := beq_eq_false_iff_ne.mpr ha
            have H2 := HR9.out
            rw [if_neg ha] at H2
            subst H2
            clear HR9 ha
            go_wp2_with (first | ((with_reducible refine gate_builtin (b := .append) (xs := #[.tmp 48, .tmp 50]) rfl ?_); at_builtin; go_must (refine Kd.R_append (Kd.int .u32) (w0 := w) w.heap.size rfl (.tmp 48) (.tmp 50) 22 39 (.int .u32 0) 4 rfl Try.underlying22 info39 rfl (by decide) (by omega) _ (r) y [.int .u32 y] (fun _ => True) (fun _ => False) rfl rfl ?aP (fun _ hk => hk.elim) ?aF ?aO ?aB ?aS ?aL ?_); (case aP => exact rfl); (case aB => exact HB1.out); (case aF => exact (fun _ _ => trivial)); (case aO => exact HO0.out); (case aS => exact below_size HB1.out); (case aL => have := HM.out; have := HMe.out; omega); intro v7 w7 ho hb hg hat; have HO7 := Aside0.mk ho; have HB7 := Aside0.mk hb; clear ho hb hg hat))
            go_ret2
            exact ⟨_, rfl, HO7.out, HB7.out⟩
      · rw [if_neg hb] at h
        cases h
  · rw [if_neg hb] at h
    cases h

end Go.Proofs.Ytpfpjdeaocbnfaa.P
