/- The machine's side: functions of the translation as plain Lean functions, and that the machine's calls come to what they say. No condition. Written by a program (wip/tools/pp.py over the kit's printer); Lean checks it. -/
import Derived.Test.YtpfpckjdflcgeaaPx0
import Derived.Test.YtpfpckjdflcgeaaPx1
import Derived.Test.YtpfpckjdflcgeaaPx2
namespace Go.Proofs.Ytpfpckjdflcgeaa.P
open Go.RowKit Go.Proofs.YtpfpckjdflcgeaaW.PrintWords Go.Proofs.YtpfpckjdflcgeaaW.PrintLast Go.Proofs.YtpfpckjdflcgeaaW.PrintMore
attribute [local go_sem] max2_int min2_int max_two min_two max_three min_three max_four min_four   -- for this text's walks alone
set_option linter.unusedVariables false
set_option linter.unusedSimpArgs false

/-! ### head_Check: function 14 -/
mutual
def head_Check.j0 : Nat → List Int → Bool → Option (List Int × Bool × Int)
  | 0, _, _ => none
  | k + 1, x0, x32 => if x32 = true then (some (([] : List Int), false, 17)) else (if 4 < (x0.length : Int) then (if 5 < (x0.length : Int) then (if 6 < (x0.length : Int) then (if 7 < (x0.length : Int) then (if (Go.bits .or .i64 (Go.bits .or .i64 (Go.bits .or .i64 (wrap64 ((wrap64 (rd x0 4)) * 16777216)) (wrap64 ((wrap64 (rd x0 5)) * 65536))) (wrap64 ((wrap64 (rd x0 6)) * 256))) (wrap64 (rd x0 7))) < 8 then (head_Check.j1 k x0 (Go.bits .or .i64 (Go.bits .or .i64 (Go.bits .or .i64 (wrap64 ((wrap64 (rd x0 4)) * 16777216)) (wrap64 ((wrap64 (rd x0 5)) * 65536))) (wrap64 ((wrap64 (rd x0 6)) * 256))) (wrap64 (rd x0 7))) true) else (head_Check.j1 k x0 (Go.bits .or .i64 (Go.bits .or .i64 (Go.bits .or .i64 (wrap64 ((wrap64 (rd x0 4)) * 16777216)) (wrap64 ((wrap64 (rd x0 5)) * 65536))) (wrap64 ((wrap64 (rd x0 6)) * 256))) (wrap64 (rd x0 7))) (decide ((Go.bits .or .i64 (Go.bits .or .i64 (Go.bits .or .i64 (wrap64 ((wrap64 (rd x0 4)) * 16777216)) (wrap64 ((wrap64 (rd x0 5)) * 65536))) (wrap64 ((wrap64 (rd x0 6)) * 256))) (wrap64 (rd x0 7))) > (x0.length : Int))))) else (none)) else (none)) else (none)) else (none))
def head_Check.j1 : Nat → List Int → Int → Bool → Option (List Int × Bool × Int)
  | 0, _, _, _ => none
  | k + 1, x0, x5, x62 => if x62 = true then (some (([] : List Int), false, 17)) else (if 8 ≤ x5 then (if x5 ≤ (x0.length : Int) then ((slices_Clone_byte_byte.f ((x0.take (x5 : Int).toNat).drop 8)).bind fun t174 => ((head_Sum.f k t174).bind fun t177 => (if 2 < (x0.length : Int) then (if 3 < (x0.length : Int) then (if t177 = (Go.bits .or .i64 (wrap64 ((wrap64 (rd x0 2)) * 256)) (wrap64 (rd x0 3))) then (if 0 < (x0.length : Int) then (some (t174, ((rd x0 0) == 241), 0)) else (none)) else (some (([] : List Int), false, 17))) else (none)) else (none)))) else (none)) else (none))
end
def head_Check.f (k : Nat) (l0 : List Int) : Option (List Int × Bool × Int) := if (l0.length : Int) < 8 then (head_Check.j0 k l0 true) else (if (l0.length : Int) > 8192 then (head_Check.j0 k l0 true) else (if 0 < (l0.length : Int) then (if (rd l0 0) = 241 then (if 1 < (l0.length : Int) then (head_Check.j0 k l0 ((rd l0 1) != 8)) else (none)) else (if (rd l0 0) = 253 then (if 1 < (l0.length : Int) then (head_Check.j0 k l0 ((rd l0 1) != 8)) else (none)) else (head_Check.j0 k l0 true))) else (none)))
theorem head_Check.mono_l : ∀ k, (∀ y0 y1, LeO (head_Check.j0 k y0 y1) (head_Check.j0 (k + 1) y0 y1)) ∧ (∀ y0 y1 y2, LeO (head_Check.j1 k y0 y1 y2) (head_Check.j1 (k + 1) y0 y1 y2))
  | 0 => ⟨fun _ _ r h => by simp [head_Check.j0] at h, fun _ _ _ r h => by simp [head_Check.j1] at h⟩
  | k + 1 => by
    obtain ⟨ih0, ih1⟩ := head_Check.mono_l k
    refine ⟨?_, ?_⟩
    · intro y0 y1
      unfold head_Check.j0
      repeat' first
      | (with_reducible exact ih0 _ _)
      | (with_reducible exact ih1 _ _ _)
      | (with_reducible exact head_Sum.mono _ _)
      | (with_reducible exact LeO.refl _)
      | (with_reducible exact LeO.none _)
      | (with_reducible refine LeO.ite ?_ ?_)
      | (with_reducible refine LeO.bind ?_ (fun _ => ?_))
      | exact ih0 _ _
      | exact ih1 _ _ _
      | exact head_Sum.mono _ _
      | exact LeO.none _
      | refine LeO.ite ?_ ?_
      | refine LeO.bind ?_ (fun _ => ?_)
    · intro y0 y1 y2
      unfold head_Check.j1
      repeat' first
      | (with_reducible exact ih0 _ _)
      | (with_reducible exact ih1 _ _ _)
      | (with_reducible exact head_Sum.mono _ _)
      | (with_reducible exact LeO.refl _)
      | (with_reducible exact LeO.none _)
      | (with_reducible refine LeO.ite ?_ ?_)
      | (with_reducible refine LeO.bind ?_ (fun _ => ?_))
      | exact ih0 _ _
      | exact ih1 _ _ _
      | exact head_Sum.mono _ _
      | exact LeO.none _
      | refine LeO.ite ?_ ?_
      | refine LeO.bind ?_ (fun _ => ?_)
theorem head_Check.mono : ∀ a0 k, LeO (head_Check.f k a0) (head_Check.f (k + 1) a0) := by
  intro a0 k
  obtain ⟨ih0, ih1⟩ := head_Check.mono_l k
  unfold head_Check.f
  repeat' first
      | (with_reducible exact ih0 _ _)
      | (with_reducible exact ih1 _ _ _)
      | (with_reducible exact head_Sum.mono _ _)
      | (with_reducible exact LeO.refl _)
      | (with_reducible exact LeO.none _)
      | (with_reducible refine LeO.ite ?_ ?_)
      | (with_reducible refine LeO.bind ?_ (fun _ => ?_))
      | exact ih0 _ _
      | exact ih1 _ _ _
      | exact head_Sum.mono _ _
      | exact LeO.none _
      | refine LeO.ite ?_ ?_
      | refine LeO.bind ?_ (fun _ => ?_)
set_option maxHeartbeats 8000000 in
set_option maxRecDepth 100000 in
theorem head_Check.calls (k : Nat) (A0 : Option Addr) (c0 : Nat) (l0 : List Int) (r1 : List Int) (r2 : Bool) (r3 : Int) (w : World) (hr0 : Kd.C (Kd.int .u8) w A0 l0.length l0) (hc0 : l0.length ≤ c0) (h : head_Check.f k l0 = some (r1, r2, r3)) :
    Calls Try.prog 14 #[.slice A0 l0.length c0] w fun e w' => ∃ v0_ : Value, e = .returned (.tuple #[v0_, .bool r2, .int .i64 r3]) ∧ Kd.R (Kd.int .u8) 5 w' w.heap.size (fun _ => True) v0_ r1 ∧ Below w.heap.size w w' := by
  have HR0 := Aside0.mk hr0
  have HC0 := Aside0.mk hc0
  clear hr0 hc0
  have HB := Aside0.mk (Below.refl w.heap.size w)
  have H : (if (l0.length : Int) < 8 then (head_Check.j0 k l0 true) else (if (l0.length : Int) > 8192 then (head_Check.j0 k l0 true) else (if 0 < (l0.length : Int) then (if (rd l0 0) = 241 then (if 1 < (l0.length : Int) then (head_Check.j0 k l0 ((rd l0 1) != 8)) else (none)) else (if (rd l0 0) = 253 then (if 1 < (l0.length : Int) then (head_Check.j0 k l0 ((rd l0 1) != 8)) else (none)) else (head_Check.j0 k l0 true))) else (none)))) = some (r1, r2, r3) := h
  clear h
  have HC2 := Aside0.mk H
  clear H
  go_enter Try.func14, Try.ntmps14
  go_upto_region 1 with (fail)
  repeat (go_quiet (fail); go_upto_region 1 with (fail))
  go_cut [32] (fun v32 wc => ∃ (kq : Nat) (x32_1 : Bool), v32 = .bool x32_1 ∧ Aside0 (head_Check.j0 kq l0 x32_1 = some (r1, r2, r3)) ∧ Aside0 (kq ≤ k) ∧ Aside0 (Below w.heap.size w wc))
  case first =>
    have H := HC2.out
    clear HC2
    by_cases c3 : (l0.length : Int) < 8
    · rw [if_pos c3] at H
      have c3b0 : decide ((l0.length : Int) < 8) = true := decide_eq_true c3
      have c3b1 : decide (l0.length < 8) = true := decide_eq_true (by omega)
      clear c3
      (first | rw [c3b0] | (simp only [i64_w, i32_w]; rw [c3b0]) | skip)
      have H' := Aside0.mk H
      clear H
      go_wp2
      repeat (go_quiet (fail); try go_wp2)
      go_meet
      case rel => exact ⟨_, (true), (by first | rfl | (simp; done) | (simp [*]; done)), H', ⟨by first | omega | exact Nat.le_refl _⟩, ⟨by repeat (first | (with_reducible first | exact HB.out | apply below_alloc | apply pw_below_drewN | apply below_drew1) | exact HB.out)⟩⟩
    · rw [if_neg c3] at H
      have c3b0 : decide ((l0.length : Int) < 8) = false := decide_eq_false c3
      have c3b1 : decide (l0.length < 8) = false := decide_eq_false (by omega)
      clear c3
      (first | rw [c3b0] | (simp only [i64_w, i32_w]; rw [c3b0]) | skip)
      by_cases c4 : (l0.length : Int) > 8192
      · rw [if_pos c4] at H
        have c4b0 : decide (8192 < (l0.length : Int)) = true := decide_eq_true c4
        have c4b1 : decide (8192 < l0.length) = true := decide_eq_true (by omega)
        clear c4
        have H' := Aside0.mk H
        clear H
        go_wp2
        repeat (go_quiet (fail); try go_wp2)
        go_meet
        case rel => exact ⟨_, (true), (by first | rfl | (simp; done) | (simp [*]; done)), H', ⟨by first | omega | exact Nat.le_refl _⟩, ⟨by repeat (first | (with_reducible first | exact HB.out | apply below_alloc | apply pw_below_drewN | apply below_drew1) | exact HB.out)⟩⟩
      · rw [if_neg c4] at H
        have c4b0 : decide (8192 < (l0.length : Int)) = false := decide_eq_false c4
        have c4b1 : decide (8192 < l0.length) = false := decide_eq_false (by omega)
        clear c4
        by_cases c5 : 0 < (l0.length : Int)
        · rw [if_pos c5] at H
          have c5b0 : decide (0 < (l0.length : Int)) = true := decide_eq_true c5
          have c5b1 : decide (0 < l0.length) = true := decide_eq_true (by omega)
          clear c5
          by_cases c6 : (rd l0 0) = 241
          · rw [if_pos c6] at H
            have c6b0 : ((rd l0 0) == 241) = true := beq_iff_eq.mpr c6
            have c6b1 : ((rd l0 0) != 241) = false := bne_eq_false_iff_eq.mpr c6
            clear c6
            by_cases c7 : 1 < (l0.length : Int)
            · rw [if_pos c7] at H
              have c7b0 : decide (1 < (l0.length : Int)) = true := decide_eq_true c7
              have c7b1 : decide (1 < l0.length) = true := decide_eq_true (by omega)
              clear c7
              have H' := Aside0.mk H
              clear H
              have p165 : 0 ≤ (0 : Int) := (by omega)
              have q165 : 0 < (l0.length : Int) := of_decide_eq_true (by first | (with_reducible assumption) | assumption)
              obtain ⟨ad165, e165, hx165_0⟩ := Kd.at_int HR0.out 0 p165 q165
              cases e165
              have qi165 : (0 < l0.length) = True := eq_true (by omega)
              (try rw [show ((0 : Int)).toNat = 0 from rfl] at hx165_0)
              (try rw [Addr.add_zero'] at hx165_0)
              replace hx165_0 := (HB.out.cell (World.block_lt_of_cell? w _ hx165_0)).trans hx165_0
              replace p165 := eq_true p165
              replace q165 := eq_true q165
              have p166 : 0 ≤ (1 : Int) := (by omega)
              have q166 : 1 < (l0.length : Int) := of_decide_eq_true (by first | (with_reducible assumption) | assumption)
              obtain ⟨ad166, e166, hx166_0⟩ := Kd.at_int HR0.out 1 p166 q166
              obtain rfl : ad165 = ad166 := (by injection e166)
              (try simp only [show (1 : Int).toNat = 1 from rfl, Nat.reduceMul, Nat.reduceEqDiff, Go.Addr.add, ↓reduceIte] at hx166_0)
              have qi166 : (1 < l0.length) = True := eq_true (by omega)
              (try rw [show ((1 : Int)).toNat = 1 from rfl] at hx166_0)
              replace hx166_0 := (HB.out.cell (World.block_lt_of_cell? w _ hx166_0)).trans hx166_0
              replace p166 := eq_true p166
              replace q166 := eq_true q166
              go_wp2
              repeat (go_quiet (fail); try go_wp2)
              go_meet
              case rel => exact ⟨_, (((rd l0 1) != 8)), (by first | rfl | (simp; done) | (simp [*]; done)), H', ⟨by first | omega | exact Nat.le_refl _⟩, ⟨by repeat (first | (with_reducible first | exact HB.out | apply below_alloc | apply pw_below_drewN | apply below_drew1) | exact HB.out)⟩⟩
            · rw [if_neg c7] at H
              exact absurd H (by simp)
          · rw [if_neg c6] at H
            have c6b0 : ((rd l0 0) == 241) = false := beq_eq_false_iff_ne.mpr c6
            have c6b1 : ((rd l0 0) != 241) = true := bne_iff_ne.mpr c6
            by_cases c8 : (rd l0 0) = 253
            · rw [if_pos c8] at H
              have c8b0 : ((rd l0 0) == 253) = true := beq_iff_eq.mpr c8
              have c8b1 : ((rd l0 0) != 253) = false := bne_eq_false_iff_eq.mpr c8
              clear c8
              by_cases c9 : 1 < (l0.length : Int)
              · rw [if_pos c9] at H
                have c9b0 : decide (1 < (l0.length : Int)) = true := decide_eq_true c9
                have c9b1 : decide (1 < l0.length) = true := decide_eq_true (by omega)
                clear c9
                have H' := Aside0.mk H
                clear H
                have p165 : 0 ≤ (0 : Int) := (by omega)
                have q165 : 0 < (l0.length : Int) := of_decide_eq_true (by first | (with_reducible assumption) | assumption)
                obtain ⟨ad165, e165, hx165_0⟩ := Kd.at_int HR0.out 0 p165 q165
                cases e165
                have qi165 : (0 < l0.length) = True := eq_true (by omega)
                (try rw [show ((0 : Int)).toNat = 0 from rfl] at hx165_0)
                (try rw [Addr.add_zero'] at hx165_0)
                replace hx165_0 := (HB.out.cell (World.block_lt_of_cell? w _ hx165_0)).trans hx165_0
                replace p165 := eq_true p165
                replace q165 := eq_true q165
                have p167 : 0 ≤ (0 : Int) := (by omega)
                have q167 : 0 < (l0.length : Int) := of_decide_eq_true (by first | (with_reducible assumption) | assumption)
                obtain ⟨ad167, e167, hx167_0⟩ := Kd.at_int HR0.out 0 p167 q167
                obtain rfl : ad165 = ad167 := (by injection e167)
                have qi167 : (0 < l0.length) = True := eq_true (by omega)
                (try rw [show ((0 : Int)).toNat = 0 from rfl] at hx167_0)
                (try rw [Addr.add_zero'] at hx167_0)
                replace hx167_0 := (HB.out.cell (World.block_lt_of_cell? w _ hx167_0)).trans hx167_0
                replace p167 := eq_true p167
                replace q167 := eq_true q167
                have p168 : 0 ≤ (1 : Int) := (by omega)
                have q168 : 1 < (l0.length : Int) := of_decide_eq_true (by first | (with_reducible assumption) | assumption)
                obtain ⟨ad168, e168, hx168_0⟩ := Kd.at_int HR0.out 1 p168 q168
                obtain rfl : ad165 = ad168 := (by injection e168)
                (try simp only [show (1 : Int).toNat = 1 from rfl, Nat.reduceMul, Nat.reduceEqDiff, Go.Addr.add, ↓reduceIte] at hx168_0)
                have qi168 : (1 < l0.length) = True := eq_true (by omega)
                (try rw [show ((1 : Int)).toNat = 1 from rfl] at hx168_0)
                replace hx168_0 := (HB.out.cell (World.block_lt_of_cell? w _ hx168_0)).trans hx168_0
                replace p168 := eq_true p168
                replace q168 := eq_true q168
                go_wp2
                repeat (go_quiet (fail); try go_wp2)
                go_meet
                case rel => exact ⟨_, (((rd l0 1) != 8)), (by first | rfl | (simp; done) | (simp [*]; done)), H', ⟨by first | omega | exact Nat.le_refl _⟩, ⟨by repeat (first | (with_reducible first | exact HB.out | apply below_alloc | apply pw_below_drewN | apply below_drew1) | exact HB.out)⟩⟩
              · rw [if_neg c9] at H
                exact absurd H (by simp)
            · rw [if_neg c8] at H
              have c8b0 : ((rd l0 0) == 253) = false := beq_eq_false_iff_ne.mpr c8
              have c8b1 : ((rd l0 0) != 253) = true := bne_iff_ne.mpr c8
              have H' := Aside0.mk H
              clear H
              have p165 : 0 ≤ (0 : Int) := (by omega)
              have q165 : 0 < (l0.length : Int) := of_decide_eq_true (by first | (with_reducible assumption) | assumption)
              obtain ⟨ad165, e165, hx165_0⟩ := Kd.at_int HR0.out 0 p165 q165
              cases e165
              have qi165 : (0 < l0.length) = True := eq_true (by omega)
              (try rw [show ((0 : Int)).toNat = 0 from rfl] at hx165_0)
              (try rw [Addr.add_zero'] at hx165_0)
              replace hx165_0 := (HB.out.cell (World.block_lt_of_cell? w _ hx165_0)).trans hx165_0
              replace p165 := eq_true p165
              replace q165 := eq_true q165
              have p167 : 0 ≤ (0 : Int) := (by omega)
              have q167 : 0 < (l0.length : Int) := of_decide_eq_true (by first | (with_reducible assumption) | assumption)
              obtain ⟨ad167, e167, hx167_0⟩ := Kd.at_int HR0.out 0 p167 q167
              obtain rfl : ad165 = ad167 := (by injection e167)
              have qi167 : (0 < l0.length) = True := eq_true (by omega)
              (try rw [show ((0 : Int)).toNat = 0 from rfl] at hx167_0)
              (try rw [Addr.add_zero'] at hx167_0)
              replace hx167_0 := (HB.out.cell (World.block_lt_of_cell? w _ hx167_0)).trans hx167_0
              replace p167 := eq_true p167
              replace q167 := eq_true q167
              go_wp2
              repeat (go_quiet (fail); try go_wp2)
              go_meet
              case rel => exact ⟨_, (true), (by first | rfl | (simp; done) | (simp [*]; done)), H', ⟨by first | omega | exact Nat.le_refl _⟩, ⟨by repeat (first | (with_reducible first | exact HB.out | apply below_alloc | apply pw_below_drewN | apply below_drew1) | exact HB.out)⟩⟩
        · rw [if_neg c5] at H
          exact absurd H (by simp)
  case rest =>
    clear HC2
    try clear c1
    try clear p1
    try clear q1
    try clear hx1
    try clear qi1
    try clear p2
    try clear c3
    try clear c3b0
    try clear c3b1
    try clear c4
    try clear c4b0
    try clear c4b1
    try clear c5
    try clear c5b0
    try clear c5b1
    try clear c6
    try clear c6b0
    try clear c6b1
    try clear c7
    try clear c7b0
    try clear c7b1
    try clear c8
    try clear c8b0
    try clear c8b1
    try clear c9
    try clear c9b0
    try clear c9b1
    try clear hx165_0
    try clear hx166_0
    try clear hx167_0
    try clear hx168_0
    try clear p165
    try clear p166
    try clear p167
    try clear p168
    try clear q165
    try clear q166
    try clear q167
    try clear q168
    obtain ⟨kq, x32_1, rfl, HA, HJ1, HB⟩ := hcut
    cases kq with
    | zero => exact absurd HA.out (by simp [head_Check.j0])
    | succ kj1 =>
      have H := HA.out
      clear HA
      simp only [head_Check.j0] at H
      by_cases c10 : x32_1 = true
      · subst c10
        have H1 : (some (([] : List Int), false, 17)) = some (r1, r2, r3) := by rw [if_pos rfl] at H; exact H
        clear H
        have H := H1
        clear H1
        simp only [Option.some.injEq, Prod.mk.injEq] at H
        obtain ⟨rfl, rfl, rfl⟩ := H
        go_wp2
        repeat (go_quiet (fail); try go_wp2)
        go_ret3
        exact ⟨_, by first | rfl | (simp [errW_none, errW_some] <;> rfl) | (simp [*, errW_none, errW_some] <;> rfl), by first | exact Kd.R_nil _ _ _ _ _ | exact Kd.N_nil _ _ _ _ _ | exact Kd.V_nil _ _ _ _ _ | exact Kd.Q_nil _ _ _ _ _ | exact Kd.S_nil _ _ _ _ _, by repeat (first | (with_reducible first | exact HB.out | apply below_alloc | apply pw_below_drewN | apply below_drew1) | exact HB.out)⟩
      · replace c10 := Bool.eq_false_iff.mpr c10
        subst c10
        have H1 : (if 4 < (l0.length : Int) then (if 5 < (l0.length : Int) then (if 6 < (l0.length : Int) then (if 7 < (l0.length : Int) then (if (Go.bits .or .i64 (Go.bits .or .i64 (Go.bits .or .i64 (wrap64 ((wrap64 (rd l0 4)) * 16777216)) (wrap64 ((wrap64 (rd l0 5)) * 65536))) (wrap64 ((wrap64 (rd l0 6)) * 256))) (wrap64 (rd l0 7))) < 8 then (head_Check.j1 kj1 l0 (Go.bits .or .i64 (Go.bits .or .i64 (Go.bits .or .i64 (wrap64 ((wrap64 (rd l0 4)) * 16777216)) (wrap64 ((wrap64 (rd l0 5)) * 65536))) (wrap64 ((wrap64 (rd l0 6)) * 256))) (wrap64 (rd l0 7))) true) else (head_Check.j1 kj1 l0 (Go.bits .or .i64 (Go.bits .or .i64 (Go.bits .or .i64 (wrap64 ((wrap64 (rd l0 4)) * 16777216)) (wrap64 ((wrap64 (rd l0 5)) * 65536))) (wrap64 ((wrap64 (rd l0 6)) * 256))) (wrap64 (rd l0 7))) (decide ((Go.bits .or .i64 (Go.bits .or .i64 (Go.bits .or .i64 (wrap64 ((wrap64 (rd l0 4)) * 16777216)) (wrap64 ((wrap64 (rd l0 5)) * 65536))) (wrap64 ((wrap64 (rd l0 6)) * 256))) (wrap64 (rd l0 7))) > (l0.length : Int))))) else (none)) else (none)) else (none)) else (none)) = some (r1, r2, r3) := by rw [if_neg (show ¬ (false = true) by decide)] at H; exact H
        clear H
        have H := H1
        clear H1
        by_cases c11 : 4 < (l0.length : Int)
        · rw [if_pos c11] at H
          have c11b0 : decide (4 < (l0.length : Int)) = true := decide_eq_true c11
          have c11b1 : decide (4 < l0.length) = true := decide_eq_true (by omega)
          clear c11
          by_cases c12 : 5 < (l0.length : Int)
          · rw [if_pos c12] at H
            have c12b0 : decide (5 < (l0.length : Int)) = true := decide_eq_true c12
            have c12b1 : decide (5 < l0.length) = true := decide_eq_true (by omega)
            clear c12
            by_cases c13 : 6 < (l0.length : Int)
            · rw [if_pos c13] at H
              have c13b0 : decide (6 < (l0.length : Int)) = true := decide_eq_true c13
              have c13b1 : decide (6 < l0.length) = true := decide_eq_true (by omega)
              clear c13
              by_cases c14 : 7 < (l0.length : Int)
              · rw [if_pos c14] at H
                have c14b0 : decide (7 < (l0.length : Int)) = true := decide_eq_true c14
                have c14b1 : decide (7 < l0.length) = true := decide_eq_true (by omega)
                clear c14
                have HC15 := Aside0.mk H
                clear H
                have p169 : 0 ≤ (4 : Int) := (by omega)
                have q169 : 4 < (l0.length : Int) := of_decide_eq_true (by first | (with_reducible assumption) | assumption)
                obtain ⟨ad169, e169, hx169_0⟩ := Kd.at_int HR0.out 4 p169 q169
                cases e169
                (try simp only [show (4 : Int).toNat = 4 from rfl, Nat.reduceMul, Nat.reduceEqDiff, Go.Addr.add, ↓reduceIte] at hx169_0)
                have qi169 : (4 < l0.length) = True := eq_true (by omega)
                (try rw [show ((4 : Int)).toNat = 4 from rfl] at hx169_0)
                replace hx169_0 := (HB.out.cell (World.block_lt_of_cell? w _ hx169_0)).trans hx169_0
                replace p169 := eq_true p169
                replace q169 := eq_true q169
                have p170 : 0 ≤ (5 : Int) := (by omega)
                have q170 : 5 < (l0.length : Int) := of_decide_eq_true (by first | (with_reducible assumption) | assumption)
                obtain ⟨ad170, e170, hx170_0⟩ := Kd.at_int HR0.out 5 p170 q170
                obtain rfl : ad169 = ad170 := (by injection e170)
                (try simp only [show (5 : Int).toNat = 5 from rfl, Nat.reduceMul, Nat.reduceEqDiff, Go.Addr.add, ↓reduceIte] at hx170_0)
                have qi170 : (5 < l0.length) = True := eq_true (by omega)
                (try rw [show ((5 : Int)).toNat = 5 from rfl] at hx170_0)
                replace hx170_0 := (HB.out.cell (World.block_lt_of_cell? w _ hx170_0)).trans hx170_0
                replace p170 := eq_true p170
                replace q170 := eq_true q170
                have p171 : 0 ≤ (6 : Int) := (by omega)
                have q171 : 6 < (l0.length : Int) := of_decide_eq_true (by first | (with_reducible assumption) | assumption)
                obtain ⟨ad171, e171, hx171_0⟩ := Kd.at_int HR0.out 6 p171 q171
                obtain rfl : ad169 = ad171 := (by injection e171)
                (try simp only [show (6 : Int).toNat = 6 from rfl, Nat.reduceMul, Nat.reduceEqDiff, Go.Addr.add, ↓reduceIte] at hx171_0)
                have qi171 : (6 < l0.length) = True := eq_true (by omega)
                (try rw [show ((6 : Int)).toNat = 6 from rfl] at hx171_0)
                replace hx171_0 := (HB.out.cell (World.block_lt_of_cell? w _ hx171_0)).trans hx171_0
                replace p171 := eq_true p171
                replace q171 := eq_true q171
                have p172 : 0 ≤ (7 : Int) := (by omega)
                have q172 : 7 < (l0.length : Int) := of_decide_eq_true (by first | (with_reducible assumption) | assumption)
                obtain ⟨ad172, e172, hx172_0⟩ := Kd.at_int HR0.out 7 p172 q172
                obtain rfl : ad169 = ad172 := (by injection e172)
                (try simp only [show (7 : Int).toNat = 7 from rfl, Nat.reduceMul, Nat.reduceEqDiff, Go.Addr.add, ↓reduceIte] at hx172_0)
                have qi172 : (7 < l0.length) = True := eq_true (by omega)
                (try rw [show ((7 : Int)).toNat = 7 from rfl] at hx172_0)
                replace hx172_0 := (HB.out.cell (World.block_lt_of_cell? w _ hx172_0)).trans hx172_0
                replace p172 := eq_true p172
                replace q172 := eq_true q172
                go_upto_region 4 with (fail)
                repeat (go_quiet (fail); go_upto_region 4 with (fail))
                go_cut [62] (fun v62 wc => ∃ (kq : Nat) (x62_14 : Bool), v62 = .bool x62_14 ∧ Aside0 (head_Check.j1 kq l0 (Go.bits .or .i64 (Go.bits .or .i64 (Go.bits .or .i64 (wrap64 ((wrap64 (rd l0 4)) * 16777216)) (wrap64 ((wrap64 (rd l0 5)) * 65536))) (wrap64 ((wrap64 (rd l0 6)) * 256))) (wrap64 (rd l0 7))) x62_14 = some (r1, r2, r3)) ∧ Aside0 (kq ≤ kj1) ∧ Aside0 (Below w.heap.size w wc))
                case first =>
                  have H := HC15.out
                  clear HC15
                  by_cases c16 : (Go.bits .or .i64 (Go.bits .or .i64 (Go.bits .or .i64 (wrap64 ((wrap64 (rd l0 4)) * 16777216)) (wrap64 ((wrap64 (rd l0 5)) * 65536))) (wrap64 ((wrap64 (rd l0 6)) * 256))) (wrap64 (rd l0 7))) < 8
                  · rw [if_pos c16] at H
                    have c16b0 : decide ((Go.bits .or .i64 (Go.bits .or .i64 (Go.bits .or .i64 (wrap64 ((wrap64 (rd l0 4)) * 16777216)) (wrap64 ((wrap64 (rd l0 5)) * 65536))) (wrap64 ((wrap64 (rd l0 6)) * 256))) (wrap64 (rd l0 7))) < 8) = true := decide_eq_true c16
                    clear c16
                    (first | rw [c16b0] | (simp only [i64_w, i32_w]; rw [c16b0]) | skip)
                    have H' := Aside0.mk H
                    clear H
                    go_wp2
                    repeat (go_quiet (fail); try go_wp2)
                    go_meet
                    case rel => exact ⟨_, (true), (by first | rfl | (simp; done) | (simp [*]; done)), H', ⟨by have := HJ1.out; first | omega | exact Nat.le_refl _⟩, ⟨by repeat (first | (with_reducible first | exact HB.out | apply below_alloc | apply pw_below_drewN | apply below_drew1) | exact HB.out)⟩⟩
                  · rw [if_neg c16] at H
                    have c16b0 : decide ((Go.bits .or .i64 (Go.bits .or .i64 (Go.bits .or .i64 (wrap64 ((wrap64 (rd l0 4)) * 16777216)) (wrap64 ((wrap64 (rd l0 5)) * 65536))) (wrap64 ((wrap64 (rd l0 6)) * 256))) (wrap64 (rd l0 7))) < 8) = false := decide_eq_false c16
                    clear c16
                    (first | rw [c16b0] | (simp only [i64_w, i32_w]; rw [c16b0]) | skip)
                    have H' := Aside0.mk H
                    clear H
                    go_wp2
                    repeat (go_quiet (fail); try go_wp2)
                    go_meet
                    case rel => exact ⟨_, (decide ((Go.bits .or .i64 (Go.bits .or .i64 (Go.bits .or .i64 (wrap64 ((wrap64 (rd l0 4)) * 16777216)) (wrap64 ((wrap64 (rd l0 5)) * 65536))) (wrap64 ((wrap64 (rd l0 6)) * 256))) (wrap64 (rd l0 7))) > (l0.length : Int))), (by first | rfl | (simp; done) | (simp [*]; done)), H', ⟨by have := HJ1.out; first | omega | exact Nat.le_refl _⟩, ⟨by repeat (first | (with_reducible first | exact HB.out | apply below_alloc | apply pw_below_drewN | apply below_drew1) | exact HB.out)⟩⟩
                case rest =>
                  clear HC15
                  try clear c1
                  try clear p1
                  try clear q1
                  try clear hx1
                  try clear qi1
                  try clear p2
                  try clear c3
                  try clear c3b0
                  try clear c3b1
                  try clear c4
                  try clear c4b0
                  try clear c4b1
                  try clear c5
                  try clear c5b0
                  try clear c5b1
                  try clear c6
                  try clear c6b0
                  try clear c6b1
                  try clear p6
                  try clear c7
                  try clear c7b0
                  try clear c7b1
                  try clear c8
                  try clear c8b0
                  try clear c8b1
                  try clear c9
                  try clear c9b0
                  try clear c9b1
                  try clear c10
                  try clear c11
                  try clear c11b0
                  try clear c11b1
                  try clear c12
                  try clear c12b0
                  try clear c12b1
                  try clear c13
                  try clear c13b0
                  try clear c13b1
                  try clear c14
                  try clear c14b0
                  try clear c14b1
                  try clear c16
                  try clear c16b0
                  try clear p16
                  try clear q16
                  try clear hx16
                  try clear qi16
                  try clear hx165_0
                  try clear hx166_0
                  try clear hx167_0
                  try clear hx168_0
                  try clear hx169_0
                  try clear hx170_0
                  try clear hx171_0
                  try clear hx172_0
                  try clear p1
                  try clear p165
                  try clear p166
                  try clear p167
                  try clear p168
                  try clear p169
                  try clear p170
                  try clear p171
                  try clear p172
                  try clear p2
                  try clear q1
                  try clear q165
                  try clear q166
                  try clear q167
                  try clear q168
                  try clear q169
                  try clear q170
                  try clear q171
                  try clear q172
                  obtain ⟨kq, x62_14, rfl, HA, HJ14, HB⟩ := hcut
                  cases kq with
                  | zero => exact absurd HA.out (by simp [head_Check.j1])
                  | succ kj14 =>
                    have H := HA.out
                    clear HA
                    simp only [head_Check.j1] at H
                    by_cases c17 : x62_14 = true
                    · subst c17
                      have H1 : (some (([] : List Int), false, 17)) = some (r1, r2, r3) := by rw [if_pos rfl] at H; exact H
                      clear H
                      have H := H1
                      clear H1
                      simp only [Option.some.injEq, Prod.mk.injEq] at H
                      obtain ⟨rfl, rfl, rfl⟩ := H
                      go_wp2
                      repeat (go_quiet (fail); try go_wp2)
                      go_ret3
                      exact ⟨_, by first | rfl | (simp [errW_none, errW_some] <;> rfl) | (simp [*, errW_none, errW_some] <;> rfl), by first | exact Kd.R_nil _ _ _ _ _ | exact Kd.N_nil _ _ _ _ _ | exact Kd.V_nil _ _ _ _ _ | exact Kd.Q_nil _ _ _ _ _ | exact Kd.S_nil _ _ _ _ _, by repeat (first | (with_reducible first | exact HB.out | apply below_alloc | apply pw_below_drewN | apply below_drew1) | exact HB.out)⟩
                    · replace c17 := Bool.eq_false_iff.mpr c17
                      subst c17
                      have H1 : (if 8 ≤ (Go.bits .or .i64 (Go.bits .or .i64 (Go.bits .or .i64 (wrap64 ((wrap64 (rd l0 4)) * 16777216)) (wrap64 ((wrap64 (rd l0 5)) * 65536))) (wrap64 ((wrap64 (rd l0 6)) * 256))) (wrap64 (rd l0 7))) then (if (Go.bits .or .i64 (Go.bits .or .i64 (Go.bits .or .i64 (wrap64 ((wrap64 (rd l0 4)) * 16777216)) (wrap64 ((wrap64 (rd l0 5)) * 65536))) (wrap64 ((wrap64 (rd l0 6)) * 256))) (wrap64 (rd l0 7))) ≤ (l0.length : Int) then ((slices_Clone_byte_byte.f ((l0.take ((Go.bits .or .i64 (Go.bits .or .i64 (Go.bits .or .i64 (wrap64 ((wrap64 (rd l0 4)) * 16777216)) (wrap64 ((wrap64 (rd l0 5)) * 65536))) (wrap64 ((wrap64 (rd l0 6)) * 256))) (wrap64 (rd l0 7))) : Int).toNat).drop 8)).bind fun t174 => ((head_Sum.f kj14 t174).bind fun t177 => (if 2 < (l0.length : Int) then (if 3 < (l0.length : Int) then (if t177 = (Go.bits .or .i64 (wrap64 ((wrap64 (rd l0 2)) * 256)) (wrap64 (rd l0 3))) then (if 0 < (l0.length : Int) then (some (t174, ((rd l0 0) == 241), 0)) else (none)) else (some (([] : List Int), false, 17))) else (none)) else (none)))) else (none)) else (none)) = some (r1, r2, r3) := by rw [if_neg (show ¬ (false = true) by decide)] at H; exact H
                      clear H
                      have H := H1
                      clear H1
                      by_cases c18 : 8 ≤ (Go.bits .or .i64 (Go.bits .or .i64 (Go.bits .or .i64 (wrap64 ((wrap64 (rd l0 4)) * 16777216)) (wrap64 ((wrap64 (rd l0 5)) * 65536))) (wrap64 ((wrap64 (rd l0 6)) * 256))) (wrap64 (rd l0 7)))
                      · rw [if_pos c18] at H
                        have c18b0 := eq_true c18
                        have c18b1 : decide (8 ≤ (Go.bits .or .i64 (Go.bits .or .i64 (Go.bits .or .i64 (wrap64 ((wrap64 (rd l0 4)) * 16777216)) (wrap64 ((wrap64 (rd l0 5)) * 65536))) (wrap64 ((wrap64 (rd l0 6)) * 256))) (wrap64 (rd l0 7)))) = true := decide_eq_true c18
                        clear c18
                        by_cases c19 : (Go.bits .or .i64 (Go.bits .or .i64 (Go.bits .or .i64 (wrap64 ((wrap64 (rd l0 4)) * 16777216)) (wrap64 ((wrap64 (rd l0 5)) * 65536))) (wrap64 ((wrap64 (rd l0 6)) * 256))) (wrap64 (rd l0 7))) ≤ (l0.length : Int)
                        · rw [if_pos c19] at H
                          have c19b0 := eq_true c19
                          have c19b1 : decide ((Go.bits .or .i64 (Go.bits .or .i64 (Go.bits .or .i64 (wrap64 ((wrap64 (rd l0 4)) * 16777216)) (wrap64 ((wrap64 (rd l0 5)) * 65536))) (wrap64 ((wrap64 (rd l0 6)) * 256))) (wrap64 (rd l0 7))) ≤ (l0.length : Int)) = true := decide_eq_true c19
                          clear c19
                          replace H := Option.bind_eq_some_iff.mp H
                          obtain ⟨t174, A200, H⟩ := H
                          replace H : ((head_Sum.f kj14 t174).bind fun t177 => (if 2 < (l0.length : Int) then (if 3 < (l0.length : Int) then (if t177 = (Go.bits .or .i64 (wrap64 ((wrap64 (rd l0 2)) * 256)) (wrap64 (rd l0 3))) then (if 0 < (l0.length : Int) then (some (t174, ((rd l0 0) == 241), 0)) else (none)) else (some (([] : List Int), false, 17))) else (none)) else (none))) = some (r1, r2, r3) := H
                          have A20 := Aside0.mk A200
                          clear A200
                          replace H := Option.bind_eq_some_iff.mp H
                          obtain ⟨t177, A210, H⟩ := H
                          replace H : (if 2 < (l0.length : Int) then (if 3 < (l0.length : Int) then (if t177 = (Go.bits .or .i64 (wrap64 ((wrap64 (rd l0 2)) * 256)) (wrap64 (rd l0 3))) then (if 0 < (l0.length : Int) then (some (t174, ((rd l0 0) == 241), 0)) else (none)) else (some (([] : List Int), false, 17))) else (none)) else (none)) = some (r1, r2, r3) := H
                          have A21 := Aside0.mk A210
                          clear A210
                          by_cases c22 : 2 < (l0.length : Int)
                          · rw [if_pos c22] at H
                            have c22b0 : decide (2 < (l0.length : Int)) = true := decide_eq_true c22
                            have c22b1 : decide (2 < l0.length) = true := decide_eq_true (by omega)
                            clear c22
                            by_cases c23 : 3 < (l0.length : Int)
                            · rw [if_pos c23] at H
                              have c23b0 : decide (3 < (l0.length : Int)) = true := decide_eq_true c23
                              have c23b1 : decide (3 < l0.length) = true := decide_eq_true (by omega)
                              clear c23
                              by_cases c24 : t177 = (Go.bits .or .i64 (wrap64 ((wrap64 (rd l0 2)) * 256)) (wrap64 (rd l0 3)))
                              · rw [if_pos c24] at H
                                have c24b0 : (t177 == (Go.bits .or .i64 (wrap64 ((wrap64 (rd l0 2)) * 256)) (wrap64 (rd l0 3)))) = true := beq_iff_eq.mpr c24
                                have c24b1 : (t177 != (Go.bits .or .i64 (wrap64 ((wrap64 (rd l0 2)) * 256)) (wrap64 (rd l0 3)))) = false := bne_eq_false_iff_eq.mpr c24
                                clear c24
                                by_cases c25 : 0 < (l0.length : Int)
                                · rw [if_pos c25] at H
                                  have c25b0 : decide (0 < (l0.length : Int)) = true := decide_eq_true c25
                                  have c25b1 : decide (0 < l0.length) = true := decide_eq_true (by omega)
                                  clear c25
                                  simp only [Option.some.injEq, Prod.mk.injEq] at H
                                  obtain ⟨rfl, rfl, rfl⟩ := H
                                  obtain ⟨i026, hi026, _, hsz26, _⟩ := info_parts info5
                                  obtain ⟨A26, hcut26, hA26, hC26⟩ := print_mid_of (P := Try.prog) (Value.int .u8) 0 22 5 .i64 .i64 Try.underlying22 hi026 hsz26 (some ad169) c0 l0 8 (Go.bits .or .i64 (Go.bits .or .i64 (Go.bits .or .i64 (wrap64 ((wrap64 (rd l0 4)) * 16777216)) (wrap64 ((wrap64 (rd l0 5)) * 65536))) (wrap64 ((wrap64 (rd l0 6)) * 256))) (wrap64 (rd l0 7))) (by omega) (by first | omega | exact of_decide_eq_true (by first | (with_reducible assumption) | assumption)) (of_decide_eq_true (by first | (with_reducible assumption) | assumption)) HC0.out
                                  have HR173 := Aside0.mk (Kd.C_of_reads (h1 := fun _ => rfl) (hA26 _ (Kd.reads_of_C HR0.out)))
                                  have HC173 := Aside0.mk hC26
                                  clear hA26 hC26 hi026 hsz26
                                  go_wp2_with (first | (go_at_call 17; refine calls_of_args (args' := #[.slice A26 ((l0.take ((Go.bits .or .i64 (Go.bits .or .i64 (Go.bits .or .i64 (wrap64 ((wrap64 (rd l0 4)) * 16777216)) (wrap64 ((wrap64 (rd l0 5)) * 65536))) (wrap64 ((wrap64 (rd l0 6)) * 256))) (wrap64 (rd l0 7))) : Int).toNat).drop 8).length (c0 - 8)]) (by first | (rw [show ((l0.take ((Go.bits .or .i64 (Go.bits .or .i64 (Go.bits .or .i64 (wrap64 ((wrap64 (rd l0 4)) * 16777216)) (wrap64 ((wrap64 (rd l0 5)) * 65536))) (wrap64 ((wrap64 (rd l0 6)) * 256))) (wrap64 (rd l0 7))) : Int).toNat).drop 8).length = ((Go.bits .or .i64 (Go.bits .or .i64 (Go.bits .or .i64 (wrap64 ((wrap64 (rd l0 4)) * 16777216)) (wrap64 ((wrap64 (rd l0 5)) * 65536))) (wrap64 ((wrap64 (rd l0 6)) * 256))) (wrap64 (rd l0 7))).toNat - 8) from (by rw [List.length_drop, List.length_take]; have h_ : ((Go.bits .or .i64 (Go.bits .or .i64 (Go.bits .or .i64 (wrap64 ((wrap64 (rd l0 4)) * 16777216)) (wrap64 ((wrap64 (rd l0 5)) * 65536))) (wrap64 ((wrap64 (rd l0 6)) * 256))) (wrap64 (rd l0 7))) : Int) ≤ (l0.length : Int) := of_decide_eq_true (by first | (with_reducible assumption) | assumption); omega)] <;> rfl) | rfl) ?_; (with_reducible refine (slices_Clone_byte_byte.calls _ _ ((l0.take ((Go.bits .or .i64 (Go.bits .or .i64 (Go.bits .or .i64 (wrap64 ((wrap64 (rd l0 4)) * 16777216)) (wrap64 ((wrap64 (rd l0 5)) * 65536))) (wrap64 ((wrap64 (rd l0 6)) * 256))) (wrap64 (rd l0 7))) : Int).toNat).drop 8) t174 _ ?side1 ?side2 A20.out).mono ?_); (case side1 => repeat (first | exact (Kd.C_below HR173.out HB.out) | (with_reducible refine Kd.C_alloc ?_ _) | (with_reducible refine Kd.C_drewN ?_ _) | (with_reducible refine Kd.C_drew ?_))); (case side2 => exact HC173.out); rintro e w27 ⟨v175, rfl, ho0, hb⟩; have n0_ := Aside0.mk (Kd.R_lower ho0 (below_size (by repeat (first | (with_reducible first | exact HB.out | apply below_alloc | apply pw_below_drewN | apply below_drew1) | exact HB.out)))); have n1_ := Aside0.mk (below_step (by repeat (first | (with_reducible first | exact HB.out | apply below_alloc | apply pw_below_drewN | apply below_drew1) | exact HB.out)) hb); clear HB; have HO176 := n0_; have HB := n1_; clear n0_ n1_; (try clear hb); (try clear hb2); (try clear hk); (try clear hi); (try clear ho0); obtain ⟨Ao28, co28, eo28⟩ := Kd.R_slice HO176.out; subst eo28; have p178 : 0 ≤ (2 : Int) := (by omega); have q178 : 2 < (l0.length : Int) := of_decide_eq_true (by first | (with_reducible assumption) | assumption); obtain ⟨ad178, e178, hx178_0⟩ := Kd.at_int HR0.out 2 p178 q178; obtain rfl : ad169 = ad178 := (by injection e178); (try simp only [show (2 : Int).toNat = 2 from rfl, Nat.reduceMul, Nat.reduceEqDiff, Go.Addr.add, ↓reduceIte] at hx178_0); have qi178 : (2 < l0.length) = True := eq_true (by omega); (try rw [show ((2 : Int)).toNat = 2 from rfl] at hx178_0); replace hx178_0 := (HB.out.cell (World.block_lt_of_cell? w _ hx178_0)).trans hx178_0; replace p178 := eq_true p178; replace q178 := eq_true q178; have p179 : 0 ≤ (3 : Int) := (by omega); have q179 : 3 < (l0.length : Int) := of_decide_eq_true (by first | (with_reducible assumption) | assumption); obtain ⟨ad179, e179, hx179_0⟩ := Kd.at_int HR0.out 3 p179 q179; obtain rfl : ad169 = ad179 := (by injection e179); (try simp only [show (3 : Int).toNat = 3 from rfl, Nat.reduceMul, Nat.reduceEqDiff, Go.Addr.add, ↓reduceIte] at hx179_0); have qi179 : (3 < l0.length) = True := eq_true (by omega); (try rw [show ((3 : Int)).toNat = 3 from rfl] at hx179_0); replace hx179_0 := (HB.out.cell (World.block_lt_of_cell? w _ hx179_0)).trans hx179_0; replace p179 := eq_true p179; replace q179 := eq_true q179; have p180 : 0 ≤ (0 : Int) := (by omega); have q180 : 0 < (l0.length : Int) := of_decide_eq_true (by first | (with_reducible assumption) | assumption); obtain ⟨ad180, e180, hx180_0⟩ := Kd.at_int HR0.out 0 p180 q180; obtain rfl : ad169 = ad180 := (by injection e180); have qi180 : (0 < l0.length) = True := eq_true (by omega); (try rw [show ((0 : Int)).toNat = 0 from rfl] at hx180_0); (try rw [Addr.add_zero'] at hx180_0); replace hx180_0 := (HB.out.cell (World.block_lt_of_cell? w _ hx180_0)).trans hx180_0; replace p180 := eq_true p180; replace q180 := eq_true q180) | (go_at_call 11; (with_reducible refine (head_Sum.calls kj14 _ _ t174 t177 _ ?side1 ?side2 A21.out).mono ?_); (case side1 => repeat (first | exact (Kd.R_reads' HO176.out).2.2 | (with_reducible refine Kd.C_alloc ?_ _) | (with_reducible refine Kd.C_drewN ?_ _) | (with_reducible refine Kd.C_drew ?_))); (case side2 => exact (Kd.R_reads' HO176.out).2.1); rintro e w' ⟨rfl, ⟨nd, rfl⟩⟩; (try first | exact ⟨rfl, _, World.drewN_drewN _ _ _⟩ | exact ⟨rfl, _, Eq.trans (World.drewN_drewN _ _ _) (congrArg (World.drewN _) (Nat.add_assoc _ _ _))⟩)))
                                  repeat (go_quiet (first | (go_at_call 17; refine calls_of_args (args' := #[.slice A26 ((l0.take ((Go.bits .or .i64 (Go.bits .or .i64 (Go.bits .or .i64 (wrap64 ((wrap64 (rd l0 4)) * 16777216)) (wrap64 ((wrap64 (rd l0 5)) * 65536))) (wrap64 ((wrap64 (rd l0 6)) * 256))) (wrap64 (rd l0 7))) : Int).toNat).drop 8).length (c0 - 8)]) (by first | (rw [show ((l0.take ((Go.bits .or .i64 (Go.bits .or .i64 (Go.bits .or .i64 (wrap64 ((wrap64 (rd l0 4)) * 16777216)) (wrap64 ((wrap64 (rd l0 5)) * 65536))) (wrap64 ((wrap64 (rd l0 6)) * 256))) (wrap64 (rd l0 7))) : Int).toNat).drop 8).length = ((Go.bits .or .i64 (Go.bits .or .i64 (Go.bits .or .i64 (wrap64 ((wrap64 (rd l0 4)) * 16777216)) (wrap64 ((wrap64 (rd l0 5)) * 65536))) (wrap64 ((wrap64 (rd l0 6)) * 256))) (wrap64 (rd l0 7))).toNat - 8) from (by rw [List.length_drop, List.length_take]; have h_ : ((Go.bits .or .i64 (Go.bits .or .i64 (Go.bits .or .i64 (wrap64 ((wrap64 (rd l0 4)) * 16777216)) (wrap64 ((wrap64 (rd l0 5)) * 65536))) (wrap64 ((wrap64 (rd l0 6)) * 256))) (wrap64 (rd l0 7))) : Int) ≤ (l0.length : Int) := of_decide_eq_true (by first | (with_reducible assumption) | assumption); omega)] <;> rfl) | rfl) ?_; (with_reducible refine (slices_Clone_byte_byte.calls _ _ ((l0.take ((Go.bits .or .i64 (Go.bits .or .i64 (Go.bits .or .i64 (wrap64 ((wrap64 (rd l0 4)) * 16777216)) (wrap64 ((wrap64 (rd l0 5)) * 65536))) (wrap64 ((wrap64 (rd l0 6)) * 256))) (wrap64 (rd l0 7))) : Int).toNat).drop 8) t174 _ ?side1 ?side2 A20.out).mono ?_); (case side1 => repeat (first | exact (Kd.C_below HR173.out HB.out) | (with_reducible refine Kd.C_alloc ?_ _) | (with_reducible refine Kd.C_drewN ?_ _) | (with_reducible refine Kd.C_drew ?_))); (case side2 => exact HC173.out); rintro e w27 ⟨v175, rfl, ho0, hb⟩; have n0_ := Aside0.mk (Kd.R_lower ho0 (below_size (by repeat (first | (with_reducible first | exact HB.out | apply below_alloc | apply pw_below_drewN | apply below_drew1) | exact HB.out)))); have n1_ := Aside0.mk (below_step (by repeat (first | (with_reducible first | exact HB.out | apply below_alloc | apply pw_below_drewN | apply below_drew1) | exact HB.out)) hb); clear HB; have HO176 := n0_; have HB := n1_; clear n0_ n1_; (try clear hb); (try clear hb2); (try clear hk); (try clear hi); (try clear ho0); obtain ⟨Ao28, co28, eo28⟩ := Kd.R_slice HO176.out; subst eo28; have p178 : 0 ≤ (2 : Int) := (by omega); have q178 : 2 < (l0.length : Int) := of_decide_eq_true (by first | (with_reducible assumption) | assumption); obtain ⟨ad178, e178, hx178_0⟩ := Kd.at_int HR0.out 2 p178 q178; obtain rfl : ad169 = ad178 := (by injection e178); (try simp only [show (2 : Int).toNat = 2 from rfl, Nat.reduceMul, Nat.reduceEqDiff, Go.Addr.add, ↓reduceIte] at hx178_0); have qi178 : (2 < l0.length) = True := eq_true (by omega); (try rw [show ((2 : Int)).toNat = 2 from rfl] at hx178_0); replace hx178_0 := (HB.out.cell (World.block_lt_of_cell? w _ hx178_0)).trans hx178_0; replace p178 := eq_true p178; replace q178 := eq_true q178; have p179 : 0 ≤ (3 : Int) := (by omega); have q179 : 3 < (l0.length : Int) := of_decide_eq_true (by first | (with_reducible assumption) | assumption); obtain ⟨ad179, e179, hx179_0⟩ := Kd.at_int HR0.out 3 p179 q179; obtain rfl : ad169 = ad179 := (by injection e179); (try simp only [show (3 : Int).toNat = 3 from rfl, Nat.reduceMul, Nat.reduceEqDiff, Go.Addr.add, ↓reduceIte] at hx179_0); have qi179 : (3 < l0.length) = True := eq_true (by omega); (try rw [show ((3 : Int)).toNat = 3 from rfl] at hx179_0); replace hx179_0 := (HB.out.cell (World.block_lt_of_cell? w _ hx179_0)).trans hx179_0; replace p179 := eq_true p179; replace q179 := eq_true q179; have p180 : 0 ≤ (0 : Int) := (by omega); have q180 : 0 < (l0.length : Int) := of_decide_eq_true (by first | (with_reducible assumption) | assumption); obtain ⟨ad180, e180, hx180_0⟩ := Kd.at_int HR0.out 0 p180 q180; obtain rfl : ad169 = ad180 := (by injection e180); have qi180 : (0 < l0.length) = True := eq_true (by omega); (try rw [show ((0 : Int)).toNat = 0 from rfl] at hx180_0); (try rw [Addr.add_zero'] at hx180_0); replace hx180_0 := (HB.out.cell (World.block_lt_of_cell? w _ hx180_0)).trans hx180_0; replace p180 := eq_true p180; replace q180 := eq_true q180) | (go_at_call 11; (with_reducible refine (head_Sum.calls kj14 _ _ t174 t177 _ ?side1 ?side2 A21.out).mono ?_); (case side1 => repeat (first | exact (Kd.R_reads' HO176.out).2.2 | (with_reducible refine Kd.C_alloc ?_ _) | (with_reducible refine Kd.C_drewN ?_ _) | (with_reducible refine Kd.C_drew ?_))); (case side2 => exact (Kd.R_reads' HO176.out).2.1); rintro e w' ⟨rfl, ⟨nd, rfl⟩⟩; (try first | exact ⟨rfl, _, World.drewN_drewN _ _ _⟩ | exact ⟨rfl, _, Eq.trans (World.drewN_drewN _ _ _) (congrArg (World.drewN _) (Nat.add_assoc _ _ _))⟩))); try go_wp2_with (first | (go_at_call 17; refine calls_of_args (args' := #[.slice A26 ((l0.take ((Go.bits .or .i64 (Go.bits .or .i64 (Go.bits .or .i64 (wrap64 ((wrap64 (rd l0 4)) * 16777216)) (wrap64 ((wrap64 (rd l0 5)) * 65536))) (wrap64 ((wrap64 (rd l0 6)) * 256))) (wrap64 (rd l0 7))) : Int).toNat).drop 8).length (c0 - 8)]) (by first | (rw [show ((l0.take ((Go.bits .or .i64 (Go.bits .or .i64 (Go.bits .or .i64 (wrap64 ((wrap64 (rd l0 4)) * 16777216)) (wrap64 ((wrap64 (rd l0 5)) * 65536))) (wrap64 ((wrap64 (rd l0 6)) * 256))) (wrap64 (rd l0 7))) : Int).toNat).drop 8).length = ((Go.bits .or .i64 (Go.bits .or .i64 (Go.bits .or .i64 (wrap64 ((wrap64 (rd l0 4)) * 16777216)) (wrap64 ((wrap64 (rd l0 5)) * 65536))) (wrap64 ((wrap64 (rd l0 6)) * 256))) (wrap64 (rd l0 7))).toNat - 8) from (by rw [List.length_drop, List.length_take]; have h_ : ((Go.bits .or .i64 (Go.bits .or .i64 (Go.bits .or .i64 (wrap64 ((wrap64 (rd l0 4)) * 16777216)) (wrap64 ((wrap64 (rd l0 5)) * 65536))) (wrap64 ((wrap64 (rd l0 6)) * 256))) (wrap64 (rd l0 7))) : Int) ≤ (l0.length : Int) := of_decide_eq_true (by first | (with_reducible assumption) | assumption); omega)] <;> rfl) | rfl) ?_; (with_reducible refine (slices_Clone_byte_byte.calls _ _ ((l0.take ((Go.bits .or .i64 (Go.bits .or .i64 (Go.bits .or .i64 (wrap64 ((wrap64 (rd l0 4)) * 16777216)) (wrap64 ((wrap64 (rd l0 5)) * 65536))) (wrap64 ((wrap64 (rd l0 6)) * 256))) (wrap64 (rd l0 7))) : Int).toNat).drop 8) t174 _ ?side1 ?side2 A20.out).mono ?_); (case side1 => repeat (first | exact (Kd.C_below HR173.out HB.out) | (with_reducible refine Kd.C_alloc ?_ _) | (with_reducible refine Kd.C_drewN ?_ _) | (with_reducible refine Kd.C_drew ?_))); (case side2 => exact HC173.out); rintro e w27 ⟨v175, rfl, ho0, hb⟩; have n0_ := Aside0.mk (Kd.R_lower ho0 (below_size (by repeat (first | (with_reducible first | exact HB.out | apply below_alloc | apply pw_below_drewN | apply below_drew1) | exact HB.out)))); have n1_ := Aside0.mk (below_step (by repeat (first | (with_reducible first | exact HB.out | apply below_alloc | apply pw_below_drewN | apply below_drew1) | exact HB.out)) hb); clear HB; have HO176 := n0_; have HB := n1_; clear n0_ n1_; (try clear hb); (try clear hb2); (try clear hk); (try clear hi); (try clear ho0); obtain ⟨Ao28, co28, eo28⟩ := Kd.R_slice HO176.out; subst eo28; have p178 : 0 ≤ (2 : Int) := (by omega); have q178 : 2 < (l0.length : Int) := of_decide_eq_true (by first | (with_reducible assumption) | assumption); obtain ⟨ad178, e178, hx178_0⟩ := Kd.at_int HR0.out 2 p178 q178; obtain rfl : ad169 = ad178 := (by injection e178); (try simp only [show (2 : Int).toNat = 2 from rfl, Nat.reduceMul, Nat.reduceEqDiff, Go.Addr.add, ↓reduceIte] at hx178_0); have qi178 : (2 < l0.length) = True := eq_true (by omega); (try rw [show ((2 : Int)).toNat = 2 from rfl] at hx178_0); replace hx178_0 := (HB.out.cell (World.block_lt_of_cell? w _ hx178_0)).trans hx178_0; replace p178 := eq_true p178; replace q178 := eq_true q178; have p179 : 0 ≤ (3 : Int) := (by omega); have q179 : 3 < (l0.length : Int) := of_decide_eq_true (by first | (with_reducible assumption) | assumption); obtain ⟨ad179, e179, hx179_0⟩ := Kd.at_int HR0.out 3 p179 q179; obtain rfl : ad169 = ad179 := (by injection e179); (try simp only [show (3 : Int).toNat = 3 from rfl, Nat.reduceMul, Nat.reduceEqDiff, Go.Addr.add, ↓reduceIte] at hx179_0); have qi179 : (3 < l0.length) = True := eq_true (by omega); (try rw [show ((3 : Int)).toNat = 3 from rfl] at hx179_0); replace hx179_0 := (HB.out.cell (World.block_lt_of_cell? w _ hx179_0)).trans hx179_0; replace p179 := eq_true p179; replace q179 := eq_true q179; have p180 : 0 ≤ (0 : Int) := (by omega); have q180 : 0 < (l0.length : Int) := of_decide_eq_true (by first | (with_reducible assumption) | assumption); obtain ⟨ad180, e180, hx180_0⟩ := Kd.at_int HR0.out 0 p180 q180; obtain rfl : ad169 = ad180 := (by injection e180); have qi180 : (0 < l0.length) = True := eq_true (by omega); (try rw [show ((0 : Int)).toNat = 0 from rfl] at hx180_0); (try rw [Addr.add_zero'] at hx180_0); replace hx180_0 := (HB.out.cell (World.block_lt_of_cell? w _ hx180_0)).trans hx180_0; replace p180 := eq_true p180; replace q180 := eq_true q180) | (go_at_call 11; (with_reducible refine (head_Sum.calls kj14 _ _ t174 t177 _ ?side1 ?side2 A21.out).mono ?_); (case side1 => repeat (first | exact (Kd.R_reads' HO176.out).2.2 | (with_reducible refine Kd.C_alloc ?_ _) | (with_reducible refine Kd.C_drewN ?_ _) | (with_reducible refine Kd.C_drew ?_))); (case side2 => exact (Kd.R_reads' HO176.out).2.1); rintro e w' ⟨rfl, ⟨nd, rfl⟩⟩; (try first | exact ⟨rfl, _, World.drewN_drewN _ _ _⟩ | exact ⟨rfl, _, Eq.trans (World.drewN_drewN _ _ _) (congrArg (World.drewN _) (Nat.add_assoc _ _ _))⟩))))
                                  go_ret3
                                  exact ⟨_, by first | rfl | (simp [errW_none, errW_some] <;> rfl) | (simp [*, errW_none, errW_some] <;> rfl), by (with_reducible repeat (first | apply Kd.R_alloc | apply Kd.R_drewN | apply Kd.R_drew)); exact HO176.out, by repeat (first | (with_reducible first | exact HB.out | apply below_alloc | apply pw_below_drewN | apply below_drew1) | exact HB.out)⟩
                                · rw [if_neg c25] at H
                                  exact absurd H (by simp)
                              · rw [if_neg c24] at H
                                have c24b0 : (t177 == (Go.bits .or .i64 (wrap64 ((wrap64 (rd l0 2)) * 256)) (wrap64 (rd l0 3)))) = false := beq_eq_false_iff_ne.mpr c24
                                have c24b1 : (t177 != (Go.bits .or .i64 (wrap64 ((wrap64 (rd l0 2)) * 256)) (wrap64 (rd l0 3)))) = true := bne_iff_ne.mpr c24
                                simp only [Option.some.injEq, Prod.mk.injEq] at H
                                obtain ⟨rfl, rfl, rfl⟩ := H
                                obtain ⟨i029, hi029, _, hsz29, _⟩ := info_parts info5
                                obtain ⟨A29, hcut29, hA29, hC29⟩ := print_mid_of (P := Try.prog) (Value.int .u8) 0 22 5 .i64 .i64 Try.underlying22 hi029 hsz29 (some ad169) c0 l0 8 (Go.bits .or .i64 (Go.bits .or .i64 (Go.bits .or .i64 (wrap64 ((wrap64 (rd l0 4)) * 16777216)) (wrap64 ((wrap64 (rd l0 5)) * 65536))) (wrap64 ((wrap64 (rd l0 6)) * 256))) (wrap64 (rd l0 7))) (by omega) (by first | omega | exact of_decide_eq_true (by first | (with_reducible assumption) | assumption)) (of_decide_eq_true (by first | (with_reducible assumption) | assumption)) HC0.out
                                have HR173 := Aside0.mk (Kd.C_of_reads (h1 := fun _ => rfl) (hA29 _ (Kd.reads_of_C HR0.out)))
                                have HC173 := Aside0.mk hC29
                                clear hA29 hC29 hi029 hsz29
                                go_wp2_with (first | (go_at_call 17; refine calls_of_args (args' := #[.slice A29 ((l0.take ((Go.bits .or .i64 (Go.bits .or .i64 (Go.bits .or .i64 (wrap64 ((wrap64 (rd l0 4)) * 16777216)) (wrap64 ((wrap64 (rd l0 5)) * 65536))) (wrap64 ((wrap64 (rd l0 6)) * 256))) (wrap64 (rd l0 7))) : Int).toNat).drop 8).length (c0 - 8)]) (by first | (rw [show ((l0.take ((Go.bits .or .i64 (Go.bits .or .i64 (Go.bits .or .i64 (wrap64 ((wrap64 (rd l0 4)) * 16777216)) (wrap64 ((wrap64 (rd l0 5)) * 65536))) (wrap64 ((wrap64 (rd l0 6)) * 256))) (wrap64 (rd l0 7))) : Int).toNat).drop 8).length = ((Go.bits .or .i64 (Go.bits .or .i64 (Go.bits .or .i64 (wrap64 ((wrap64 (rd l0 4)) * 16777216)) (wrap64 ((wrap64 (rd l0 5)) * 65536))) (wrap64 ((wrap64 (rd l0 6)) * 256))) (wrap64 (rd l0 7))).toNat - 8) from (by rw [List.length_drop, List.length_take]; have h_ : ((Go.bits .or .i64 (Go.bits .or .i64 (Go.bits .or .i64 (wrap64 ((wrap64 (rd l0 4)) * 16777216)) (wrap64 ((wrap64 (rd l0 5)) * 65536))) (wrap64 ((wrap64 (rd l0 6)) * 256))) (wrap64 (rd l0 7))) : Int) ≤ (l0.length : Int) := of_decide_eq_true (by first | (with_reducible assumption) | assumption); omega)] <;> rfl) | rfl) ?_; (with_reducible refine (slices_Clone_byte_byte.calls _ _ ((l0.take ((Go.bits .or .i64 (Go.bits .or .i64 (Go.bits .or .i64 (wrap64 ((wrap64 (rd l0 4)) * 16777216)) (wrap64 ((wrap64 (rd l0 5)) * 65536))) (wrap64 ((wrap64 (rd l0 6)) * 256))) (wrap64 (rd l0 7))) : Int).toNat).drop 8) t174 _ ?side1 ?side2 A20.out).mono ?_); (case side1 => repeat (first | exact (Kd.C_below HR173.out HB.out) | (with_reducible refine Kd.C_alloc ?_ _) | (with_reducible refine Kd.C_drewN ?_ _) | (with_reducible refine Kd.C_drew ?_))); (case side2 => exact HC173.out); rintro e w30 ⟨v175, rfl, ho0, hb⟩; have n0_ := Aside0.mk (Kd.R_lower ho0 (below_size (by repeat (first | (with_reducible first | exact HB.out | apply below_alloc | apply pw_below_drewN | apply below_drew1) | exact HB.out)))); have n1_ := Aside0.mk (below_step (by repeat (first | (with_reducible first | exact HB.out | apply below_alloc | apply pw_below_drewN | apply below_drew1) | exact HB.out)) hb); clear HB; have HO176 := n0_; have HB := n1_; clear n0_ n1_; (try clear hb); (try clear hb2); (try clear hk); (try clear hi); (try clear ho0); obtain ⟨Ao31, co31, eo31⟩ := Kd.R_slice HO176.out; subst eo31; have p178 : 0 ≤ (2 : Int) := (by omega); have q178 : 2 < (l0.length : Int) := of_decide_eq_true (by first | (with_reducible assumption) | assumption); obtain ⟨ad178, e178, hx178_0⟩ := Kd.at_int HR0.out 2 p178 q178; obtain rfl : ad169 = ad178 := (by injection e178); (try simp only [show (2 : Int).toNat = 2 from rfl, Nat.reduceMul, Nat.reduceEqDiff, Go.Addr.add, ↓reduceIte] at hx178_0); have qi178 : (2 < l0.length) = True := eq_true (by omega); (try rw [show ((2 : Int)).toNat = 2 from rfl] at hx178_0); replace hx178_0 := (HB.out.cell (World.block_lt_of_cell? w _ hx178_0)).trans hx178_0; replace p178 := eq_true p178; replace q178 := eq_true q178; have p179 : 0 ≤ (3 : Int) := (by omega); have q179 : 3 < (l0.length : Int) := of_decide_eq_true (by first | (with_reducible assumption) | assumption); obtain ⟨ad179, e179, hx179_0⟩ := Kd.at_int HR0.out 3 p179 q179; obtain rfl : ad169 = ad179 := (by injection e179); (try simp only [show (3 : Int).toNat = 3 from rfl, Nat.reduceMul, Nat.reduceEqDiff, Go.Addr.add, ↓reduceIte] at hx179_0); have qi179 : (3 < l0.length) = True := eq_true (by omega); (try rw [show ((3 : Int)).toNat = 3 from rfl] at hx179_0); replace hx179_0 := (HB.out.cell (World.block_lt_of_cell? w _ hx179_0)).trans hx179_0; replace p179 := eq_true p179; replace q179 := eq_true q179) | (go_at_call 11; (with_reducible refine (head_Sum.calls kj14 _ _ t174 t177 _ ?side1 ?side2 A21.out).mono ?_); (case side1 => repeat (first | exact (Kd.R_reads' HO176.out).2.2 | (with_reducible refine Kd.C_alloc ?_ _) | (with_reducible refine Kd.C_drewN ?_ _) | (with_reducible refine Kd.C_drew ?_))); (case side2 => exact (Kd.R_reads' HO176.out).2.1); rintro e w' ⟨rfl, ⟨nd, rfl⟩⟩; (try first | exact ⟨rfl, _, World.drewN_drewN _ _ _⟩ | exact ⟨rfl, _, Eq.trans (World.drewN_drewN _ _ _) (congrArg (World.drewN _) (Nat.add_assoc _ _ _))⟩)))
                                repeat (go_quiet (first | (go_at_call 17; refine calls_of_args (args' := #[.slice A29 ((l0.take ((Go.bits .or .i64 (Go.bits .or .i64 (Go.bits .or .i64 (wrap64 ((wrap64 (rd l0 4)) * 16777216)) (wrap64 ((wrap64 (rd l0 5)) * 65536))) (wrap64 ((wrap64 (rd l0 6)) * 256))) (wrap64 (rd l0 7))) : Int).toNat).drop 8).length (c0 - 8)]) (by first | (rw [show ((l0.take ((Go.bits .or .i64 (Go.bits .or .i64 (Go.bits .or .i64 (wrap64 ((wrap64 (rd l0 4)) * 16777216)) (wrap64 ((wrap64 (rd l0 5)) * 65536))) (wrap64 ((wrap64 (rd l0 6)) * 256))) (wrap64 (rd l0 7))) : Int).toNat).drop 8).length = ((Go.bits .or .i64 (Go.bits .or .i64 (Go.bits .or .i64 (wrap64 ((wrap64 (rd l0 4)) * 16777216)) (wrap64 ((wrap64 (rd l0 5)) * 65536))) (wrap64 ((wrap64 (rd l0 6)) * 256))) (wrap64 (rd l0 7))).toNat - 8) from (by rw [List.length_drop, List.length_take]; have h_ : ((Go.bits .or .i64 (Go.bits .or .i64 (Go.bits .or .i64 (wrap64 ((wrap64 (rd l0 4)) * 16777216)) (wrap64 ((wrap64 (rd l0 5)) * 65536))) (wrap64 ((wrap64 (rd l0 6)) * 256))) (wrap64 (rd l0 7))) : Int) ≤ (l0.length : Int) := of_decide_eq_true (by first | (with_reducible assumption) | assumption); omega)] <;> rfl) | rfl) ?_; (with_reducible refine (slices_Clone_byte_byte.calls _ _ ((l0.take ((Go.bits .or .i64 (Go.bits .or .i64 (Go.bits .or .i64 (wrap64 ((wrap64 (rd l0 4)) * 16777216)) (wrap64 ((wrap64 (rd l0 5)) * 65536))) (wrap64 ((wrap64 (rd l0 6)) * 256))) (wrap64 (rd l0 7))) : Int).toNat).drop 8) t174 _ ?side1 ?side2 A20.out).mono ?_); (case side1 => repeat (first | exact (Kd.C_below HR173.out HB.out) | (with_reducible refine Kd.C_alloc ?_ _) | (with_reducible refine Kd.C_drewN ?_ _) | (with_reducible refine Kd.C_drew ?_))); (case side2 => exact HC173.out); rintro e w30 ⟨v175, rfl, ho0, hb⟩; have n0_ := Aside0.mk (Kd.R_lower ho0 (below_size (by repeat (first | (with_reducible first | exact HB.out | apply below_alloc | apply pw_below_drewN | apply below_drew1) | exact HB.out)))); have n1_ := Aside0.mk (below_step (by repeat (first | (with_reducible first | exact HB.out | apply below_alloc | apply pw_below_drewN | apply below_drew1) | exact HB.out)) hb); clear HB; have HO176 := n0_; have HB := n1_; clear n0_ n1_; (try clear hb); (try clear hb2); (try clear hk); (try clear hi); (try clear ho0); obtain ⟨Ao31, co31, eo31⟩ := Kd.R_slice HO176.out; subst eo31; have p178 : 0 ≤ (2 : Int) := (by omega); have q178 : 2 < (l0.length : Int) := of_decide_eq_true (by first | (with_reducible assumption) | assumption); obtain ⟨ad178, e178, hx178_0⟩ := Kd.at_int HR0.out 2 p178 q178; obtain rfl : ad169 = ad178 := (by injection e178); (try simp only [show (2 : Int).toNat = 2 from rfl, Nat.reduceMul, Nat.reduceEqDiff, Go.Addr.add, ↓reduceIte] at hx178_0); have qi178 : (2 < l0.length) = True := eq_true (by omega); (try rw [show ((2 : Int)).toNat = 2 from rfl] at hx178_0); replace hx178_0 := (HB.out.cell (World.block_lt_of_cell? w _ hx178_0)).trans hx178_0; replace p178 := eq_true p178; replace q178 := eq_true q178; have p179 : 0 ≤ (3 : Int) := (by omega); have q179 : 3 < (l0.length : Int) := of_decide_eq_true (by first | (with_reducible assumption) | assumption); obtain ⟨ad179, e179, hx179_0⟩ := Kd.at_int HR0.out 3 p179 q179; obtain rfl : ad169 = ad179 := (by injection e179); (try simp only [show (3 : Int).toNat = 3 from rfl, Nat.reduceMul, Nat.reduceEqDiff, Go.Addr.add, ↓reduceIte] at hx179_0); have qi179 : (3 < l0.length) = True := eq_true (by omega); (try rw [show ((3 : Int)).toNat = 3 from rfl] at hx179_0); replace hx179_0 := (HB.out.cell (World.block_lt_of_cell? w _ hx179_0)).trans hx179_0; replace p179 := eq_true p179; replace q179 := eq_true q179) | (go_at_call 11; (with_reducible refine (head_Sum.calls kj14 _ _ t174 t177 _ ?side1 ?side2 A21.out).mono ?_); (case side1 => repeat (first | exact (Kd.R_reads' HO176.out).2.2 | (with_reducible refine Kd.C_alloc ?_ _) | (with_reducible refine Kd.C_drewN ?_ _) | (with_reducible refine Kd.C_drew ?_))); (case side2 => exact (Kd.R_reads' HO176.out).2.1); rintro e w' ⟨rfl, ⟨nd, rfl⟩⟩; (try first | exact ⟨rfl, _, World.drewN_drewN _ _ _⟩ | exact ⟨rfl, _, Eq.trans (World.drewN_drewN _ _ _) (congrArg (World.drewN _) (Nat.add_assoc _ _ _))⟩))); try go_wp2_with (first | (go_at_call 17; refine calls_of_args (args' := #[.slice A29 ((l0.take ((Go.bits .or .i64 (Go.bits .or .i64 (Go.bits .or .i64 (wrap64 ((wrap64 (rd l0 4)) * 16777216)) (wrap64 ((wrap64 (rd l0 5)) * 65536))) (wrap64 ((wrap64 (rd l0 6)) * 256))) (wrap64 (rd l0 7))) : Int).toNat).drop 8).length (c0 - 8)]) (by first | (rw [show ((l0.take ((Go.bits .or .i64 (Go.bits .or .i64 (Go.bits .or .i64 (wrap64 ((wrap64 (rd l0 4)) * 16777216)) (wrap64 ((wrap64 (rd l0 5)) * 65536))) (wrap64 ((wrap64 (rd l0 6)) * 256))) (wrap64 (rd l0 7))) : Int).toNat).drop 8).length = ((Go.bits .or .i64 (Go.bits .or .i64 (Go.bits .or .i64 (wrap64 ((wrap64 (rd l0 4)) * 16777216)) (wrap64 ((wrap64 (rd l0 5)) * 65536))) (wrap64 ((wrap64 (rd l0 6)) * 256))) (wrap64 (rd l0 7))).toNat - 8) from (by rw [List.length_drop, List.length_take]; have h_ : ((Go.bits .or .i64 (Go.bits .or .i64 (Go.bits .or .i64 (wrap64 ((wrap64 (rd l0 4)) * 16777216)) (wrap64 ((wrap64 (rd l0 5)) * 65536))) (wrap64 ((wrap64 (rd l0 6)) * 256))) (wrap64 (rd l0 7))) : Int) ≤ (l0.length : Int) := of_decide_eq_true (by first | (with_reducible assumption) | assumption); omega)] <;> rfl) | rfl) ?_; (with_reducible refine (slices_Clone_byte_byte.calls _ _ ((l0.take ((Go.bits .or .i64 (Go.bits .or .i64 (Go.bits .or .i64 (wrap64 ((wrap64 (rd l0 4)) * 16777216)) (wrap64 ((wrap64 (rd l0 5)) * 65536))) (wrap64 ((wrap64 (rd l0 6)) * 256))) (wrap64 (rd l0 7))) : Int).toNat).drop 8) t174 _ ?side1 ?side2 A20.out).mono ?_); (case side1 => repeat (first | exact (Kd.C_below HR173.out HB.out) | (with_reducible refine Kd.C_alloc ?_ _) | (with_reducible refine Kd.C_drewN ?_ _) | (with_reducible refine Kd.C_drew ?_))); (case side2 => exact HC173.out); rintro e w30 ⟨v175, rfl, ho0, hb⟩; have n0_ := Aside0.mk (Kd.R_lower ho0 (below_size (by repeat (first | (with_reducible first | exact HB.out | apply below_alloc | apply pw_below_drewN | apply below_drew1) | exact HB.out)))); have n1_ := Aside0.mk (below_step (by repeat (first | (with_reducible first | exact HB.out | apply below_alloc | apply pw_below_drewN | apply below_drew1) | exact HB.out)) hb); clear HB; have HO176 := n0_; have HB := n1_; clear n0_ n1_; (try clear hb); (try clear hb2); (try clear hk); (try clear hi); (try clear ho0); obtain ⟨Ao31, co31, eo31⟩ := Kd.R_slice HO176.out; subst eo31; have p178 : 0 ≤ (2 : Int) := (by omega); have q178 : 2 < (l0.length : Int) := of_decide_eq_true (by first | (with_reducible assumption) | assumption); obtain ⟨ad178, e178, hx178_0⟩ := Kd.at_int HR0.out 2 p178 q178; obtain rfl : ad169 = ad178 := (by injection e178); (try simp only [show (2 : Int).toNat = 2 from rfl, Nat.reduceMul, Nat.reduceEqDiff, Go.Addr.add, ↓reduceIte] at hx178_0); have qi178 : (2 < l0.length) = True := eq_true (by omega); (try rw [show ((2 : Int)).toNat = 2 from rfl] at hx178_0); replace hx178_0 := (HB.out.cell (World.block_lt_of_cell? w _ hx178_0)).trans hx178_0; replace p178 := eq_true p178; replace q178 := eq_true q178; have p179 : 0 ≤ (3 : Int) := (by omega); have q179 : 3 < (l0.length : Int) := of_decide_eq_true (by first | (with_reducible assumption) | assumption); obtain ⟨ad179, e179, hx179_0⟩ := Kd.at_int HR0.out 3 p179 q179; obtain rfl : ad169 = ad179 := (by injection e179); (try simp only [show (3 : Int).toNat = 3 from rfl, Nat.reduceMul, Nat.reduceEqDiff, Go.Addr.add, ↓reduceIte] at hx179_0); have qi179 : (3 < l0.length) = True := eq_true (by omega); (try rw [show ((3 : Int)).toNat = 3 from rfl] at hx179_0); replace hx179_0 := (HB.out.cell (World.block_lt_of_cell? w _ hx179_0)).trans hx179_0; replace p179 := eq_true p179; replace q179 := eq_true q179) | (go_at_call 11; (with_reducible refine (head_Sum.calls kj14 _ _ t174 t177 _ ?side1 ?side2 A21.out).mono ?_); (case side1 => repeat (first | exact (Kd.R_reads' HO176.out).2.2 | (with_reducible refine Kd.C_alloc ?_ _) | (with_reducible refine Kd.C_drewN ?_ _) | (with_reducible refine Kd.C_drew ?_))); (case side2 => exact (Kd.R_reads' HO176.out).2.1); rintro e w' ⟨rfl, ⟨nd, rfl⟩⟩; (try first | exact ⟨rfl, _, World.drewN_drewN _ _ _⟩ | exact ⟨rfl, _, Eq.trans (World.drewN_drewN _ _ _) (congrArg (World.drewN _) (Nat.add_assoc _ _ _))⟩))))
                                go_ret3
                                exact ⟨_, by first | rfl | (simp [errW_none, errW_some] <;> rfl) | (simp [*, errW_none, errW_some] <;> rfl), by first | exact Kd.R_nil _ _ _ _ _ | exact Kd.N_nil _ _ _ _ _ | exact Kd.V_nil _ _ _ _ _ | exact Kd.Q_nil _ _ _ _ _ | exact Kd.S_nil _ _ _ _ _, by repeat (first | (with_reducible first | exact HB.out | apply below_alloc | apply pw_below_drewN | apply below_drew1) | exact HB.out)⟩
                            · rw [if_neg c23] at H
                              exact absurd H (by simp)
                          · rw [if_neg c22] at H
                            exact absurd H (by simp)
                        · rw [if_neg c19] at H
                          exact absurd H (by simp)
                      · rw [if_neg c18] at H
                        exact absurd H (by simp)
              · rw [if_neg c14] at H
                exact absurd H (by simp)
            · rw [if_neg c13] at H
              exact absurd H (by simp)
          · rw [if_neg c12] at H
            exact absurd H (by simp)
        · rw [if_neg c11] at H
          exact absurd H (by simp)

end Go.Proofs.Ytpfpckjdflcgeaa.P
