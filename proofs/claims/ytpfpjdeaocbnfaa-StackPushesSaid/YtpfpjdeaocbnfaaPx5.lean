/- The machine's side: functions of the translation as plain Lean functions, and that the machine's calls come to what they say. No condition. Written by a program (wip/tools/pp.py over the kit's printer); Lean checks it. -/
import Derived.Test.YtpfpjdeaocbnfaaPx0
import Derived.Test.YtpfpjdeaocbnfaaPx4
namespace Go.Proofs.Ytpfpjdeaocbnfaa.P
open Go.RowKit Go.Proofs.YtpfpjdeaocbnfaaW.PrintWords Go.Proofs.YtpfpjdeaocbnfaaW.PrintLast Go.Proofs.YtpfpjdeaocbnfaaW.PrintMore
attribute [local go_sem] max2_int min2_int max_two min_two max_three min_three max_four min_four   -- for this text's walks alone
set_option linter.unusedVariables false
set_option linter.unusedSimpArgs false

/-! ### tinderref03_Do: function 11 -/
mutual
def tinderref03_Do.j0 : Nat → Int → List Int → List Int → Bool → Option (List Int × Int)
  | 0, _, _, _, _ => none
  | k + 1, x0, x1, x6, x96 => if x96 = true then (if (x1.length : Int) < 1 then (tinderref03_Do.j1 k x0 x1 x6 true) else (if 0 ≤ (wrap64 ((x1.length : Int) - 1)) then (if (wrap64 ((x1.length : Int) - 1)) < (x1.length : Int) then (tinderref03_Do.j1 k x0 x1 x6 (decide ((wrap64 (rd x1 (wrap64 ((x1.length : Int) - 1)))) ≥ (wrap64 ((x1.length : Int) - 1))))) else (none)) else (none))) else (some (([] : List Int), 2))
def tinderref03_Do.j1 : Nat → Int → List Int → List Int → Bool → Option (List Int × Int)
  | 0, _, _, _, _ => none
  | k + 1, x0, x1, x6, x118 => if x118 = true then (some (([] : List Int), 5)) else (if 0 ≤ (wrap64 ((x1.length : Int) - 1)) then (if (wrap64 ((x1.length : Int) - 1)) < (x1.length : Int) then (if x0 = 78 then (if (wrap64 ((x1.length : Int) - 1)) ≤ (x1.length : Int) then (if x6.length + (x1.take ((wrap64 ((x1.length : Int) - 1)) : Int).toNat).length < 35184372088832 then ((some (x6 ++ (x1.take ((wrap64 ((x1.length : Int) - 1)) : Int).toNat) : List Int)).bind fun y222 => (if 0 ≤ (wrap64 ((wrap64 ((x1.length : Int) - 2)) - (wrap64 (rd x1 (wrap64 ((x1.length : Int) - 1)))))) then (if (wrap64 ((wrap64 ((x1.length : Int) - 2)) - (wrap64 (rd x1 (wrap64 ((x1.length : Int) - 1)))))) < (x1.length : Int) then (if y222.length < 35184372088832 then ((some (y222 ++ [rd x1 (wrap64 ((wrap64 ((x1.length : Int) - 2)) - (wrap64 (rd x1 (wrap64 ((x1.length : Int) - 1))))))] : List Int)).bind fun y226 => (if (y226.length : Int) > 64 then (some (([] : List Int), 6)) else (some (y226, 0)))) else (none)) else (none)) else (none))) else (none)) else (none)) else (if 0 ≤ (wrap64 ((wrap64 ((x1.length : Int) - 2)) - (wrap64 (rd x1 (wrap64 ((x1.length : Int) - 1)))))) then (if (wrap64 ((wrap64 ((x1.length : Int) - 2)) - (wrap64 (rd x1 (wrap64 ((x1.length : Int) - 1)))))) ≤ (x1.length : Int) then (if x6.length + (x1.take ((wrap64 ((wrap64 ((x1.length : Int) - 2)) - (wrap64 (rd x1 (wrap64 ((x1.length : Int) - 1)))))) : Int).toNat).length < 35184372088832 then ((some (x6 ++ (x1.take ((wrap64 ((wrap64 ((x1.length : Int) - 2)) - (wrap64 (rd x1 (wrap64 ((x1.length : Int) - 1)))))) : Int).toNat) : List Int)).bind fun y230 => (if 0 ≤ (wrap64 ((wrap64 ((wrap64 ((x1.length : Int) - 2)) - (wrap64 (rd x1 (wrap64 ((x1.length : Int) - 1)))))) + 1)) then (if (wrap64 ((wrap64 ((wrap64 ((x1.length : Int) - 2)) - (wrap64 (rd x1 (wrap64 ((x1.length : Int) - 1)))))) + 1)) ≤ (wrap64 ((x1.length : Int) - 1)) then (if (wrap64 ((x1.length : Int) - 1)) ≤ (x1.length : Int) then (if y230.length + ((x1.take ((wrap64 ((x1.length : Int) - 1)) : Int).toNat).drop ((wrap64 ((wrap64 ((wrap64 ((x1.length : Int) - 2)) - (wrap64 (rd x1 (wrap64 ((x1.length : Int) - 1)))))) + 1)) : Int).toNat).length < 35184372088832 then ((some (y230 ++ ((x1.take ((wrap64 ((x1.length : Int) - 1)) : Int).toNat).drop ((wrap64 ((wrap64 ((wrap64 ((x1.length : Int) - 2)) - (wrap64 (rd x1 (wrap64 ((x1.length : Int) - 1)))))) + 1)) : Int).toNat) : List Int)).bind fun y234 => (if (wrap64 ((wrap64 ((x1.length : Int) - 2)) - (wrap64 (rd x1 (wrap64 ((x1.length : Int) - 1)))))) < (x1.length : Int) then (if y234.length < 35184372088832 then ((some (y234 ++ [rd x1 (wrap64 ((wrap64 ((x1.length : Int) - 2)) - (wrap64 (rd x1 (wrap64 ((x1.length : Int) - 1))))))] : List Int)).bind fun y238 => (if (y238.length : Int) > 64 then (some (([] : List Int), 6)) else (some (y238, 0)))) else (none)) else (none))) else (none)) else (none)) else (none)) else (none))) else (none)) else (none)) else (none))) else (none)) else (none))
def tinderref03_Do.l0 : Nat → List Int → List Int → ByteArray → Int → Int → Option (List Int × Int)
  | 0, _, _, _, _, _ => none
  | k + 1, x1, x6, x8, x9, x10 => if x10 < (x8.size : Int) then (if 0 ≤ x10 then (if (bt x8 x10) = 32 then (tinderref03_Do.l0 k x1 x6 x8 x9 (wrap64 (x10 + 1))) else (if 0 ≤ (wrap64 (x9 + (((bt x8 x10) - 97) % 256))) then (if (wrap64 (x9 + (((bt x8 x10) - 97) % 256))) < (x1.length : Int) then (if x6.length < 35184372088832 then (tinderref03_Do.l0 k x1 (x6 ++ [rd x1 (wrap64 (x9 + (((bt x8 x10) - 97) % 256)))]) x8 x9 (wrap64 (x10 + 1))) else (none)) else (none)) else (none))) else (none)) else (if (x6.length : Int) > 64 then (some (([] : List Int), 6)) else (some (x6, 0)))
end
def tinderref03_Do.f (k : Nat) (a0 : Int) (l1 : List Int) : Option (List Int × Int) := if (l1.length : Int) > 64 then (some (([] : List Int), 1)) else ((tinderref03_effect.f a0).bind fun bt203 => (if bt203.2.toList = ([] : List UInt8) then (if a0 = 80 then (if (l1.length : Int) < 1 then (some (([] : List Int), 5)) else (if ([] : List Int).length + l1.length < 35184372088832 then ((some (([] : List Int) ++ l1 : List Int)).bind fun y205 => (if 0 ≤ (wrap64 ((l1.length : Int) - 1)) then (if (wrap64 ((l1.length : Int) - 1)) < (l1.length : Int) then (if (rd l1 (wrap64 ((l1.length : Int) - 1))) = 0 then (if (y205.length : Int) > 64 then (some (([] : List Int), 6)) else (some (y205, 0))) else (if y205.length < 35184372088832 then ((some (y205 ++ [rd l1 (wrap64 ((l1.length : Int) - 1))] : List Int)).bind fun y210 => (if (y210.length : Int) > 64 then (some (([] : List Int), 6)) else (some (y210, 0)))) else (none))) else (none)) else (none))) else (none))) else (if a0 = 81 then (if ([] : List Int).length + l1.length < 35184372088832 then ((some (([] : List Int) ++ l1 : List Int)).bind fun y213 => (if y213.length < 35184372088832 then ((some (y213 ++ [((l1.length : Int)) % 4294967296] : List Int)).bind fun y216 => (if (y216.length : Int) > 64 then (some (([] : List Int), 6)) else (some (y216, 0)))) else (none))) else (none)) else (if a0 = 78 then (tinderref03_Do.j0 k a0 l1 ([] : List Int) true) else (tinderref03_Do.j0 k a0 l1 ([] : List Int) (a0 == 79))))) else (if (l1.length : Int) < bt203.1 then (some (([] : List Int), 5)) else (if 0 ≤ (wrap64 ((l1.length : Int) - bt203.1)) then (if (wrap64 ((l1.length : Int) - bt203.1)) ≤ (l1.length : Int) then (if ([] : List Int).length + (l1.take ((wrap64 ((l1.length : Int) - bt203.1)) : Int).toNat).length < 35184372088832 then (tinderref03_Do.l0 k l1 (([] : List Int) ++ (l1.take ((wrap64 ((l1.length : Int) - bt203.1)) : Int).toNat)) bt203.2 (wrap64 ((l1.length : Int) - bt203.1)) 0) else (none)) else (none)) else (none)))))
theorem tinderref03_Do.mono_l : ∀ k, (∀ y0 y1 y2 y3, LeO (tinderref03_Do.j0 k y0 y1 y2 y3) (tinderref03_Do.j0 (k + 1) y0 y1 y2 y3)) ∧ (∀ y0 y1 y2 y3, LeO (tinderref03_Do.j1 k y0 y1 y2 y3) (tinderref03_Do.j1 (k + 1) y0 y1 y2 y3)) ∧ (∀ y0 y1 y2 y3 y4, LeO (tinderref03_Do.l0 k y0 y1 y2 y3 y4) (tinderref03_Do.l0 (k + 1) y0 y1 y2 y3 y4))
  | 0 => ⟨fun _ _ _ _ r h => by simp [tinderref03_Do.j0] at h, fun _ _ _ _ r h => by simp [tinderref03_Do.j1] at h, fun _ _ _ _ _ r h => by simp [tinderref03_Do.l0] at h⟩
  | k + 1 => by
    obtain ⟨ih0, ih1, ih2⟩ := tinderref03_Do.mono_l k
    refine ⟨?_, ?_, ?_⟩
    · intro y0 y1 y2 y3
      unfold tinderref03_Do.j0
      repeat' first
      | (with_reducible exact ih0 _ _ _ _)
      | (with_reducible exact ih1 _ _ _ _)
      | (with_reducible exact ih2 _ _ _ _ _)
      | (with_reducible exact LeO.refl _)
      | (with_reducible exact LeO.none _)
      | (with_reducible refine LeO.ite ?_ ?_)
      | (with_reducible refine LeO.bind ?_ (fun _ => ?_))
      | exact ih0 _ _ _ _
      | exact ih1 _ _ _ _
      | exact ih2 _ _ _ _ _
      | exact LeO.none _
      | refine LeO.ite ?_ ?_
      | refine LeO.bind ?_ (fun _ => ?_)
    · intro y0 y1 y2 y3
      unfold tinderref03_Do.j1
      repeat' first
      | (with_reducible exact ih0 _ _ _ _)
      | (with_reducible exact ih1 _ _ _ _)
      | (with_reducible exact ih2 _ _ _ _ _)
      | (with_reducible exact LeO.refl _)
      | (with_reducible exact LeO.none _)
      | (with_reducible refine LeO.ite ?_ ?_)
      | (with_reducible refine LeO.bind ?_ (fun _ => ?_))
      | exact ih0 _ _ _ _
      | exact ih1 _ _ _ _
      | exact ih2 _ _ _ _ _
      | exact LeO.none _
      | refine LeO.ite ?_ ?_
      | refine LeO.bind ?_ (fun _ => ?_)
    · intro y0 y1 y2 y3 y4
      unfold tinderref03_Do.l0
      repeat' first
      | (with_reducible exact ih0 _ _ _ _)
      | (with_reducible exact ih1 _ _ _ _)
      | (with_reducible exact ih2 _ _ _ _ _)
      | (with_reducible exact LeO.refl _)
      | (with_reducible exact LeO.none _)
      | (with_reducible refine LeO.ite ?_ ?_)
      | (with_reducible refine LeO.bind ?_ (fun _ => ?_))
      | exact ih0 _ _ _ _
      | exact ih1 _ _ _ _
      | exact ih2 _ _ _ _ _
      | exact LeO.none _
      | refine LeO.ite ?_ ?_
      | refine LeO.bind ?_ (fun _ => ?_)
theorem tinderref03_Do.mono : ∀ a0 a1 k, LeO (tinderref03_Do.f k a0 a1) (tinderref03_Do.f (k + 1) a0 a1) := by
  intro a0 a1 k
  obtain ⟨ih0, ih1, ih2⟩ := tinderref03_Do.mono_l k
  unfold tinderref03_Do.f
  repeat' first
      | (with_reducible exact ih0 _ _ _ _)
      | (with_reducible exact ih1 _ _ _ _)
      | (with_reducible exact ih2 _ _ _ _ _)
      | (with_reducible exact LeO.refl _)
      | (with_reducible exact LeO.none _)
      | (with_reducible refine LeO.ite ?_ ?_)
      | (with_reducible refine LeO.bind ?_ (fun _ => ?_))
      | exact ih0 _ _ _ _
      | exact ih1 _ _ _ _
      | exact ih2 _ _ _ _ _
      | exact LeO.none _
      | refine LeO.ite ?_ ?_
      | refine LeO.bind ?_ (fun _ => ?_)
set_option maxHeartbeats 8000000 in
set_option maxRecDepth 100000 in
theorem tinderref03_Do.calls (k : Nat) (a0 : Int) (A1 : Option Addr) (c1 : Nat) (l1 : List Int) (r1 : List Int) (r2 : Int) (w : World) (hr1 : Kd.C (Kd.int .u32) w A1 l1.length l1) (hc1 : l1.length ≤ c1) (h : tinderref03_Do.f k a0 l1 = some (r1, r2)) :
    Calls Try.prog 11 #[.int .i64 a0, .slice A1 l1.length c1] w fun e w' => ∃ v0_ : Value, e = .returned (.tuple #[v0_, .int .i64 r2]) ∧ Kd.R (Kd.int .u32) 39 w' w.heap.size (fun _ => True) v0_ r1 ∧ Below w.heap.size w w' := by
  have HR1 := Aside0.mk hr1
  have HC1 := Aside0.mk hc1
  clear hr1 hc1
  have HB := Aside0.mk (Below.refl w.heap.size w)
  have H : (if (l1.length : Int) > 64 then (some (([] : List Int), 1)) else ((tinderref03_effect.f a0).bind fun bt203 => (if bt203.2.toList = ([] : List UInt8) then (if a0 = 80 then (if (l1.length : Int) < 1 then (some (([] : List Int), 5)) else (if ([] : List Int).length + l1.length < 35184372088832 then ((some (([] : List Int) ++ l1 : List Int)).bind fun y205 => (if 0 ≤ (wrap64 ((l1.length : Int) - 1)) then (if (wrap64 ((l1.length : Int) - 1)) < (l1.length : Int) then (if (rd l1 (wrap64 ((l1.length : Int) - 1))) = 0 then (if (y205.length : Int) > 64 then (some (([] : List Int), 6)) else (some (y205, 0))) else (if y205.length < 35184372088832 then ((some (y205 ++ [rd l1 (wrap64 ((l1.length : Int) - 1))] : List Int)).bind fun y210 => (if (y210.length : Int) > 64 then (some (([] : List Int), 6)) else (some (y210, 0)))) else (none))) else (none)) else (none))) else (none))) else (if a0 = 81 then (if ([] : List Int).length + l1.length < 35184372088832 then ((some (([] : List Int) ++ l1 : List Int)).bind fun y213 => (if y213.length < 35184372088832 then ((some (y213 ++ [((l1.length : Int)) % 4294967296] : List Int)).bind fun y216 => (if (y216.length : Int) > 64 then (some (([] : List Int), 6)) else (some (y216, 0)))) else (none))) else (none)) else (if a0 = 78 then (tinderref03_Do.j0 k a0 l1 ([] : List Int) true) else (tinderref03_Do.j0 k a0 l1 ([] : List Int) (a0 == 79))))) else (if (l1.length : Int) < bt203.1 then (some (([] : List Int), 5)) else (if 0 ≤ (wrap64 ((l1.length : Int) - bt203.1)) then (if (wrap64 ((l1.length : Int) - bt203.1)) ≤ (l1.length : Int) then (if ([] : List Int).length + (l1.take ((wrap64 ((l1.length : Int) - bt203.1)) : Int).toNat).length < 35184372088832 then (tinderref03_Do.l0 k l1 (([] : List Int) ++ (l1.take ((wrap64 ((l1.length : Int) - bt203.1)) : Int).toNat)) bt203.2 (wrap64 ((l1.length : Int) - bt203.1)) 0) else (none)) else (none)) else (none)))))) = some (r1, r2) := h
  clear h
  by_cases c3 : (l1.length : Int) > 64
  · rw [if_pos c3] at H
    have c3b0 : decide (64 < (l1.length : Int)) = true := decide_eq_true c3
    have c3b1 : decide (64 < l1.length) = true := decide_eq_true (by omega)
    clear c3
    simp only [Option.some.injEq, Prod.mk.injEq] at H
    obtain ⟨rfl, rfl⟩ := H
    go_enter Try.func11, Try.ntmps11
    go_wp2
    go_ret2
    exact ⟨_, by first | rfl | (simp [errW_none, errW_some] <;> rfl) | (simp [*, errW_none, errW_some] <;> rfl), by first | exact Kd.R_nil _ _ _ _ _ | exact Kd.N_nil _ _ _ _ _ | exact Kd.V_nil _ _ _ _ _ | exact Kd.Q_nil _ _ _ _ _ | exact Kd.S_nil _ _ _ _ _, by repeat (first | (with_reducible first | exact HB.out | apply below_alloc | apply pw_below_drewN | apply below_drew1) | exact HB.out)⟩
  · as_aux_lemma =>
    rw [if_neg c3] at H
    have c3b0 : decide (64 < (l1.length : Int)) = false := decide_eq_false c3
    have c3b1 : decide (64 < l1.length) = false := decide_eq_false (by omega)
    clear c3
    replace H := Option.bind_eq_some_iff.mp H
    obtain ⟨⟨t203, t204⟩, A40, H⟩ := H
    replace H : (if t204.toList = ([] : List UInt8) then (if a0 = 80 then (if (l1.length : Int) < 1 then (some (([] : List Int), 5)) else (if ([] : List Int).length + l1.length < 35184372088832 then ((some (([] : List Int) ++ l1 : List Int)).bind fun y205 => (if 0 ≤ (wrap64 ((l1.length : Int) - 1)) then (if (wrap64 ((l1.length : Int) - 1)) < (l1.length : Int) then (if (rd l1 (wrap64 ((l1.length : Int) - 1))) = 0 then (if (y205.length : Int) > 64 then (some (([] : List Int), 6)) else (some (y205, 0))) else (if y205.length < 35184372088832 then ((some (y205 ++ [rd l1 (wrap64 ((l1.length : Int) - 1))] : List Int)).bind fun y210 => (if (y210.length : Int) > 64 then (some (([] : List Int), 6)) else (some (y210, 0)))) else (none))) else (none)) else (none))) else (none))) else (if a0 = 81 then (if ([] : List Int).length + l1.length < 35184372088832 then ((some (([] : List Int) ++ l1 : List Int)).bind fun y213 => (if y213.length < 35184372088832 then ((some (y213 ++ [((l1.length : Int)) % 4294967296] : List Int)).bind fun y216 => (if (y216.length : Int) > 64 then (some (([] : List Int), 6)) else (some (y216, 0)))) else (none))) else (none)) else (if a0 = 78 then (tinderref03_Do.j0 k a0 l1 ([] : List Int) true) else (tinderref03_Do.j0 k a0 l1 ([] : List Int) (a0 == 79))))) else (if (l1.length : Int) < t203 then (some (([] : List Int), 5)) else (if 0 ≤ (wrap64 ((l1.length : Int) - t203)) then (if (wrap64 ((l1.length : Int) - t203)) ≤ (l1.length : Int) then (if ([] : List Int).length + (l1.take ((wrap64 ((l1.length : Int) - t203)) : Int).toNat).length < 35184372088832 then (tinderref03_Do.l0 k l1 (([] : List Int) ++ (l1.take ((wrap64 ((l1.length : Int) - t203)) : Int).toNat)) t204 (wrap64 ((l1.length : Int) - t203)) 0) else (none)) else (none)) else (none)))) = some (r1, r2) := H
    have A4 := Aside0.mk A40
    clear A40
    by_cases c5 : t204.toList = ([] : List UInt8)
    · as_aux_lemma =>
      rw [if_pos c5] at H
      have c5b0 : (t204.toList == ([] : List UInt8)) = true := beq_iff_eq.mpr c5
      have c5b1 : (t204.toList != ([] : List UInt8)) = false := bne_eq_false_iff_eq.mpr c5
      clear c5
      by_cases c6 : a0 = 80
      · rw [if_pos c6] at H
        have c6b0 : (a0 == 80) = true := beq_iff_eq.mpr c6
        have c6b1 : (a0 != 80) = false := bne_eq_false_iff_eq.mpr c6
        clear c6
        by_cases c7 : (l1.length : Int) < 1
        · rw [if_pos c7] at H
          have c7b0 : decide ((l1.length : Int) < 1) = true := decide_eq_true c7
          have c7b1 : decide (l1.length < 1) = true := decide_eq_true (by omega)
          clear c7
          simp only [Option.some.injEq, Prod.mk.injEq] at H
          obtain ⟨rfl, rfl⟩ := H
          go_enter Try.func11, Try.ntmps11
          go_wp2_with (first | ((with_reducible refine gate_callee (f := 21) rfl ?_); refine goesL_ (some 17) rfl rfl Try.func21 (by kernel_rfl) rfl #[.int .i64 a0] rfl (by (try simp only [List.map_toArray, List.map_cons, List.map_nil]); first | done | rfl | (simp only [List.length_drop, List.length_take]; rfl)) ?_; (with_reducible refine (tinderref03_effect.calls a0 t203 t204 _ A4.out).mono ?_); rintro e w' ⟨rfl, ⟨nd, rfl⟩⟩; refine ⟨_, rfl, ?_⟩))
          go_ret2
          exact ⟨_, by first | rfl | (simp [errW_none, errW_some] <;> rfl) | (simp [*, errW_none, errW_some] <;> rfl), by first | exact Kd.R_nil _ _ _ _ _ | exact Kd.N_nil _ _ _ _ _ | exact Kd.V_nil _ _ _ _ _ | exact Kd.Q_nil _ _ _ _ _ | exact Kd.S_nil _ _ _ _ _, by repeat (first | (with_reducible first | exact HB.out | apply below_alloc | apply pw_below_drewN | apply below_drew1) | exact HB.out)⟩
        · rw [if_neg c7] at H
          have c7b0 : decide ((l1.length : Int) < 1) = false := decide_eq_false c7
          have c7b1 : decide (l1.length < 1) = false := decide_eq_false (by omega)
          clear c7
          by_cases c8 : ([] : List Int).length + l1.length < 35184372088832
          · rw [if_pos c8] at H
            have LMc8 := Aside0.mk c8
            clear c8
            obtain ⟨y205, hy205⟩ : ∃ y_ : List Int, y_ = (([] : List Int) ++ l1) := ⟨_, rfl⟩
            replace H : (if 0 ≤ (wrap64 ((l1.length : Int) - 1)) then (if (wrap64 ((l1.length : Int) - 1)) < (l1.length : Int) then (if (rd l1 (wrap64 ((l1.length : Int) - 1))) = 0 then (if (y205.length : Int) > 64 then (some (([] : List Int), 6)) else (some (y205, 0))) else (if y205.length < 35184372088832 then ((some (y205 ++ [rd l1 (wrap64 ((l1.length : Int) - 1))] : List Int)).bind fun y210 => (if (y210.length : Int) > 64 then (some (([] : List Int), 6)) else (some (y210, 0)))) else (none))) else (none)) else (none)) = some (r1, r2) := by first | (rw [hy205]; with_reducible exact H) | (have H2_ := (Option.bind_some _ _).symm.trans H; rw [hy205]; with_reducible exact H2_) | (have H2_ := (Option.bind_some _ _).symm.trans H; with_reducible exact H2_) | with_reducible exact H | (rw [hy205]; exact H) | exact H
            have Ny205 := Aside0.mk hy205
            clear hy205
            obtain ⟨ji9, hji9⟩ : ∃ j_ : Int, (wrap64 ((l1.length : Int) - 1)) = j_ := ⟨_, rfl⟩
            replace H : (if 0 ≤ (ji9) then (if (ji9) < (l1.length : Int) then (if (rd l1 (ji9)) = 0 then (if (y205.length : Int) > 64 then (some (([] : List Int), 6)) else (some (y205, 0))) else (if y205.length < 35184372088832 then ((some (y205 ++ [rd l1 (ji9)] : List Int)).bind fun y210 => (if (y210.length : Int) > 64 then (some (([] : List Int), 6)) else (some (y210, 0)))) else (none))) else (none)) else (none)) = some (r1, r2) := by first | (rw [hji9] at H; exact H) | (simp only [hji9] at H ⊢; exact H)
            (try rw [hji9] at A4)
            have hji9w : (IntKind.i64.wrap ((l1.length : Int) - 1)) = ji9 := (i64_w _).trans hji9
            by_cases c10 : 0 ≤ (ji9)
            · rw [if_pos c10] at H
              have c10b0 : decide (0 ≤ (ji9)) = true := decide_eq_true c10
              clear c10
              by_cases c11 : (ji9) < (l1.length : Int)
              · rw [if_pos c11] at H
                have c11b0 : decide ((ji9) < (l1.length : Int)) = true := decide_eq_true c11
                clear c11
                by_cases c12 : (rd l1 (ji9)) = 0
                · rw [if_pos c12] at H
                  have c12b0 : ((rd l1 (ji9)) == 0) = true := beq_iff_eq.mpr c12
                  have c12b1 : ((rd l1 (ji9)) != 0) = false := bne_eq_false_iff_eq.mpr c12
                  clear c12
                  by_cases c13 : (y205.length : Int) > 64
                  · rw [if_pos c13] at H
                    have c13b0 : decide (64 < (y205.length : Int)) = true := decide_eq_true c13
                    have c13b1 : decide (64 < y205.length) = true := decide_eq_true (by omega)
                    clear c13
                    simp only [Option.some.injEq, Prod.mk.injEq] at H
                    obtain ⟨rfl, rfl⟩ := H
                    go_enter Try.func11, Try.ntmps11
                    go_wp2_with (first | ((with_reducible refine gate_callee (f := 21) rfl ?_); refine goesL_ (some 17) rfl rfl Try.func21 (by kernel_rfl) rfl #[.int .i64 a0] rfl (by (try simp only [List.map_toArray, List.map_cons, List.map_nil]); first | done | rfl | (simp only [List.length_drop, List.length_take]; rfl)) ?_; (with_reducible refine (tinderref03_effect.calls a0 t203 t204 _ A4.out).mono ?_); rintro e w' ⟨rfl, ⟨nd, rfl⟩⟩; refine ⟨_, rfl, ?_⟩) | ((with_reducible refine gate_builtin (b := .append) (xs := #[.tmp 65, .tmp 66]) rfl ?_); (try (refine gate_guard (by rfl) ?_; dsimp only)); at_builtin; refine Kd.R_append_rows (Kd.int .u32) (w0 := w) w.heap.size rfl (.tmp 65) (.tmp 66) 22 39 (.int .u32 0) 4 rfl Try.underlying22 info39 rfl (by decide) (by omega) (.slice none 0 0) ([] : List Int) l1 _ _ _ (fun _ => True) (fun _ => False) rfl rfl ?aO ?aR (fun _ _ h => h) (fun _ h => h.elim) ?aF ?aB ?aS ?aL ?_; (case aR => repeat (first | exact HR1.out | (with_reducible refine Kd.C_alloc ?_ _) | (with_reducible refine Kd.C_drewN ?_ _) | (with_reducible refine Kd.C_drew ?_))); (case aB => exact (by repeat (first | (with_reducible first | exact HB.out | apply below_alloc | apply pw_below_drewN | apply below_drew1) | exact HB.out))); (case aF => exact (fun _ _ => trivial)); (case aO => exact ((Kd.R_nil _ _ _ _ (fun _ => True)))); (case aS => exact (below_size (by repeat (first | (with_reducible first | exact HB.out | apply below_alloc | apply pw_below_drewN | apply below_drew1) | exact HB.out)))); (case aL => have := LMc8.out; omega); intro v206 w14 ho hb hg hat; rw [← Ny205.out] at ho; have n0_ := Aside0.mk (hb); have n1_ := Aside0.mk (ho); clear HB; have HB := n0_; have HO207 := n1_; clear n0_ n1_; clear ho hb hg hat; have p208 : 0 ≤ ((ji9) : Int) := of_decide_eq_true (by first | (with_reducible assumption) | assumption); have q208 : (ji9) < (l1.length : Int) := of_decide_eq_true (by first | (with_reducible assumption) | assumption); obtain ⟨ad208, e208, hx208_0⟩ := Kd.at_int HR1.out (ji9) p208 q208; cases e208; replace hx208_0 := (HB.out.cell (World.block_lt_of_cell? w _ hx208_0)).trans hx208_0; replace p208 := eq_true p208; replace q208 := eq_true q208; obtain ⟨Ao15, co15, eo15⟩ := Kd.R_slice HO207.out; subst eo15))
                    go_ret2
                    exact ⟨_, by first | rfl | (simp [errW_none, errW_some] <;> rfl) | (simp only [← hji9]; first | rfl | (simp [errW_none, errW_some] <;> rfl)) | (simp [*, errW_none, errW_some] <;> rfl), by first | exact Kd.R_nil _ _ _ _ _ | exact Kd.N_nil _ _ _ _ _ | exact Kd.V_nil _ _ _ _ _ | exact Kd.Q_nil _ _ _ _ _ | exact Kd.S_nil _ _ _ _ _, by repeat (first | (with_reducible first | exact HB.out | apply below_alloc | apply pw_below_drewN | apply below_drew1) | exact HB.out)⟩
                  · rw [if_neg c13] at H
                    have c13b0 : decide (64 < (y205.length : Int)) = false := decide_eq_false c13
                    have c13b1 : decide (64 < y205.length) = false := decide_eq_false (by omega)
                    clear c13
                    simp only [Option.some.injEq, Prod.mk.injEq] at H
                    obtain ⟨rfl, rfl⟩ := H
                    go_enter Try.func11, Try.ntmps11
                    go_wp2_with (first | ((with_reducible refine gate_callee (f := 21) rfl ?_); refine goesL_ (some 17) rfl rfl Try.func21 (by kernel_rfl) rfl #[.int .i64 a0] rfl (by (try simp only [List.map_toArray, List.map_cons, List.map_nil]); first | done | rfl | (simp only [List.length_drop, List.length_take]; rfl)) ?_; (with_reducible refine (tinderref03_effect.calls a0 t203 t204 _ A4.out).mono ?_); rintro e w' ⟨rfl, ⟨nd, rfl⟩⟩; refine ⟨_, rfl, ?_⟩) | ((with_reducible refine gate_builtin (b := .append) (xs := #[.tmp 65, .tmp 66]) rfl ?_); (try (refine gate_guard (by rfl) ?_; dsimp only)); at_builtin; refine Kd.R_append_rows (Kd.int .u32) (w0 := w) w.heap.size rfl (.tmp 65) (.tmp 66) 22 39 (.int .u32 0) 4 rfl Try.underlying22 info39 rfl (by decide) (by omega) (.slice none 0 0) ([] : List Int) l1 _ _ _ (fun _ => True) (fun _ => False) rfl rfl ?aO ?aR (fun _ _ h => h) (fun _ h => h.elim) ?aF ?aB ?aS ?aL ?_; (case aR => repeat (first | exact HR1.out | (with_reducible refine Kd.C_alloc ?_ _) | (with_reducible refine Kd.C_drewN ?_ _) | (with_reducible refine Kd.C_drew ?_))); (case aB => exact (by repeat (first | (with_reducible first | exact HB.out | apply below_alloc | apply pw_below_drewN | apply below_drew1) | exact HB.out))); (case aF => exact (fun _ _ => trivial)); (case aO => exact ((Kd.R_nil _ _ _ _ (fun _ => True)))); (case aS => exact (below_size (by repeat (first | (with_reducible first | exact HB.out | apply below_alloc | apply pw_below_drewN | apply below_drew1) | exact HB.out)))); (case aL => have := LMc8.out; omega); intro v206 w16 ho hb hg hat; rw [← Ny205.out] at ho; have n0_ := Aside0.mk (hb); have n1_ := Aside0.mk (ho); clear HB; have HB := n0_; have HO207 := n1_; clear n0_ n1_; clear ho hb hg hat; have p208 : 0 ≤ ((ji9) : Int) := of_decide_eq_true (by first | (with_reducible assumption) | assumption); have q208 : (ji9) < (l1.length : Int) := of_decide_eq_true (by first | (with_reducible assumption) | assumption); obtain ⟨ad208, e208, hx208_0⟩ := Kd.at_int HR1.out (ji9) p208 q208; cases e208; replace hx208_0 := (HB.out.cell (World.block_lt_of_cell? w _ hx208_0)).trans hx208_0; replace p208 := eq_true p208; replace q208 := eq_true q208; obtain ⟨Ao17, co17, eo17⟩ := Kd.R_slice HO207.out; subst eo17))
                    go_ret2
                    exact ⟨_, by first | rfl | (simp [errW_none, errW_some] <;> rfl) | (simp only [← hji9]; first | rfl | (simp [errW_none, errW_some] <;> rfl)) | (simp [*, errW_none, errW_some] <;> rfl), by (with_reducible repeat (first | apply Kd.R_alloc | apply Kd.R_drewN | apply Kd.R_drew)); exact HO207.out, by repeat (first | (with_reducible first | exact HB.out | apply below_alloc | apply pw_below_drewN | apply below_drew1) | exact HB.out)⟩
                · rw [if_neg c12] at H
                  have c12b0 : ((rd l1 (ji9)) == 0) = false := beq_eq_false_iff_ne.mpr c12
                  have c12b1 : ((rd l1 (ji9)) != 0) = true := bne_iff_ne.mpr c12
                  by_cases c18 : y205.length < 35184372088832
                  · rw [if_pos c18] at H
                    have LMc18 := Aside0.mk c18
                    clear c18
                    obtain ⟨y210, hy210⟩ : ∃ y_ : List Int, y_ = (y205 ++ [rd l1 (ji9)]) := ⟨_, rfl⟩
                    replace H : (if (y210.length : Int) > 64 then (some (([] : List Int), 6)) else (some (y210, 0))) = some (r1, r2) := by first | (rw [hy210]; with_reducible exact H) | (have H2_ := (Option.bind_some _ _).symm.trans H; rw [hy210]; with_reducible exact H2_) | (have H2_ := (Option.bind_some _ _).symm.trans H; with_reducible exact H2_) | with_reducible exact H | (rw [hy210]; exact H) | exact H
                    have Ny210 := Aside0.mk hy210
                    clear hy210
                    by_cases c19 : (y210.length : Int) > 64
                    · rw [if_pos c19] at H
                      have c19b0 : decide (64 < (y210.length : Int)) = true := decide_eq_true c19
                      have c19b1 : decide (64 < y210.length) = true := decide_eq_true (by omega)
                      clear c19
                      simp only [Option.some.injEq, Prod.mk.injEq] at H
                      obtain ⟨rfl, rfl⟩ := H
                      go_enter Try.func11, Try.ntmps11
                      go_wp2_with (first | ((with_reducible refine gate_callee (f := 21) rfl ?_); refine goesL_ (some 17) rfl rfl Try.func21 (by kernel_rfl) rfl #[.int .i64 a0] rfl (by (try simp only [List.map_toArray, List.map_cons, List.map_nil]); first | done | rfl | (simp only [List.length_drop, List.length_take]; rfl)) ?_; (with_reducible refine (tinderref03_effect.calls a0 t203 t204 _ A4.out).mono ?_); rintro e w' ⟨rfl, ⟨nd, rfl⟩⟩; refine ⟨_, rfl, ?_⟩) | ((with_reducible refine gate_builtin (b := .append) (xs := #[.tmp 65, .tmp 66]) rfl ?_); (try (refine gate_guard (by rfl) ?_; dsimp only)); at_builtin; refine Kd.R_append_rows (Kd.int .u32) (w0 := w) w.heap.size rfl (.tmp 65) (.tmp 66) 22 39 (.int .u32 0) 4 rfl Try.underlying22 info39 rfl (by decide) (by omega) (.slice none 0 0) ([] : List Int) l1 _ _ _ (fun _ => True) (fun _ => False) rfl rfl ?aO ?aR (fun _ _ h => h) (fun _ h => h.elim) ?aF ?aB ?aS ?aL ?_; (case aR => repeat (first | exact HR1.out | (with_reducible refine Kd.C_alloc ?_ _) | (with_reducible refine Kd.C_drewN ?_ _) | (with_reducible refine Kd.C_drew ?_))); (case aB => exact (by repeat (first | (with_reducible first | exact HB.out | apply below_alloc | apply pw_below_drewN | apply below_drew1) | exact HB.out))); (case aF => exact (fun _ _ => trivial)); (case aO => exact ((Kd.R_nil _ _ _ _ (fun _ => True)))); (case aS => exact (below_size (by repeat (first | (with_reducible first | exact HB.out | apply below_alloc | apply pw_below_drewN | apply below_drew1) | exact HB.out)))); (case aL => have := LMc8.out; omega); intro v206 w20 ho hb hg hat; rw [← Ny205.out] at ho; have n0_ := Aside0.mk (hb); have n1_ := Aside0.mk (ho); clear HB; have HB := n0_; have HO207 := n1_; clear n0_ n1_; clear ho hb hg hat; have p208 : 0 ≤ ((ji9) : Int) := of_decide_eq_true (by first | (with_reducible assumption) | assumption); have q208 : (ji9) < (l1.length : Int) := of_decide_eq_true (by first | (with_reducible assumption) | assumption); obtain ⟨ad208, e208, hx208_0⟩ := Kd.at_int HR1.out (ji9) p208 q208; cases e208; replace hx208_0 := (HB.out.cell (World.block_lt_of_cell? w _ hx208_0)).trans hx208_0; replace p208 := eq_true p208; replace q208 := eq_true q208; have p209 : 0 ≤ ((ji9) : Int) := of_decide_eq_true (by first | (with_reducible assumption) | assumption); have q209 : (ji9) < (l1.length : Int) := of_decide_eq_true (by first | (with_reducible assumption) | assumption); obtain ⟨ad209, e209, hx209_0⟩ := Kd.at_int HR1.out (ji9) p209 q209; obtain rfl : ad208 = ad209 := (by injection e209); replace hx209_0 := (HB.out.cell (World.block_lt_of_cell? w _ hx209_0)).trans hx209_0; replace p209 := eq_true p209; replace q209 := eq_true q209) | ((with_reducible refine gate_builtin (b := .append) (xs := #[.tmp 75, .tmp 82]) rfl ?_); (try (refine gate_guard (by rfl) ?_; dsimp only)); at_builtin; refine Kd.R_append (Kd.int .u32) (w0 := w) w.heap.size rfl (.tmp 75) (.tmp 82) 22 39 (.int .u32 0) 4 rfl Try.underlying22 info39 rfl (by decide) (by omega) v206 y205 (rd l1 (ji9)) [.int .u32 (rd l1 (ji9))] (fun _ => True) (fun _ => False) rfl rfl ?aP (fun _ hk => hk.elim) ?aF ?aO ?aB ?aS ?aL ?_; (case aP => exact rfl); (case aB => exact (by repeat (first | (with_reducible first | exact HB.out | apply below_alloc | apply pw_below_drewN | apply below_drew1) | exact HB.out))); (case aF => exact (fun _ _ => trivial)); (case aO => exact (by (with_reducible repeat (first | apply Kd.R_alloc | apply Kd.R_drewN | apply Kd.R_drew)); exact HO207.out)); (case aS => exact (below_size (by repeat (first | (with_reducible first | exact HB.out | apply below_alloc | apply pw_below_drewN | apply below_drew1) | exact HB.out)))); (case aL => have := LMc18.out; omega); intro v211 w21 ho hb hg hat; rw [← Ny210.out] at ho; have n0_ := Aside0.mk (hb); have n1_ := Aside0.mk (ho); clear HB; clear HO207; have HB := n0_; have HO212 := n1_; clear n0_ n1_; clear ho hb hg hat; obtain ⟨Ao22, co22, eo22⟩ := Kd.R_slice HO212.out; subst eo22))
                      go_ret2
                      exact ⟨_, by first | rfl | (simp [errW_none, errW_some] <;> rfl) | (simp only [← hji9]; first | rfl | (simp [errW_none, errW_some] <;> rfl)) | (simp [*, errW_none, errW_some] <;> rfl), by first | exact Kd.R_nil _ _ _ _ _ | exact Kd.N_nil _ _ _ _ _ | exact Kd.V_nil _ _ _ _ _ | exact Kd.Q_nil _ _ _ _ _ | exact Kd.S_nil _ _ _ _ _, by repeat (first | (with_reducible first | exact HB.out | apply below_alloc | apply pw_below_drewN | apply below_drew1) | exact HB.out)⟩
                    · rw [if_neg c19] at H
                      have c19b0 : decide (64 < (y210.length : Int)) = false := decide_eq_false c19
                      have c19b1 : decide (64 < y210.length) = false := decide_eq_false (by omega)
                      clear c19
                      simp only [Option.some.injEq, Prod.mk.injEq] at H
                      obtain ⟨rfl, rfl⟩ := H
                      go_enter Try.func11, Try.ntmps11
                      go_wp2_with (first | ((with_reducible refine gate_callee (f := 21) rfl ?_); refine goesL_ (some 17) rfl rfl Try.func21 (by kernel_rfl) rfl #[.int .i64 a0] rfl (by (try simp only [List.map_toArray, List.map_cons, List.map_nil]); first | done | rfl | (simp only [List.length_drop, List.length_take]; rfl)) ?_; (with_reducible refine (tinderref03_effect.calls a0 t203 t204 _ A4.out).mono ?_); rintro e w' ⟨rfl, ⟨nd, rfl⟩⟩; refine ⟨_, rfl, ?_⟩) | ((with_reducible refine gate_builtin (b := .append) (xs := #[.tmp 65, .tmp 66]) rfl ?_); (try (refine gate_guard (by rfl) ?_; dsimp only)); at_builtin; refine Kd.R_append_rows (Kd.int .u32) (w0 := w) w.heap.size rfl (.tmp 65) (.tmp 66) 22 39 (.int .u32 0) 4 rfl Try.underlying22 info39 rfl (by decide) (by omega) (.slice none 0 0) ([] : List Int) l1 _ _ _ (fun _ => True) (fun _ => False) rfl rfl ?aO ?aR (fun _ _ h => h) (fun _ h => h.elim) ?aF ?aB ?aS ?aL ?_; (case aR => repeat (first | exact HR1.out | (with_reducible refine Kd.C_alloc ?_ _) | (with_reducible refine Kd.C_drewN ?_ _) | (with_reducible refine Kd.C_drew ?_))); (case aB => exact (by repeat (first | (with_reducible first | exact HB.out | apply below_alloc | apply pw_below_drewN | apply below_drew1) | exact HB.out))); (case aF => exact (fun _ _ => trivial)); (case aO => exact ((Kd.R_nil _ _ _ _ (fun _ => True)))); (case aS => exact (below_size (by repeat (first | (with_reducible first | exact HB.out | apply below_alloc | apply pw_below_drewN | apply below_drew1) | exact HB.out)))); (case aL => have := LMc8.out; omega); intro v206 w23 ho hb hg hat; rw [← Ny205.out] at ho; have n0_ := Aside0.mk (hb); have n1_ := Aside0.mk (ho); clear HB; have HB := n0_; have HO207 := n1_; clear n0_ n1_; clear ho hb hg hat; have p208 : 0 ≤ ((ji9) : Int) := of_decide_eq_true (by first | (with_reducible assumption) | assumption); have q208 : (ji9) < (l1.length : Int) := of_decide_eq_true (by first | (with_reducible assumption) | assumption); obtain ⟨ad208, e208, hx208_0⟩ := Kd.at_int HR1.out (ji9) p208 q208; cases e208; replace hx208_0 := (HB.out.cell (World.block_lt_of_cell? w _ hx208_0)).trans hx208_0; replace p208 := eq_true p208; replace q208 := eq_true q208; have p209 : 0 ≤ ((ji9) : Int) := of_decide_eq_true (by first | (with_reducible assumption) | assumption); have q209 : (ji9) < (l1.length : Int) := of_decide_eq_true (by first | (with_reducible assumption) | assumption); obtain ⟨ad209, e209, hx209_0⟩ := Kd.at_int HR1.out (ji9) p209 q209; obtain rfl : ad208 = ad209 := (by injection e209); replace hx209_0 := (HB.out.cell (World.block_lt_of_cell? w _ hx209_0)).trans hx209_0; replace p209 := eq_true p209; replace q209 := eq_true q209) | ((with_reducible refine gate_builtin (b := .append) (xs := #[.tmp 75, .tmp 82]) rfl ?_); (try (refine gate_guard (by rfl) ?_; dsimp only)); at_builtin; refine Kd.R_append (Kd.int .u32) (w0 := w) w.heap.size rfl (.tmp 75) (.tmp 82) 22 39 (.int .u32 0) 4 rfl Try.underlying22 info39 rfl (by decide) (by omega) v206 y205 (rd l1 (ji9)) [.int .u32 (rd l1 (ji9))] (fun _ => True) (fun _ => False) rfl rfl ?aP (fun _ hk => hk.elim) ?aF ?aO ?aB ?aS ?aL ?_; (case aP => exact rfl); (case aB => exact (by repeat (first | (with_reducible first | exact HB.out | apply below_alloc | apply pw_below_drewN | apply below_drew1) | exact HB.out))); (case aF => exact (fun _ _ => trivial)); (case aO => exact (by (with_reducible repeat (first | apply Kd.R_alloc | apply Kd.R_drewN | apply Kd.R_drew)); exact HO207.out)); (case aS => exact (below_size (by repeat (first | (with_reducible first | exact HB.out | apply below_alloc | apply pw_below_drewN | apply below_drew1) | exact HB.out)))); (case aL => have := LMc18.out; omega); intro v211 w24 ho hb hg hat; rw [← Ny210.out] at ho; have n0_ := Aside0.mk (hb); have n1_ := Aside0.mk (ho); clear HB; clear HO207; have HB := n0_; have HO212 := n1_; clear n0_ n1_; clear ho hb hg hat; obtain ⟨Ao25, co25, eo25⟩ := Kd.R_slice HO212.out; subst eo25))
                      go_ret2
                      exact ⟨_, by first | rfl | (simp [errW_none, errW_some] <;> rfl) | (simp only [← hji9]; first | rfl | (simp [errW_none, errW_some] <;> rfl)) | (simp [*, errW_none, errW_some] <;> rfl), by (with_reducible repeat (first | apply Kd.R_alloc | apply Kd.R_drewN | apply Kd.R_drew)); exact HO212.out, by repeat (first | (with_reducible first | exact HB.out | apply below_alloc | apply pw_below_drewN | apply below_drew1) | exact HB.out)⟩
                  · rw [if_neg c18] at H
                    exact absurd H (by simp)
              · rw [if_neg c11] at H
                exact absurd H (by simp)
            · rw [if_neg c10] at H
              exact absurd H (by simp)
          · rw [if_neg c8] at H
            exact absurd H (by simp)
      · as_aux_lemma =>
        rw [if_neg c6] at H
        have c6b0 : (a0 == 80) = false := beq_eq_false_iff_ne.mpr c6
        have c6b1 : (a0 != 80) = true := bne_iff_ne.mpr c6
        by_cases c26 : a0 = 81
        · rw [if_pos c26] at H
          have c26b0 : (a0 == 81) = true := beq_iff_eq.mpr c26
          have c26b1 : (a0 != 81) = false := bne_eq_false_iff_eq.mpr c26
          clear c26
          by_cases c27 : ([] : List Int).length + l1.length < 35184372088832
          · rw [if_pos c27] at H
            have LMc27 := Aside0.mk c27
            clear c27
            obtain ⟨y213, hy213⟩ : ∃ y_ : List Int, y_ = (([] : List Int) ++ l1) := ⟨_, rfl⟩
            replace H : (if y213.length < 35184372088832 then ((some (y213 ++ [((l1.length : Int)) % 4294967296] : List Int)).bind fun y216 => (if (y216.length : Int) > 64 then (some (([] : List Int), 6)) else (some (y216, 0)))) else (none)) = some (r1, r2) := by first | (rw [hy213]; with_reducible exact H) | (have H2_ := (Option.bind_some _ _).symm.trans H; rw [hy213]; with_reducible exact H2_) | (have H2_ := (Option.bind_some _ _).symm.trans H; with_reducible exact H2_) | with_reducible exact H | (rw [hy213]; exact H) | exact H
            have Ny213 := Aside0.mk hy213
            clear hy213
            by_cases c28 : y213.length < 35184372088832
            · rw [if_pos c28] at H
              have LMc28 := Aside0.mk c28
              clear c28
              obtain ⟨y216, hy216⟩ : ∃ y_ : List Int, y_ = (y213 ++ [((l1.length : Int)) % 4294967296]) := ⟨_, rfl⟩
              replace H : (if (y216.length : Int) > 64 then (some (([] : List Int), 6)) else (some (y216, 0))) = some (r1, r2) := by first | (rw [hy216]; with_reducible exact H) | (have H2_ := (Option.bind_some _ _).symm.trans H; rw [hy216]; with_reducible exact H2_) | (have H2_ := (Option.bind_some _ _).symm.trans H; with_reducible exact H2_) | with_reducible exact H | (rw [hy216]; exact H) | exact H
              have Ny216 := Aside0.mk hy216
              clear hy216
              by_cases c29 : (y216.length : Int) > 64
              · rw [if_pos c29] at H
                have c29b0 : decide (64 < (y216.length : Int)) = true := decide_eq_true c29
                have c29b1 : decide (64 < y216.length) = true := decide_eq_true (by omega)
                clear c29
                simp only [Option.some.injEq, Prod.mk.injEq] at H
                obtain ⟨rfl, rfl⟩ := H
                go_enter Try.func11, Try.ntmps11
                go_wp2_with (first | ((with_reducible refine gate_callee (f := 21) rfl ?_); refine goesL_ (some 17) rfl rfl Try.func21 (by kernel_rfl) rfl #[.int .i64 a0] rfl (by (try simp only [List.map_toArray, List.map_cons, List.map_nil]); first | done | rfl | (simp only [List.length_drop, List.length_take]; rfl)) ?_; (with_reducible refine (tinderref03_effect.calls a0 t203 t204 _ A4.out).mono ?_); rintro e w' ⟨rfl, ⟨nd, rfl⟩⟩; refine ⟨_, rfl, ?_⟩) | ((with_reducible refine gate_builtin (b := .append) (xs := #[.tmp 87, .tmp 88]) rfl ?_); (try (refine gate_guard (by rfl) ?_; dsimp only)); at_builtin; refine Kd.R_append_rows (Kd.int .u32) (w0 := w) w.heap.size rfl (.tmp 87) (.tmp 88) 22 39 (.int .u32 0) 4 rfl Try.underlying22 info39 rfl (by decide) (by omega) (.slice none 0 0) ([] : List Int) l1 _ _ _ (fun _ => True) (fun _ => False) rfl rfl ?aO ?aR (fun _ _ h => h) (fun _ h => h.elim) ?aF ?aB ?aS ?aL ?_; (case aR => repeat (first | exact HR1.out | (with_reducible refine Kd.C_alloc ?_ _) | (with_reducible refine Kd.C_drewN ?_ _) | (with_reducible refine Kd.C_drew ?_))); (case aB => exact (by repeat (first | (with_reducible first | exact HB.out | apply below_alloc | apply pw_below_drewN | apply below_drew1) | exact HB.out))); (case aF => exact (fun _ _ => trivial)); (case aO => exact ((Kd.R_nil _ _ _ _ (fun _ => True)))); (case aS => exact (below_size (by repeat (first | (with_reducible first | exact HB.out | apply below_alloc | apply pw_below_drewN | apply below_drew1) | exact HB.out)))); (case aL => have := LMc27.out; omega); intro v214 w30 ho hb hg hat; rw [← Ny213.out] at ho; have n0_ := Aside0.mk (hb); have n1_ := Aside0.mk (ho); clear HB; have HB := n0_; have HO215 := n1_; clear n0_ n1_; clear ho hb hg hat) | ((with_reducible refine gate_builtin (b := .append) (xs := #[.tmp 90, .tmp 94]) rfl ?_); (try (refine gate_guard (by rfl) ?_; dsimp only)); at_builtin; refine Kd.R_append (Kd.int .u32) (w0 := w) w.heap.size rfl (.tmp 90) (.tmp 94) 22 39 (.int .u32 0) 4 rfl Try.underlying22 info39 rfl (by decide) (by omega) v214 y213 (((l1.length : Int)) % 4294967296) [.int .u32 (((l1.length : Int)) % 4294967296)] (fun _ => True) (fun _ => False) rfl rfl ?aP (fun _ hk => hk.elim) ?aF ?aO ?aB ?aS ?aL ?_; (case aP => exact rfl); (case aB => exact (by repeat (first | (with_reducible first | exact HB.out | apply below_alloc | apply pw_below_drewN | apply below_drew1) | exact HB.out))); (case aF => exact (fun _ _ => trivial)); (case aO => exact (by (with_reducible repeat (first | apply Kd.R_alloc | apply Kd.R_drewN | apply Kd.R_drew)); exact HO215.out)); (case aS => exact (below_size (by repeat (first | (with_reducible first | exact HB.out | apply below_alloc | apply pw_below_drewN | apply below_drew1) | exact HB.out)))); (case aL => have := LMc28.out; omega); intro v217 w31 ho hb hg hat; rw [← Ny216.out] at ho; have n0_ := Aside0.mk (hb); have n1_ := Aside0.mk (ho); clear HB; clear HO215; have HB := n0_; have HO218 := n1_; clear n0_ n1_; clear ho hb hg hat; obtain ⟨Ao32, co32, eo32⟩ := Kd.R_slice HO218.out; subst eo32))
                go_ret2
                exact ⟨_, by first | rfl | (simp [errW_none, errW_some] <;> rfl) | (simp [*, errW_none, errW_some] <;> rfl), by first | exact Kd.R_nil _ _ _ _ _ | exact Kd.N_nil _ _ _ _ _ | exact Kd.V_nil _ _ _ _ _ | exact Kd.Q_nil _ _ _ _ _ | exact Kd.S_nil _ _ _ _ _, by repeat (first | (with_reducible first | exact HB.out | apply below_alloc | apply pw_below_drewN | apply below_drew1) | exact HB.out)⟩
              · rw [if_neg c29] at H
                have c29b0 : decide (64 < (y216.length : Int)) = false := decide_eq_false c29
                have c29b1 : decide (64 < y216.length) = false := decide_eq_false (by omega)
                clear c29
                simp only [Option.some.injEq, Prod.mk.injEq] at H
                obtain ⟨rfl, rfl⟩ := H
                go_enter Try.func11, Try.ntmps11
                go_wp2_with (first | ((with_reducible refine gate_callee (f := 21) rfl ?_); refine goesL_ (some 17) rfl rfl Try.func21 (by kernel_rfl) rfl #[.int .i64 a0] rfl (by (try simp only [List.map_toArray, List.map_cons, List.map_nil]); first | done | rfl | (simp only [List.length_drop, List.length_take]; rfl)) ?_; (with_reducible refine (tinderref03_effect.calls a0 t203 t204 _ A4.out).mono ?_); rintro e w' ⟨rfl, ⟨nd, rfl⟩⟩; refine ⟨_, rfl, ?_⟩) | ((with_reducible refine gate_builtin (b := .append) (xs := #[.tmp 87, .tmp 88]) rfl ?_); (try (refine gate_guard (by rfl) ?_; dsimp only)); at_builtin; refine Kd.R_append_rows (Kd.int .u32) (w0 := w) w.heap.size rfl (.tmp 87) (.tmp 88) 22 39 (.int .u32 0) 4 rfl Try.underlying22 info39 rfl (by decide) (by omega) (.slice none 0 0) ([] : List Int) l1 _ _ _ (fun _ => True) (fun _ => False) rfl rfl ?aO ?aR (fun _ _ h => h) (fun _ h => h.elim) ?aF ?aB ?aS ?aL ?_; (case aR => repeat (first | exact HR1.out | (with_reducible refine Kd.C_alloc ?_ _) | (with_reducible refine Kd.C_drewN ?_ _) | (with_reducible refine Kd.C_drew ?_))); (case aB => exact (by repeat (first | (with_reducible first | exact HB.out | apply below_alloc | apply pw_below_drewN | apply below_drew1) | exact HB.out))); (case aF => exact (fun _ _ => trivial)); (case aO => exact ((Kd.R_nil _ _ _ _ (fun _ => True)))); (case aS => exact (below_size (by repeat (first | (with_reducible first | exact HB.out | apply below_alloc | apply pw_below_drewN | apply below_drew1) | exact HB.out)))); (case aL => have := LMc27.out; omega); intro v214 w33 ho hb hg hat; rw [← Ny213.out] at ho; have n0_ := Aside0.mk (hb); have n1_ := Aside0.mk (ho); clear HB; have HB := n0_; have HO215 := n1_; clear n0_ n1_; clear ho hb hg hat) | ((with_reducible refine gate_builtin (b := .append) (xs := #[.tmp 90, .tmp 94]) rfl ?_); (try (refine gate_guard (by rfl) ?_; dsimp only)); at_builtin; refine Kd.R_append (Kd.int .u32) (w0 := w) w.heap.size rfl (.tmp 90) (.tmp 94) 22 39 (.int .u32 0) 4 rfl Try.underlying22 info39 rfl (by decide) (by omega) v214 y213 (((l1.length : Int)) % 4294967296) [.int .u32 (((l1.length : Int)) % 4294967296)] (fun _ => True) (fun _ => False) rfl rfl ?aP (fun _ hk => hk.elim) ?aF ?aO ?aB ?aS ?aL ?_; (case aP => exact rfl); (case aB => exact (by repeat (first | (with_reducible first | exact HB.out | apply below_alloc | apply pw_below_drewN | apply below_drew1) | exact HB.out))); (case aF => exact (fun _ _ => trivial)); (case aO => exact (by (with_reducible repeat (first | apply Kd.R_alloc | apply Kd.R_drewN | apply Kd.R_drew)); exact HO215.out)); (case aS => exact (below_size (by repeat (first | (with_reducible first | exact HB.out | apply below_alloc | apply pw_below_drewN | apply below_drew1) | exact HB.out)))); (case aL => have := LMc28.out; omega); intro v217 w34 ho hb hg hat; rw [← Ny216.out] at ho; have n0_ := Aside0.mk (hb); have n1_ := Aside0.mk (ho); clear HB; clear HO215; have HB := n0_; have HO218 := n1_; clear n0_ n1_; clear ho hb hg hat; obtain ⟨Ao35, co35, eo35⟩ := Kd.R_slice HO218.out; subst eo35))
                go_ret2
                exact ⟨_, by first | rfl | (simp [errW_none, errW_some] <;> rfl) | (simp [*, errW_none, errW_some] <;> rfl), by (with_reducible repeat (first | apply Kd.R_alloc | apply Kd.R_drewN | apply Kd.R_drew)); exact HO218.out, by repeat (first | (with_reducible first | exact HB.out | apply below_alloc | apply pw_below_drewN | apply below_drew1) | exact HB.out)⟩
            · rw [if_neg c28] at H
              exact absurd H (by simp)
          · rw [if_neg c27] at H
            exact absurd H (by simp)
        · as_aux_lemma =>
          rw [if_neg c26] at H
          have c26b0 : (a0 == 81) = false := beq_eq_false_iff_ne.mpr c26
          have c26b1 : (a0 != 81) = true := bne_iff_ne.mpr c26
          have HC36 := Aside0.mk H
          clear H
          go_enter Try.func11, Try.ntmps11
          go_upto_region 25 with (first | ((with_reducible refine gate_callee (f := 21) rfl ?_); refine goesL_ (some 17) rfl rfl Try.func21 (by kernel_rfl) rfl #[.int .i64 a0] rfl (by (try simp only [List.map_toArray, List.map_cons, List.map_nil]); first | done | rfl | (simp only [List.length_drop, List.length_take]; rfl)) ?_; (with_reducible refine (tinderref03_effect.calls a0 t203 t204 _ A4.out).mono ?_); rintro e w' ⟨rfl, ⟨nd, rfl⟩⟩; refine ⟨_, rfl, ?_⟩))
          (try simp only [Act.put, List.setIfInBounds_toArray, List.set_cons_zero, List.set_cons_succ])
          go_cut [96] (fun v96 wc => ∃ (kq : Nat) (x96_35 : Bool), v96 = .bool x96_35 ∧ Aside0 (tinderref03_Do.j0 kq a0 l1 ([] : List Int) x96_35 = some (r1, r2)) ∧ Aside0 (kq ≤ k) ∧ Aside0 (Kd.R (Kd.int .u32) 39 wc w.heap.size (fun _ => True) (.slice none 0 0) ([] : List Int)) ∧ Aside0 (Below w.heap.size w wc))
          case first =>
            have H := HC36.out
            clear HC36
            by_cases c37 : a0 = 78
            · rw [if_pos c37] at H
              have c37b0 : (a0 == 78) = true := beq_iff_eq.mpr c37
              have c37b1 : (a0 != 78) = false := bne_eq_false_iff_eq.mpr c37
              clear c37
              (first | rw [c37b0] | (simp only [i64_w, i32_w]; rw [c37b0]) | skip)
              have H' := Aside0.mk H
              clear H
              go_wp2
              go_meet
              case rel => exact ⟨_, (true), (by first | rfl | (simp; done) | (simp [*]; done) | (simp [Kd.bne_nil]; done)), H', ⟨by first | omega | exact Nat.le_refl _⟩, ⟨by first | exact Kd.R_nil _ _ _ _ _ | exact Kd.N_nil _ _ _ _ _ | exact Kd.V_nil _ _ _ _ _ | exact Kd.Q_nil _ _ _ _ _ | exact Kd.S_nil _ _ _ _ _⟩, ⟨by repeat (first | (with_reducible first | exact HB.out | apply below_alloc | apply pw_below_drewN | apply below_drew1) | exact HB.out)⟩⟩
            · rw [if_neg c37] at H
              have c37b0 : (a0 == 78) = false := beq_eq_false_iff_ne.mpr c37
              have c37b1 : (a0 != 78) = true := bne_iff_ne.mpr c37
              (first | rw [c37b0] | (simp only [i64_w, i32_w]; rw [c37b0]) | skip)
              have H' := Aside0.mk H
              clear H
              go_wp2
              go_meet
              case rel => exact ⟨_, ((a0 == 79)), (by first | rfl | (simp; done) | (simp [*]; done) | (simp [Kd.bne_nil]; done)), H', ⟨by first | omega | exact Nat.le_refl _⟩, ⟨by first | exact Kd.R_nil _ _ _ _ _ | exact Kd.N_nil _ _ _ _ _ | exact Kd.V_nil _ _ _ _ _ | exact Kd.Q_nil _ _ _ _ _ | exact Kd.S_nil _ _ _ _ _⟩, ⟨by repeat (first | (with_reducible first | exact HB.out | apply below_alloc | apply pw_below_drewN | apply below_drew1) | exact HB.out)⟩⟩
          case rest => as_aux_lemma =>
            clear HC36
            try clear c1
            try clear c2
            try clear p2
            try clear q2
            try clear hx2
            try clear c3
            try clear c3b0
            try clear c3b1
            try clear c5
            try clear c5b0
            try clear c5b1
            try clear c6
            try clear c6b0
            try clear c6b1
            try clear p6
            try clear c7
            try clear c7b0
            try clear c7b1
            try clear c8
            try clear c10
            try clear c10b0
            try clear c11
            try clear c11b0
            try clear c12
            try clear c12b0
            try clear c12b1
            try clear c13
            try clear c13b0
            try clear c13b1
            try clear c18
            try clear c19
            try clear c19b0
            try clear c19b1
            try clear p20
            try clear q20
            try clear hx20
            try clear c21
            try clear c26
            try clear c26b0
            try clear c26b1
            try clear c27
            try clear c28
            try clear c29
            try clear c29b0
            try clear c29b1
            try clear c37
            try clear c37b0
            try clear c37b1
            try clear hx208_0
            try clear hx209_0
            try clear p208
            try clear p209
            try clear q208
            try clear q209
            obtain ⟨kq, x96_35, rfl, HA, HJ35, HO_6, HB⟩ := hcut
            cases kq with
            | zero => exact absurd HA.out (by simp [tinderref03_Do.j0])
            | succ kj35 =>
              have H := HA.out
              clear HA
              simp only [tinderref03_Do.j0] at H
              by_cases c38 : x96_35 = true
              · as_aux_lemma =>
                subst c38
                have H1 : (if (l1.length : Int) < 1 then (tinderref03_Do.j1 kj35 a0 l1 ([] : List Int) true) else (if 0 ≤ (wrap64 ((l1.length : Int) - 1)) then (if (wrap64 ((l1.length : Int) - 1)) < (l1.length : Int) then (tinderref03_Do.j1 kj35 a0 l1 ([] : List Int) (decide ((wrap64 (rd l1 (wrap64 ((l1.length : Int) - 1)))) ≥ (wrap64 ((l1.length : Int) - 1))))) else (none)) else (none))) = some (r1, r2) := by rw [if_pos rfl] at H; exact H
                clear H
                have H := H1
                clear H1
                have HC39 := Aside0.mk H
                clear H
                go_upto_region 26 with (fail)
                go_cut [118] (fun v118 wc => ∃ (kq : Nat) (x118_38 : Bool), v118 = .bool x118_38 ∧ Aside0 (tinderref03_Do.j1 kq a0 l1 ([] : List Int) x118_38 = some (r1, r2)) ∧ Aside0 (kq ≤ kj35) ∧ Aside0 (Kd.R (Kd.int .u32) 39 wc w.heap.size (fun _ => True) (.slice none 0 0) ([] : List Int)) ∧ Aside0 (Below w.heap.size w wc))
                case first =>
                  have H := HC39.out
                  clear HC39
                  by_cases c40 : (l1.length : Int) < 1
                  · rw [if_pos c40] at H
                    have c40b0 : decide ((l1.length : Int) < 1) = true := decide_eq_true c40
                    have c40b1 : decide (l1.length < 1) = true := decide_eq_true (by omega)
                    clear c40
                    (first | rw [c40b0] | (simp only [i64_w, i32_w]; rw [c40b0]) | skip)
                    have H' := Aside0.mk H
                    clear H
                    go_wp2
                    go_meet
                    case rel => exact ⟨_, (true), (by first | rfl | (simp; done) | (simp [*]; done) | (simp [Kd.bne_nil]; done)), H', ⟨by have := HJ35.out; first | omega | exact Nat.le_refl _⟩, ⟨by (with_reducible repeat (first | apply Kd.R_alloc | apply Kd.R_drewN | apply Kd.R_drew)); exact HO_6.out⟩, ⟨by repeat (first | (with_reducible first | exact HB.out | apply below_alloc | apply pw_below_drewN | apply below_drew1) | exact HB.out)⟩⟩
                  · rw [if_neg c40] at H
                    have c40b0 : decide ((l1.length : Int) < 1) = false := decide_eq_false c40
                    have c40b1 : decide (l1.length < 1) = false := decide_eq_false (by omega)
                    clear c40
                    (first | rw [c40b0] | (simp only [i64_w, i32_w]; rw [c40b0]) | skip)
                    obtain ⟨ji41, hji41⟩ : ∃ j_ : Int, (wrap64 ((l1.length : Int) - 1)) = j_ := ⟨_, rfl⟩
                    replace H : (if 0 ≤ (ji41) then (if (ji41) < (l1.length : Int) then (tinderref03_Do.j1 kj35 a0 l1 ([] : List Int) (decide ((wrap64 (rd l1 (ji41))) ≥ (ji41)))) else (none)) else (none)) = some (r1, r2) := by first | (rw [hji41] at H; exact H) | (simp only [hji41] at H ⊢; exact H)
                    have hji41w : (IntKind.i64.wrap ((l1.length : Int) - 1)) = ji41 := (i64_w _).trans hji41
                    by_cases c42 : 0 ≤ (ji41)
                    · rw [if_pos c42] at H
                      have c42b0 : decide (0 ≤ (ji41)) = true := decide_eq_true c42
                      clear c42
                      by_cases c43 : (ji41) < (l1.length : Int)
                      · rw [if_pos c43] at H
                        have c43b0 : decide ((ji41) < (l1.length : Int)) = true := decide_eq_true c43
                        clear c43
                        have H' := Aside0.mk H
                        clear H
                        have p219 : 0 ≤ ((ji41) : Int) := of_decide_eq_true (by first | (with_reducible assumption) | assumption)
                        have q219 : (ji41) < (l1.length : Int) := of_decide_eq_true (by first | (with_reducible assumption) | assumption)
                        obtain ⟨ad219, e219, hx219_0⟩ := Kd.at_int HR1.out (ji41) p219 q219
                        cases e219
                        replace hx219_0 := (HB.out.cell (World.block_lt_of_cell? w _ hx219_0)).trans hx219_0
                        replace p219 := eq_true p219
                        replace q219 := eq_true q219
                        go_wp2
                        go_meet
                        case rel => exact ⟨_, (decide ((wrap64 (rd l1 (ji41))) ≥ (ji41))), (by first | rfl | (simp; done) | (simp only [← hji41] <;> (first | rfl | simp)) | (simp [*]; done)), H', ⟨by have := HJ35.out; first | omega | exact Nat.le_refl _⟩, ⟨by (with_reducible repeat (first | apply Kd.R_alloc | apply Kd.R_drewN | apply Kd.R_drew)); exact HO_6.out⟩, ⟨by repeat (first | (with_reducible first | exact HB.out | apply below_alloc | apply pw_below_drewN | apply below_drew1) | exact HB.out)⟩⟩
                      · rw [if_neg c43] at H
                        exact absurd H (by simp)
                    · rw [if_neg c42] at H
                      exact absurd H (by simp)
                case rest => as_aux_lemma =>
                  clear HC39
                  try clear c1
                  try clear c2
                  try clear p2
                  try clear q2
                  try clear hx2
                  try clear c3
                  try clear c3b0
                  try clear c3b1
                  try clear c4
                  try clear c5
                  try clear c5b0
                  try clear c5b1
                  try clear c6
                  try clear c6b0
                  try clear c6b1
                  try clear p6
                  try clear c7
                  try clear c7b0
                  try clear c7b1
                  try clear c8
                  try clear c10
                  try clear c10b0
                  try clear c11
                  try clear c11b0
                  try clear c12
                  try clear c12b0
                  try clear c12b1
                  try clear c13
                  try clear c13b0
                  try clear c13b1
                  try clear c18
                  try clear c19
                  try clear c19b0
                  try clear c19b1
                  try clear p20
                  try clear q20
                  try clear hx20
                  try clear c21
                  try clear p21
                  try clear q21
                  try clear hx21
                  try clear c26
                  try clear c26b0
                  try clear c26b1
                  try clear c27
                  try clear c28
                  try clear c29
                  try clear c29b0
                  try clear c29b1
                  try clear c37
                  try clear c37b0
                  try clear c37b1
                  try clear c38
                  try clear c40
                  try clear c40b0
                  try clear c40b1
                  try clear c42
                  try clear c42b0
                  try clear c43
                  try clear c43b0
                  try clear hx208_0
                  try clear hx209_0
                  try clear hx219_0
                  try clear p2
                  try clear p20
                  try clear p208
                  try clear p209
                  try clear p219
                  try clear p6
                  try clear q2
                  try clear q20
                  try clear q208
                  try clear q209
                  try clear q219
                  obtain ⟨kq, x118_38, rfl, HA, HJ38, HO_6, HB⟩ := hcut
                  cases kq with
                  | zero => exact absurd HA.out (by simp [tinderref03_Do.j1])
                  | succ kj38 =>
                    have H := HA.out
                    clear HA
                    simp only [tinderref03_Do.j1] at H
                    by_cases c44 : x118_38 = true
                    · subst c44
                      have H1 : (some (([] : List Int), 5)) = some (r1, r2) := by rw [if_pos rfl] at H; exact H
                      clear H
                      have H := H1
                      clear H1
                      simp only [Option.some.injEq, Prod.mk.injEq] at H
                      obtain ⟨rfl, rfl⟩ := H
                      go_wp2
                      go_ret2
                      exact ⟨_, by first | rfl | (simp [errW_none, errW_some] <;> rfl) | (simp [*, errW_none, errW_some] <;> rfl), by first | exact Kd.R_nil _ _ _ _ _ | exact Kd.N_nil _ _ _ _ _ | exact Kd.V_nil _ _ _ _ _ | exact Kd.Q_nil _ _ _ _ _ | exact Kd.S_nil _ _ _ _ _, by repeat (first | (with_reducible first | exact HB.out | apply below_alloc | apply pw_below_drewN | apply below_drew1) | exact HB.out)⟩
                    · as_aux_lemma =>
                      replace c44 := Bool.eq_false_iff.mpr c44
                      subst c44
                      have H1 : (if 0 ≤ (wrap64 ((l1.length : Int) - 1)) then (if (wrap64 ((l1.length : Int) - 1)) < (l1.length : Int) then (if a0 = 78 then (if (wrap64 ((l1.length : Int) - 1)) ≤ (l1.length : Int) then (if ([] : List Int).length + (l1.take ((wrap64 ((l1.length : Int) - 1)) : Int).toNat).length < 35184372088832 then ((some (([] : List Int) ++ (l1.take ((wrap64 ((l1.length : Int) - 1)) : Int).toNat) : List Int)).bind fun y222 => (if 0 ≤ (wrap64 ((wrap64 ((l1.length : Int) - 2)) - (wrap64 (rd l1 (wrap64 ((l1.length : Int) - 1)))))) then (if (wrap64 ((wrap64 ((l1.length : Int) - 2)) - (wrap64 (rd l1 (wrap64 ((l1.length : Int) - 1)))))) < (l1.length : Int) then (if y222.length < 35184372088832 then ((some (y222 ++ [rd l1 (wrap64 ((wrap64 ((l1.length : Int) - 2)) - (wrap64 (rd l1 (wrap64 ((l1.length : Int) - 1))))))] : List Int)).bind fun y226 => (if (y226.length : Int) > 64 then (some (([] : List Int), 6)) else (some (y226, 0)))) else (none)) else (none)) else (none))) else (none)) else (none)) else (if 0 ≤ (wrap64 ((wrap64 ((l1.length : Int) - 2)) - (wrap64 (rd l1 (wrap64 ((l1.length : Int) - 1)))))) then (if (wrap64 ((wrap64 ((l1.length : Int) - 2)) - (wrap64 (rd l1 (wrap64 ((l1.length : Int) - 1)))))) ≤ (l1.length : Int) then (if ([] : List Int).length + (l1.take ((wrap64 ((wrap64 ((l1.length : Int) - 2)) - (wrap64 (rd l1 (wrap64 ((l1.length : Int) - 1)))))) : Int).toNat).length < 35184372088832 then ((some (([] : List Int) ++ (l1.take ((wrap64 ((wrap64 ((l1.length : Int) - 2)) - (wrap64 (rd l1 (wrap64 ((l1.length : Int) - 1)))))) : Int).toNat) : List Int)).bind fun y230 => (if 0 ≤ (wrap64 ((wrap64 ((wrap64 ((l1.length : Int) - 2)) - (wrap64 (rd l1 (wrap64 ((l1.length : Int) - 1)))))) + 1)) then (if (wrap64 ((wrap64 ((wrap64 ((l1.length : Int) - 2)) - (wrap64 (rd l1 (wrap64 ((l1.length : Int) - 1)))))) + 1)) ≤ (wrap64 ((l1.length : Int) - 1)) then (if (wrap64 ((l1.length : Int) - 1)) ≤ (l1.length : Int) then (if y230.length + ((l1.take ((wrap64 ((l1.length : Int) - 1)) : Int).toNat).drop ((wrap64 ((wrap64 ((wrap64 ((l1.length : Int) - 2)) - (wrap64 (rd l1 (wrap64 ((l1.length : Int) - 1)))))) + 1)) : Int).toNat).length < 35184372088832 then ((some (y230 ++ ((l1.take ((wrap64 ((l1.length : Int) - 1)) : Int).toNat).drop ((wrap64 ((wrap64 ((wrap64 ((l1.length : Int) - 2)) - (wrap64 (rd l1 (wrap64 ((l1.length : Int) - 1)))))) + 1)) : Int).toNat) : List Int)).bind fun y234 => (if (wrap64 ((wrap64 ((l1.length : Int) - 2)) - (wrap64 (rd l1 (wrap64 ((l1.length : Int) - 1)))))) < (l1.length : Int) then (if y234.length < 35184372088832 then ((some (y234 ++ [rd l1 (wrap64 ((wrap64 ((l1.length : Int) - 2)) - (wrap64 (rd l1 (wrap64 ((l1.length : Int) - 1))))))] : List Int)).bind fun y238 => (if (y238.length : Int) > 64 then (some (([] : List Int), 6)) else (some (y238, 0)))) else (none)) else (none))) else (none)) else (none)) else (none)) else (none))) else (none)) else (none)) else (none))) else (none)) else (none)) = some (r1, r2) := by rw [if_neg (show ¬ (false = true) by decide)] at H; exact H
                      clear H
                      have H := H1
                      clear H1
                      obtain ⟨ji45, hji45⟩ : ∃ j_ : Int, (wrap64 ((l1.length : Int) - 1)) = j_ := ⟨_, rfl⟩
                      replace H : (if 0 ≤ (ji45) then (if (ji45) < (l1.length : Int) then (if a0 = 78 then (if (ji45) ≤ (l1.length : Int) then (if ([] : List Int).length + (l1.take ((ji45) : Int).toNat).length < 35184372088832 then ((some (([] : List Int) ++ (l1.take ((ji45) : Int).toNat) : List Int)).bind fun y222 => (if 0 ≤ (wrap64 ((wrap64 ((l1.length : Int) - 2)) - (wrap64 (rd l1 (ji45))))) then (if (wrap64 ((wrap64 ((l1.length : Int) - 2)) - (wrap64 (rd l1 (ji45))))) < (l1.length : Int) then (if y222.length < 35184372088832 then ((some (y222 ++ [rd l1 (wrap64 ((wrap64 ((l1.length : Int) - 2)) - (wrap64 (rd l1 (ji45)))))] : List Int)).bind fun y226 => (if (y226.length : Int) > 64 then (some (([] : List Int), 6)) else (some (y226, 0)))) else (none)) else (none)) else (none))) else (none)) else (none)) else (if 0 ≤ (wrap64 ((wrap64 ((l1.length : Int) - 2)) - (wrap64 (rd l1 (ji45))))) then (if (wrap64 ((wrap64 ((l1.length : Int) - 2)) - (wrap64 (rd l1 (ji45))))) ≤ (l1.length : Int) then (if ([] : List Int).length + (l1.take ((wrap64 ((wrap64 ((l1.length : Int) - 2)) - (wrap64 (rd l1 (ji45))))) : Int).toNat).length < 35184372088832 then ((some (([] : List Int) ++ (l1.take ((wrap64 ((wrap64 ((l1.length : Int) - 2)) - (wrap64 (rd l1 (ji45))))) : Int).toNat) : List Int)).bind fun y230 => (if 0 ≤ (wrap64 ((wrap64 ((wrap64 ((l1.length : Int) - 2)) - (wrap64 (rd l1 (ji45))))) + 1)) then (if (wrap64 ((wrap64 ((wrap64 ((l1.length : Int) - 2)) - (wrap64 (rd l1 (ji45))))) + 1)) ≤ (ji45) then (if (ji45) ≤ (l1.length : Int) then (if y230.length + ((l1.take ((ji45) : Int).toNat).drop ((wrap64 ((wrap64 ((wrap64 ((l1.length : Int) - 2)) - (wrap64 (rd l1 (ji45))))) + 1)) : Int).toNat).length < 35184372088832 then ((some (y230 ++ ((l1.take ((ji45) : Int).toNat).drop ((wrap64 ((wrap64 ((wrap64 ((l1.length : Int) - 2)) - (wrap64 (rd l1 (ji45))))) + 1)) : Int).toNat) : List Int)).bind fun y234 => (if (wrap64 ((wrap64 ((l1.length : Int) - 2)) - (wrap64 (rd l1 (ji45))))) < (l1.length : Int) then (if y234.length < 35184372088832 then ((some (y234 ++ [rd l1 (wrap64 ((wrap64 ((l1.length : Int) - 2)) - (wrap64 (rd l1 (ji45)))))] : List Int)).bind fun y238 => (if (y238.length : Int) > 64 then (some (([] : List Int), 6)) else (some (y238, 0)))) else (none)) else (none))) else (none)) else (none)) else (none)) else (none))) else (none)) else (none)) else (none))) else (none)) else (none)) = some (r1, r2) := by first | (rw [hji45] at H; exact H) | (simp only [hji45] at H ⊢; exact H)
                      have hji45w : (IntKind.i64.wrap ((l1.length : Int) - 1)) = ji45 := (i64_w _).trans hji45
                      by_cases c46 : 0 ≤ (ji45)
                      · as_aux_lemma =>
                        rw [if_pos c46] at H
                        have c46b0 : decide (0 ≤ (ji45)) = true := decide_eq_true c46
                        clear c46
                        by_cases c47 : (ji45) < (l1.length : Int)
                        · as_aux_lemma =>
                          rw [if_pos c47] at H
                          have c47b0 : decide ((ji45) < (l1.length : Int)) = true := decide_eq_true c47
                          clear c47
                          by_cases c48 : a0 = 78
                          · rw [if_pos c48] at H
                            have c48b0 : (a0 == 78) = true := beq_iff_eq.mpr c48
                            have c48b1 : (a0 != 78) = false := bne_eq_false_iff_eq.mpr c48
                            clear c48
                            have c49b0 := eq_true (of_decide_eq_true (by first | (with_reducible assumption) | assumption) : 0 ≤ (ji45))
                            by_cases c50 : (ji45) ≤ (l1.length : Int)
                            · rw [if_pos c50] at H
                              have c50b0 := eq_true c50
                              have c50b1 : decide ((ji45) ≤ (l1.length : Int)) = true := decide_eq_true c50
                              clear c50
                              by_cases c51 : ([] : List Int).length + (l1.take ((ji45) : Int).toNat).length < 35184372088832
                              · rw [if_pos c51] at H
                                have LMc51 := Aside0.mk c51
                                clear c51
                                obtain ⟨y222, hy222⟩ : ∃ y_ : List Int, y_ = (([] : List Int) ++ (l1.take ((ji45) : Int).toNat)) := ⟨_, rfl⟩
                                replace H : (if 0 ≤ (wrap64 ((wrap64 ((l1.length : Int) - 2)) - (wrap64 (rd l1 (ji45))))) then (if (wrap64 ((wrap64 ((l1.length : Int) - 2)) - (wrap64 (rd l1 (ji45))))) < (l1.length : Int) then (if y222.length < 35184372088832 then ((some (y222 ++ [rd l1 (wrap64 ((wrap64 ((l1.length : Int) - 2)) - (wrap64 (rd l1 (ji45)))))] : List Int)).bind fun y226 => (if (y226.length : Int) > 64 then (some (([] : List Int), 6)) else (some (y226, 0)))) else (none)) else (none)) else (none)) = some (r1, r2) := by first | (rw [hy222]; with_reducible exact H) | (have H2_ := (Option.bind_some _ _).symm.trans H; rw [hy222]; with_reducible exact H2_) | (have H2_ := (Option.bind_some _ _).symm.trans H; with_reducible exact H2_) | with_reducible exact H | (rw [hy222]; exact H) | exact H
                                have Ny222 := Aside0.mk hy222
                                clear hy222
                                obtain ⟨ji52, hji52⟩ : ∃ j_ : Int, (wrap64 ((wrap64 ((l1.length : Int) - 2)) - (wrap64 (rd l1 (ji45))))) = j_ := ⟨_, rfl⟩
                                replace H : (if 0 ≤ (ji52) then (if (ji52) < (l1.length : Int) then (if y222.length < 35184372088832 then ((some (y222 ++ [rd l1 (ji52)] : List Int)).bind fun y226 => (if (y226.length : Int) > 64 then (some (([] : List Int), 6)) else (some (y226, 0)))) else (none)) else (none)) else (none)) = some (r1, r2) := by first | (rw [hji52] at H; exact H) | (simp only [hji52] at H ⊢; exact H)
                                have hji52w : (IntKind.i64.wrap ((wrap64 ((l1.length : Int) - 2)) - (wrap64 (rd l1 (ji45))))) = ji52 := (i64_w _).trans hji52
                                by_cases c53 : 0 ≤ (ji52)
                                · rw [if_pos c53] at H
                                  have c53b0 : decide (0 ≤ (ji52)) = true := decide_eq_true c53
                                  clear c53
                                  by_cases c54 : (ji52) < (l1.length : Int)
                                  · rw [if_pos c54] at H
                                    have c54b0 : decide ((ji52) < (l1.length : Int)) = true := decide_eq_true c54
                                    clear c54
                                    by_cases c55 : y222.length < 35184372088832
                                    · rw [if_pos c55] at H
                                      have LMc55 := Aside0.mk c55
                                      clear c55
                                      obtain ⟨y226, hy226⟩ : ∃ y_ : List Int, y_ = (y222 ++ [rd l1 (ji52)]) := ⟨_, rfl⟩
                                      replace H : (if (y226.length : Int) > 64 then (some (([] : List Int), 6)) else (some (y226, 0))) = some (r1, r2) := by first | (rw [hy226]; with_reducible exact H) | (have H2_ := (Option.bind_some _ _).symm.trans H; rw [hy226]; with_reducible exact H2_) | (have H2_ := (Option.bind_some _ _).symm.trans H; with_reducible exact H2_) | with_reducible exact H | (rw [hy226]; exact H) | exact H
                                      have Ny226 := Aside0.mk hy226
                                      clear hy226
                                      by_cases c56 : (y226.length : Int) > 64
                                      · rw [if_pos c56] at H
                                        have c56b0 : decide (64 < (y226.length : Int)) = true := decide_eq_true c56
                                        have c56b1 : decide (64 < y226.length) = true := decide_eq_true (by omega)
                                        clear c56
                                        simp only [Option.some.injEq, Prod.mk.injEq] at H
                                        obtain ⟨rfl, rfl⟩ := H
                                        have p220 : 0 ≤ ((ji45) : Int) := of_decide_eq_true (by first | (with_reducible assumption) | assumption)
                                        have q220 : (ji45) < (l1.length : Int) := of_decide_eq_true (by first | (with_reducible assumption) | assumption)
                                        obtain ⟨ad220, e220, hx220_0⟩ := Kd.at_int HR1.out (ji45) p220 q220
                                        cases e220
                                        replace hx220_0 := (HB.out.cell (World.block_lt_of_cell? w _ hx220_0)).trans hx220_0
                                        replace p220 := eq_true p220
                                        replace q220 := eq_true q220
                                        obtain ⟨i057, hi057, _, hsz57, _⟩ := info_parts info39
                                        obtain ⟨hcut57, hA57, hC57⟩ := print_take_of (P := Try.prog) (Value.int .u32) 0 22 39 .i64 Try.underlying22 hi057 hsz57 (some ad220) c1 l1 (ji45) (of_decide_eq_true (by first | (with_reducible assumption) | assumption)) (of_decide_eq_true (by first | (with_reducible assumption) | assumption)) HC1.out
                                        have HR221 := Aside0.mk (Kd.C_of_reads (h1 := fun _ => rfl) (hA57 _ (Kd.reads_of_C HR1.out)))
                                        have HC221 := Aside0.mk hC57
                                        clear hA57 hC57 hi057 hsz57
                                        go_wp2_with (first | ((with_reducible refine gate_builtin (b := .append) (xs := #[.tmp 132, .tmp 137]) rfl ?_); (try (refine gate_guard (by rfl) ?_; dsimp only)); at_builtin; refine Kd.R_append_rows (Kd.int .u32) (w0 := w) w.heap.size rfl (.tmp 132) (.tmp 137) 22 39 (.int .u32 0) 4 rfl Try.underlying22 info39 rfl (by decide) (by omega) (.slice none 0 0) ([] : List Int) (l1.take ((ji45) : Int).toNat) _ _ _ (fun _ => True) (fun _ => False) rfl rfl ?aO ?aR (fun _ _ h => h) (fun _ h => h.elim) ?aF ?aB ?aS ?aL ?_; (case aR => first | (refine Kd.C_eqlen (show (l1.take ((ji45) : Int).toNat).length = (ji45).toNat from (by rw [List.length_take]; have h_ : ((ji45) : Int) ≤ (l1.length : Int) := of_decide_eq_true (by first | (with_reducible assumption) | assumption); omega)) ?_; repeat (first | exact (Kd.C_below HR221.out HB.out) | (with_reducible refine Kd.C_alloc ?_ _) | (with_reducible refine Kd.C_drewN ?_ _) | (with_reducible refine Kd.C_drew ?_))) | (repeat (first | exact (Kd.C_below HR221.out HB.out) | (with_reducible refine Kd.C_alloc ?_ _) | (with_reducible refine Kd.C_drewN ?_ _) | (with_reducible refine Kd.C_drew ?_)))); (case aB => exact (by repeat (first | (with_reducible first | exact HB.out | apply below_alloc | apply pw_below_drewN | apply below_drew1) | exact HB.out))); (case aF => exact (fun _ _ => trivial)); (case aO => exact (by (with_reducible repeat (first | apply Kd.R_alloc | apply Kd.R_drewN | apply Kd.R_drew)); exact HO_6.out)); (case aS => exact (below_size (by repeat (first | (with_reducible first | exact HB.out | apply below_alloc | apply pw_below_drewN | apply below_drew1) | exact HB.out)))); (case aL => have := LMc51.out; have hlx_ := (show (l1.take ((ji45) : Int).toNat).length = (ji45).toNat from (by rw [List.length_take]; have h_ : ((ji45) : Int) ≤ (l1.length : Int) := of_decide_eq_true (by first | (with_reducible assumption) | assumption); omega)); omega); intro v223 w58 ho hb hg hat; rw [← Ny222.out] at ho; have n0_ := Aside0.mk (hb); have n1_ := Aside0.mk (ho); clear HB; clear HO_6; have HB := n0_; have HO224 := n1_; clear n0_ n1_; clear ho hb hg hat; have p225 : 0 ≤ ((ji52) : Int) := of_decide_eq_true (by first | (with_reducible assumption) | assumption); have q225 : (ji52) < (l1.length : Int) := of_decide_eq_true (by first | (with_reducible assumption) | assumption); obtain ⟨ad225, e225, hx225_0⟩ := Kd.at_int HR1.out (ji52) p225 q225; obtain rfl : ad220 = ad225 := (by injection e225); replace hx225_0 := (HB.out.cell (World.block_lt_of_cell? w _ hx225_0)).trans hx225_0; replace p225 := eq_true p225; replace q225 := eq_true q225) | ((with_reducible refine gate_builtin (b := .append) (xs := #[.tmp 153, .tmp 158]) rfl ?_); (try (refine gate_guard (by rfl) ?_; dsimp only)); at_builtin; refine Kd.R_append (Kd.int .u32) (w0 := w) w.heap.size rfl (.tmp 153) (.tmp 158) 22 39 (.int .u32 0) 4 rfl Try.underlying22 info39 rfl (by decide) (by omega) v223 y222 (rd l1 (ji52)) [.int .u32 (rd l1 (ji52))] (fun _ => True) (fun _ => False) rfl rfl ?aP (fun _ hk => hk.elim) ?aF ?aO ?aB ?aS ?aL ?_; (case aP => exact rfl); (case aB => exact (by repeat (first | (with_reducible first | exact HB.out | apply below_alloc | apply pw_below_drewN | apply below_drew1) | exact HB.out))); (case aF => exact (fun _ _ => trivial)); (case aO => exact (by (with_reducible repeat (first | apply Kd.R_alloc | apply Kd.R_drewN | apply Kd.R_drew)); exact HO224.out)); (case aS => exact (below_size (by repeat (first | (with_reducible first | exact HB.out | apply below_alloc | apply pw_below_drewN | apply below_drew1) | exact HB.out)))); (case aL => have := LMc55.out; omega); intro v227 w59 ho hb hg hat; rw [← Ny226.out] at ho; have n0_ := Aside0.mk (hb); have n1_ := Aside0.mk (ho); clear HB; clear HO224; have HB := n0_; have HO228 := n1_; clear n0_ n1_; clear ho hb hg hat; obtain ⟨Ao60, co60, eo60⟩ := Kd.R_slice HO228.out; subst eo60))
                                        go_ret2
                                        exact ⟨_, by first | rfl | (simp [errW_none, errW_some] <;> rfl) | (simp only [← hji45, ← hji52]; first | rfl | (simp [errW_none, errW_some] <;> rfl)) | (simp [*, errW_none, errW_some] <;> rfl), by first | exact Kd.R_nil _ _ _ _ _ | exact Kd.N_nil _ _ _ _ _ | exact Kd.V_nil _ _ _ _ _ | exact Kd.Q_nil _ _ _ _ _ | exact Kd.S_nil _ _ _ _ _, by repeat (first | (with_reducible first | exact HB.out | apply below_alloc | apply pw_below_drewN | apply below_drew1) | exact HB.out)⟩
                                      · rw [if_neg c56] at H
                                        have c56b0 : decide (64 < (y226.length : Int)) = false := decide_eq_false c56
                                        have c56b1 : decide (64 < y226.length) = false := decide_eq_false (by omega)
                                        clear c56
                                        simp only [Option.some.injEq, Prod.mk.injEq] at H
                                        obtain ⟨rfl, rfl⟩ := H
                                        have p220 : 0 ≤ ((ji45) : Int) := of_decide_eq_true (by first | (with_reducible assumption) | assumption)
                                        have q220 : (ji45) < (l1.length : Int) := of_decide_eq_true (by first | (with_reducible assumption) | assumption)
                                        obtain ⟨ad220, e220, hx220_0⟩ := Kd.at_int HR1.out (ji45) p220 q220
                                        cases e220
                                        replace hx220_0 := (HB.out.cell (World.block_lt_of_cell? w _ hx220_0)).trans hx220_0
                                        replace p220 := eq_true p220
                                        replace q220 := eq_true q220
                                        obtain ⟨i061, hi061, _, hsz61, _⟩ := info_parts info39
                                        obtain ⟨hcut61, hA61, hC61⟩ := print_take_of (P := Try.prog) (Value.int .u32) 0 22 39 .i64 Try.underlying22 hi061 hsz61 (some ad220) c1 l1 (ji45) (of_decide_eq_true (by first | (with_reducible assumption) | assumption)) (of_decide_eq_true (by first | (with_reducible assumption) | assumption)) HC1.out
                                        have HR221 := Aside0.mk (Kd.C_of_reads (h1 := fun _ => rfl) (hA61 _ (Kd.reads_of_C HR1.out)))
                                        have HC221 := Aside0.mk hC61
                                        clear hA61 hC61 hi061 hsz61
                                        go_wp2_with (first | ((with_reducible refine gate_builtin (b := .append) (xs := #[.tmp 132, .tmp 137]) rfl ?_); (try (refine gate_guard (by rfl) ?_; dsimp only)); at_builtin; refine Kd.R_append_rows (Kd.int .u32) (w0 := w) w.heap.size rfl (.tmp 132) (.tmp 137) 22 39 (.int .u32 0) 4 rfl Try.underlying22 info39 rfl (by decide) (by omega) (.slice none 0 0) ([] : List Int) (l1.take ((ji45) : Int).toNat) _ _ _ (fun _ => True) (fun _ => False) rfl rfl ?aO ?aR (fun _ _ h => h) (fun _ h => h.elim) ?aF ?aB ?aS ?aL ?_; (case aR => first | (refine Kd.C_eqlen (show (l1.take ((ji45) : Int).toNat).length = (ji45).toNat from (by rw [List.length_take]; have h_ : ((ji45) : Int) ≤ (l1.length : Int) := of_decide_eq_true (by first | (with_reducible assumption) | assumption); omega)) ?_; repeat (first | exact (Kd.C_below HR221.out HB.out) | (with_reducible refine Kd.C_alloc ?_ _) | (with_reducible refine Kd.C_drewN ?_ _) | (with_reducible refine Kd.C_drew ?_))) | (repeat (first | exact (Kd.C_below HR221.out HB.out) | (with_reducible refine Kd.C_alloc ?_ _) | (with_reducible refine Kd.C_drewN ?_ _) | (with_reducible refine Kd.C_drew ?_)))); (case aB => exact (by repeat (first | (with_reducible first | exact HB.out | apply below_alloc | apply pw_below_drewN | apply below_drew1) | exact HB.out))); (case aF => exact (fun _ _ => trivial)); (case aO => exact (by (with_reducible repeat (first | apply Kd.R_alloc | apply Kd.R_drewN | apply Kd.R_drew)); exact HO_6.out)); (case aS => exact (below_size (by repeat (first | (with_reducible first | exact HB.out | apply below_alloc | apply pw_below_drewN | apply below_drew1) | exact HB.out)))); (case aL => have := LMc51.out; have hlx_ := (show (l1.take ((ji45) : Int).toNat).length = (ji45).toNat from (by rw [List.length_take]; have h_ : ((ji45) : Int) ≤ (l1.length : Int) := of_decide_eq_true (by first | (with_reducible assumption) | assumption); omega)); omega); intro v223 w62 ho hb hg hat; rw [← Ny222.out] at ho; have n0_ := Aside0.mk (hb); have n1_ := Aside0.mk (ho); clear HB; clear HO_6; have HB := n0_; have HO224 := n1_; clear n0_ n1_; clear ho hb hg hat; have p225 : 0 ≤ ((ji52) : Int) := of_decide_eq_true (by first | (with_reducible assumption) | assumption); have q225 : (ji52) < (l1.length : Int) := of_decide_eq_true (by first | (with_reducible assumption) | assumption); obtain ⟨ad225, e225, hx225_0⟩ := Kd.at_int HR1.out (ji52) p225 q225; obtain rfl : ad220 = ad225 := (by injection e225); replace hx225_0 := (HB.out.cell (World.block_lt_of_cell? w _ hx225_0)).trans hx225_0; replace p225 := eq_true p225; replace q225 := eq_true q225) | ((with_reducible refine gate_builtin (b := .append) (xs := #[.tmp 153, .tmp 158]) rfl ?_); (try (refine gate_guard (by rfl) ?_; dsimp only)); at_builtin; refine Kd.R_append (Kd.int .u32) (w0 := w) w.heap.size rfl (.tmp 153) (.tmp 158) 22 39 (.int .u32 0) 4 rfl Try.underlying22 info39 rfl (by decide) (by omega) v223 y222 (rd l1 (ji52)) [.int .u32 (rd l1 (ji52))] (fun _ => True) (fun _ => False) rfl rfl ?aP (fun _ hk => hk.elim) ?aF ?aO ?aB ?aS ?aL ?_; (case aP => exact rfl); (case aB => exact (by repeat (first | (with_reducible first | exact HB.out | apply below_alloc | apply pw_below_drewN | apply below_drew1) | exact HB.out))); (case aF => exact (fun _ _ => trivial)); (case aO => exact (by (with_reducible repeat (first | apply Kd.R_alloc | apply Kd.R_drewN | apply Kd.R_drew)); exact HO224.out)); (case aS => exact (below_size (by repeat (first | (with_reducible first | exact HB.out | apply below_alloc | apply pw_below_drewN | apply below_drew1) | exact HB.out)))); (case aL => have := LMc55.out; omega); intro v227 w63 ho hb hg hat; rw [← Ny226.out] at ho; have n0_ := Aside0.mk (hb); have n1_ := Aside0.mk (ho); clear HB; clear HO224; have HB := n0_; have HO228 := n1_; clear n0_ n1_; clear ho hb hg hat; obtain ⟨Ao64, co64, eo64⟩ := Kd.R_slice HO228.out; subst eo64))
                                        go_ret2
                                        exact ⟨_, by first | rfl | (simp [errW_none, errW_some] <;> rfl) | (simp only [← hji45, ← hji52]; first | rfl | (simp [errW_none, errW_some] <;> rfl)) | (simp [*, errW_none, errW_some] <;> rfl), by (with_reducible repeat (first | apply Kd.R_alloc | apply Kd.R_drewN | apply Kd.R_drew)); exact HO228.out, by repeat (first | (with_reducible first | exact HB.out | apply below_alloc | apply pw_below_drewN | apply below_drew1) | exact HB.out)⟩
                                    · rw [if_neg c55] at H
                                      exact absurd H (by simp)
                                  · rw [if_neg c54] at H
                                    exact absurd H (by simp)
                                · rw [if_neg c53] at H
                                  exact absurd H (by simp)
                              · rw [if_neg c51] at H
                                exact absurd H (by simp)
                            · rw [if_neg c50] at H
                              exact absurd H (by simp)
                          · rw [if_neg c48] at H
                            have c48b0 : (a0 == 78) = false := beq_eq_false_iff_ne.mpr c48
                            have c48b1 : (a0 != 78) = true := bne_iff_ne.mpr c48
                            obtain ⟨ji65, hji65⟩ : ∃ j_ : Int, (wrap64 ((wrap64 ((l1.length : Int) - 2)) - (wrap64 (rd l1 (ji45))))) = j_ := ⟨_, rfl⟩
                            replace H : (if 0 ≤ (ji65) then (if (ji65) ≤ (l1.length : Int) then (if ([] : List Int).length + (l1.take ((ji65) : Int).toNat).length < 35184372088832 then ((some (([] : List Int) ++ (l1.take ((ji65) : Int).toNat) : List Int)).bind fun y230 => (if 0 ≤ (wrap64 ((ji65) + 1)) then (if (wrap64 ((ji65) + 1)) ≤ (ji45) then (if (ji45) ≤ (l1.length : Int) then (if y230.length + ((l1.take ((ji45) : Int).toNat).drop ((wrap64 ((ji65) + 1)) : Int).toNat).length < 35184372088832 then ((some (y230 ++ ((l1.take ((ji45) : Int).toNat).drop ((wrap64 ((ji65) + 1)) : Int).toNat) : List Int)).bind fun y234 => (if (ji65) < (l1.length : Int) then (if y234.length < 35184372088832 then ((some (y234 ++ [rd l1 (ji65)] : List Int)).bind fun y238 => (if (y238.length : Int) > 64 then (some (([] : List Int), 6)) else (some (y238, 0)))) else (none)) else (none))) else (none)) else (none)) else (none)) else (none))) else (none)) else (none)) else (none)) = some (r1, r2) := by first | (rw [hji65] at H; exact H) | (simp only [hji65] at H ⊢; exact H)
                            have hji65w : (IntKind.i64.wrap ((wrap64 ((l1.length : Int) - 2)) - (wrap64 (rd l1 (ji45))))) = ji65 := (i64_w _).trans hji65
                            by_cases c66 : 0 ≤ (ji65)
                            · rw [if_pos c66] at H
                              have c66b0 := eq_true c66
                              have c66b1 : decide (0 ≤ (ji65)) = true := decide_eq_true c66
                              clear c66
                              by_cases c67 : (ji65) ≤ (l1.length : Int)
                              · rw [if_pos c67] at H
                                have c67b0 := eq_true c67
                                have c67b1 : decide ((ji65) ≤ (l1.length : Int)) = true := decide_eq_true c67
                                clear c67
                                by_cases c68 : ([] : List Int).length + (l1.take ((ji65) : Int).toNat).length < 35184372088832
                                · rw [if_pos c68] at H
                                  have LMc68 := Aside0.mk c68
                                  clear c68
                                  obtain ⟨y230, hy230⟩ : ∃ y_ : List Int, y_ = (([] : List Int) ++ (l1.take ((ji65) : Int).toNat)) := ⟨_, rfl⟩
                                  replace H : (if 0 ≤ (wrap64 ((ji65) + 1)) then (if (wrap64 ((ji65) + 1)) ≤ (ji45) then (if (ji45) ≤ (l1.length : Int) then (if y230.length + ((l1.take ((ji45) : Int).toNat).drop ((wrap64 ((ji65) + 1)) : Int).toNat).length < 35184372088832 then ((some (y230 ++ ((l1.take ((ji45) : Int).toNat).drop ((wrap64 ((ji65) + 1)) : Int).toNat) : List Int)).bind fun y234 => (if (ji65) < (l1.length : Int) then (if y234.length < 35184372088832 then ((some (y234 ++ [rd l1 (ji65)] : List Int)).bind fun y238 => (if (y238.length : Int) > 64 then (some (([] : List Int), 6)) else (some (y238, 0)))) else (none)) else (none))) else (none)) else (none)) else (none)) else (none)) = some (r1, r2) := by first | (rw [hy230]; with_reducible exact H) | (have H2_ := (Option.bind_some _ _).symm.trans H; rw [hy230]; with_reducible exact H2_) | (have H2_ := (Option.bind_some _ _).symm.trans H; with_reducible exact H2_) | with_reducible exact H | (rw [hy230]; exact H) | exact H
                                  have Ny230 := Aside0.mk hy230
                                  clear hy230
                                  obtain ⟨ji69, hji69⟩ : ∃ j_ : Int, (wrap64 ((ji65) + 1)) = j_ := ⟨_, rfl⟩
                                  replace H : (if 0 ≤ (ji69) then (if (ji69) ≤ (ji45) then (if (ji45) ≤ (l1.length : Int) then (if y230.length + ((l1.take ((ji45) : Int).toNat).drop ((ji69) : Int).toNat).length < 35184372088832 then ((some (y230 ++ ((l1.take ((ji45) : Int).toNat).drop ((ji69) : Int).toNat) : List Int)).bind fun y234 => (if (ji65) < (l1.length : Int) then (if y234.length < 35184372088832 then ((some (y234 ++ [rd l1 (ji65)] : List Int)).bind fun y238 => (if (y238.length : Int) > 64 then (some (([] : List Int), 6)) else (some (y238, 0)))) else (none)) else (none))) else (none)) else (none)) else (none)) else (none)) = some (r1, r2) := by first | (rw [hji69] at H; exact H) | (simp only [hji69] at H ⊢; exact H)
                                  have hji69w : (IntKind.i64.wrap ((ji65) + 1)) = ji69 := (i64_w _).trans hji69
                                  by_cases c70 : 0 ≤ (ji69)
                                  · rw [if_pos c70] at H
                                    have c70b0 := eq_true c70
                                    have c70b1 : decide (0 ≤ (ji69)) = true := decide_eq_true c70
                                    clear c70
                                    by_cases c71 : (ji69) ≤ (ji45)
                                    · rw [if_pos c71] at H
                                      have c71b0 := eq_true c71
                                      have c71b1 : decide ((ji69) ≤ (ji45)) = true := decide_eq_true c71
                                      clear c71
                                      by_cases c72 : (ji45) ≤ (l1.length : Int)
                                      · rw [if_pos c72] at H
                                        have c72b0 := eq_true c72
                                        have c72b1 : decide ((ji45) ≤ (l1.length : Int)) = true := decide_eq_true c72
                                        clear c72
                                        by_cases c73 : y230.length + ((l1.take ((ji45) : Int).toNat).drop ((ji69) : Int).toNat).length < 35184372088832
                                        · rw [if_pos c73] at H
                                          have LMc73 := Aside0.mk c73
                                          clear c73
                                          obtain ⟨y234, hy234⟩ : ∃ y_ : List Int, y_ = (y230 ++ ((l1.take ((ji45) : Int).toNat).drop ((ji69) : Int).toNat)) := ⟨_, rfl⟩
                                          replace H : (if (ji65) < (l1.length : Int) then (if y234.length < 35184372088832 then ((some (y234 ++ [rd l1 (ji65)] : List Int)).bind fun y238 => (if (y238.length : Int) > 64 then (some (([] : List Int), 6)) else (some (y238, 0)))) else (none)) else (none)) = some (r1, r2) := by first | (rw [hy234]; with_reducible exact H) | (have H2_ := (Option.bind_some _ _).symm.trans H; rw [hy234]; with_reducible exact H2_) | (have H2_ := (Option.bind_some _ _).symm.trans H; with_reducible exact H2_) | with_reducible exact H | (rw [hy234]; exact H) | exact H
                                          have Ny234 := Aside0.mk hy234
                                          clear hy234
                                          by_cases c74 : (ji65) < (l1.length : Int)
                                          · rw [if_pos c74] at H
                                            have c74b0 : decide ((ji65) < (l1.length : Int)) = true := decide_eq_true c74
                                            clear c74
                                            by_cases c75 : y234.length < 35184372088832
                                            · rw [if_pos c75] at H
                                              have LMc75 := Aside0.mk c75
                                              clear c75
                                              obtain ⟨y238, hy238⟩ : ∃ y_ : List Int, y_ = (y234 ++ [rd l1 (ji65)]) := ⟨_, rfl⟩
                                              replace H : (if (y238.length : Int) > 64 then (some (([] : List Int), 6)) else (some (y238, 0))) = some (r1, r2) := by first | (rw [hy238]; with_reducible exact H) | (have H2_ := (Option.bind_some _ _).symm.trans H; rw [hy238]; with_reducible exact H2_) | (have H2_ := (Option.bind_some _ _).symm.trans H; with_reducible exact H2_) | with_reducible exact H | (rw [hy238]; exact H) | exact H
                                              have Ny238 := Aside0.mk hy238
                                              clear hy238
                                              by_cases c76 : (y238.length : Int) > 64
                                              · rw [if_pos c76] at H
                                                have c76b0 : decide (64 < (y238.length : Int)) = true := decide_eq_true c76
                                                have c76b1 : decide (64 < y238.length) = true := decide_eq_true (by omega)
                                                clear c76
                                                simp only [Option.some.injEq, Prod.mk.injEq] at H
                                                obtain ⟨rfl, rfl⟩ := H
                                                have p220 : 0 ≤ ((ji45) : Int) := of_decide_eq_true (by first | (with_reducible assumption) | assumption)
                                                have q220 : (ji45) < (l1.length : Int) := of_decide_eq_true (by first | (with_reducible assumption) | assumption)
                                                obtain ⟨ad220, e220, hx220_0⟩ := Kd.at_int HR1.out (ji45) p220 q220
                                                cases e220
                                                replace hx220_0 := (HB.out.cell (World.block_lt_of_cell? w _ hx220_0)).trans hx220_0
                                                replace p220 := eq_true p220
                                                replace q220 := eq_true q220
                                                obtain ⟨i077, hi077, _, hsz77, _⟩ := info_parts info39
                                                obtain ⟨hcut77, hA77, hC77⟩ := print_take_of (P := Try.prog) (Value.int .u32) 0 22 39 .i64 Try.underlying22 hi077 hsz77 (some ad220) c1 l1 (ji65) (of_decide_eq_true (by first | (with_reducible assumption) | assumption)) (of_decide_eq_true (by first | (with_reducible assumption) | assumption)) HC1.out
                                                have HR229 := Aside0.mk (Kd.C_of_reads (h1 := fun _ => rfl) (hA77 _ (Kd.reads_of_C HR1.out)))
                                                have HC229 := Aside0.mk hC77
                                                clear hA77 hC77 hi077 hsz77
                                                go_wp2_with (first | ((with_reducible refine gate_builtin (b := .append) (xs := #[.tmp 139, .tmp 142]) rfl ?_); (try (refine gate_guard (by rfl) ?_; dsimp only)); at_builtin; refine Kd.R_append_rows (Kd.int .u32) (w0 := w) w.heap.size rfl (.tmp 139) (.tmp 142) 22 39 (.int .u32 0) 4 rfl Try.underlying22 info39 rfl (by decide) (by omega) (.slice none 0 0) ([] : List Int) (l1.take ((ji65) : Int).toNat) _ _ _ (fun _ => True) (fun _ => False) rfl rfl ?aO ?aR (fun _ _ h => h) (fun _ h => h.elim) ?aF ?aB ?aS ?aL ?_; (case aR => first | (refine Kd.C_eqlen (show (l1.take ((ji65) : Int).toNat).length = (ji65).toNat from (by rw [List.length_take]; have h_ : ((ji65) : Int) ≤ (l1.length : Int) := of_decide_eq_true (by first | (with_reducible assumption) | assumption); omega)) ?_; repeat (first | exact (Kd.C_below HR229.out HB.out) | (with_reducible refine Kd.C_alloc ?_ _) | (with_reducible refine Kd.C_drewN ?_ _) | (with_reducible refine Kd.C_drew ?_))) | (repeat (first | exact (Kd.C_below HR229.out HB.out) | (with_reducible refine Kd.C_alloc ?_ _) | (with_reducible refine Kd.C_drewN ?_ _) | (with_reducible refine Kd.C_drew ?_)))); (case aB => exact (by repeat (first | (with_reducible first | exact HB.out | apply below_alloc | apply pw_below_drewN | apply below_drew1) | exact HB.out))); (case aF => exact (fun _ _ => trivial)); (case aO => exact (by (with_reducible repeat (first | apply Kd.R_alloc | apply Kd.R_drewN | apply Kd.R_drew)); exact HO_6.out)); (case aS => exact (below_size (by repeat (first | (with_reducible first | exact HB.out | apply below_alloc | apply pw_below_drewN | apply below_drew1) | exact HB.out)))); (case aL => have := LMc68.out; have hlx_ := (show (l1.take ((ji65) : Int).toNat).length = (ji65).toNat from (by rw [List.length_take]; have h_ : ((ji65) : Int) ≤ (l1.length : Int) := of_decide_eq_true (by first | (with_reducible assumption) | assumption); omega)); omega); intro v231 w78 ho hb hg hat; rw [← Ny230.out] at ho; have n0_ := Aside0.mk (hb); have n1_ := Aside0.mk (ho); clear HB; clear HO_6; have HB := n0_; have HO232 := n1_; clear n0_ n1_; clear ho hb hg hat; obtain ⟨i079, hi079, _, hsz79, _⟩ := info_parts info39; obtain ⟨A79, hcut79, hA79, hC79⟩ := print_mid_of (P := Try.prog) (Value.int .u32) 0 22 39 .i64 .i64 Try.underlying22 hi079 hsz79 (some ad220) c1 l1 (ji69) (ji45) (of_decide_eq_true (by first | (with_reducible assumption) | assumption)) (by first | omega | exact of_decide_eq_true (by first | (with_reducible assumption) | assumption)) (of_decide_eq_true (by first | (with_reducible assumption) | assumption)) HC1.out; have HR233 := Aside0.mk (Kd.C_of_reads (h1 := fun _ => rfl) (hA79 _ (Kd.reads_of_C HR1.out))); have HC233 := Aside0.mk hC79; clear hA79 hC79 hi079 hsz79) | ((with_reducible refine gate_builtin (b := .append) (xs := #[.tmp 144, .tmp 151]) rfl ?_); (try (refine gate_guard (by rfl) ?_; dsimp only)); at_builtin; refine Kd.R_append_rows (Kd.int .u32) (w0 := w) w.heap.size rfl (.tmp 144) (.tmp 151) 22 39 (.int .u32 0) 4 rfl Try.underlying22 info39 rfl (by decide) (by omega) v231 y230 ((l1.take ((ji45) : Int).toNat).drop ((ji69) : Int).toNat) _ _ _ (fun _ => True) (fun _ => False) rfl rfl ?aO ?aR (fun _ _ h => h) (fun _ h => h.elim) ?aF ?aB ?aS ?aL ?_; (case aR => first | (refine Kd.C_eqlen (show ((l1.take ((ji45) : Int).toNat).drop ((ji69) : Int).toNat).length = ((ji45).toNat - (ji69).toNat) from (by rw [List.length_drop, List.length_take]; have h_ : ((ji45) : Int) ≤ (l1.length : Int) := of_decide_eq_true (by first | (with_reducible assumption) | assumption); omega)) ?_; repeat (first | exact (Kd.C_below HR233.out HB.out) | (with_reducible refine Kd.C_alloc ?_ _) | (with_reducible refine Kd.C_drewN ?_ _) | (with_reducible refine Kd.C_drew ?_))) | (repeat (first | exact (Kd.C_below HR233.out HB.out) | (with_reducible refine Kd.C_alloc ?_ _) | (with_reducible refine Kd.C_drewN ?_ _) | (with_reducible refine Kd.C_drew ?_)))); (case aB => exact (by repeat (first | (with_reducible first | exact HB.out | apply below_alloc | apply pw_below_drewN | apply below_drew1) | exact HB.out))); (case aF => exact (fun _ _ => trivial)); (case aO => exact (by (with_reducible repeat (first | apply Kd.R_alloc | apply Kd.R_drewN | apply Kd.R_drew)); exact HO232.out)); (case aS => exact (below_size (by repeat (first | (with_reducible first | exact HB.out | apply below_alloc | apply pw_below_drewN | apply below_drew1) | exact HB.out)))); (case aL => have := LMc73.out; have hlx_ := (show ((l1.take ((ji45) : Int).toNat).drop ((ji69) : Int).toNat).length = ((ji45).toNat - (ji69).toNat) from (by rw [List.length_drop, List.length_take]; have h_ : ((ji45) : Int) ≤ (l1.length : Int) := of_decide_eq_true (by first | (with_reducible assumption) | assumption); omega)); omega); intro v235 w80 ho hb hg hat; rw [← Ny234.out] at ho; have n0_ := Aside0.mk (hb); have n1_ := Aside0.mk (ho); clear HB; clear HO232; have HB := n0_; have HO236 := n1_; clear n0_ n1_; clear ho hb hg hat; have p237 : 0 ≤ ((ji65) : Int) := of_decide_eq_true (by first | (with_reducible assumption) | assumption); have q237 : (ji65) < (l1.length : Int) := of_decide_eq_true (by first | (with_reducible assumption) | assumption); obtain ⟨ad237, e237, hx237_0⟩ := Kd.at_int HR1.out (ji65) p237 q237; obtain rfl : ad220 = ad237 := (by injection e237); replace hx237_0 := (HB.out.cell (World.block_lt_of_cell? w _ hx237_0)).trans hx237_0; replace p237 := eq_true p237; replace q237 := eq_true q237) | ((with_reducible refine gate_builtin (b := .append) (xs := #[.tmp 153, .tmp 158]) rfl ?_); (try (refine gate_guard (by rfl) ?_; dsimp only)); at_builtin; refine Kd.R_append (Kd.int .u32) (w0 := w) w.heap.size rfl (.tmp 153) (.tmp 158) 22 39 (.int .u32 0) 4 rfl Try.underlying22 info39 rfl (by decide) (by omega) v235 y234 (rd l1 (ji65)) [.int .u32 (rd l1 (ji65))] (fun _ => True) (fun _ => False) rfl rfl ?aP (fun _ hk => hk.elim) ?aF ?aO ?aB ?aS ?aL ?_; (case aP => exact rfl); (case aB => exact (by repeat (first | (with_reducible first | exact HB.out | apply below_alloc | apply pw_below_drewN | apply below_drew1) | exact HB.out))); (case aF => exact (fun _ _ => trivial)); (case aO => exact (by (with_reducible repeat (first | apply Kd.R_alloc | apply Kd.R_drewN | apply Kd.R_drew)); exact HO236.out)); (case aS => exact (below_size (by repeat (first | (with_reducible first | exact HB.out | apply below_alloc | apply pw_below_drewN | apply below_drew1) | exact HB.out)))); (case aL => have := LMc75.out; omega); intro v239 w81 ho hb hg hat; rw [← Ny238.out] at ho; have n0_ := Aside0.mk (hb); have n1_ := Aside0.mk (ho); clear HB; clear HO236; have HB := n0_; have HO240 := n1_; clear n0_ n1_; clear ho hb hg hat; obtain ⟨Ao82, co82, eo82⟩ := Kd.R_slice HO240.out; subst eo82))
                                                go_ret2
                                                exact ⟨_, by first | rfl | (simp [errW_none, errW_some] <;> rfl) | (simp only [← hji45, ← hji65, ← hji69]; first | rfl | (simp [errW_none, errW_some] <;> rfl)) | (simp [*, errW_none, errW_some] <;> rfl), by first | exact Kd.R_nil _ _ _ _ _ | exact Kd.N_nil _ _ _ _ _ | exact Kd.V_nil _ _ _ _ _ | exact Kd.Q_nil _ _ _ _ _ | exact Kd.S_nil _ _ _ _ _, by repeat (first | (with_reducible first | exact HB.out | apply below_alloc | apply pw_below_drewN | apply below_drew1) | exact HB.out)⟩
                                              · rw [if_neg c76] at H
                                                have c76b0 : decide (64 < (y238.length : Int)) = false := decide_eq_false c76
                                                have c76b1 : decide (64 < y238.length) = false := decide_eq_false (by omega)
                                                clear c76
                                                simp only [Option.some.injEq, Prod.mk.injEq] at H
                                                obtain ⟨rfl, rfl⟩ := H
                                                have p220 : 0 ≤ ((ji45) : Int) := of_decide_eq_true (by first | (with_reducible assumption) | assumption)
                                                have q220 : (ji45) < (l1.length : Int) := of_decide_eq_true (by first | (with_reducible assumption) | assumption)
                                                obtain ⟨ad220, e220, hx220_0⟩ := Kd.at_int HR1.out (ji45) p220 q220
                                                cases e220
                                                replace hx220_0 := (HB.out.cell (World.block_lt_of_cell? w _ hx220_0)).trans hx220_0
                                                replace p220 := eq_true p220
                                                replace q220 := eq_true q220
                                                obtain ⟨i083, hi083, _, hsz83, _⟩ := info_parts info39
                                                obtain ⟨hcut83, hA83, hC83⟩ := print_take_of (P := Try.prog) (Value.int .u32) 0 22 39 .i64 Try.underlying22 hi083 hsz83 (some ad220) c1 l1 (ji65) (of_decide_eq_true (by first | (with_reducible assumption) | assumption)) (of_decide_eq_true (by first | (with_reducible assumption) | assumption)) HC1.out
                                                have HR229 := Aside0.mk (Kd.C_of_reads (h1 := fun _ => rfl) (hA83 _ (Kd.reads_of_C HR1.out)))
                                                have HC229 := Aside0.mk hC83
                                                clear hA83 hC83 hi083 hsz83
                                                go_wp2_with (first | ((with_reducible refine gate_builtin (b := .append) (xs := #[.tmp 139, .tmp 142]) rfl ?_); (try (refine gate_guard (by rfl) ?_; dsimp only)); at_builtin; refine Kd.R_append_rows (Kd.int .u32) (w0 := w) w.heap.size rfl (.tmp 139) (.tmp 142) 22 39 (.int .u32 0) 4 rfl Try.underlying22 info39 rfl (by decide) (by omega) (.slice none 0 0) ([] : List Int) (l1.take ((ji65) : Int).toNat) _ _ _ (fun _ => True) (fun _ => False) rfl rfl ?aO ?aR (fun _ _ h => h) (fun _ h => h.elim) ?aF ?aB ?aS ?aL ?_; (case aR => first | (refine Kd.C_eqlen (show (l1.take ((ji65) : Int).toNat).length = (ji65).toNat from (by rw [List.length_take]; have h_ : ((ji65) : Int) ≤ (l1.length : Int) := of_decide_eq_true (by first | (with_reducible assumption) | assumption); omega)) ?_; repeat (first | exact (Kd.C_below HR229.out HB.out) | (with_reducible refine Kd.C_alloc ?_ _) | (with_reducible refine Kd.C_drewN ?_ _) | (with_reducible refine Kd.C_drew ?_))) | (repeat (first | exact (Kd.C_below HR229.out HB.out) | (with_reducible refine Kd.C_alloc ?_ _) | (with_reducible refine Kd.C_drewN ?_ _) | (with_reducible refine Kd.C_drew ?_)))); (case aB => exact (by repeat (first | (with_reducible first | exact HB.out | apply below_alloc | apply pw_below_drewN | apply below_drew1) | exact HB.out))); (case aF => exact (fun _ _ => trivial)); (case aO => exact (by (with_reducible repeat (first | apply Kd.R_alloc | apply Kd.R_drewN | apply Kd.R_drew)); exact HO_6.out)); (case aS => exact (below_size (by repeat (first | (with_reducible first | exact HB.out | apply below_alloc | apply pw_below_drewN | apply below_drew1) | exact HB.out)))); (case aL => have := LMc68.out; have hlx_ := (show (l1.take ((ji65) : Int).toNat).length = (ji65).toNat from (by rw [List.length_take]; have h_ : ((ji65) : Int) ≤ (l1.length : Int) := of_decide_eq_true (by first | (with_reducible assumption) | assumption); omega)); omega); intro v231 w84 ho hb hg hat; rw [← Ny230.out] at ho; have n0_ := Aside0.mk (hb); have n1_ := Aside0.mk (ho); clear HB; clear HO_6; have HB := n0_; have HO232 := n1_; clear n0_ n1_; clear ho hb hg hat; obtain ⟨i085, hi085, _, hsz85, _⟩ := info_parts info39; obtain ⟨A85, hcut85, hA85, hC85⟩ := print_mid_of (P := Try.prog) (Value.int .u32) 0 22 39 .i64 .i64 Try.underlying22 hi085 hsz85 (some ad220) c1 l1 (ji69) (ji45) (of_decide_eq_true (by first | (with_reducible assumption) | assumption)) (by first | omega | exact of_decide_eq_true (by first | (with_reducible assumption) | assumption)) (of_decide_eq_true (by first | (with_reducible assumption) | assumption)) HC1.out; have HR233 := Aside0.mk (Kd.C_of_reads (h1 := fun _ => rfl) (hA85 _ (Kd.reads_of_C HR1.out))); have HC233 := Aside0.mk hC85; clear hA85 hC85 hi085 hsz85) | ((with_reducible refine gate_builtin (b := .append) (xs := #[.tmp 144, .tmp 151]) rfl ?_); (try (refine gate_guard (by rfl) ?_; dsimp only)); at_builtin; refine Kd.R_append_rows (Kd.int .u32) (w0 := w) w.heap.size rfl (.tmp 144) (.tmp 151) 22 39 (.int .u32 0) 4 rfl Try.underlying22 info39 rfl (by decide) (by omega) v231 y230 ((l1.take ((ji45) : Int).toNat).drop ((ji69) : Int).toNat) _ _ _ (fun _ => True) (fun _ => False) rfl rfl ?aO ?aR (fun _ _ h => h) (fun _ h => h.elim) ?aF ?aB ?aS ?aL ?_; (case aR => first | (refine Kd.C_eqlen (show ((l1.take ((ji45) : Int).toNat).drop ((ji69) : Int).toNat).length = ((ji45).toNat - (ji69).toNat) from (by rw [List.length_drop, List.length_take]; have h_ : ((ji45) : Int) ≤ (l1.length : Int) := of_decide_eq_true (by first | (with_reducible assumption) | assumption); omega)) ?_; repeat (first | exact (Kd.C_below HR233.out HB.out) | (with_reducible refine Kd.C_alloc ?_ _) | (with_reducible refine Kd.C_drewN ?_ _) | (with_reducible refine Kd.C_drew ?_))) | (repeat (first | exact (Kd.C_below HR233.out HB.out) | (with_reducible refine Kd.C_alloc ?_ _) | (with_reducible refine Kd.C_drewN ?_ _) | (with_reducible refine Kd.C_drew ?_)))); (case aB => exact (by repeat (first | (with_reducible first | exact HB.out | apply below_alloc | apply pw_below_drewN | apply below_drew1) | exact HB.out))); (case aF => exact (fun _ _ => trivial)); (case aO => exact (by (with_reducible repeat (first | apply Kd.R_alloc | apply Kd.R_drewN | apply Kd.R_drew)); exact HO232.out)); (case aS => exact (below_size (by repeat (first | (with_reducible first | exact HB.out | apply below_alloc | apply pw_below_drewN | apply below_drew1) | exact HB.out)))); (case aL => have := LMc73.out; have hlx_ := (show ((l1.take ((ji45) : Int).toNat).drop ((ji69) : Int).toNat).length = ((ji45).toNat - (ji69).toNat) from (by rw [List.length_drop, List.length_take]; have h_ : ((ji45) : Int) ≤ (l1.length : Int) := of_decide_eq_true (by first | (with_reducible assumption) | assumption); omega)); omega); intro v235 w86 ho hb hg hat; rw [← Ny234.out] at ho; have n0_ := Aside0.mk (hb); have n1_ := Aside0.mk (ho); clear HB; clear HO232; have HB := n0_; have HO236 := n1_; clear n0_ n1_; clear ho hb hg hat; have p237 : 0 ≤ ((ji65) : Int) := of_decide_eq_true (by first | (with_reducible assumption) | assumption); have q237 : (ji65) < (l1.length : Int) := of_decide_eq_true (by first | (with_reducible assumption) | assumption); obtain ⟨ad237, e237, hx237_0⟩ := Kd.at_int HR1.out (ji65) p237 q237; obtain rfl : ad220 = ad237 := (by injection e237); replace hx237_0 := (HB.out.cell (World.block_lt_of_cell? w _ hx237_0)).trans hx237_0; replace p237 := eq_true p237; replace q237 := eq_true q237) | ((with_reducible refine gate_builtin (b := .append) (xs := #[.tmp 153, .tmp 158]) rfl ?_); (try (refine gate_guard (by rfl) ?_; dsimp only)); at_builtin; refine Kd.R_append (Kd.int .u32) (w0 := w) w.heap.size rfl (.tmp 153) (.tmp 158) 22 39 (.int .u32 0) 4 rfl Try.underlying22 info39 rfl (by decide) (by omega) v235 y234 (rd l1 (ji65)) [.int .u32 (rd l1 (ji65))] (fun _ => True) (fun _ => False) rfl rfl ?aP (fun _ hk => hk.elim) ?aF ?aO ?aB ?aS ?aL ?_; (case aP => exact rfl); (case aB => exact (by repeat (first | (with_reducible first | exact HB.out | apply below_alloc | apply pw_below_drewN | apply below_drew1) | exact HB.out))); (case aF => exact (fun _ _ => trivial)); (case aO => exact (by (with_reducible repeat (first | apply Kd.R_alloc | apply Kd.R_drewN | apply Kd.R_drew)); exact HO236.out)); (case aS => exact (below_size (by repeat (first | (with_reducible first | exact HB.out | apply below_alloc | apply pw_below_drewN | apply below_drew1) | exact HB.out)))); (case aL => have := LMc75.out; omega); intro v239 w87 ho hb hg hat; rw [← Ny238.out] at ho; have n0_ := Aside0.mk (hb); have n1_ := Aside0.mk (ho); clear HB; clear HO236; have HB := n0_; have HO240 := n1_; clear n0_ n1_; clear ho hb hg hat; obtain ⟨Ao88, co88, eo88⟩ := Kd.R_slice HO240.out; subst eo88))
                                                go_ret2
                                                exact ⟨_, by first | rfl | (simp [errW_none, errW_some] <;> rfl) | (simp only [← hji45, ← hji65, ← hji69]; first | rfl | (simp [errW_none, errW_some] <;> rfl)) | (simp [*, errW_none, errW_some] <;> rfl), by (with_reducible repeat (first | apply Kd.R_alloc | apply Kd.R_drewN | apply Kd.R_drew)); exact HO240.out, by repeat (first | (with_reducible first | exact HB.out | apply below_alloc | apply pw_below_drewN | apply below_drew1) | exact HB.out)⟩
                                            · rw [if_neg c75] at H
                                              exact absurd H (by simp)
                                          · rw [if_neg c74] at H
                                            exact absurd H (by simp)
                                        · rw [if_neg c73] at H
                                          exact absurd H (by simp)
                                      · rw [if_neg c72] at H
                                        exact absurd H (by simp)
                                    · rw [if_neg c71] at H
                                      exact absurd H (by simp)
                                  · rw [if_neg c70] at H
                                    exact absurd H (by simp)
                                · rw [if_neg c68] at H
                                  exact absurd H (by simp)
                              · rw [if_neg c67] at H
                                exact absurd H (by simp)
                            · rw [if_neg c66] at H
                              exact absurd H (by simp)
                        · rw [if_neg c47] at H
                          exact absurd H (by simp)
                      · rw [if_neg c46] at H
                        exact absurd H (by simp)
              · replace c38 := Bool.eq_false_iff.mpr c38
                subst c38
                have H1 : (some (([] : List Int), 2)) = some (r1, r2) := by rw [if_neg (show ¬ (false = true) by decide)] at H; exact H
                clear H
                have H := H1
                clear H1
                simp only [Option.some.injEq, Prod.mk.injEq] at H
                obtain ⟨rfl, rfl⟩ := H
                go_wp2
                go_ret2
                exact ⟨_, by first | rfl | (simp [errW_none, errW_some] <;> rfl) | (simp [*, errW_none, errW_some] <;> rfl), by first | exact Kd.R_nil _ _ _ _ _ | exact Kd.N_nil _ _ _ _ _ | exact Kd.V_nil _ _ _ _ _ | exact Kd.Q_nil _ _ _ _ _ | exact Kd.S_nil _ _ _ _ _, by repeat (first | (with_reducible first | exact HB.out | apply below_alloc | apply pw_below_drewN | apply below_drew1) | exact HB.out)⟩
    · as_aux_lemma =>
      rw [if_neg c5] at H
      have c5b0 : (t204.toList == ([] : List UInt8)) = false := beq_eq_false_iff_ne.mpr c5
      have c5b1 : (t204.toList != ([] : List UInt8)) = true := bne_iff_ne.mpr c5
      by_cases c89 : (l1.length : Int) < t203
      · rw [if_pos c89] at H
        have c89b0 : decide ((l1.length : Int) < t203) = true := decide_eq_true c89
        clear c89
        simp only [Option.some.injEq, Prod.mk.injEq] at H
        obtain ⟨rfl, rfl⟩ := H
        go_enter Try.func11, Try.ntmps11
        go_wp2_with (first | ((with_reducible refine gate_callee (f := 21) rfl ?_); refine goesL_ (some 17) rfl rfl Try.func21 (by kernel_rfl) rfl #[.int .i64 a0] rfl (by (try simp only [List.map_toArray, List.map_cons, List.map_nil]); first | done | rfl | (simp only [List.length_drop, List.length_take]; rfl)) ?_; (with_reducible refine (tinderref03_effect.calls a0 t203 t204 _ A4.out).mono ?_); rintro e w' ⟨rfl, ⟨nd, rfl⟩⟩; refine ⟨_, rfl, ?_⟩))
        go_ret2
        exact ⟨_, by first | rfl | (simp [errW_none, errW_some] <;> rfl) | (simp [*, errW_none, errW_some] <;> rfl), by first | exact Kd.R_nil _ _ _ _ _ | exact Kd.N_nil _ _ _ _ _ | exact Kd.V_nil _ _ _ _ _ | exact Kd.Q_nil _ _ _ _ _ | exact Kd.S_nil _ _ _ _ _, by repeat (first | (with_reducible first | exact HB.out | apply below_alloc | apply pw_below_drewN | apply below_drew1) | exact HB.out)⟩
      · as_aux_lemma =>
        rw [if_neg c89] at H
        have c89b0 : decide ((l1.length : Int) < t203) = false := decide_eq_false c89
        clear c89
        obtain ⟨ji90, hji90⟩ : ∃ j_ : Int, (wrap64 ((l1.length : Int) - t203)) = j_ := ⟨_, rfl⟩
        replace H : (if 0 ≤ (ji90) then (if (ji90) ≤ (l1.length : Int) then (if ([] : List Int).length + (l1.take ((ji90) : Int).toNat).length < 35184372088832 then (tinderref03_Do.l0 k l1 (([] : List Int) ++ (l1.take ((ji90) : Int).toNat)) t204 ji90 0) else (none)) else (none)) else (none)) = some (r1, r2) := by first | (rw [hji90] at H; exact H) | (simp only [hji90] at H ⊢; exact H)
        (try rw [hji90] at A4)
        have hji90w : (IntKind.i64.wrap ((l1.length : Int) - t203)) = ji90 := (i64_w _).trans hji90
        by_cases c91 : 0 ≤ (ji90)
        · as_aux_lemma =>
          rw [if_pos c91] at H
          have c91b0 := eq_true c91
          have c91b1 : decide (0 ≤ (ji90)) = true := decide_eq_true c91
          clear c91
          by_cases c92 : (ji90) ≤ (l1.length : Int)
          · as_aux_lemma =>
            rw [if_pos c92] at H
            have c92b0 := eq_true c92
            have c92b1 : decide ((ji90) ≤ (l1.length : Int)) = true := decide_eq_true c92
            clear c92
            by_cases c93 : ([] : List Int).length + (l1.take ((ji90) : Int).toNat).length < 35184372088832
            · as_aux_lemma =>
              rw [if_pos c93] at H
              have LMc93 := Aside0.mk c93
              clear c93
              obtain ⟨y242, hy242⟩ : ∃ y_ : List Int, y_ = (([] : List Int) ++ (l1.take ((ji90) : Int).toNat)) := ⟨_, rfl⟩
              replace H : (tinderref03_Do.l0 k l1 y242 t204 ji90 0) = some (r1, r2) := by first | (rw [hy242]; with_reducible exact H) | (have H2_ := (Option.bind_some _ _).symm.trans H; rw [hy242]; with_reducible exact H2_) | (have H2_ := (Option.bind_some _ _).symm.trans H; with_reducible exact H2_) | with_reducible exact H | (rw [hy242]; exact H) | exact H
              have Ny242 := Aside0.mk hy242
              clear hy242
              have H' := Aside0.mk H
              clear H
              go_enter Try.func11, Try.ntmps11
              go_wp2_with (first | ((with_reducible refine gate_callee (f := 21) rfl ?_); refine goesL_ (some 17) rfl rfl Try.func21 (by kernel_rfl) rfl #[.int .i64 a0] rfl (by (try simp only [List.map_toArray, List.map_cons, List.map_nil]); first | done | rfl | (simp only [List.length_drop, List.length_take]; rfl)) ?_; (with_reducible refine (tinderref03_effect.calls a0 t203 t204 _ A4.out).mono ?_); rintro e w' ⟨rfl, ⟨nd, rfl⟩⟩; refine ⟨_, rfl, ?_⟩; obtain ⟨i094, hi094, _, hsz94, _⟩ := info_parts info39; obtain ⟨hcut94, hA94, hC94⟩ := print_take_of (P := Try.prog) (Value.int .u32) 0 22 39 .i64 Try.underlying22 hi094 hsz94 A1 c1 l1 (ji90) (of_decide_eq_true (by first | (with_reducible assumption) | assumption)) (of_decide_eq_true (by first | (with_reducible assumption) | assumption)) HC1.out; have HR241 := Aside0.mk (Kd.C_of_reads (h1 := fun _ => rfl) (hA94 _ (Kd.reads_of_C HR1.out))); have HC241 := Aside0.mk hC94; clear hA94 hC94 hi094 hsz94) | ((with_reducible refine gate_builtin (b := .append) (xs := #[.tmp 31, .tmp 34]) rfl ?_); (try (refine gate_guard (by rfl) ?_; dsimp only)); at_builtin; refine Kd.R_append_rows (Kd.int .u32) (w0 := w) w.heap.size rfl (.tmp 31) (.tmp 34) 22 39 (.int .u32 0) 4 rfl Try.underlying22 info39 rfl (by decide) (by omega) (.slice none 0 0) ([] : List Int) (l1.take ((ji90) : Int).toNat) _ _ _ (fun _ => True) (fun _ => False) rfl rfl ?aO ?aR (fun _ _ h => h) (fun _ h => h.elim) ?aF ?aB ?aS ?aL ?_; (case aR => first | (refine Kd.C_eqlen (show (l1.take ((ji90) : Int).toNat).length = (ji90).toNat from (by rw [List.length_take]; have h_ : ((ji90) : Int) ≤ (l1.length : Int) := of_decide_eq_true (by first | (with_reducible assumption) | assumption); omega)) ?_; repeat (first | exact HR241.out | (with_reducible refine Kd.C_alloc ?_ _) | (with_reducible refine Kd.C_drewN ?_ _) | (with_reducible refine Kd.C_drew ?_))) | (repeat (first | exact HR241.out | (with_reducible refine Kd.C_alloc ?_ _) | (with_reducible refine Kd.C_drewN ?_ _) | (with_reducible refine Kd.C_drew ?_)))); (case aB => exact (by repeat (first | (with_reducible first | exact HB.out | apply below_alloc | apply pw_below_drewN | apply below_drew1) | exact HB.out))); (case aF => exact (fun _ _ => trivial)); (case aO => exact ((Kd.R_nil _ _ _ _ (fun _ => True)))); (case aS => exact (below_size (by repeat (first | (with_reducible first | exact HB.out | apply below_alloc | apply pw_below_drewN | apply below_drew1) | exact HB.out)))); (case aL => have := LMc93.out; have hlx_ := (show (l1.take ((ji90) : Int).toNat).length = (ji90).toNat from (by rw [List.length_take]; have h_ : ((ji90) : Int) ≤ (l1.length : Int) := of_decide_eq_true (by first | (with_reducible assumption) | assumption); omega)); omega); intro v243 w95 ho hb hg hat; rw [← Ny242.out] at ho; have n0_ := Aside0.mk (hb); have n1_ := Aside0.mk (ho); clear HB; have HB := n0_; have HO244 := n1_; clear n0_ n1_; clear ho hb hg hat))
              go_loopg [6, 10] k (fun kq v6 v10 w' => ∃ (x6_1 : List Int) (x10_1 : Int), v10 = .int .i64 x10_1 ∧ Aside0 (tinderref03_Do.l0 kq l1 x6_1 t204 ji90 x10_1 = some (r1, r2)) ∧ Aside0 (kq ≤ k) ∧ Aside0 (Kd.R (Kd.int .u32) 39 w' w.heap.size (fun _ => True) v6 x6_1) ∧ Aside0 (Below w.heap.size w w'))
              case atStart => exact ⟨(y242), (0), (by first | rfl | (simp; done) | (simp [*]; done) | (simp [Kd.bne_nil]; done)), H', ⟨Nat.le_refl _⟩, ⟨by (with_reducible repeat (first | apply Kd.R_alloc | apply Kd.R_drewN | apply Kd.R_drew)); exact HO244.out⟩, ⟨by repeat (first | (with_reducible first | exact HB.out | apply below_alloc | apply pw_below_drewN | apply below_drew1) | exact HB.out)⟩⟩
              case round =>
                clear H'
                try clear c1
                try clear c2
                try clear p2
                try clear q2
                try clear hx2
                try clear c3
                try clear c3b0
                try clear c3b1
                try clear c4
                try clear c5
                try clear c5b0
                try clear c5b1
                try clear c6
                try clear c6b0
                try clear c6b1
                try clear p6
                try clear c7
                try clear c7b0
                try clear c7b1
                try clear c8
                try clear c9
                try clear c10
                try clear c10b0
                try clear c11
                try clear c11b0
                try clear c12
                try clear c12b0
                try clear c12b1
                try clear c13
                try clear c13b0
                try clear c13b1
                try clear c18
                try clear c19
                try clear c19b0
                try clear c19b1
                try clear p20
                try clear q20
                try clear hx20
                try clear c21
                try clear p21
                try clear q21
                try clear hx21
                try clear p22
                try clear q22
                try clear hx22
                try clear p23
                try clear q23
                try clear hx23
                try clear c26
                try clear c26b0
                try clear c26b1
                try clear c27
                try clear c28
                try clear c29
                try clear c29b0
                try clear c29b1
                try clear c37
                try clear c37b0
                try clear c37b1
                try clear c38
                try clear c40
                try clear c40b0
                try clear c40b1
                try clear c42
                try clear c42b0
                try clear c43
                try clear c43b0
                try clear c44
                try clear c46
                try clear c46b0
                try clear c47
                try clear c47b0
                try clear c48
                try clear c48b0
                try clear c48b1
                try clear c49
                try clear c49b0
                try clear c50
                try clear c50b0
                try clear c50b1
                try clear c51
                try clear c53
                try clear c53b0
                try clear c54
                try clear c54b0
                try clear c55
                try clear c56
                try clear c56b0
                try clear c56b1
                try clear p64
                try clear c66
                try clear c66b0
                try clear c66b1
                try clear c67
                try clear c67b0
                try clear c67b1
                try clear c68
                try clear c70
                try clear c70b0
                try clear c70b1
                try clear c71
                try clear c71b0
                try clear c71b1
                try clear c72
                try clear c72b0
                try clear c72b1
                try clear c73
                try clear c74
                try clear c74b0
                try clear c75
                try clear c76
                try clear c76b0
                try clear c76b1
                try clear c89
                try clear c89b0
                try clear c91
                try clear c91b0
                try clear c91b1
                try clear c92
                try clear c92b0
                try clear c92b1
                try clear c93
                try clear hx208_0
                try clear hx209_0
                try clear hx219_0
                try clear hx220_0
                try clear hx225_0
                try clear hx237_0
                try clear p2
                try clear p20
                try clear p208
                try clear p209
                try clear p21
                try clear p219
                try clear p220
                try clear p225
                try clear p237
                try clear p6
                try clear q2
                try clear q20
                try clear q208
                try clear q209
                try clear q21
                try clear q219
                try clear q220
                try clear q225
                try clear q237
                obtain ⟨x6_1, x10_1, rfl, HA, HK1, HO_6, HB⟩ := hrel
                cases gk with
                | zero => exact absurd HA.out (by simp [tinderref03_Do.l0])
                | succ k1 =>
                  have H := HA.out
                  clear HA
                  simp only [tinderref03_Do.l0] at H
                  by_cases c96 : x10_1 < (t204.size : Int)
                  · rw [if_pos c96] at H
                    have c96b0 : decide (x10_1 < (t204.size : Int)) = true := decide_eq_true c96
                    clear c96
                    by_cases c97 : 0 ≤ x10_1
                    · rw [if_pos c97] at H
                      have c97b0 : decide (0 ≤ x10_1) = true := decide_eq_true c97
                      clear c97
                      by_cases c99 : (bt t204 x10_1) = 32
                      · rw [if_pos c99] at H
                        have c99b0 : ((bt t204 x10_1) == 32) = true := beq_iff_eq.mpr c99
                        have c99b1 : ((bt t204 x10_1) != 32) = false := bne_eq_false_iff_eq.mpr c99
                        clear c99
                        have H' := Aside0.mk H
                        clear H
                        have p98 : 0 ≤ (x10_1 : Int) := of_decide_eq_true (by first | (with_reducible assumption) | assumption)
                        have q98 : x10_1 < (t204.size : Int) := of_decide_eq_true (by first | (with_reducible assumption) | assumption)
                        have hx98 := bt_at t204 x10_1
                        replace p98 := eq_true p98
                        replace q98 := eq_true q98
                        go_wp2
                        go_roundg k1
                        case measure => have := HK1.out; omega
                        case rel => exact ⟨(x6_1), (wrap64 (x10_1 + 1)), (by first | rfl | (simp; done) | (simp [*]; done) | (simp [Kd.bne_nil]; done)), H', ⟨by have := HK1.out; omega⟩, ⟨by (with_reducible repeat (first | apply Kd.R_alloc | apply Kd.R_drewN | apply Kd.R_drew)); exact HO_6.out⟩, ⟨by repeat (first | (with_reducible first | exact HB.out | apply below_alloc | apply pw_below_drewN | apply below_drew1) | exact HB.out)⟩⟩
                      · rw [if_neg c99] at H
                        have c99b0 : ((bt t204 x10_1) == 32) = false := beq_eq_false_iff_ne.mpr c99
                        have c99b1 : ((bt t204 x10_1) != 32) = true := bne_iff_ne.mpr c99
                        obtain ⟨ji101, hji101⟩ : ∃ j_ : Int, (wrap64 (ji90 + (((bt t204 x10_1) - 97) % 256))) = j_ := ⟨_, rfl⟩
                        replace H : (if 0 ≤ (ji101) then (if (ji101) < (l1.length : Int) then (if x6_1.length < 35184372088832 then (tinderref03_Do.l0 k1 l1 (x6_1 ++ [rd l1 (ji101)]) t204 ji90 (wrap64 (x10_1 + 1))) else (none)) else (none)) else (none)) = some (r1, r2) := by first | (rw [hji101] at H; exact H) | (simp only [hji101] at H ⊢; exact H)
                        have hji101w : (IntKind.i64.wrap (ji90 + (((bt t204 x10_1) - 97) % 256))) = ji101 := (i64_w _).trans hji101
                        by_cases c102 : 0 ≤ (ji101)
                        · rw [if_pos c102] at H
                          have c102b0 : decide (0 ≤ (ji101)) = true := decide_eq_true c102
                          clear c102
                          by_cases c103 : (ji101) < (l1.length : Int)
                          · rw [if_pos c103] at H
                            have c103b0 : decide ((ji101) < (l1.length : Int)) = true := decide_eq_true c103
                            clear c103
                            by_cases c104 : x6_1.length < 35184372088832
                            · rw [if_pos c104] at H
                              have LMc104 := Aside0.mk c104
                              clear c104
                              obtain ⟨y246, hy246⟩ : ∃ y_ : List Int, y_ = (x6_1 ++ [rd l1 (ji101)]) := ⟨_, rfl⟩
                              replace H : (tinderref03_Do.l0 k1 l1 y246 t204 ji90 (wrap64 (x10_1 + 1))) = some (r1, r2) := by first | (rw [hy246]; with_reducible exact H) | (have H2_ := (Option.bind_some _ _).symm.trans H; rw [hy246]; with_reducible exact H2_) | (have H2_ := (Option.bind_some _ _).symm.trans H; with_reducible exact H2_) | with_reducible exact H | (rw [hy246]; exact H) | exact H
                              have Ny246 := Aside0.mk hy246
                              clear hy246
                              have H' := Aside0.mk H
                              clear H
                              have p98 : 0 ≤ (x10_1 : Int) := of_decide_eq_true (by first | (with_reducible assumption) | assumption)
                              have q98 : x10_1 < (t204.size : Int) := of_decide_eq_true (by first | (with_reducible assumption) | assumption)
                              have hx98 := bt_at t204 x10_1
                              replace p98 := eq_true p98
                              replace q98 := eq_true q98
                              have p100 : 0 ≤ (x10_1 : Int) := of_decide_eq_true (by first | (with_reducible assumption) | assumption)
                              have q100 : x10_1 < (t204.size : Int) := of_decide_eq_true (by first | (with_reducible assumption) | assumption)
                              have hx100 := bt_at t204 x10_1
                              replace p100 := eq_true p100
                              replace q100 := eq_true q100
                              have p245 : 0 ≤ ((ji101) : Int) := of_decide_eq_true (by first | (with_reducible assumption) | assumption)
                              have q245 : (ji101) < (l1.length : Int) := of_decide_eq_true (by first | (with_reducible assumption) | assumption)
                              obtain ⟨ad245, e245, hx245_0⟩ := Kd.at_int HR1.out (ji101) p245 q245
                              cases e245
                              replace hx245_0 := (HB.out.cell (World.block_lt_of_cell? w _ hx245_0)).trans hx245_0
                              replace p245 := eq_true p245
                              replace q245 := eq_true q245
                              go_wp2_with (first | ((with_reducible refine gate_builtin (b := .append) (xs := #[.tmp 46, .tmp 57]) rfl ?_); (try (refine gate_guard (by rfl) ?_; dsimp only)); at_builtin; refine Kd.R_append (Kd.int .u32) (w0 := w) w.heap.size rfl (.tmp 46) (.tmp 57) 22 39 (.int .u32 0) 4 rfl Try.underlying22 info39 rfl (by decide) (by omega) u6 x6_1 (rd l1 (ji101)) [.int .u32 (rd l1 (ji101))] (fun _ => True) (fun _ => False) rfl rfl ?aP (fun _ hk => hk.elim) ?aF ?aO ?aB ?aS ?aL ?_; (case aP => exact rfl); (case aB => exact (by repeat (first | (with_reducible first | exact HB.out | apply below_alloc | apply pw_below_drewN | apply below_drew1) | exact HB.out))); (case aF => exact (fun _ _ => trivial)); (case aO => exact (by (with_reducible repeat (first | apply Kd.R_alloc | apply Kd.R_drewN | apply Kd.R_drew)); exact HO_6.out)); (case aS => exact (below_size (by repeat (first | (with_reducible first | exact HB.out | apply below_alloc | apply pw_below_drewN | apply below_drew1) | exact HB.out)))); (case aL => have := LMc104.out; omega); intro v247 w105 ho hb hg hat; rw [← Ny246.out] at ho; have n0_ := Aside0.mk (hb); have n1_ := Aside0.mk (ho); clear HB; clear HO_6; have HB := n0_; have HO248 := n1_; clear n0_ n1_; clear ho hb hg hat))
                              go_roundg k1
                              case measure => have := HK1.out; omega
                              case rel => exact ⟨(y246), (wrap64 (x10_1 + 1)), (by first | rfl | (simp; done) | (simp [*]; done) | (simp [Kd.bne_nil]; done)), H', ⟨by have := HK1.out; omega⟩, ⟨by (with_reducible repeat (first | apply Kd.R_alloc | apply Kd.R_drewN | apply Kd.R_drew)); exact HO248.out⟩, ⟨by repeat (first | (with_reducible first | exact HB.out | apply below_alloc | apply pw_below_drewN | apply below_drew1) | exact HB.out)⟩⟩
                            · rw [if_neg c104] at H
                              exact absurd H (by simp)
                          · rw [if_neg c103] at H
                            exact absurd H (by simp)
                        · rw [if_neg c102] at H
                          exact absurd H (by simp)
                    · rw [if_neg c97] at H
                      exact absurd H (by simp)
                  · rw [if_neg c96] at H
                    have c96b0 : decide (x10_1 < (t204.size : Int)) = false := decide_eq_false c96
                    clear c96
                    by_cases c106 : (x6_1.length : Int) > 64
                    · rw [if_pos c106] at H
                      have c106b0 : decide (64 < (x6_1.length : Int)) = true := decide_eq_true c106
                      have c106b1 : decide (64 < x6_1.length) = true := decide_eq_true (by omega)
                      clear c106
                      simp only [Option.some.injEq, Prod.mk.injEq] at H
                      obtain ⟨rfl, rfl⟩ := H
                      obtain ⟨Ao107, co107, eo107⟩ := Kd.R_slice HO_6.out
                      subst eo107
                      go_wp2
                      go_ret2
                      exact ⟨_, by first | rfl | (simp [errW_none, errW_some] <;> rfl) | (simp only [← hji90]; first | rfl | (simp [errW_none, errW_some] <;> rfl)) | (simp [*, errW_none, errW_some] <;> rfl), by first | exact Kd.R_nil _ _ _ _ _ | exact Kd.N_nil _ _ _ _ _ | exact Kd.V_nil _ _ _ _ _ | exact Kd.Q_nil _ _ _ _ _ | exact Kd.S_nil _ _ _ _ _, by repeat (first | (with_reducible first | exact HB.out | apply below_alloc | apply pw_below_drewN | apply below_drew1) | exact HB.out)⟩
                    · rw [if_neg c106] at H
                      have c106b0 : decide (64 < (x6_1.length : Int)) = false := decide_eq_false c106
                      have c106b1 : decide (64 < x6_1.length) = false := decide_eq_false (by omega)
                      clear c106
                      simp only [Option.some.injEq, Prod.mk.injEq] at H
                      obtain ⟨rfl, rfl⟩ := H
                      obtain ⟨Ao108, co108, eo108⟩ := Kd.R_slice HO_6.out
                      subst eo108
                      go_wp2
                      go_ret2
                      exact ⟨_, by first | rfl | (simp [errW_none, errW_some] <;> rfl) | (simp only [← hji90]; first | rfl | (simp [errW_none, errW_some] <;> rfl)) | (simp [*, errW_none, errW_some] <;> rfl), by (with_reducible repeat (first | apply Kd.R_alloc | apply Kd.R_drewN | apply Kd.R_drew)); exact HO_6.out, by repeat (first | (with_reducible first | exact HB.out | apply below_alloc | apply pw_below_drewN | apply below_drew1) | exact HB.out)⟩
            · rw [if_neg c93] at H
              exact absurd H (by simp)
          · rw [if_neg c92] at H
            exact absurd H (by simp)
        · rw [if_neg c91] at H
          exact absurd H (by simp)

end Go.Proofs.Ytpfpjdeaocbnfaa.P
