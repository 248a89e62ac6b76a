/- The machine's side: functions of the translation as plain Lean functions, and that the machine's calls come to what they say. No condition. Written by a program (wip/tools/pp.py over the kit's printer); Lean checks it. -/
import Derived.Test.YtpfpjdeaocbnfaaPx0
namespace Go.Proofs.Ytpfpjdeaocbnfaa.P
open Go.RowKit Go.Proofs.YtpfpjdeaocbnfaaW.PrintWords Go.Proofs.YtpfpjdeaocbnfaaW.PrintLast Go.Proofs.YtpfpjdeaocbnfaaW.PrintMore
attribute [local go_sem] max2_int min2_int max_two min_two max_three min_three max_four min_four   -- for this text's walks alone
set_option linter.unusedVariables false
set_option linter.unusedSimpArgs false

/-! ### tinderref03_effect: function 21 -/
def tinderref03_effect.f (a0 : Int) : Option (Int × ByteArray) := if a0 = 70 then (some (1, (⟨#[32]⟩ : ByteArray))) else (if a0 = 71 then (some (1, (⟨#[97, 97]⟩ : ByteArray))) else (if a0 = 72 then (some (2, (⟨#[97, 98, 97]⟩ : ByteArray))) else (if a0 = 73 then (some (2, (⟨#[98, 97]⟩ : ByteArray))) else (if a0 = 74 then (some (3, (⟨#[98, 99, 97]⟩ : ByteArray))) else (if a0 = 75 then (some (3, (⟨#[99, 97, 98]⟩ : ByteArray))) else (if a0 = 76 then (some (2, (⟨#[98, 97, 98]⟩ : ByteArray))) else (if a0 = 77 then (some (2, (⟨#[98]⟩ : ByteArray))) else (if a0 = 82 then (some (2, (⟨#[32]⟩ : ByteArray))) else (if a0 = 83 then (some (2, (⟨#[97, 98, 97, 98]⟩ : ByteArray))) else (if a0 = 84 then (some (4, (⟨#[97, 98, 99, 100, 97, 98]⟩ : ByteArray))) else (if a0 = 85 then (some (4, (⟨#[99, 100, 97, 98]⟩ : ByteArray))) else (if a0 = 86 then (some (6, (⟨#[99, 100, 101, 102, 97, 98]⟩ : ByteArray))) else (some (0, (⟨#[]⟩ : ByteArray)))))))))))))))
set_option maxHeartbeats 8000000 in
set_option maxRecDepth 100000 in
theorem tinderref03_effect.calls (a0 : Int) (r1 : Int) (r2 : ByteArray) (w : World) (h : tinderref03_effect.f a0 = some (r1, r2)) :
    Calls Try.prog 21 #[.int .i64 a0] w fun e w' => e = .returned (.tuple #[.int .i64 r1, .string r2]) ∧ Drawn0 w w' := by
  have H : (if a0 = 70 then (some (1, (⟨#[32]⟩ : ByteArray))) else (if a0 = 71 then (some (1, (⟨#[97, 97]⟩ : ByteArray))) else (if a0 = 72 then (some (2, (⟨#[97, 98, 97]⟩ : ByteArray))) else (if a0 = 73 then (some (2, (⟨#[98, 97]⟩ : ByteArray))) else (if a0 = 74 then (some (3, (⟨#[98, 99, 97]⟩ : ByteArray))) else (if a0 = 75 then (some (3, (⟨#[99, 97, 98]⟩ : ByteArray))) else (if a0 = 76 then (some (2, (⟨#[98, 97, 98]⟩ : ByteArray))) else (if a0 = 77 then (some (2, (⟨#[98]⟩ : ByteArray))) else (if a0 = 82 then (some (2, (⟨#[32]⟩ : ByteArray))) else (if a0 = 83 then (some (2, (⟨#[97, 98, 97, 98]⟩ : ByteArray))) else (if a0 = 84 then (some (4, (⟨#[97, 98, 99, 100, 97, 98]⟩ : ByteArray))) else (if a0 = 85 then (some (4, (⟨#[99, 100, 97, 98]⟩ : ByteArray))) else (if a0 = 86 then (some (6, (⟨#[99, 100, 101, 102, 97, 98]⟩ : ByteArray))) else (some (0, (⟨#[]⟩ : ByteArray)))))))))))))))) = some (r1, r2) := h
  clear h
  by_cases c2 : a0 = 70
  · rw [if_pos c2] at H
    have c2b0 : (a0 == 70) = true := beq_iff_eq.mpr c2
    have c2b1 : (a0 != 70) = false := bne_eq_false_iff_eq.mpr c2
    clear c2
    simp only [Option.some.injEq, Prod.mk.injEq] at H
    obtain ⟨rfl, rfl⟩ := H
    go_enter Try.func21, Try.ntmps21
    go_wp2
    go_ret2
    exact ⟨by first | rfl | (simp; done) | (simp [*]; done), by repeat (first | exact Drawn0.refl _ | apply Drawn0.step)⟩
  · rw [if_neg c2] at H
    have c2b0 : (a0 == 70) = false := beq_eq_false_iff_ne.mpr c2
    have c2b1 : (a0 != 70) = true := bne_iff_ne.mpr c2
    by_cases c3 : a0 = 71
    · rw [if_pos c3] at H
      have c3b0 : (a0 == 71) = true := beq_iff_eq.mpr c3
      have c3b1 : (a0 != 71) = false := bne_eq_false_iff_eq.mpr c3
      clear c3
      simp only [Option.some.injEq, Prod.mk.injEq] at H
      obtain ⟨rfl, rfl⟩ := H
      go_enter Try.func21, Try.ntmps21
      go_wp2
      go_ret2
      exact ⟨by first | rfl | (simp; done) | (simp [*]; done), by repeat (first | exact Drawn0.refl _ | apply Drawn0.step)⟩
    · rw [if_neg c3] at H
      have c3b0 : (a0 == 71) = false := beq_eq_false_iff_ne.mpr c3
      have c3b1 : (a0 != 71) = true := bne_iff_ne.mpr c3
      by_cases c4 : a0 = 72
      · rw [if_pos c4] at H
        have c4b0 : (a0 == 72) = true := beq_iff_eq.mpr c4
        have c4b1 : (a0 != 72) = false := bne_eq_false_iff_eq.mpr c4
        clear c4
        simp only [Option.some.injEq, Prod.mk.injEq] at H
        obtain ⟨rfl, rfl⟩ := H
        go_enter Try.func21, Try.ntmps21
        go_wp2
        go_ret2
        exact ⟨by first | rfl | (simp; done) | (simp [*]; done), by repeat (first | exact Drawn0.refl _ | apply Drawn0.step)⟩
      · rw [if_neg c4] at H
        have c4b0 : (a0 == 72) = false := beq_eq_false_iff_ne.mpr c4
        have c4b1 : (a0 != 72) = true := bne_iff_ne.mpr c4
        by_cases c5 : a0 = 73
        · rw [if_pos c5] at H
          have c5b0 : (a0 == 73) = true := beq_iff_eq.mpr c5
          have c5b1 : (a0 != 73) = false := bne_eq_false_iff_eq.mpr c5
          clear c5
          simp only [Option.some.injEq, Prod.mk.injEq] at H
          obtain ⟨rfl, rfl⟩ := H
          go_enter Try.func21, Try.ntmps21
          go_wp2
          go_ret2
          exact ⟨by first | rfl | (simp; done) | (simp [*]; done), by repeat (first | exact Drawn0.refl _ | apply Drawn0.step)⟩
        · rw [if_neg c5] at H
          have c5b0 : (a0 == 73) = false := beq_eq_false_iff_ne.mpr c5
          have c5b1 : (a0 != 73) = true := bne_iff_ne.mpr c5
          by_cases c6 : a0 = 74
          · rw [if_pos c6] at H
            have c6b0 : (a0 == 74) = true := beq_iff_eq.mpr c6
            have c6b1 : (a0 != 74) = false := bne_eq_false_iff_eq.mpr c6
            clear c6
            simp only [Option.some.injEq, Prod.mk.injEq] at H
            obtain ⟨rfl, rfl⟩ := H
            go_enter Try.func21, Try.ntmps21
            go_wp2
            go_ret2
            exact ⟨by first | rfl | (simp; done) | (simp [*]; done), by repeat (first | exact Drawn0.refl _ | apply Drawn0.step)⟩
          · rw [if_neg c6] at H
            have c6b0 : (a0 == 74) = false := beq_eq_false_iff_ne.mpr c6
            have c6b1 : (a0 != 74) = true := bne_iff_ne.mpr c6
            by_cases c7 : a0 = 75
            · rw [if_pos c7] at H
              have c7b0 : (a0 == 75) = true := beq_iff_eq.mpr c7
              have c7b1 : (a0 != 75) = false := bne_eq_false_iff_eq.mpr c7
              clear c7
              simp only [Option.some.injEq, Prod.mk.injEq] at H
              obtain ⟨rfl, rfl⟩ := H
              go_enter Try.func21, Try.ntmps21
              go_wp2
              go_ret2
              exact ⟨by first | rfl | (simp; done) | (simp [*]; done), by repeat (first | exact Drawn0.refl _ | apply Drawn0.step)⟩
            · rw [if_neg c7] at H
              have c7b0 : (a0 == 75) = false := beq_eq_false_iff_ne.mpr c7
              have c7b1 : (a0 != 75) = true := bne_iff_ne.mpr c7
              by_cases c8 : a0 = 76
              · rw [if_pos c8] at H
                have c8b0 : (a0 == 76) = true := beq_iff_eq.mpr c8
                have c8b1 : (a0 != 76) = false := bne_eq_false_iff_eq.mpr c8
                clear c8
                simp only [Option.some.injEq, Prod.mk.injEq] at H
                obtain ⟨rfl, rfl⟩ := H
                go_enter Try.func21, Try.ntmps21
                go_wp2
                go_ret2
                exact ⟨by first | rfl | (simp; done) | (simp [*]; done), by repeat (first | exact Drawn0.refl _ | apply Drawn0.step)⟩
              · rw [if_neg c8] at H
                have c8b0 : (a0 == 76) = false := beq_eq_false_iff_ne.mpr c8
                have c8b1 : (a0 != 76) = true := bne_iff_ne.mpr c8
                by_cases c9 : a0 = 77
                · rw [if_pos c9] at H
                  have c9b0 : (a0 == 77) = true := beq_iff_eq.mpr c9
                  have c9b1 : (a0 != 77) = false := bne_eq_false_iff_eq.mpr c9
                  clear c9
                  simp only [Option.some.injEq, Prod.mk.injEq] at H
                  obtain ⟨rfl, rfl⟩ := H
                  go_enter Try.func21, Try.ntmps21
                  go_wp2
                  go_ret2
                  exact ⟨by first | rfl | (simp; done) | (simp [*]; done), by repeat (first | exact Drawn0.refl _ | apply Drawn0.step)⟩
                · rw [if_neg c9] at H
                  have c9b0 : (a0 == 77) = false := beq_eq_false_iff_ne.mpr c9
                  have c9b1 : (a0 != 77) = true := bne_iff_ne.mpr c9
                  by_cases c10 : a0 = 82
                  · rw [if_pos c10] at H
                    have c10b0 : (a0 == 82) = true := beq_iff_eq.mpr c10
                    have c10b1 : (a0 != 82) = false := bne_eq_false_iff_eq.mpr c10
                    clear c10
                    simp only [Option.some.injEq, Prod.mk.injEq] at H
                    obtain ⟨rfl, rfl⟩ := H
                    go_enter Try.func21, Try.ntmps21
                    go_wp2
                    go_ret2
                    exact ⟨by first | rfl | (simp; done) | (simp [*]; done), by repeat (first | exact Drawn0.refl _ | apply Drawn0.step)⟩
                  · rw [if_neg c10] at H
                    have c10b0 : (a0 == 82) = false := beq_eq_false_iff_ne.mpr c10
                    have c10b1 : (a0 != 82) = true := bne_iff_ne.mpr c10
                    by_cases c11 : a0 = 83
                    · rw [if_pos c11] at H
                      have c11b0 : (a0 == 83) = true := beq_iff_eq.mpr c11
                      have c11b1 : (a0 != 83) = false := bne_eq_false_iff_eq.mpr c11
                      clear c11
                      simp only [Option.some.injEq, Prod.mk.injEq] at H
                      obtain ⟨rfl, rfl⟩ := H
                      go_enter Try.func21, Try.ntmps21
                      go_wp2
                      go_ret2
                      exact ⟨by first | rfl | (simp; done) | (simp [*]; done), by repeat (first | exact Drawn0.refl _ | apply Drawn0.step)⟩
                    · rw [if_neg c11] at H
                      have c11b0 : (a0 == 83) = false := beq_eq_false_iff_ne.mpr c11
                      have c11b1 : (a0 != 83) = true := bne_iff_ne.mpr c11
                      by_cases c12 : a0 = 84
                      · rw [if_pos c12] at H
                        have c12b0 : (a0 == 84) = true := beq_iff_eq.mpr c12
                        have c12b1 : (a0 != 84) = false := bne_eq_false_iff_eq.mpr c12
                        clear c12
                        simp only [Option.some.injEq, Prod.mk.injEq] at H
                        obtain ⟨rfl, rfl⟩ := H
                        go_enter Try.func21, Try.ntmps21
                        go_wp2
                        go_ret2
                        exact ⟨by first | rfl | (simp; done) | (simp [*]; done), by repeat (first | exact Drawn0.refl _ | apply Drawn0.step)⟩
                      · rw [if_neg c12] at H
                        have c12b0 : (a0 == 84) = false := beq_eq_false_iff_ne.mpr c12
                        have c12b1 : (a0 != 84) = true := bne_iff_ne.mpr c12
                        by_cases c13 : a0 = 85
                        · rw [if_pos c13] at H
                          have c13b0 : (a0 == 85) = true := beq_iff_eq.mpr c13
                          have c13b1 : (a0 != 85) = false := bne_eq_false_iff_eq.mpr c13
                          clear c13
                          simp only [Option.some.injEq, Prod.mk.injEq] at H
                          obtain ⟨rfl, rfl⟩ := H
                          go_enter Try.func21, Try.ntmps21
                          go_wp2
                          go_ret2
                          exact ⟨by first | rfl | (simp; done) | (simp [*]; done), by repeat (first | exact Drawn0.refl _ | apply Drawn0.step)⟩
                        · rw [if_neg c13] at H
                          have c13b0 : (a0 == 85) = false := beq_eq_false_iff_ne.mpr c13
                          have c13b1 : (a0 != 85) = true := bne_iff_ne.mpr c13
                          by_cases c14 : a0 = 86
                          · rw [if_pos c14] at H
                            have c14b0 : (a0 == 86) = true := beq_iff_eq.mpr c14
                            have c14b1 : (a0 != 86) = false := bne_eq_false_iff_eq.mpr c14
                            clear c14
                            simp only [Option.some.injEq, Prod.mk.injEq] at H
                            obtain ⟨rfl, rfl⟩ := H
                            go_enter Try.func21, Try.ntmps21
                            go_wp2
                            go_ret2
                            exact ⟨by first | rfl | (simp; done) | (simp [*]; done), by repeat (first | exact Drawn0.refl _ | apply Drawn0.step)⟩
                          · rw [if_neg c14] at H
                            have c14b0 : (a0 == 86) = false := beq_eq_false_iff_ne.mpr c14
                            have c14b1 : (a0 != 86) = true := bne_iff_ne.mpr c14
                            simp only [Option.some.injEq, Prod.mk.injEq] at H
                            obtain ⟨rfl, rfl⟩ := H
                            go_enter Try.func21, Try.ntmps21
                            go_wp2
                            go_ret2
                            exact ⟨by first | rfl | (simp; done) | (simp [*]; done), by repeat (first | exact Drawn0.refl _ | apply Drawn0.step)⟩

end Go.Proofs.Ytpfpjdeaocbnfaa.P
