/- Bytes decoded encode to the same bytes. -/
import Derived.Test.YtfaebbmngplilaaV7
namespace Go.Proofs.Ytfaebbmngplilaa.Pure
open Go.RowKit Go.Proofs.Ytfaebbmngplilaa.P Go.Proofs.Ytfaebbmngplilaa.G Go.Proofs.Ytfaebbmngplilaa.V Go.Proofs.YtfaebbmngplilaaW.PrintWords Go.Proofs.YtfaebbmngplilaaW.PrintLast Go.Proofs.YtfaebbmngplilaaW.PrintMore
set_option linter.unusedVariables false

/-- The statement over numbers and lists. -/
theorem TokenAgain : tinderlaw13_TokenAgain.Pure := by
  intro l0 wide _ _ hw0
  have hB : Bys l0 := fun x hx => bounds_u8 (hw0 x hx)
  unfold tinderlaw13_TokenAgain.f
  refine ⟨l0.length + 60, ?_⟩
  rw [alive_eq (by omega), Option.bind_some, if_pos rfl]
  by_cases hl : l0.length ≤ 8192
  · obtain ⟨y, e, h1, h2, h3⟩ := dec_ex l0.length l0 wide (by omega) hB
    rw [dec_f hB hl, h3 _ [] (by omega) (by simp only [List.length_nil]; omega), Option.bind_some]
    rcases h1 with rfl | rfl
    · obtain ⟨e1, e2, e3, e4⟩ := h2 rfl
      rw [if_pos rfl, if_pos rfl, List.nil_append]
      simp only
      rw [enc_eq e3 wide (by omega), Option.bind_some]
      rcases encL_cases y wide [] (by simp) with ⟨_, _, g3⟩ | ⟨_, _, g3⟩
      · rw [g3, List.nil_append, ← e1, if_pos rfl, same_refl, Option.bind_some]
      · exact absurd ⟨e2, by rw [List.nil_append, ← e1]; exact hl⟩ g3
    · rw [if_neg (show ¬ (16 : Int) = 0 by decide), if_neg (show ¬ (16 : Int) = 0 by decide)]
      simp
  · rw [dec_long hl, Option.bind_some, if_neg (by show ¬ (3 : Int) = 0; decide)]
    simp

end Go.Proofs.Ytfaebbmngplilaa.Pure
