/- Tokens encoded come back. No condition. -/
import Derived.Test.YtfaebbmngplilaaV7
namespace Go.Proofs.Ytfaebbmngplilaa.Pure
open Go.RowKit Go.Proofs.Ytfaebbmngplilaa.P Go.Proofs.Ytfaebbmngplilaa.G Go.Proofs.Ytfaebbmngplilaa.V Go.Proofs.YtfaebbmngplilaaW.PrintWords Go.Proofs.YtfaebbmngplilaaW.PrintLast Go.Proofs.YtfaebbmngplilaaW.PrintMore
set_option linter.unusedVariables false

/-- The statement over numbers and lists. -/
theorem TokenBack (l : List S34) (wide : Bool) (hm : l.length ≤ 9223372036854775807) (hw : ∀ t ∈ l, Wf t) : ∃ k, tinderlaw13_TokenBack.f k l wide = some true := by
  refine ⟨l.length + 60, ?_⟩
  unfold tinderlaw13_TokenBack.f
  rw [alive_eq (by omega), Option.bind_some, if_pos rfl, enc_eq hw wide (by omega), Option.bind_some]
  rcases encL_cases l wide [] (by simp) with ⟨h1, h2, h3⟩ | ⟨h1, h2, h3⟩
  · rw [h3]
    rw [List.nil_append] at h2 ⊢
    have hl := bytesL_len l wide
    have hB := bys_bytesL l wide
    have hd := dec_app l wide [] [] 60 h1 hw (by rw [List.append_nil]; exact hB) (by omega) (by simp only [List.length_nil]; omega)
    rw [List.append_nil, dec_nil, List.nil_append] at hd
    rw [if_pos rfl, dec_f hB h2, show l.length + 60 = 60 + l.length by omega, hd, Option.bind_some, if_pos rfl, same_toks hm (by omega), Option.bind_some]
  · rw [if_neg h2, h1]
    simp

end Go.Proofs.Ytfaebbmngplilaa.Pure
