/- Tokens become bytes, or are refused, as the document says. No condition. -/
import Derived.Test.YtfaebbmngplilaaV3
namespace Go.Proofs.Ytfaebbmngplilaa.Pure
open Go.RowKit Go.Proofs.Ytfaebbmngplilaa.P Go.Proofs.Ytfaebbmngplilaa.G Go.Proofs.Ytfaebbmngplilaa.V Go.Proofs.YtfaebbmngplilaaW.PrintWords Go.Proofs.YtfaebbmngplilaaW.PrintLast Go.Proofs.YtfaebbmngplilaaW.PrintMore
set_option linter.unusedVariables false

/-- The statement over numbers and lists. -/
theorem TokenEncodes (l : List S34) (wide : Bool) (hm : l.length ≤ 9223372036854775807) (hw : ∀ t ∈ l, Wf t) : ∃ k, tinderlaw13_TokenEncodes.f k l wide = some true := by
  refine ⟨l.length + 60, ?_⟩
  unfold tinderlaw13_TokenEncodes.f
  rw [alive_eq (by omega), Option.bind_some, if_pos rfl, enc_eq hw wide (by omega), Option.bind_some, renc_eq hw hm wide (by omega), Option.bind_some, same_refl, Option.bind_some, if_pos rfl]
  simp

end Go.Proofs.Ytfaebbmngplilaa.Pure
