/- The header's Check answers as the document says, for every bytes, and leaves them. No condition. -/
import Derived.Test.YtpfpckjdflcgeaaV3
namespace Go.Proofs.Ytpfpckjdflcgeaa.Pure
open Go.RowKit Go.Proofs.Ytpfpckjdflcgeaa.P Go.Proofs.Ytpfpckjdflcgeaa.G Go.Proofs.Ytpfpckjdflcgeaa.V Go.Proofs.YtpfpckjdflcgeaaW.PrintWords Go.Proofs.YtpfpckjdflcgeaaW.PrintLast Go.Proofs.YtpfpckjdflcgeaaW.PrintMore

theorem HeadChecks : tinderlaw14_HeadChecks.Pure := by
  intro l hm hl hw
  have hb := By.of hw
  refine ⟨9000 + 2, ?_⟩
  unfold tinderlaw14_HeadChecks.f tinderref04_Same.f tinderref04_Copy.f
  rw [alive_eq (by omega), Option.bind_some, if_pos rfl, if_pos (by simp only [List.length_nil]; omega), Option.bind_some, List.nil_append, check_eq hb (by omega), Option.bind_some, rcheck_eq hb (by omega), Option.bind_some, Option.bind_some, if_pos (by rw [beq_self_eq_true]), if_pos (by rw [beq_self_eq_true]), if_pos rfl, Option.bind_some, beq_self_eq_true]

end Go.Proofs.Ytpfpckjdflcgeaa.Pure
