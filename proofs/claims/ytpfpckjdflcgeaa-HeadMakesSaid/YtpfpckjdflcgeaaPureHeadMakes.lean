/- A program made by the header's Make, and its Sum, are those of the document, for every body. No condition. -/
import Derived.Test.YtpfpckjdflcgeaaV3
namespace Go.Proofs.Ytpfpckjdflcgeaa.Pure
open Go.RowKit Go.Proofs.Ytpfpckjdflcgeaa.P Go.Proofs.Ytpfpckjdflcgeaa.G Go.Proofs.Ytpfpckjdflcgeaa.V Go.Proofs.YtpfpckjdflcgeaaW.PrintWords Go.Proofs.YtpfpckjdflcgeaaW.PrintLast Go.Proofs.YtpfpckjdflcgeaaW.PrintMore

theorem HeadMakes : tinderlaw14_HeadMakes.Pure := by
  intro l w hm hl hw
  have hb := By.of hw
  refine ⟨l.length + 30, ?_⟩
  unfold tinderlaw14_HeadMakes.f tinderref04_Same.f
  rw [alive_eq (by omega), Option.bind_some, if_pos rfl, make_eq hb (by omega) w (by omega), Option.bind_some, rmake_eq hb (by omega) w (by omega), Option.bind_some, Option.bind_some, if_pos (by rw [beq_self_eq_true]), if_pos rfl, sum_eq hb (by omega) (by omega), Option.bind_some, rsum_eq hb (by omega) (by omega), Option.bind_some, beq_self_eq_true]

end Go.Proofs.Ytpfpckjdflcgeaa.Pure
