/- Bytes are taken out of a memory and put into it as the document says, and the memory that was handed in stays. No condition. -/
import Derived.Test.YtlpohjpiipkpiaaV1
namespace Go.Proofs.Ytlpohjpiipkpiaa.Pure
open Go.RowKit Go.Proofs.Ytlpohjpiipkpiaa.P Go.Proofs.Ytlpohjpiipkpiaa.G Go.Proofs.Ytlpohjpiipkpiaa.V Go.Proofs.YtlpohjpiipkpiaaW.PrintWords Go.Proofs.YtlpohjpiipkpiaaW.PrintLast Go.Proofs.YtlpohjpiipkpiaaW.PrintMore

theorem MemTexts : tinderlaw04_MemTexts.Pure := by
  intro l a b s hm hl hw ha hb hs
  have hl' : Sh l := by unfold Sh; omega
  have ha' := U.of ha
  have hb' := U.of hb
  refine ⟨30, ?_⟩
  unfold tinderlaw04_MemTexts.f tinderref04_Same.f
  rw [alive_eq (by omega), Option.bind_some, if_pos rfl, copy_eq hl', Option.bind_some, text_eq ha' hb', Option.bind_some, rtext_eq hl' ha' hb', Option.bind_some, put_eq hl' ha' hs, Option.bind_some, rput_eq hl' ha' hs, Option.bind_some, if_pos rfl, if_pos rfl, Option.bind_some, if_pos (by rw [beq_self_eq_true]), if_pos rfl, Option.bind_some, beq_self_eq_true]

end Go.Proofs.Ytlpohjpiipkpiaa.Pure
