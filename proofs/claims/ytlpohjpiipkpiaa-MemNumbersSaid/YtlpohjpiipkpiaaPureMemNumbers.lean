/- Numbers are fetched from a memory and stored in it as the document says, at every address, and the memory that was handed in stays. No condition. -/
import Derived.Test.YtlpohjpiipkpiaaV4
namespace Go.Proofs.Ytlpohjpiipkpiaa.Pure
open Go.RowKit Go.Proofs.Ytlpohjpiipkpiaa.P Go.Proofs.Ytlpohjpiipkpiaa.G Go.Proofs.Ytlpohjpiipkpiaa.V Go.Proofs.YtlpohjpiipkpiaaW.PrintWords Go.Proofs.YtlpohjpiipkpiaaW.PrintLast Go.Proofs.YtlpohjpiipkpiaaW.PrintMore

theorem MemNumbers : tinderlaw04_MemNumbers.Pure := by
  intro l a s v hm hl hw ha hs hv
  have hl' : Sh l := by unfold Sh; omega
  have hB := By.of hw
  have ha' := U.of ha
  have hs' := U.of hs
  have hv' := U.of hv
  refine ⟨40, ?_⟩
  unfold tinderlaw04_MemNumbers.f tinderref04_Same.f
  rw [alive_eq (by omega), Option.bind_some, if_pos rfl, copy_eq hl', Option.bind_some, fetch_eq hB ha' hs' (by omega), Option.bind_some, rfetch_eq hB hl' ha' hs' (by omega), Option.bind_some, store_eq hl' ha' hs' hv' (by omega), Option.bind_some, rstore_eq hl' ha' hs' hv' (by omega), Option.bind_some, if_pos rfl, if_pos rfl, Option.bind_some, if_pos (by rw [beq_self_eq_true]), if_pos rfl, Option.bind_some, beq_self_eq_true]

end Go.Proofs.Ytlpohjpiipkpiaa.Pure
