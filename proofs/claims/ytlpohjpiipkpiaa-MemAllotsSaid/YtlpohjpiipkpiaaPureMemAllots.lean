/- A memory grows as the document says, keeps what it had, and is refused just where there is no room. No condition. -/
import Derived.Test.YtlpohjpiipkpiaaV2
namespace Go.Proofs.Ytlpohjpiipkpiaa.Pure
open Go.RowKit Go.Proofs.Ytlpohjpiipkpiaa.P Go.Proofs.Ytlpohjpiipkpiaa.G Go.Proofs.Ytlpohjpiipkpiaa.V Go.Proofs.YtlpohjpiipkpiaaW.PrintWords Go.Proofs.YtlpohjpiipkpiaaW.PrintLast Go.Proofs.YtlpohjpiipkpiaaW.PrintMore

theorem MemAllots : tinderlaw04_MemAllots.Pure := by
  intro l n hm hl hw hn
  have hl' : Sh l := by unfold Sh; omega
  have hn' := U.of hn
  refine ⟨6000, ?_⟩
  unfold tinderlaw04_MemAllots.f tinderref04_Same.f
  rw [alive_eq (by omega), Option.bind_some, if_pos rfl, allot_eq hl' hn', Option.bind_some, rallot_eq hl' hn' (by omega), Option.bind_some, Option.bind_some, if_pos (by rw [beq_self_eq_true]), if_pos rfl, if_pos rfl]
  by_cases h : 4096 < (at4 l : Int) + n
  · rw [if_pos h, if_neg (by decide)]
  · rw [if_neg h, if_pos rfl, if_pos (show (0 : Int) ≤ l.length by omega)]
    show (if (l.length : Int) ≤ ((grown l n).length : Int) then _ else _) = _
    have h2 : (grown l n).take l.length = l := by unfold grown; rw [List.take_left]
    rw [if_pos (by unfold grown; rw [List.length_append]; omega), Option.bind_some]
    show some (_ == (strOfNums l).toList) = _
    rw [show ((l.length : Int)).toNat = l.length by omega, h2, beq_self_eq_true]

end Go.Proofs.Ytlpohjpiipkpiaa.Pure
