/- Cells pushed are on top, and popped again they leave what there was. No condition. -/
import Derived.Test.YtpfpjdeaocbnfaaV4
namespace Go.Proofs.Ytpfpjdeaocbnfaa.Pure
open Go.RowKit Go.Proofs.Ytpfpjdeaocbnfaa.P Go.Proofs.Ytpfpjdeaocbnfaa.G Go.Proofs.Ytpfpjdeaocbnfaa.V Go.Proofs.YtpfpjdeaocbnfaaW.PrintWords Go.Proofs.YtpfpjdeaocbnfaaW.PrintLast Go.Proofs.YtpfpjdeaocbnfaaW.PrintMore

theorem StackPushes : tinderlaw03_StackPushes.Pure := by
  intro l m hm hl hw hm2 hl2 hw2
  have hs : Sh l := by unfold Sh; omega
  have hs2 : Sh m := by unfold Sh; omega
  have hpush : stack_Push.f l m = some (chk (l ++ m)) := by
    by_cases h : l.length + m.length < 35184372088832
    · exact push_eq h
    · unfold stack_Push.f chk
      rw [if_neg h, if_pos (by omega), if_pos (by rw [List.length_append]; omega)]
  refine ⟨l.length + m.length + 100, ?_⟩
  unfold tinderlaw03_StackPushes.f
  rw [alive_eq (by omega), Option.bind_some, if_pos rfl, hpush, Option.bind_some, rpush_eq hs hs2, Option.bind_some, if_pos rfl]
  have hlen : (l ++ m).length = l.length + m.length := List.length_append
  unfold chk
  by_cases hc : (l ++ m).length > 64
  · rw [if_pos hc, same_refl (by simp [Sh]) (by simp), Option.bind_some]
    rfl
  · have hsh : Sh (l ++ m) := by unfold Sh; omega
    rw [if_neg hc, same_refl hsh (by omega), Option.bind_some]
    show tinderlaw03_StackPushes.j0 (l.length + m.length + 99 + 1) l m (l ++ m) 0 false = some true
    rw [tinderlaw03_StackPushes.j0, if_neg Bool.false_ne_true, if_pos rfl, pop_eq hsh (by omega), Option.bind_some]
    have hp : popx (l ++ m) (m.length : Int) = (l, m, 0) := by
      unfold popx
      rw [if_neg (by omega), if_neg (by omega)]
      have e : ((l ++ m).length - (m.length : Int)).toNat = l.length := by omega
      simp
    rw [hp, if_pos rfl, same_refl hs (by omega), Option.bind_some, if_pos rfl, same_refl hs2 (by omega), Option.bind_some]
end Go.Proofs.Ytpfpjdeaocbnfaa.Pure
