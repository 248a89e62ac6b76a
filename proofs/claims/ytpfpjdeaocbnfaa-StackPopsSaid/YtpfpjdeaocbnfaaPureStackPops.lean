/- Popping answers as the document says, for every stack and number. No condition. -/
import Derived.Test.YtpfpjdeaocbnfaaV4
namespace Go.Proofs.Ytpfpjdeaocbnfaa.Pure
open Go.RowKit Go.Proofs.Ytpfpjdeaocbnfaa.P Go.Proofs.Ytpfpjdeaocbnfaa.G Go.Proofs.Ytpfpjdeaocbnfaa.V Go.Proofs.YtpfpjdeaocbnfaaW.PrintWords Go.Proofs.YtpfpjdeaocbnfaaW.PrintLast Go.Proofs.YtpfpjdeaocbnfaaW.PrintMore

theorem StackPops : tinderlaw03_StackPops.Pure := by
  intro l n hm hl hw hn
  have hs : Sh l := by unfold Sh; omega
  have hn2 := bounds_i64 hn
  have h1 : Sh (popx l n).1 ∧ (popx l n).1.length ≤ l.length ∧ Sh (popx l n).2.1 ∧ (popx l n).2.1.length ≤ l.length := by
    unfold popx
    by_cases h0 : n < 0
    · rw [if_pos h0]
      simp [Sh]
    · by_cases h1 : n > (l.length : Int)
      · rw [if_neg h0, if_pos h1]
        simp [Sh]
      · rw [if_neg h0, if_neg h1]
        exact ⟨hs.take _, by simp, hs.drop _, by simp⟩
  obtain ⟨h1, h2, h3, h4⟩ := h1
  refine ⟨l.length + 100, ?_⟩
  unfold tinderlaw03_StackPops.f
  rw [alive_eq (by omega), Option.bind_some, if_pos rfl, pop_eq hs (by omega), Option.bind_some, rpop_eq hs (by omega), Option.bind_some, if_pos rfl, same_refl h1 (by omega), Option.bind_some, if_pos rfl, same_refl h3 (by omega), Option.bind_some]

end Go.Proofs.Ytpfpjdeaocbnfaa.Pure
