/- Two stretches of a memory compare as the document says, and the other way round with the other sign. No condition. -/
import Derived.Test.YtlpohjpiipkpiaaV3
namespace Go.Proofs.Ytlpohjpiipkpiaa.Pure
open Go.RowKit Go.Proofs.Ytlpohjpiipkpiaa.P Go.Proofs.Ytlpohjpiipkpiaa.G Go.Proofs.Ytlpohjpiipkpiaa.V Go.Proofs.YtlpohjpiipkpiaaW.PrintWords Go.Proofs.YtlpohjpiipkpiaaW.PrintLast Go.Proofs.YtlpohjpiipkpiaaW.PrintMore

theorem MemCompares : tinderlaw04_MemCompares.Pure := by
  intro l a b n hm hl hw ha hb hn
  have hl' : Sh l := by unfold Sh; omega
  have hB := By.of hw
  have ha' := U.of ha
  have hb' := U.of hb
  have hn' := U.of hn
  refine ⟨l.length + 40, ?_⟩
  unfold tinderlaw04_MemCompares.f
  rw [alive_eq (by omega), Option.bind_some, if_pos rfl, mcompare_eq hB ha' hb' hn', Option.bind_some, rcompare_eq hl' ha' hb' hn' (by omega), Option.bind_some, mcompare_eq hB hb' ha' hn', Option.bind_some, if_pos rfl, if_pos rfl]
  unfold cmpAt
  by_cases h : a + n ≤ (l.length : Int) ∧ b + n ≤ (l.length : Int)
  · have h' : b + n ≤ (l.length : Int) ∧ a + n ≤ (l.length : Int) := ⟨h.2, h.1⟩
    rw [if_pos h, if_pos h', if_pos rfl, cmp_neg (seg l a n) (seg l b n)]
    refine congrArg some (beq_iff_eq.2 ?_)
    show -cmp (seg l a n) (seg l b n) % 4294967296 = -(cmp (seg l a n) (seg l b n) % 4294967296) % 4294967296
    omega
  · have h' : ¬ (b + n ≤ (l.length : Int) ∧ a + n ≤ (l.length : Int)) := fun h2 => h ⟨h2.2, h2.1⟩
    rw [if_neg h, if_neg h', if_pos rfl]
    rfl

end Go.Proofs.Ytlpohjpiipkpiaa.Pure
