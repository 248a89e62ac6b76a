/- What was moved in a memory stands there as it stood here, as if it had been put there. No condition. -/
import Derived.Test.YtlpohjpiipkpiaaV3
namespace Go.Proofs.Ytlpohjpiipkpiaa.Pure
open Go.RowKit Go.Proofs.Ytlpohjpiipkpiaa.P Go.Proofs.Ytlpohjpiipkpiaa.G Go.Proofs.Ytlpohjpiipkpiaa.V Go.Proofs.YtlpohjpiipkpiaaW.PrintWords Go.Proofs.YtlpohjpiipkpiaaW.PrintLast Go.Proofs.YtlpohjpiipkpiaaW.PrintMore

theorem MemCarries : tinderlaw04_MemCarries.Pure := by
  intro l a b n hm hl hw ha hb hn
  have hl' : Sh l := by unfold Sh; omega
  have hB := By.of hw
  have ha' := U.of ha
  have hb' := U.of hb
  have hn' := U.of hn
  have ha1 := ha'.1
  have hb1 := hb'.1
  have hn1 := hn'.1
  have ha2 := ha'.2
  have hb2 := hb'.2
  have hn2 := hn'.2
  refine ⟨40, ?_⟩
  unfold tinderlaw04_MemCarries.f tinderref04_Same.f
  rw [alive_eq (by omega), Option.bind_some, if_pos rfl, text_eq ha' hn', Option.bind_some, move_eq hl' ha' hb' hn', Option.bind_some]
  by_cases h1 : a + n ≤ (l.length : Int)
  · have hsz : (strOfNums (seg l a n)).size = n.toNat := by rw [strOfNums_size, seg_length ha1 hn1 h1]
    have hbs := bytesOf_strOfNums (seg_by hB a n)
    have hsl := seg_length ha1 hn1 h1
    rw [if_pos h1]
    by_cases h2 : b + n ≤ (l.length : Int)
    · have hc : a + n ≤ (l.length : Int) ∧ b + n ≤ (l.length : Int) := ⟨h1, h2⟩
      rw [if_pos hc, if_pos rfl, hbs]
      have hlen : (splice l b.toNat (seg l a n)).length = l.length := length_splice _ _ _ (by omega)
      have hcut : seg (splice l b.toNat (seg l a n)) b n = seg l a n := by
        have := seg_splice (l := l) (cs := seg l a n) hb1 (by omega)
        rwa [show ((seg l a n).length : Int) = n by omega] at this
      show ((mem_Text.f (splice l b.toNat (seg l a n)) b n).bind _) = _
      rw [text_eq hb' hn', Option.bind_some, hlen, if_pos h2, hcut]
      show ((mem_Put.f l b (strOfNums (seg l a n))).bind _) = _
      rw [put_eq hl' hb' (by rw [hsz]; unfold Sh at hl'; omega), Option.bind_some, hsz, if_pos (show b + ((n.toNat : Nat) : Int) ≤ (l.length : Int) by omega), hbs, if_pos rfl, if_pos rfl, if_pos rfl, if_pos rfl, Option.bind_some, beq_self_eq_true]
    · have hc : ¬ (a + n ≤ (l.length : Int) ∧ b + n ≤ (l.length : Int)) := fun h => h2 h.2
      rw [if_neg hc, if_neg (by decide), if_pos rfl, w64 (n := b) (by omega) (by omega)]
      by_cases h3 : b > (l.length : Int)
      · rw [if_pos h3]
      · unfold Sh at hl'
        rw [if_neg h3, w64 (n := n) (by omega) (by omega), w64 (n := (l.length : Int) - b) (by omega) (by omega), decide_eq_true (by omega)]
  · have hc : ¬ (a + n ≤ (l.length : Int) ∧ b + n ≤ (l.length : Int)) := fun h => h1 h.1
    rw [if_neg h1, if_neg hc, if_neg (by decide), if_neg (by decide)]

end Go.Proofs.Ytlpohjpiipkpiaa.Pure
