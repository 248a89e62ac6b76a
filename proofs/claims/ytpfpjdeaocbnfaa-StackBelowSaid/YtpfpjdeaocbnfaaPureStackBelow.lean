/- A word changes nothing of what lies below the cells that it needs. No condition. -/
import Derived.Test.YtpfpjdeaocbnfaaV4
namespace Go.Proofs.Ytpfpjdeaocbnfaa.Pure
open Go.RowKit Go.Proofs.Ytpfpjdeaocbnfaa.P Go.Proofs.Ytpfpjdeaocbnfaa.G Go.Proofs.Ytpfpjdeaocbnfaa.V Go.Proofs.YtpfpjdeaocbnfaaW.PrintWords Go.Proofs.YtpfpjdeaocbnfaaW.PrintLast Go.Proofs.YtpfpjdeaocbnfaaW.PrintMore

theorem StackBelow : tinderlaw03_StackBelow.Pure := by
  intro op l b hop hm hl hw hm2 hl2 hw2
  have hs : Sh l := by unfold Sh; omega
  have hs2 : Sh b := by unfold Sh; omega
  have hc := Cells.of hw
  have hc2 := Cells.of hw2
  refine ⟨100, ?_⟩
  unfold tinderlaw03_StackBelow.f
  rw [alive_eq (by omega), Option.bind_some, if_pos rfl]
  have yes : tinderlaw03_StackBelow.j0 100 op l b true = some true := by rw [tinderlaw03_StackBelow.j0, if_pos rfl]
  by_cases h81 : op = 81
  · rw [if_pos h81, yes]
  · rw [if_neg h81]
    by_cases h64 : l.length > 64
    · rw [if_pos (by omega), yes]
    · rw [if_neg (by omega), show wrap64 (64 - (l.length : Int)) = 64 - (l.length : Int) from w64 (by omega) (by omega)]
      by_cases hb : (b.length : Int) > 64 - (l.length : Int)
      · rw [decide_eq_true hb, yes]
      · have hlen : (b ++ l).length = b.length + l.length := List.length_append
        have hd1 := dox_len op l
        have hd2 := dox_len op (b ++ l)
        rw [decide_eq_false hb, tinderlaw03_StackBelow.j0, if_neg (by decide), copy_eq hs2, Option.bind_some, if_pos (by omega), Option.bind_some, do_eq hc (by omega), Option.bind_some, do_eq (hc2.append hc) (by omega), Option.bind_some]
        by_cases h0 : (dox op l).2 = 0
        · rw [if_pos h0]
          rcases below_dox (b := b) h81 hc (by omega) h0 with e | ⟨e, e2⟩
          · rw [e]
            show (if (0 : Int) = 6 then _ else if (0 : Int) = 0 then _ else _) = some true
            rw [if_neg (by decide), if_pos rfl, Option.bind_some, if_pos (by omega)]
            rw [e] at hd2
            rw [same_refl (by unfold Sh; omega) (by omega), Option.bind_some]
          · rw [if_pos e, show wrap64 (((b ++ l).length : Int) + 2) = ((b ++ l).length : Int) + 2 from w64 (by omega) (by omega), decide_eq_true (by omega)]
        · rw [if_neg h0]

end Go.Proofs.Ytpfpjdeaocbnfaa.Pure
