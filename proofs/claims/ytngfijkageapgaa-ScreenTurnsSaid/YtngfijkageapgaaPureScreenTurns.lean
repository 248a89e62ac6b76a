/- The plain law of ScreenTurns. No condition. -/
import Derived.Test.YtngfijkageapgaaV6
import Derived.Test.YtngfijkageapgaaPx18
namespace Go.Proofs.Ytngfijkageapgaa.Pure
open Go.RowKit Go.Proofs.Ytngfijkageapgaa.P Go.Proofs.Ytngfijkageapgaa.V Go.Proofs.YtngfijkageapgaaW.PrintWords Go.Proofs.YtngfijkageapgaaW.PrintLast Go.Proofs.YtngfijkageapgaaW.PrintMore

theorem ScreenTurns (w h : Int) (l : List Int) (q : Int) (_ : ∀ n ∈ l, (Lit.int .u8 n).wf = true) (hl : l.length ≤ 140737488351232) (_ : (Lit.int .i64 q).wf = true) :
    ∃ k, tinderlaw22_ScreenTurns.f k w h l q = some true := by
  refine ⟨l.length + 5000, ?_⟩
  unfold tinderlaw22_ScreenTurns.f
  have a := light_eq (l.length + 5000) w h l hl (by omega)
  have b := rlight_eq (l.length + 5000) w h l hl (by omega)
  by_cases k : okP w h l
  · simp only [alive_eq, Option.bind_some, if_true, copy_eq l hl, turn_ok _ _ _ _ k, rturn_ok k q (l.length + 5000) (by omega), mirror_ok _ _ _ k, rmirror_ok k (l.length + 5000) (by omega), same_refl, formed_eq, rformed_eq, a, b, beq_self_eq_true]
  · simp only [alive_eq, Option.bind_some, if_true, copy_eq l hl, turn_no _ _ _ _ k, rturn_no k q (l.length + 5000), mirror_no _ _ _ k, rmirror_no k (l.length + 5000), same_refl, formed_eq, rformed_eq, a, b, beq_self_eq_true]
end Go.Proofs.Ytngfijkageapgaa.Pure
