/- The plain law of ScreenPlaces. No condition. -/
import Derived.Test.YtngfijkageapgaaV2
namespace Go.Proofs.Ytngfijkageapgaa.Pure
open Go.RowKit Go.Proofs.Ytngfijkageapgaa.P Go.Proofs.Ytngfijkageapgaa.V Go.Proofs.YtngfijkageapgaaW.PrintWords Go.Proofs.YtngfijkageapgaaW.PrintLast Go.Proofs.YtngfijkageapgaaW.PrintMore

theorem ScreenPlaces : tinderlaw22_ScreenPlaces.Pure := by
  intro a b q x y _ _ _ _ _
  refine ⟨7, ?_⟩
  obtain ⟨r, h1, h2⟩ := new_eq a b
  unfold tinderlaw22_ScreenPlaces.f
  simp only [alive_eq, Option.bind_some, place_eq, rplace_eq, h1, h2, if_true, same_eq _ _ _ _ _ _ rfl, beq_self_eq_true]

end Go.Proofs.Ytngfijkageapgaa.Pure
