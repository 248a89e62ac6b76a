/- The plain law of ScreenDraws. No condition. -/
import Derived.Test.YtngfijkageapgaaV7
import Derived.Test.YtngfijkageapgaaPx16
namespace Go.Proofs.Ytngfijkageapgaa.Pure
open Go.RowKit Go.Proofs.Ytngfijkageapgaa.P Go.Proofs.Ytngfijkageapgaa.V Go.Proofs.YtngfijkageapgaaW.PrintWords Go.Proofs.YtngfijkageapgaaW.PrintLast Go.Proofs.YtngfijkageapgaaW.PrintMore

theorem ScreenDraws (w h : Int) (l : List Int) (w2 h2 : Int) (l2 : List Int) (x y q : Int) (_ : ∀ n ∈ l, (Lit.int .u8 n).wf = true) (hl : l.length ≤ 140737488351232) (_ : ∀ n ∈ l2, (Lit.int .u8 n).wf = true) (_ : l2.length ≤ 140737488351232)
    (_ : (Lit.int .i64 x).wf = true) (_ : (Lit.int .i64 y).wf = true) (_ : (Lit.int .i64 q).wf = true) : ∃ k, tinderlaw22_ScreenDraws.f k w h l w2 h2 l2 x y q = some true := by
  refine ⟨10000, ?_⟩
  unfold tinderlaw22_ScreenDraws.f
  by_cases k : okP w h l ∧ okP w2 h2 l2 ∧ farB x = false ∧ farB y = false
  · simp only [alive_eq, Option.bind_some, if_true, copy_eq l hl, draw_ok x y q k.1 k.2.1 k.2.2.1 k.2.2.2, rdraw_ok x y q k.1 k.2.1 k.2.2.1 k.2.2.2, same_refl]
  · simp only [alive_eq, Option.bind_some, if_true, copy_eq l hl, draw_no x y q k, rdraw_no x y q k, same_refl]
end Go.Proofs.Ytngfijkageapgaa.Pure
