/- The plain law of ScreenDrawn. No condition. -/
import Derived.Test.YtngfijkageapgaaV5
import Derived.Test.YtngfijkageapgaaPx19
namespace Go.Proofs.Ytngfijkageapgaa.Pure
open Go.RowKit Go.Proofs.Ytngfijkageapgaa.P Go.Proofs.Ytngfijkageapgaa.V Go.Proofs.YtngfijkageapgaaW.PrintWords Go.Proofs.YtngfijkageapgaaW.PrintLast Go.Proofs.YtngfijkageapgaaW.PrintMore

theorem ScreenDrawn (w h : Int) (l : List Int) (w2 h2 : Int) (l2 : List Int) (x y q : Int) (_ : ∀ n ∈ l, (Lit.int .u8 n).wf = true) (_ : l.length ≤ 140737488351232) (_ : ∀ n ∈ l2, (Lit.int .u8 n).wf = true) (_ : l2.length ≤ 140737488351232)
    (_ : (Lit.int .i64 x).wf = true) (_ : (Lit.int .i64 y).wf = true) (_ : (Lit.int .i64 q).wf = true) : ∃ k, tinderlaw22_ScreenDrawn.f k w h l w2 h2 l2 x y q = some true := by
  unfold tinderlaw22_ScreenDrawn.f
  by_cases k : okP w h l ∧ okP w2 h2 l2 ∧ farB x = false ∧ farB y = false
  · obtain ⟨k1, k2, hx, hy⟩ := k
    have kt := okP_turned (q % 4).toNat (by omega) k2
    have ka := okP_drawn (dims4 (q % 4).toNat w2 h2).1 x y (turned (q % 4).toNat w2 h2 l2) k1
    have z1 : ((0 : Int) % 4).toNat = 0 := rfl
    have hlen := (okP_r k1).2.2.2.2.2
    have d2 := draw_ok x y 0 k1 kt hx hy
    rw [z1, turned_zero kt] at d2
    have d2 : screen_Draw.f w h l (dims4 (q % 4).toNat w2 h2).1 (dims4 (q % 4).toNat w2 h2).2 (turned (q % 4).toNat w2 h2 l2) x y 0 = some (w, h, drawn w h (dims4 (q % 4).toNat w2 h2).1 x y (turned (q % 4).toNat w2 h2 l2) l, 0) := d2
    have d3 := draw_ok x y q ka k2 hx hy
    rw [drawn_twice kt k1] at d3
    have hc : cnt l ≤ cnt (drawn w h (dims4 (q % 4).toNat w2 h2).1 x y (turned (q % 4).toNat w2 h2 l2) l) := drawTo_cnt _ _ _ _ _ _ _ k1.2 _
    have dl := drawn_len w h (dims4 (q % 4).toNat w2 h2).1 x y (turned (q % 4).toNat w2 h2 l2) l
    refine ⟨l.length + 1, ?_⟩
    simp only [alive_eq, Option.bind_some, if_true, draw_ok x y q k1 k2 hx hy, turn_ok _ _ _ _ k2, d2, same_refl, light_eq (l.length + 1) w h l (by omega) (by omega), light_eq (l.length + 1) w h (drawn w h (dims4 (q % 4).toNat w2 h2).1 x y (turned (q % 4).toNat w2 h2 l2) l) (by omega) (by omega)]
    rw [decide_eq_false (by omega)]
    show (if false = true then none else _) = _
    rw [if_neg Bool.false_ne_true, d3]
    simp [same_refl]
  · refine ⟨0, ?_⟩
    have d1 := draw_no x y q k
    by_cases k2 : okP w2 h2 l2
    · have d2 : screen_Draw.f w h l (dims4 (q % 4).toNat w2 h2).1 (dims4 (q % 4).toNat w2 h2).2 (turned (q % 4).toNat w2 h2 l2) x y 0 = some (0, 0, [], 1) := draw_no x y 0 (fun hc => k ⟨hc.1, k2, hc.2.2⟩)
      simp only [alive_eq, Option.bind_some, if_true, d1, turn_ok _ _ _ _ k2, d2]
      simp
    · have d2 : screen_Draw.f w h l 0 0 [] x y 0 = screen_Draw.f w h l 0 0 [] x y 0 := rfl
      have d3 : ∃ r, screen_Draw.f w h l 0 0 [] x y 0 = some r := by
        by_cases k3 : okP w h l ∧ okP 0 0 [] ∧ farB x = false ∧ farB y = false
        · exact ⟨_, draw_ok x y 0 k3.1 k3.2.1 k3.2.2.1 k3.2.2.2⟩
        · exact ⟨_, draw_no x y 0 k3⟩
      obtain ⟨r, d3⟩ := d3
      simp only [alive_eq, Option.bind_some, if_true, d1, turn_no _ _ _ _ k2, d3]
      simp
end Go.Proofs.Ytngfijkageapgaa.Pure
