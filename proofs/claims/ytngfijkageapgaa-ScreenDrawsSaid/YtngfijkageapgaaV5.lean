/- The plain side of Draw: what stands where. No condition. -/
import Derived.Test.YtngfijkageapgaaV3
import Derived.Test.YtngfijkageapgaaPx6
namespace Go.Proofs.Ytngfijkageapgaa.V
open Go.RowKit Go.Proofs.Ytngfijkageapgaa.P Go.Proofs.YtngfijkageapgaaW.PrintWords Go.Proofs.YtngfijkageapgaaW.PrintLast Go.Proofs.YtngfijkageapgaaW.PrintMore
theorem drawTo_at {w h tw th x y : Int} {t l : List Int} (ht : (t.length : Int) = tw * th) (htw : 0 ≤ tw) (hl : (l.length : Int) = w * h) :
    ∀ j : Nat, j ≤ t.length → ∀ u v : Int, 0 ≤ u → u < w → 0 ≤ v → v < h →
      rd (drawTo w h tw x y t l j) (v * w + u) = if 0 ≤ u - x ∧ u - x < tw ∧ 0 ≤ v - y ∧ (v - y) * tw + (u - x) < j ∧ rd t ((v - y) * tw + (u - x)) ≠ 0 then rd t ((v - y) * tw + (u - x)) else rd l (v * w + u)
  | 0, _, u, v, u0, u1, v0, v1 => by
    rw [if_neg]
    · rfl
    · rintro ⟨a, _, b, c, _⟩
      have : 0 ≤ (v - y) * tw := Int.mul_nonneg b htw
      omega
  | j + 1, hj, u, v, u0, u1, v0, v1 => by
    have ih := drawTo_at ht htw hl (x := x) (y := y) j (by omega) u v u0 u1 v0 v1
    have hp : 0 < tw := by
      rcases Int.lt_or_le 0 tw with h_ | h_
      · exact h_
      · have : tw = 0 := by omega
        rw [this] at ht; omega
    obtain ⟨c0, c1, c2, c3⟩ := coords hp j
    rw [drawTo, drawAt]
    generalize (j : Int).tmod tw = X at c0 c1 c3 ⊢
    generalize (j : Int).tdiv tw = Y at c2 c3 ⊢
    have key : (0 ≤ u - x ∧ u - x < tw ∧ (v - y) * tw + (u - x) = j) → u = x + X ∧ v = y + Y := by
      rintro ⟨a, b, c⟩
      obtain ⟨e1, e2⟩ := uniq a b c0 c1 (c.trans c3.symm)
      omega
    by_cases hc : rd t (j : Int) ≠ 0 ∧ 0 ≤ x + X ∧ x + X < w ∧ 0 ≤ y + Y ∧ y + Y < h
    · rw [if_pos hc]
      obtain ⟨d0, d1, d2, d3, d4⟩ := hc
      obtain ⟨i0, i1, _⟩ := at_in d1 d2 d3 d4
      by_cases he : u = x + X ∧ v = y + Y
      · obtain ⟨rfl, rfl⟩ := he
        have e1 : (y + Y - y) * tw + (x + X - x) = j := by
          rw [show y + Y - y = Y by omega, show x + X - x = X by omega]; exact c3
        rw [rd_set_eq _ _ _ i0 (by rw [drawTo_len, hl]; exact i1), e1, if_pos ⟨by omega, by omega, by omega, by omega, d0⟩]
      · obtain ⟨k0, _, _⟩ := at_in u0 u1 v0 v1
        rw [rd_set_ne _ _ _ _ i0 k0 (fun q => he (by obtain ⟨e1, e2⟩ := uniq d1 d2 u0 u1 q; exact ⟨e1.symm, e2.symm⟩)), ih]
        have hne : 0 ≤ u - x → u - x < tw → (v - y) * tw + (u - x) ≠ j := fun a b c => he (key ⟨a, b, c⟩)
        by_cases hh : 0 ≤ u - x ∧ u - x < tw ∧ 0 ≤ v - y ∧ (v - y) * tw + (u - x) < j ∧ rd t ((v - y) * tw + (u - x)) ≠ 0
        · rw [if_pos hh, if_pos ⟨hh.1, hh.2.1, hh.2.2.1, by have := hh.2.2.2.1; omega, hh.2.2.2.2⟩]
        · rw [if_neg hh, if_neg (fun g => hh ⟨g.1, g.2.1, g.2.2.1, by have := hne g.1 g.2.1; have := g.2.2.2.1; omega, g.2.2.2.2⟩)]
    · rw [if_neg hc, ih]
      by_cases hh : 0 ≤ u - x ∧ u - x < tw ∧ 0 ≤ v - y ∧ (v - y) * tw + (u - x) < j ∧ rd t ((v - y) * tw + (u - x)) ≠ 0
      · rw [if_pos hh, if_pos ⟨hh.1, hh.2.1, hh.2.2.1, by have := hh.2.2.2.1; omega, hh.2.2.2.2⟩]
      · rw [if_neg hh, if_neg]
        rintro ⟨g1, g2, g3, g4, g5⟩
        by_cases hq : (v - y) * tw + (u - x) = j
        · obtain ⟨e1, e2⟩ := key ⟨g1, g2, hq⟩
          rw [hq] at g5
          exact hc ⟨g5, by omega, by omega, by omega, by omega⟩
        · exact hh ⟨g1, g2, g3, by omega, g5⟩
/-- The picture t drawn over l. -/
def drawn (w h tw x y : Int) (t l : List Int) : List Int := drawTo w h tw x y t l t.length
theorem drawn_len (w h tw x y : Int) (t l : List Int) : (drawn w h tw x y t l).length = l.length := drawTo_len _ _ _ _ _ _ _ _
theorem drawn_at {w h tw th x y : Int} {t l : List Int} (kt : okP tw th t) (k : okP w h l) (u v : Int) (u0 : 0 ≤ u) (u1 : u < w) (v0 : 0 ≤ v) (v1 : v < h) :
    rd (drawn w h tw x y t l) (v * w + u) = if 0 ≤ u - x ∧ u - x < tw ∧ 0 ≤ v - y ∧ v - y < th ∧ rd t ((v - y) * tw + (u - x)) ≠ 0 then rd t ((v - y) * tw + (u - x)) else rd l (v * w + u) := by
  have h1 := drawTo_at (x := x) (y := y) kt.2 (okP_r kt).1 k.2 t.length (Nat.le_refl _) u v u0 u1 v0 v1
  rw [drawn, h1]
  have e : (0 ≤ u - x ∧ u - x < tw ∧ 0 ≤ v - y ∧ (v - y) * tw + (u - x) < (t.length : Int) ∧ rd t ((v - y) * tw + (u - x)) ≠ 0) ↔ (0 ≤ u - x ∧ u - x < tw ∧ 0 ≤ v - y ∧ v - y < th ∧ rd t ((v - y) * tw + (u - x)) ≠ 0) := by
    constructor
    · rintro ⟨a, b, c, d, f⟩
      refine ⟨a, b, c, ?_, f⟩
      rcases Int.lt_or_le (v - y) th with hh | hh
      · exact hh
      · have : th * tw ≤ (v - y) * tw := Int.mul_le_mul_of_nonneg_right hh (okP_r kt).1
        rw [kt.2, Int.mul_comm tw th] at d
        omega
    · rintro ⟨a, b, c, d, f⟩
      obtain ⟨_, i1, _⟩ := at_in a b c d
      exact ⟨a, b, c, by rw [kt.2]; exact i1, f⟩
  by_cases hh : 0 ≤ u - x ∧ u - x < tw ∧ 0 ≤ v - y ∧ v - y < th ∧ rd t ((v - y) * tw + (u - x)) ≠ 0
  · rw [if_pos hh, if_pos (e.2 hh)]
  · rw [if_neg hh, if_neg (fun q => hh (e.1 q))]
theorem okP_drawn {w h : Int} {l : List Int} (tw x y : Int) (t : List Int) (k : okP w h l) : okP w h (drawn w h tw x y t l) := ⟨k.1, by rw [drawn_len]; exact k.2⟩
theorem drawn_twice {w h tw th x y : Int} {t l : List Int} (kt : okP tw th t) (k : okP w h l) : drawn w h tw x y t (drawn w h tw x y t l) = drawn w h tw x y t l := by
  have k1 := okP_drawn tw x y t k
  refine ext_at (w := w) (h := h) (okP_r k).1 (okP_drawn tw x y t k1).2 k1.2 (fun u v u0 u1 v0 v1 => ?_)
  rw [drawn_at kt k1 u v u0 u1 v0 v1]
  split
  · rename_i hh
    rw [drawn_at kt k u v u0 u1 v0 v1, if_pos hh]
  · rfl
theorem drawTo_cnt (w h tw x y : Int) (t l : List Int) (hl : (l.length : Int) = w * h) : ∀ j, cnt l ≤ cnt (drawTo w h tw x y t l j)
  | 0 => Nat.le_refl _
  | j + 1 => by
    have ih := drawTo_cnt w h tw x y t l hl j
    rw [drawTo, drawAt]
    split
    · rename_i hc
      obtain ⟨i0, i1, _⟩ := at_in hc.2.1 hc.2.2.1 hc.2.2.2.1 hc.2.2.2.2
      have := cnt_set (drawTo w h tw x y t l j) _ (rd t (j : Int)) i0 (by rw [drawTo_len, hl]; exact i1)
      rw [if_neg hc.1] at this
      split at this <;> omega
    · exact ih
def farB (a : Int) : Bool := decide (a < -64 ∨ 64 < a)
theorem far_eq (a : Int) : screen_Draw_1.f a = some (farB a) := by
  unfold screen_Draw_1.f farB
  by_cases h : a < -64
  · rw [if_pos h, decide_eq_true (Or.inl h)]
  · rw [if_neg h]
    congr 1
    by_cases h2 : 64 < a
    · rw [decide_eq_true h2, decide_eq_true (Or.inr h2)]
    · rw [decide_eq_false h2, decide_eq_false (by omega)]
theorem draw_ok {w h w2 h2 : Int} {l l2 : List Int} (x y q : Int) (k : okP w h l) (k2 : okP w2 h2 l2) (hx : farB x = false) (hy : farB y = false) :
    screen_Draw.f w h l w2 h2 l2 x y q = some (w, h, drawn w h (dims4 (q % 4).toNat w2 h2).1 x y (turned (q % 4).toNat w2 h2 l2) l, 0) := by
  have kt := okP_turned (q % 4).toNat (by omega) k2
  obtain ⟨h0, h1, h2, h3, h4, _⟩ := okP_r k
  obtain ⟨g0, g1, g2, g3, g4, _⟩ := okP_r kt
  have rx := of_decide_eq_false hx
  have ry := of_decide_eq_false hy
  unfold screen_Draw.f
  rw [turn_ok _ _ _ _ k2, Option.bind_some, formed_eq, decide_eq_true k, Option.bind_some, if_neg (by decide), far_eq, far_eq, hx, hy]
  show (if (0 : Int) ≠ 0 then _ else (some false).bind _) = _
  rw [if_neg (by decide), Option.bind_some, if_neg (by decide), Option.bind_some, if_neg (by decide), if_pos ⟨h0, h1, h2, h3, h4, g0, g1, g2, g3, g4, by omega, by omega, by omega, by omega⟩]
  rfl
theorem draw_no {w h w2 h2 : Int} {l l2 : List Int} (x y q : Int) (k : ¬ (okP w h l ∧ okP w2 h2 l2 ∧ farB x = false ∧ farB y = false)) :
    screen_Draw.f w h l w2 h2 l2 x y q = some (0, 0, [], 1) := by
  unfold screen_Draw.f
  rw [formed_eq, far_eq, far_eq]
  by_cases k1 : okP w h l
  · rw [decide_eq_true k1]
    by_cases k2 : okP w2 h2 l2
    · rw [turn_ok _ _ _ _ k2, Option.bind_some, Option.bind_some, if_neg (by decide)]
      show (if (0 : Int) ≠ 0 then _ else _) = _
      rw [if_neg (by decide), Option.bind_some]
      cases hx : farB x with
      | true => rfl
      | false =>
        rw [if_neg (by decide), Option.bind_some]
        cases hy : farB y with
        | true => rfl
        | false => exact absurd ⟨k1, k2, hx, hy⟩ k
    · rw [turn_no _ _ _ _ k2, Option.bind_some, Option.bind_some, if_neg (by decide)]
      rfl
  · rw [decide_eq_false k1]
    by_cases k2 : okP w2 h2 l2
    · rw [turn_ok _ _ _ _ k2]; rfl
    · rw [turn_no _ _ _ _ k2]; rfl
end Go.Proofs.Ytngfijkageapgaa.V
