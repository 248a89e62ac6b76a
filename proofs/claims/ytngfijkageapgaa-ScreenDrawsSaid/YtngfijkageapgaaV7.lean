/- The document's Draw: what its loops come to. No condition. -/
import Derived.Test.YtngfijkageapgaaV5
import Derived.Test.YtngfijkageapgaaV8
import Derived.Test.YtngfijkageapgaaPx9
namespace Go.Proofs.Ytngfijkageapgaa.V
set_option linter.unusedVariables false
open Go.RowKit Go.Proofs.Ytngfijkageapgaa.P Go.Proofs.YtngfijkageapgaaW.PrintWords Go.Proofs.YtngfijkageapgaaW.PrintLast Go.Proofs.YtngfijkageapgaaW.PrintMore
/-- What the document's Draw puts at (u, v). -/
def dAt (w tw th x y : Int) (t l : List Int) (u v : Int) : Int :=
  if 0 ≤ u - x ∧ u - x < tw ∧ 0 ≤ v - y ∧ v - y < th ∧ rd t ((v - y) * tw + (u - x)) ≠ 0 then rd t ((v - y) * tw + (u - x)) else rd l (v * w + u)
def GoodD (w h tw th x y : Int) (t l out : List Int) (v u : Int) : Prop :=
  out.length = l.length ∧ ∀ u' v' : Int, 0 ≤ u' → u' < w → 0 ≤ v' → v' < h → rd out (v' * w + u') = if v' < v ∨ (v' = v ∧ u' < u) then dAt w tw th x y t l u' v' else rd l (v' * w + u')
theorem good_step {w h tw th x y : Int} {t l out : List Int} {v u : Int} (k : okP w h l) (g : GoodD w h tw th x y t l out v u) (u0 : 0 ≤ u) (u1 : u < w) (v0 : 0 ≤ v) (v1 : v < h) :
    GoodD w h tw th x y t l (out.set (v * w + u).toNat (dAt w tw th x y t l u v)) v (u + 1) := by
  obtain ⟨i0, i1, _⟩ := at_in u0 u1 v0 v1
  rw [← k.2] at i1
  have g1 := g.1
  refine ⟨by rw [List.length_set]; exact g1, fun u' v' a b c d => ?_⟩
  obtain ⟨m0, _, _⟩ := at_in a b c d
  by_cases he : u' = u ∧ v' = v
  · obtain ⟨rfl, rfl⟩ := he
    rw [rd_set_eq _ _ _ i0 (by omega), if_pos (by omega)]
  · rw [rd_set_ne _ _ _ _ i0 m0 (fun q => he (by obtain ⟨f1, f2⟩ := uniq u0 u1 a b q; omega)), g.2 u' v' a b c d]
    by_cases hh : v' < v ∨ (v' = v ∧ u' < u)
    · rw [if_pos hh, if_pos (by omega)]
    · rw [if_neg hh, if_neg (by omega)]
theorem good_skip {w h tw th x y : Int} {t l out : List Int} {v u : Int} (k : okP w h l) (g : GoodD w h tw th x y t l out v u) (u0 : 0 ≤ u) (u1 : u < w) (v0 : 0 ≤ v) (v1 : v < h)
    (hc : ¬ (0 ≤ u - x ∧ u - x < tw ∧ 0 ≤ v - y ∧ v - y < th ∧ rd t ((v - y) * tw + (u - x)) ≠ 0)) : GoodD w h tw th x y t l out v (u + 1) := by
  refine ⟨g.1, fun u' v' a b c d => ?_⟩
  rw [g.2 u' v' a b c d]
  by_cases hh : v' < v ∨ (v' = v ∧ u' < u)
  · rw [if_pos hh, if_pos (by omega)]
  · rw [if_neg hh]
    by_cases he : v' = v ∧ u' = u
    · obtain ⟨rfl, rfl⟩ := he
      rw [if_pos (by omega), dAt, if_neg hc]
    · rw [if_neg (by omega)]
theorem d_l1 {w h tw th x y : Int} {t l : List Int} (k : okP w h l) (kt : okP tw th t) (hx : -64 ≤ x ∧ x ≤ 64) (hy : -64 ≤ y ∧ y ≤ 64) (l0 : List Int) (v : Int) (v0 : 0 ≤ v) (v1 : v < h) : ∀ (n : Nat) (u : Int) (out : List Int) (kk : Nat), (n : Int) = w - u → 0 ≤ u → GoodD w h tw th x y t l out v u →
    ∃ out', GoodD w h tw th x y t l out' (v + 1) 0 ∧ tinderref22_Draw.l1 (n + 1 + kk) x y v u w h l0 tw th t w h out = tinderref22_Draw.l0 kk x y (v + 1) w h l0 tw th t w h out' := by
  obtain ⟨h0, h1, h2, h3, h4, h5⟩ := okP_r k
  obtain ⟨t0, t1, t2, t3, t4, t5⟩ := okP_r kt
  intro n
  induction n with
  | zero =>
    intro u out kk hn u0 g
    refine ⟨out, ⟨g.1, fun u' v' a b c d => ?_⟩, ?_⟩
    · rw [g.2 u' v' a b c d]
      by_cases hh : v' < v ∨ (v' = v ∧ u' < u)
      · rw [if_pos hh, if_pos (by omega)]
      · rw [if_neg hh, if_neg (by omega)]
    · rw [show 0 + 1 + kk = kk + 1 by omega, tinderref22_Draw.l1, if_neg (by omega), w64s (by omega) (by omega)]
  | succ n ih =>
    intro u out kk hn u0 g
    have u1 : u < w := by omega
    obtain ⟨i0, i1, i2⟩ := at_in u0 u1 v0 v1
    rw [← h4] at i1
    have g1 := g.1
    have wu : wrap64 (u - x) = u - x := w64s (by omega) (by omega)
    have wv : wrap64 (v - y) = v - y := w64s (by omega) (by omega)
    have wn : wrap64 (u + 1) = u + 1 := w64s (by omega) (by omega)
    have e1 : wrap64 (wrap64 (v * w) + u) = v * w + u := by rw [w64s (x := v * w) (by omega) (by omega), w64s (by omega) (by omega)]
    rw [show n + 1 + 1 + kk = (n + 1 + kk) + 1 by omega, tinderref22_Draw.l1, if_pos u1, wu, wv, wn, e1]
    by_cases c1 : 0 ≤ u - x
    · rw [if_pos c1]
      by_cases c2 : u - x < tw
      · rw [if_pos c2]
        by_cases c3 : 0 ≤ v - y
        · rw [if_pos c3]
          by_cases c4 : v - y < th
          · rw [if_pos c4]
            obtain ⟨j0, j1, j2⟩ := at_in c1 c2 c3 c4
            rw [← t4] at j1
            have e2 : wrap64 (wrap64 ((v - y) * tw) + (u - x)) = (v - y) * tw + (u - x) := by rw [w64s (x := (v - y) * tw) (by omega) (by omega), w64s (by omega) (by omega)]
            rw [e2, if_pos j0, if_pos j1]
            by_cases c5 : rd t ((v - y) * tw + (u - x)) = 0
            · rw [if_pos c5]
              exact ih (u + 1) out kk (by omega) (by omega) (good_skip k g u0 u1 v0 v1 (fun hc => hc.2.2.2.2 c5))
            · rw [if_neg c5, if_pos i0, if_pos (by omega)]
              have gs := good_step k g u0 u1 v0 v1
              rw [dAt, if_pos ⟨c1, c2, c3, c4, c5⟩] at gs
              exact ih (u + 1) _ kk (by omega) (by omega) gs
          · rw [if_neg c4]
            exact ih (u + 1) out kk (by omega) (by omega) (good_skip k g u0 u1 v0 v1 (fun hc => c4 hc.2.2.2.1))
        · rw [if_neg c3]
          exact ih (u + 1) out kk (by omega) (by omega) (good_skip k g u0 u1 v0 v1 (fun hc => c3 hc.2.2.1))
      · rw [if_neg c2]
        exact ih (u + 1) out kk (by omega) (by omega) (good_skip k g u0 u1 v0 v1 (fun hc => c2 hc.2.1))
    · rw [if_neg c1]
      exact ih (u + 1) out kk (by omega) (by omega) (good_skip k g u0 u1 v0 v1 (fun hc => c1 hc.1))
theorem d_l0 {w h tw th x y : Int} {t l : List Int} (k : okP w h l) (kt : okP tw th t) (hx : -64 ≤ x ∧ x ≤ 64) (hy : -64 ≤ y ∧ y ≤ 64) (l0 : List Int) : ∀ (m : Nat) (v : Int) (out : List Int) (kk : Nat), (m : Int) = h - v → 0 ≤ v → GoodD w h tw th x y t l out v 0 →
    ∃ out', GoodD w h tw th x y t l out' h 0 ∧ tinderref22_Draw.l0 (m * (w.toNat + 2) + 1 + kk) x y v w h l0 tw th t w h out = some (w, h, out', 0) := by
  obtain ⟨h0, h1, h2, h3, h4, h5⟩ := okP_r k
  intro m
  induction m with
  | zero =>
    intro v out kk hm v0 g
    obtain rfl : v = h := by omega
    exact ⟨out, g, by rw [Nat.zero_mul, show 0 + 1 + kk = kk + 1 by omega, tinderref22_Draw.l0, if_neg (by omega)]⟩
  | succ m ih =>
    intro v out kk hm v0 g
    obtain ⟨o1, g1, e1⟩ := d_l1 k kt hx hy l0 v v0 (by omega) w.toNat 0 out (m * (w.toNat + 2) + 1 + kk) (by omega) (by omega) g
    obtain ⟨o2, g2, e2⟩ := ih (v + 1) o1 kk (by omega) (by omega) g1
    refine ⟨o2, g2, ?_⟩
    rw [show (m + 1) * (w.toNat + 2) + 1 + kk = (w.toNat + 1 + (m * (w.toNat + 2) + 1 + kk)) + 1 by rw [Nat.add_mul]; omega, tinderref22_Draw.l0, if_pos (by omega), e1, e2]
theorem rdraw_ok {w h w2 h2 : Int} {l l2 : List Int} (x y q : Int) (k : okP w h l) (k2 : okP w2 h2 l2) (hx : farB x = false) (hy : farB y = false) :
    tinderref22_Draw.f 10000 w h l w2 h2 l2 x y q = some (w, h, drawn w h (dims4 (q % 4).toNat w2 h2).1 x y (turned (q % 4).toNat w2 h2 l2) l, 0) := by
  have kt := okP_turned (q % 4).toNat (by omega) k2
  obtain ⟨g0, g1, g2, g3, g4, g5⟩ := okP_r k
  have rx := of_decide_eq_false hx
  have ry := of_decide_eq_false hy
  unfold tinderref22_Draw.f
  rw [rformed_eq, decide_eq_true k, Option.bind_some, if_pos rfl, rformed_eq, decide_eq_true k2, Option.bind_some, if_pos rfl, if_neg (by omega), if_neg (by omega), if_neg (by omega), decide_eq_false (by omega), tinderref22_Draw.j0, if_neg Bool.false_ne_true, rturn_ok k2 q 9999 (by decide), Option.bind_some, copy_eq l (by omega), Option.bind_some]
  have hz : GoodD w h (dims4 (q % 4).toNat w2 h2).1 (dims4 (q % 4).toNat w2 h2).2 x y (turned (q % 4).toNat w2 h2 l2) l l 0 0 := ⟨rfl, fun u v a b c d => by rw [if_neg (by omega)]⟩
  have hb : h.toNat * (w.toNat + 2) ≤ 64 * 66 := Nat.mul_le_mul (by omega) (by omega)
  obtain ⟨out, g, e⟩ := d_l0 k kt (by omega) (by omega) l h.toNat 0 l (9999 - (h.toNat * (w.toNat + 2) + 1)) (by omega) (by omega) hz
  rw [show h.toNat * (w.toNat + 2) + 1 + (9999 - (h.toNat * (w.toNat + 2) + 1)) = 9999 by omega] at e
  have : drawn w h (dims4 (q % 4).toNat w2 h2).1 x y (turned (q % 4).toNat w2 h2 l2) l = out := by
    refine ext_at (w := w) (h := h) g0 (okP_drawn _ x y _ k).2 (by rw [g.1]; exact g4) (fun u v u0 u1 v0 v1 => ?_)
    have gg := g.2 u v u0 u1 v0 v1
    rw [if_pos (Or.inl v1)] at gg
    rw [drawn_at kt k u v u0 u1 v0 v1, gg]
    rfl
  rw [this]
  exact e
theorem rdraw_no {w h w2 h2 : Int} {l l2 : List Int} (x y q : Int) (k : ¬ (okP w h l ∧ okP w2 h2 l2 ∧ farB x = false ∧ farB y = false)) :
    tinderref22_Draw.f 10000 w h l w2 h2 l2 x y q = some (0, 0, [], 1) := by
  unfold tinderref22_Draw.f
  rw [rformed_eq, rformed_eq]
  by_cases k1 : okP w h l
  · rw [decide_eq_true k1, Option.bind_some, if_pos rfl]
    by_cases k2 : okP w2 h2 l2
    · rw [decide_eq_true k2, Option.bind_some, if_pos rfl]
      by_cases c1 : x < -64
      · rw [if_pos c1]; rfl
      rw [if_neg c1]
      by_cases c2 : x > 64
      · rw [if_pos c2]; rfl
      rw [if_neg c2]
      by_cases c3 : y < -64
      · rw [if_pos c3]; rfl
      rw [if_neg c3]
      by_cases c4 : y > 64
      · rw [decide_eq_true c4]; rfl
      exact absurd ⟨k1, k2, decide_eq_false (by omega), decide_eq_false (by omega)⟩ k
    · rw [decide_eq_false k2, Option.bind_some, if_neg Bool.false_ne_true]; rfl
  · rw [decide_eq_false k1, Option.bind_some, if_neg Bool.false_ne_true]; rfl
end Go.Proofs.Ytngfijkageapgaa.V
