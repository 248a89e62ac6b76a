/- The document's Turn: what its loops come to. No condition. -/
import Derived.Test.YtngfijkageapgaaV3
import Derived.Test.YtngfijkageapgaaPx8
namespace Go.Proofs.Ytngfijkageapgaa.V
open Go.RowKit Go.Proofs.Ytngfijkageapgaa.P Go.Proofs.YtngfijkageapgaaW.PrintWords Go.Proofs.YtngfijkageapgaaW.PrintLast Go.Proofs.YtngfijkageapgaaW.PrintMore
theorem le_of_mono {α : Type} {f : Nat → Option α} (m : ∀ k, LeO (f k) (f (k + 1))) {k K : Nat} (h : k ≤ K) {r : α} (e : f k = some r) : f K = some r := by
  induction K with
  | zero => rw [show k = 0 by omega] at e; exact e
  | succ n ih =>
    rcases Nat.lt_or_ge n k with h2 | h2
    · rw [show k = n + 1 by omega] at e; exact e
    · exact m n r (ih h2)
theorem copy_eq (l : List Int) (hl : l.length ≤ 140737488351232) : tinderref04_Copy.f l = some l := by
  unfold tinderref04_Copy.f
  rw [if_pos (by simp only [List.length_nil]; omega)]
  rfl
/-! ### a quarter -/
def Good (w h : Int) (l out : List Int) (y x : Int) : Prop :=
  out.length = l.length ∧ ∀ x' y' : Int, 0 ≤ x' → x' < w → 0 ≤ y' → y' < h → (y' < y ∨ (y' = y ∧ x' < x)) → rd out (x' * h + (h - 1 - y')) = rd l (y' * w + x')
theorem q_l1 {w h : Int} {l : List Int} (k : okP w h l) (y : Int) (y0 : 0 ≤ y) (y1 : y < h) : ∀ (n : Nat) (x : Int) (out : List Int) (kk : Nat), (n : Int) = w - x → 0 ≤ x → Good w h l out y x →
    ∃ out', Good w h l out' (y + 1) 0 ∧ tinderref22_quarter.l1 (n + 1 + kk) y x w h l h w out = tinderref22_quarter.l0 kk (y + 1) w h l h w out' := by
  obtain ⟨h0, h1, h2, h3, h4, h5⟩ := okP_r k
  intro n
  induction n with
  | zero =>
    intro x out kk hn x0 g
    refine ⟨out, ⟨g.1, fun x' y' a b c d e => g.2 x' y' a b c d (by omega)⟩, ?_⟩
    rw [show 0 + 1 + kk = kk + 1 by omega, tinderref22_quarter.l1, if_neg (by omega), w64s (by omega) (by omega)]
  | succ n ih =>
    intro x out kk hn x0 g
    obtain ⟨i0, i1, i2⟩ := at_in x0 (show x < w by omega) y0 y1
    obtain ⟨j0, j1, j2⟩ := at_in (P := h - 1 - y) (Q := x) (nw := h) (nh := w) (by omega) (by omega) x0 (by omega)
    rw [← h4] at i1
    rw [Int.mul_comm h w, ← h4] at j1
    have e1 : wrap64 (wrap64 (y * w) + x) = y * w + x := by rw [w64s (x := y * w) (by omega) (by omega), w64s (by omega) (by omega)]
    have e2 : wrap64 (wrap64 (x * h) + wrap64 (wrap64 (h - 1) - y)) = x * h + (h - 1 - y) := by
      rw [w64s (x := x * h) (by omega) (by omega), w64s (x := h - 1) (by omega) (by omega), w64s (x := h - 1 - y) (by omega) (by omega), w64s (by omega) (by omega)]
    have g1 := g.1
    rw [show n + 1 + 1 + kk = (n + 1 + kk) + 1 by omega, tinderref22_quarter.l1, if_pos (by omega), e1, e2, if_pos i0, if_pos i1, if_pos j0, if_pos (by omega), w64s (x := x + 1) (by omega) (by omega)]
    refine ih (x + 1) _ kk (by omega) (by omega) ⟨by rw [List.length_set]; exact g1, fun x' y' a b c d e => ?_⟩
    obtain ⟨m0, _, _⟩ := at_in (P := h - 1 - y') (Q := x') (nw := h) (nh := w) (by omega) (by omega) a b
    by_cases he : x' = x ∧ y' = y
    · obtain ⟨rfl, rfl⟩ := he
      exact rd_set_eq _ _ _ j0 (by omega)
    · rw [rd_set_ne _ _ _ _ j0 m0 (fun q => he (by obtain ⟨f1, f2⟩ := uniq (by omega) (by omega) (by omega) (by omega) q; omega))]
      exact g.2 x' y' a b c d (by omega)
theorem q_l0 {w h : Int} {l : List Int} (k : okP w h l) : ∀ (m : Nat) (y : Int) (out : List Int), (m : Int) = h - y → 0 ≤ y → Good w h l out y 0 →
    ∃ out', Good w h l out' h 0 ∧ tinderref22_quarter.l0 (m * (w.toNat + 2) + 1) y w h l h w out = some (h, w, out') := by
  obtain ⟨h0, h1, h2, h3, h4, h5⟩ := okP_r k
  intro m
  induction m with
  | zero =>
    intro y out hm y0 g
    obtain rfl : y = h := by omega
    exact ⟨out, g, by rw [Nat.zero_mul, Nat.zero_add, tinderref22_quarter.l0, if_neg (by omega)]⟩
  | succ m ih =>
    intro y out hm y0 g
    obtain ⟨o1, g1, e1⟩ := q_l1 k y y0 (by omega) w.toNat 0 out (m * (w.toNat + 2) + 1) (by omega) (by omega) g
    obtain ⟨o2, g2, e2⟩ := ih (y + 1) o1 (by omega) (by omega) g1
    refine ⟨o2, g2, ?_⟩
    rw [show (m + 1) * (w.toNat + 2) + 1 = (w.toNat + 1 + (m * (w.toNat + 2) + 1)) + 1 by rw [Nat.add_mul]; omega, tinderref22_quarter.l0, if_pos (by omega), e1, e2]
theorem quarter_ok {w h : Int} {l : List Int} (k : okP w h l) (K : Nat) (hK : 4300 ≤ K) : tinderref22_quarter.f K w h l = some (h, w, turned 1 w h l) := by
  obtain ⟨h0, h1, h2, h3, h4, h5⟩ := okP_r k
  have hz : Good w h l (List.replicate l.length 0) 0 0 := ⟨List.length_replicate, fun x' y' a b c d e => by omega⟩
  obtain ⟨out, g, e⟩ := q_l0 k h.toNat 0 _ (by omega) (by omega) hz
  have hb : h.toNat * (w.toNat + 2) + 1 ≤ K := by
    have : h.toNat * (w.toNat + 2) ≤ 64 * 66 := Nat.mul_le_mul (by omega) (by omega)
    omega
  refine le_of_mono (f := fun q => tinderref22_quarter.f q w h l) (fun q => tinderref22_quarter.mono w h l q) hb ?_
  show tinderref22_quarter.f (h.toNat * (w.toNat + 2) + 1) w h l = _
  unfold tinderref22_quarter.f
  rw [if_pos (by omega), if_pos (by omega), Int.toNat_natCast, e]
  have : turned 1 w h l = out := turned_ext 1 (by decide) k (by rw [g.1]; exact h4) (fun x y x0 x1 y0 y1 => g.2 x y x0 x1 y0 y1 (by omega))
  rw [this]
theorem rturn_l0 {w h : Int} {l : List Int} (k : okP w h l) (q : Int) (n : Nat) (hn : (n : Int) = q % 4) : ∀ (m i : Nat) (kk : Nat), i + m = n → 4300 ≤ kk → tinderref22_Turn.l0 (m + 1 + kk) q i (dims4 i w h).1 (dims4 i w h).2 (turned i w h l) = some ((dims4 n w h).1, (dims4 n w h).2, turned n w h l, 0) := by
  intro m
  induction m with
  | zero =>
    intro i kk hi hk
    obtain rfl : i = n := by omega
    rw [show 0 + 1 + kk = kk + 1 by omega, tinderref22_Turn.l0, quarters_eq, Option.bind_some, if_neg (by omega)]
  | succ m ih =>
    intro i kk hi hk
    have kt := okP_turned i (by omega) k
    have d := dims_comp i 1 (by omega) (by decide) w h
    have c := turned_comp i 1 (by omega) (by decide) k
    rw [Nat.mod_eq_of_lt (show i + 1 < 4 by omega)] at d c
    have d1 : dims4 1 (dims4 i w h).1 (dims4 i w h).2 = ((dims4 i w h).2, (dims4 i w h).1) := rfl
    rw [d1] at d
    rw [show m + 1 + 1 + kk = (m + 1 + kk) + 1 by omega, tinderref22_Turn.l0, quarters_eq, Option.bind_some, if_pos (by omega), quarter_ok kt _ (by omega), Option.bind_some]
    have := ih (i + 1) kk (by omega) hk
    rw [← d, ← c] at this
    rw [show wrap64 ((i : Int) + 1) = ((i + 1 : Nat) : Int) by unfold wrap64; omega]
    exact this
theorem rturn_ok {w h : Int} {l : List Int} (k : okP w h l) (q : Int) (K : Nat) (hK : 4310 ≤ K) : tinderref22_Turn.f K w h l q = some ((dims4 (q % 4).toNat w h).1, (dims4 (q % 4).toNat w h).2, turned (q % 4).toNat w h l, 0) := by
  have hlen := (okP_r k).2.2.2.2.2
  unfold tinderref22_Turn.f
  rw [rformed_eq, decide_eq_true k, Option.bind_some, if_pos rfl, copy_eq l (by omega), Option.bind_some]
  have := rturn_l0 k q (q % 4).toNat (by omega) (q % 4).toNat 0 (K - (q % 4).toNat - 1) (by omega) (by omega)
  rw [show (q % 4).toNat + 1 + (K - (q % 4).toNat - 1) = K by omega, turned_zero k] at this
  exact this
theorem rturn_no {w h : Int} {l : List Int} (k : ¬ okP w h l) (q : Int) (K : Nat) : tinderref22_Turn.f K w h l q = some (0, 0, [], 1) := by
  unfold tinderref22_Turn.f
  rw [rformed_eq, decide_eq_false k, Option.bind_some, if_neg Bool.false_ne_true]
end Go.Proofs.Ytngfijkageapgaa.V
