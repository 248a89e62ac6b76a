/- The plain side of Turn and Light: where the points come to, how many are light. No condition. -/
import Derived.Test.YtngfijkageapgaaV2
namespace Go.Proofs.Ytngfijkageapgaa.V
open Go.RowKit Go.Proofs.Ytngfijkageapgaa.P Go.Proofs.YtngfijkageapgaaW.PrintWords Go.Proofs.YtngfijkageapgaaW.PrintLast Go.Proofs.YtngfijkageapgaaW.PrintMore
/-- Is it a picture? -/
def okP (w h : Int) (l : List Int) : Prop := okSize w h = true ∧ (l.length : Int) = w * h
instance (w h : Int) (l : List Int) : Decidable (okP w h l) := by unfold okP; infer_instance
theorem okP_r {w h : Int} {l : List Int} (k : okP w h l) : 0 ≤ w ∧ w ≤ 64 ∧ 0 ≤ h ∧ h ≤ 64 ∧ (l.length : Int) = w * h ∧ (l.length : Int) ≤ 4096 := by
  have h1 := of_decide_eq_true k.1
  have h2 : w * h ≤ 64 * 64 := Int.mul_le_mul h1.2.1 h1.2.2.2 h1.2.2.1 (by decide)
  exact ⟨h1.1, h1.2.1, h1.2.2.1, h1.2.2.2, k.2, by rw [k.2]; omega⟩
theorem w64m {w h : Int} (hs : okSize w h = true) : wrap64 (w * h) = w * h := by
  have h1 := of_decide_eq_true hs
  have h2 : w * h ≤ 64 * 64 := Int.mul_le_mul h1.2.1 h1.2.2.2 h1.2.2.1 (by decide)
  have h0 : 0 ≤ w * h := Int.mul_nonneg h1.1 h1.2.2.1
  exact w64s (by omega) (by omega)
theorem formed_eq (w h : Int) (l : List Int) : screen_Formed.f w h l = some (decide (okP w h l)) := by
  unfold screen_Formed.f okP
  rw [sized_eq]
  simp only [Option.bind_some]
  by_cases hs : okSize w h = true
  · rw [if_pos hs, w64m hs]
    simp only [hs, true_and]
    rfl
  · rw [if_neg hs]
    try simp [hs]
theorem rformed_eq (w h : Int) (l : List Int) : tinderref22_Formed.f w h l = some (decide (okP w h l)) := by
  unfold tinderref22_Formed.f okP
  rw [rsized_eq]
  simp only [Option.bind_some]
  by_cases hs : okSize w h = true
  · rw [if_pos hs, w64m hs]
    simp only [hs, true_and]
    rfl
  · rw [if_neg hs]
    try simp [hs]
def turned (n : Nat) (w h : Int) (l : List Int) : List Int := turnTo n w h l l.length
theorem turn_ok (w h : Int) (l : List Int) (q : Int) (k : okP w h l) : screen_Turn.f w h l q = some ((dims4 (q % 4).toNat w h).1, (dims4 (q % 4).toNat w h).2, turned (q % 4).toNat w h l, 0) := by
  unfold screen_Turn.f
  rw [formed_eq, decide_eq_true k, Option.bind_some, if_pos rfl]
  obtain ⟨h0, h1, h2, h3, h4, _⟩ := okP_r k
  rw [if_pos ⟨h0, h1, h2, h3, h4⟩, qn_eq]
  rfl
theorem turn_no (w h : Int) (l : List Int) (q : Int) (k : ¬ okP w h l) : screen_Turn.f w h l q = some (0, 0, [], 1) := by
  unfold screen_Turn.f
  rw [formed_eq, decide_eq_false k, Option.bind_some, if_neg Bool.false_ne_true]
/-! ### places -/
theorem coords {w : Int} (hw : 0 < w) (i : Nat) : 0 ≤ (i : Int).tmod w ∧ (i : Int).tmod w < w ∧ 0 ≤ (i : Int).tdiv w ∧ (i : Int).tdiv w * w + (i : Int).tmod w = i := by
  refine ⟨Int.tmod_nonneg _ (by omega), Int.tmod_lt_of_pos _ hw, Int.tdiv_nonneg (by omega) (by omega), ?_⟩
  have := Int.mul_tdiv_add_tmod (i : Int) w
  rw [Int.mul_comm] at this
  exact this
theorem row_lt {w h : Int} (hw : 0 < w) (i : Nat) (hi : (i : Int) < w * h) : (i : Int).tdiv w < h := by
  obtain ⟨h0, h1, h2, h3⟩ := coords hw i
  rcases Int.lt_or_le ((i : Int).tdiv w) h with hh | hh
  · exact hh
  · have : h * w ≤ (i : Int).tdiv w * w := Int.mul_le_mul_of_nonneg_right hh (by omega)
    rw [Int.mul_comm w h] at hi
    omega
theorem uniq {w x y x2 y2 : Int} (x0 : 0 ≤ x) (x1 : x < w) (z0 : 0 ≤ x2) (z1 : x2 < w) (e : y * w + x = y2 * w + x2) : x = x2 ∧ y = y2 := by
  have hy : y = y2 := by
    rcases Int.lt_trichotomy y y2 with h | h | h
    · have : (y + 1) * w ≤ y2 * w := Int.mul_le_mul_of_nonneg_right (by omega) (by omega)
      rw [Int.add_mul, Int.one_mul] at this
      omega
    · exact h
    · have : (y2 + 1) * w ≤ y * w := Int.mul_le_mul_of_nonneg_right (by omega) (by omega)
      rw [Int.add_mul, Int.one_mul] at this
      omega
  subst hy
  exact ⟨by omega, rfl⟩
theorem coords_of {w x y : Int} (hw : 0 < w) (x0 : 0 ≤ x) (x1 : x < w) (y0 : 0 ≤ y) : ∃ i : Nat, (i : Int) = y * w + x ∧ (i : Int).tmod w = x ∧ (i : Int).tdiv w = y := by
  have h0 : 0 ≤ y * w := Int.mul_nonneg y0 (by omega)
  refine ⟨(y * w + x).toNat, by omega, ?_⟩
  obtain ⟨c0, c1, c2, c3⟩ := coords hw (y * w + x).toNat
  have e : (((y * w + x).toNat : Nat) : Int) = y * w + x := by omega
  rw [e] at c0 c1 c2 c3 ⊢
  exact uniq c0 c1 x0 x1 c3
theorem place_inj (n : Nat) (hn : n < 4) (w h x y x2 y2 : Int) (e : place4 n w h x y = place4 n w h x2 y2) : x = x2 ∧ y = y2 := by
  rcases (show n = 0 ∨ n = 1 ∨ n = 2 ∨ n = 3 by omega) with rfl | rfl | rfl | rfl <;> simp only [place4, Prod.mk.injEq] at e <;> omega
theorem inv_ok (n : Nat) (hn : n < 4) (w h : Int) : dims4 ((4 - n) % 4) (dims4 n w h).1 (dims4 n w h).2 = (w, h) := by
  rcases (show n = 0 ∨ n = 1 ∨ n = 2 ∨ n = 3 by omega) with rfl | rfl | rfl | rfl <;> rfl
theorem place_inv (n : Nat) (hn : n < 4) (w h X Y : Int) : place4 n w h (place4 ((4 - n) % 4) (dims4 n w h).1 (dims4 n w h).2 X Y).1 (place4 ((4 - n) % 4) (dims4 n w h).1 (dims4 n w h).2 X Y).2 = (X, Y) := by
  rcases (show n = 0 ∨ n = 1 ∨ n = 2 ∨ n = 3 by omega) with rfl | rfl | rfl | rfl <;> apply Prod.ext <;> simp [dims4, place4] <;> omega
theorem place_comp (n m : Nat) (hn : n < 4) (hm : m < 4) (w h x y : Int) : place4 m (dims4 n w h).1 (dims4 n w h).2 (place4 n w h x y).1 (place4 n w h x y).2 = place4 ((n + m) % 4) w h x y := by
  rcases (show n = 0 ∨ n = 1 ∨ n = 2 ∨ n = 3 by omega) with rfl | rfl | rfl | rfl <;> rcases (show m = 0 ∨ m = 1 ∨ m = 2 ∨ m = 3 by omega) with rfl | rfl | rfl | rfl <;> apply Prod.ext <;> simp [dims4, place4] <;> omega
theorem dims_comp (n m : Nat) (hn : n < 4) (hm : m < 4) (w h : Int) : dims4 m (dims4 n w h).1 (dims4 n w h).2 = dims4 ((n + m) % 4) w h := by
  rcases (show n = 0 ∨ n = 1 ∨ n = 2 ∨ n = 3 by omega) with rfl | rfl | rfl | rfl <;> rcases (show m = 0 ∨ m = 1 ∨ m = 2 ∨ m = 3 by omega) with rfl | rfl | rfl | rfl <;> rfl
theorem dims_area (n : Nat) (hn : n < 4) (w h : Int) : (dims4 n w h).1 * (dims4 n w h).2 = w * h := by
  rcases (show n = 0 ∨ n = 1 ∨ n = 2 ∨ n = 3 by omega) with rfl | rfl | rfl | rfl <;> simp only [dims4] <;> first | rfl | exact Int.mul_comm _ _
theorem okP_turned (n : Nat) (hn : n < 4) {w h : Int} {l : List Int} (k : okP w h l) : okP (dims4 n w h).1 (dims4 n w h).2 (turned n w h l) := by
  obtain ⟨h0, h1, h2, h3, h4, _⟩ := okP_r k
  have hd := dims4_le (n := n) h0 h1 h2 h3
  refine ⟨decide_eq_true ⟨hd.1, hd.2.1, hd.2.2.1, hd.2.2.2⟩, ?_⟩
  rw [dims_area n hn, turned, turnTo_len]
  exact h4
/-! ### lists of points -/
theorem rd_set_ne (l : List Int) (i j : Int) (v : Int) (hi : 0 ≤ i) (hj : 0 ≤ j) (h : i ≠ j) : rd (l.set i.toNat v) j = rd l j := by
  show (l.set i.toNat v).getD j.toNat 0 = l.getD j.toNat 0
  rw [List.getD_eq_getElem?_getD, List.getD_eq_getElem?_getD, List.getElem?_set_ne (by omega)]
theorem rd_set_eq (l : List Int) (i : Int) (v : Int) (hi : 0 ≤ i) (h : i < l.length) : rd (l.set i.toNat v) i = v := by
  show (l.set i.toNat v).getD i.toNat 0 = v
  rw [List.getD_eq_getElem?_getD, List.getElem?_set_self (by omega)]; rfl
theorem ext_rd {l m : List Int} (hl : l.length = m.length) (h : ∀ t : Nat, t < l.length → rd l t = rd m t) : l = m := by
  apply List.ext_getElem hl
  intro t h1 h2
  have := h t h1
  have e : ∀ (q : List Int) (hq : t < q.length), rd q (t : Int) = q[t] := fun q hq => by
    show q.getD (t : Int).toNat 0 = q[t]
    rw [Int.toNat_natCast, List.getD_eq_getElem?_getD, List.getElem?_eq_getElem hq]; rfl
  rwa [e l h1, e m h2] at this
/-- Two pictures are the same if their points are. -/
theorem ext_at {w h : Int} {l m : List Int} (hw : 0 ≤ w) (hl : (l.length : Int) = w * h) (hm : (m.length : Int) = w * h) (e : ∀ x y : Int, 0 ≤ x → x < w → 0 ≤ y → y < h → rd l (y * w + x) = rd m (y * w + x)) : l = m := by
  refine ext_rd (by omega) (fun t ht => ?_)
  have hp : 0 < w := by
    rcases Int.lt_or_le 0 w with h_ | h_
    · exact h_
    · have : w = 0 := by omega
      rw [this] at hl; omega
  obtain ⟨c0, c1, c2, c3⟩ := coords hp t
  have := e _ _ c0 c1 c2 (row_lt hp t (by omega))
  rwa [c3] at this
theorem idx_at (n : Nat) (hn : n < 4) {w h : Int} (i : Nat) (hw : 0 < w) (hi : (i : Int) < w * h) : 0 ≤ idx4 n w h i ∧ idx4 n w h i < w * h := by
  obtain ⟨c0, c1, c2, c3⟩ := coords hw i
  have c4 := row_lt hw i hi
  obtain ⟨p0, p1, q0, q1, ar⟩ := place4_in n hn w h _ _ _ _ c0 c1 c2 c4 rfl
  obtain ⟨i0, i1, _⟩ := at_in p0 p1 q0 q1
  rw [ar] at i1
  exact ⟨i0, i1⟩
theorem idx_inj (n : Nat) (hn : n < 4) {w h : Int} (i j : Nat) (hw : 0 < w) (hi : (i : Int) < w * h) (hj : (j : Int) < w * h) (e : idx4 n w h i = idx4 n w h j) : i = j := by
  obtain ⟨c0, c1, c2, c3⟩ := coords hw i
  have c4 := row_lt hw i hi
  obtain ⟨d0, d1, d2, d3⟩ := coords hw j
  have d4 := row_lt hw j hj
  obtain ⟨p0, p1, _⟩ := place4_in n hn w h _ _ _ _ c0 c1 c2 c4 rfl
  obtain ⟨r0, r1, _⟩ := place4_in n hn w h _ _ _ _ d0 d1 d2 d4 rfl
  obtain ⟨e1, e2⟩ := uniq p0 p1 r0 r1 e
  obtain ⟨e3, e4⟩ := place_inj n hn w h _ _ _ _ (Prod.ext e1 e2)
  rw [e3, e4] at c3
  omega
theorem turnTo_at (n : Nat) (hn : n < 4) {w h : Int} {l : List Int} (hl : (l.length : Int) = w * h) (hw : 0 < w) : ∀ j : Nat, j ≤ l.length → ∀ i : Nat, i < j → rd (turnTo n w h l j) (idx4 n w h i) = rd l i
  | 0, _, i, hi => by omega
  | j + 1, hj, i, hi => by
    rw [turnTo]
    have hjj := idx_at n hn (h := h) j hw (by omega)
    have hii := idx_at n hn (h := h) i hw (by omega)
    by_cases e : i = j
    · subst e
      rw [rd_set_eq _ _ _ hjj.1 (by rw [turnTo_len]; omega)]
    · rw [rd_set_ne _ _ _ _ hjj.1 hii.1 (fun q => e (idx_inj n hn i j hw (by omega) (by omega) q.symm))]
      exact turnTo_at n hn hl hw j (by omega) i (by omega)
theorem turned_at (n : Nat) (hn : n < 4) {w h : Int} {l : List Int} (hl : (l.length : Int) = w * h) (x y : Int) (x0 : 0 ≤ x) (x1 : x < w) (y0 : 0 ≤ y) (y1 : y < h) :
    rd (turned n w h l) ((place4 n w h x y).2 * (dims4 n w h).1 + (place4 n w h x y).1) = rd l (y * w + x) := by
  obtain ⟨i, e, ex, ey⟩ := coords_of (w := w) (by omega) x0 x1 y0
  have hi : (i : Int) < w * h := by
    rw [e, Int.mul_comm w h]
    have : (y + 1) * w ≤ h * w := Int.mul_le_mul_of_nonneg_right (by omega) (by omega)
    rw [Int.add_mul, Int.one_mul] at this
    omega
  have := turnTo_at n hn hl (by omega) l.length (Nat.le_refl _) i (by omega)
  unfold idx4 at this
  rw [ex, ey] at this
  rw [← e]
  exact this
theorem turned_ext (n : Nat) (hn : n < 4) {w h : Int} {l m : List Int} (k : okP w h l) (hm : (m.length : Int) = w * h)
    (e : ∀ x y : Int, 0 ≤ x → x < w → 0 ≤ y → y < h → rd m ((place4 n w h x y).2 * (dims4 n w h).1 + (place4 n w h x y).1) = rd l (y * w + x)) : turned n w h l = m := by
  obtain ⟨h0, h1, h2, h3, h4, _⟩ := okP_r k
  have hd := dims4_le (n := n) h0 h1 h2 h3
  have ha := dims_area n hn w h
  refine ext_at (w := (dims4 n w h).1) (h := (dims4 n w h).2) hd.1 (by rw [turned, turnTo_len, ha]; exact h4) (by rw [ha]; exact hm) (fun X Y X0 X1 Y0 Y1 => ?_)
  obtain ⟨p0, p1, q0, q1, _⟩ := place4_in ((4 - n) % 4) (by omega) _ _ X Y w h X0 X1 Y0 Y1 (inv_ok n hn w h)
  have hi := place_inv n hn w h X Y
  have t1 := turned_at n hn h4 _ _ p0 p1 q0 q1
  have t2 := e _ _ p0 p1 q0 q1
  rw [hi] at t1 t2
  rw [t1, t2]
theorem turned_zero {w h : Int} {l : List Int} (k : okP w h l) : turned 0 w h l = l := turned_ext 0 (by decide) k k.2 (fun _ _ _ _ _ _ => rfl)
theorem turned_comp (n m : Nat) (hn : n < 4) (hm : m < 4) {w h : Int} {l : List Int} (k : okP w h l) : turned m (dims4 n w h).1 (dims4 n w h).2 (turned n w h l) = turned ((n + m) % 4) w h l := by
  have kt := okP_turned n hn k
  have k2 := okP_turned m hm kt
  refine (turned_ext ((n + m) % 4) (by omega) k ?_ (fun x y x0 x1 y0 y1 => ?_)).symm
  · rw [k2.2, dims_area m hm, dims_area n hn]
  · obtain ⟨p0, p1, q0, q1, _⟩ := place4_in n hn w h x y _ _ x0 x1 y0 y1 rfl
    have t1 := turned_at n hn k.2 x y x0 x1 y0 y1
    have t2 := turned_at m hm kt.2 _ _ p0 p1 q0 q1
    rw [place_comp n m hn hm, dims_comp n m hn hm, t1] at t2
    exact t2
/-! ### how many are light -/
def cnt (l : List Int) : Nat := l.countP (· != 0)
theorem cnt_set (l : List Int) (i : Int) (v : Int) (h0 : 0 ≤ i) (hi : i < l.length) : cnt (l.set i.toNat v) + (if rd l i = 0 then 0 else 1) = cnt l + (if v = 0 then 0 else 1) := by
  have hn : i.toNat < l.length := by omega
  have e : rd l i = l[i.toNat] := by
    show l.getD i.toNat 0 = _
    rw [List.getD_eq_getElem?_getD, List.getElem?_eq_getElem hn]; rfl
  unfold cnt
  rw [List.countP_set (h := hn), e]
  have hpos : l[i.toNat] ≠ 0 → 0 < l.countP (· != 0) := fun hne => List.countP_pos_iff.2 ⟨_, List.getElem_mem hn, by simpa using hne⟩
  by_cases h1 : l[i.toNat] = 0 <;> by_cases h2 : v = 0 <;> simp [h1, h2]
  · have := hpos h1; omega
  · have := hpos h1; omega
theorem cnt_zero (n : Nat) : cnt (List.replicate n (0 : Int)) = 0 := by
  unfold cnt
  rw [List.countP_eq_zero]
  intro a ha
  rw [(List.mem_replicate.1 ha).2]
  decide
theorem turnTo_zero (n : Nat) (hn : n < 4) {w h : Int} {l : List Int} (hl : (l.length : Int) = w * h) (hw : 0 < w) : ∀ j : Nat, j ≤ l.length → ∀ i : Nat, j ≤ i → i < l.length → rd (turnTo n w h l j) (idx4 n w h i) = 0
  | 0, _, i, _, hi => by
    show (List.replicate l.length (0 : Int)).getD _ 0 = 0
    rw [List.getD_eq_getElem?_getD, List.getElem?_replicate]
    split <;> rfl
  | j + 1, hj, i, hji, hi => by
    rw [turnTo]
    have hjj := idx_at n hn (h := h) j hw (by omega)
    have hii := idx_at n hn (h := h) i hw (by omega)
    rw [rd_set_ne _ _ _ _ hjj.1 hii.1 (fun q => by have := idx_inj n hn i j hw (by omega) (by omega) q.symm; omega)]
    exact turnTo_zero n hn hl hw j (by omega) i (by omega) hi
theorem cnt_take_succ (l : List Int) (j : Nat) (hj : j < l.length) : cnt (l.take (j + 1)) = cnt (l.take j) + (if rd l j = 0 then 0 else 1) := by
  have e : rd l (j : Int) = l[j] := by
    show l.getD (j : Int).toNat 0 = _
    rw [Int.toNat_natCast, List.getD_eq_getElem?_getD, List.getElem?_eq_getElem hj]; rfl
  unfold cnt
  rw [← List.take_append_getElem hj, List.countP_append, e]
  by_cases h1 : l[j] = 0 <;> simp [h1]
theorem turnTo_cnt (n : Nat) (hn : n < 4) {w h : Int} {l : List Int} (hl : (l.length : Int) = w * h) (hw : 0 < w) : ∀ j : Nat, j ≤ l.length → cnt (turnTo n w h l j) = cnt (l.take j)
  | 0, _ => by rw [turnTo, cnt_zero]; rfl
  | j + 1, hj => by
    have hjj := idx_at n hn (h := h) j hw (by omega)
    have h1 := cnt_set (turnTo n w h l j) (idx4 n w h j) (rd l j) hjj.1 (by rw [turnTo_len]; omega)
    rw [turnTo_zero n hn hl hw j (by omega) j (Nat.le_refl _) (by omega), if_pos rfl, turnTo_cnt n hn hl hw j (by omega)] at h1
    rw [turnTo, cnt_take_succ l j (by omega)]
    omega
theorem turned_cnt (n : Nat) (hn : n < 4) {w h : Int} {l : List Int} (k : okP w h l) : cnt (turned n w h l) = cnt l := by
  obtain ⟨h0, h1, h2, h3, h4, _⟩ := okP_r k
  rcases Int.lt_or_le 0 w with hw | hw
  · have := turnTo_cnt n hn h4 hw l.length (Nat.le_refl _)
    rw [List.take_length] at this
    exact this
  · have hz : w = 0 := by omega
    rw [hz, Int.zero_mul] at h4
    have hz2 : l = [] := List.eq_nil_of_length_eq_zero (by omega)
    subst hz2
    rfl
theorem cnt_drop (l : List Int) (i : Nat) (hi : i < l.length) : cnt (l.drop i) = cnt (l.drop (i + 1)) + (if rd l i = 0 then 0 else 1) := by
  have e : rd l (i : Int) = l[i] := by
    show l.getD (i : Int).toNat 0 = _
    rw [Int.toNat_natCast, List.getD_eq_getElem?_getD, List.getElem?_eq_getElem hi]; rfl
  unfold cnt
  rw [List.drop_eq_getElem_cons hi, List.countP_cons, e]
  by_cases h1 : l[i] = 0 <;> simp [h1]
theorem cnt_le (l : List Int) : cnt l ≤ l.length := List.countP_le_length
theorem light_l0 (l : List Int) (hl : l.length ≤ 140737488351232) : ∀ (k i : Nat) (c : Int), i ≤ l.length → l.length - i < k → 0 ≤ c → c + (l.length - i : Nat) ≤ 140737488351232 → screen_Light.l0 k c l (l.length : Int) i = some (c + cnt (l.drop i)) := by
  intro k
  induction k with
  | zero => intro i c h1 h2; omega
  | succ k ih =>
    intro i c h1 h2 h3 h4
    rw [screen_Light.l0]
    have w1 : wrap64 ((i : Int) + 1) = ((i + 1 : Nat) : Int) := by unfold wrap64; omega
    have w2 : wrap64 (c + 1) = c + 1 := by unfold wrap64; omega
    by_cases hi : i < l.length
    · rw [if_pos (by omega), if_pos (by omega), if_pos (by omega), w1, w2, cnt_drop l i hi]
      by_cases hz : rd l (i : Int) = 0
      · rw [if_pos hz, if_pos hz, ih (i + 1) c (by omega) (by omega) h3 (by omega)]
        simp
      · rw [if_neg hz, if_neg hz, ih (i + 1) (c + 1) (by omega) (by omega) (by omega) (by omega)]
        congr 1
        omega
    · rw [if_neg (by omega), List.drop_eq_nil_of_le (by omega)]
      simp [cnt]
theorem light_eq (k : Nat) (w h : Int) (l : List Int) (hl : l.length ≤ 140737488351232) (hk : l.length < k) : screen_Light.f k w h l = some (cnt l : Int) := by
  unfold screen_Light.f
  have := light_l0 l hl k 0 0 (by omega) (by omega) (by omega) (by omega)
  rw [show ((0 : Nat) : Int) = 0 from rfl] at this
  rw [this]
  simp
theorem same_refl (w h : Int) (l : List Int) : tinderref22_Same.f w h l w h l = some true := same_eq _ _ _ _ _ _ rfl
end Go.Proofs.Ytngfijkageapgaa.V
