/- The plain side of Mirror: where the points come to. No condition. -/
import Derived.Test.YtngfijkageapgaaV3
import Derived.Test.YtngfijkageapgaaPx11
namespace Go.Proofs.Ytngfijkageapgaa.V
open Go.RowKit Go.Proofs.Ytngfijkageapgaa.P Go.Proofs.YtngfijkageapgaaW.PrintWords Go.Proofs.YtngfijkageapgaaW.PrintLast Go.Proofs.YtngfijkageapgaaW.PrintMore
theorem getD_left (A B : List Int) (t : Nat) (h : t < A.length) : (A ++ B).getD t 0 = A.getD t 0 := by
  rw [List.getD_eq_getElem?_getD, List.getD_eq_getElem?_getD, List.getElem?_append_left h]
theorem getD_right (A B : List Int) (t : Nat) (h : A.length ≤ t) : (A ++ B).getD t 0 = B.getD (t - A.length) 0 := by
  rw [List.getD_eq_getElem?_getD, List.getD_eq_getElem?_getD, List.getElem?_append_right h]
theorem getD_take (A : List Int) (n t : Nat) (h : t < n) : (A.take n).getD t 0 = A.getD t 0 := by
  rw [List.getD_eq_getElem?_getD, List.getD_eq_getElem?_getD, List.getElem?_take_of_lt h]
theorem getD_drop (A : List Int) (n t : Nat) : (A.drop n).getD t 0 = A.getD (n + t) 0 := by
  rw [List.getD_eq_getElem?_getD, List.getD_eq_getElem?_getD, List.getElem?_drop]
theorem getD_rev (A : List Int) (t : Nat) (h : t < A.length) : A.reverse.getD t 0 = A.getD (A.length - 1 - t) 0 := by
  rw [List.getD_eq_getElem?_getD, List.getD_eq_getElem?_getD, List.getElem?_reverse h]
theorem mirTo_at (W H : Nat) (l : List Int) (hl : l.length = W * H) : ∀ j, j ≤ H → ∀ x y, x < W → y < H → (mirTo W l j).getD (y * W + x) 0 = if y < j then l.getD (y * W + (W - 1 - x)) 0 else l.getD (y * W + x) 0
  | 0, _, x, y, _, _ => by rw [if_neg (Nat.not_lt_zero _)]; rfl
  | j + 1, hj, x, y, hx, hy => by
    have ih := mirTo_at W H l hl j (by omega)
    have hM : (mirTo W l j).length = W * H := by rw [mirTo_len, hl]
    have hjW : (j + 1) * W ≤ H * W := Nat.mul_le_mul_right W hj
    rw [Nat.add_mul, Nat.one_mul, Nat.mul_comm H W] at hjW
    have hyW : (y + 1) * W ≤ H * W := Nat.mul_le_mul_right W hy
    rw [Nat.add_mul, Nat.one_mul, Nat.mul_comm H W] at hyW
    have lt1 : ((mirTo W l j).take (j * W)).length = j * W := by rw [List.length_take]; omega
    have lt2 : (((mirTo W l j).drop (j * W)).take W).length = W := by rw [List.length_take, List.length_drop]; omega
    rw [mirTo]
    rcases Nat.lt_trichotomy y j with h | h | h
    · have h2 : (y + 1) * W ≤ j * W := Nat.mul_le_mul_right W h
      rw [Nat.add_mul, Nat.one_mul] at h2
      rw [List.append_assoc, getD_left _ _ _ (by omega), getD_take _ _ _ (by omega), ih x y hx hy, if_pos h, if_pos (by omega)]
    · subst h
      rw [List.append_assoc, getD_right _ _ _ (by omega), lt1, getD_left _ _ _ (by rw [List.length_reverse]; omega), getD_rev _ _ (by omega), lt2, getD_take _ _ _ (by omega), getD_drop, show y * W + (W - 1 - (y * W + x - y * W)) = y * W + (W - 1 - x) by omega, ih (W - 1 - x) y (by omega) hy, if_neg (by omega), if_pos (by omega)]
    · have h2 : (j + 1) * W ≤ y * W := Nat.mul_le_mul_right W h
      rw [Nat.add_mul, Nat.one_mul] at h2
      rw [getD_right _ _ _ (by rw [List.length_append, List.length_reverse]; omega), List.length_append, List.length_reverse, lt1, lt2, getD_drop, getD_drop, show j * W + (W + (y * W + x - (j * W + W))) = y * W + x by omega, ih x y hx hy, if_neg (by omega), if_neg (by omega)]
def mir (w h : Int) (l : List Int) : List Int := mirTo w.toNat l h.toNat
theorem mir_len (w h : Int) (l : List Int) : (mir w h l).length = l.length := mirTo_len _ _ _
theorem mir_at {w h : Int} {l : List Int} (k : okP w h l) (x y : Int) (x0 : 0 ≤ x) (x1 : x < w) (y0 : 0 ≤ y) (y1 : y < h) : rd (mir w h l) (y * w + x) = rd l (y * w + (w - 1 - x)) := by
  obtain ⟨h0, h1, h2, h3, h4, _⟩ := okP_r k
  obtain ⟨W, rfl⟩ := Int.eq_ofNat_of_zero_le h0
  obtain ⟨H, rfl⟩ := Int.eq_ofNat_of_zero_le h2
  obtain ⟨X, rfl⟩ := Int.eq_ofNat_of_zero_le x0
  obtain ⟨Y, rfl⟩ := Int.eq_ofNat_of_zero_le y0
  have hl : l.length = W * H := by
    have : ((l.length : Nat) : Int) = ((W * H : Nat) : Int) := by rw [h4, Int.natCast_mul]
    omega
  have e1 : ((Y : Int) * (W : Int) + (X : Int)).toNat = Y * W + X := by
    rw [← Int.natCast_mul]; omega
  have e2 : ((Y : Int) * (W : Int) + ((W : Int) - 1 - (X : Int))).toNat = Y * W + (W - 1 - X) := by
    rw [← Int.natCast_mul]; omega
  show (mirTo (W : Int).toNat l (H : Int).toNat).getD ((Y : Int) * (W : Int) + (X : Int)).toNat 0 = l.getD ((Y : Int) * (W : Int) + ((W : Int) - 1 - (X : Int))).toNat 0
  rw [e1, e2, Int.toNat_natCast, Int.toNat_natCast, mirTo_at W H l hl H (Nat.le_refl _) X Y (by omega) (by omega), if_pos (by omega)]
theorem okP_mir {w h : Int} {l : List Int} (k : okP w h l) : okP w h (mir w h l) := ⟨k.1, by rw [mir_len]; exact k.2⟩
theorem mirror_ok (w h : Int) (l : List Int) (k : okP w h l) : screen_Mirror.f w h l = some (w, h, mir w h l, 0) := by
  unfold screen_Mirror.f
  rw [formed_eq, decide_eq_true k, Option.bind_some, if_pos rfl]
  obtain ⟨h0, h1, h2, h3, h4, _⟩ := okP_r k
  rw [if_pos ⟨h0, h1, h2, h3, h4⟩]
  rfl
theorem mirror_no (w h : Int) (l : List Int) (k : ¬ okP w h l) : screen_Mirror.f w h l = some (0, 0, [], 1) := by
  unfold screen_Mirror.f
  rw [formed_eq, decide_eq_false k, Option.bind_some, if_neg Bool.false_ne_true]
theorem mir_mir {w h : Int} {l : List Int} (k : okP w h l) : mir w h (mir w h l) = l := by
  obtain ⟨h0, _⟩ := okP_r k
  refine ext_at (w := w) (h := h) h0 (okP_mir (okP_mir k)).2 k.2 (fun x y x0 x1 y0 y1 => ?_)
  rw [mir_at (okP_mir k) x y x0 x1 y0 y1, mir_at k (w - 1 - x) y (by omega) (by omega) y0 y1, show w - 1 - (w - 1 - x) = x by omega]
theorem dims_neg (n : Nat) (hn : n < 4) (w h : Int) : dims4 ((4 - n) % 4) w h = dims4 n w h := by
  rcases (show n = 0 ∨ n = 1 ∨ n = 2 ∨ n = 3 by omega) with rfl | rfl | rfl | rfl <;> rfl
theorem place_mir (n : Nat) (hn : n < 4) (w h x y : Int) : place4 ((4 - n) % 4) w h (w - 1 - x) y = ((dims4 n w h).1 - 1 - (place4 n w h x y).1, (place4 n w h x y).2) := by
  rcases (show n = 0 ∨ n = 1 ∨ n = 2 ∨ n = 3 by omega) with rfl | rfl | rfl | rfl <;> apply Prod.ext <;> simp [dims4, place4] <;> omega
theorem turned_mir (n : Nat) (hn : n < 4) {w h : Int} {l : List Int} (k : okP w h l) : turned n w h (mir w h l) = mir (dims4 n w h).1 (dims4 n w h).2 (turned ((4 - n) % 4) w h l) := by
  have km := okP_mir k
  have kt := okP_turned ((4 - n) % 4) (by omega) k
  rw [dims_neg n hn] at kt
  refine turned_ext n hn km ?_ (fun x y x0 x1 y0 y1 => ?_)
  · rw [mir_len, turned, turnTo_len]; exact k.2
  · obtain ⟨p0, p1, q0, q1, _⟩ := place4_in n hn w h x y _ _ x0 x1 y0 y1 rfl
    have t1 := turned_at ((4 - n) % 4) (by omega) k.2 (w - 1 - x) y (by omega) (by omega) y0 y1
    rw [place_mir n hn, dims_neg n hn] at t1
    rw [mir_at kt _ _ p0 p1 q0 q1, mir_at k x y x0 x1 y0 y1]
    exact t1
end Go.Proofs.Ytngfijkageapgaa.V
