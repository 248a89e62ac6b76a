/- The plain side of Place, New, Quarters: what the printed functions come to. No condition. -/
import Derived.Test.YtngfijkageapgaaPx2
import Derived.Test.YtngfijkageapgaaPx3
import Derived.Test.YtngfijkageapgaaPx4
import Derived.Test.YtngfijkageapgaaPx5
namespace Go.Proofs.Ytngfijkageapgaa.V
open Go.RowKit Go.Proofs.Ytngfijkageapgaa.P Go.Proofs.YtngfijkageapgaaW.PrintWords Go.Proofs.YtngfijkageapgaaW.PrintLast Go.Proofs.YtngfijkageapgaaW.PrintMore
theorem wf64 {a : Int} (h : (Lit.int .i64 a).wf = true) : -9223372036854775808 ≤ a ∧ a ≤ 9223372036854775807 := by
  have hmin : IntKind.i64.min = -9223372036854775808 := rfl
  have hmax : IntKind.i64.max = 9223372036854775807 := rfl
  simp only [Lit.wf, Bool.and_eq_true, decide_eq_true_eq, hmin, hmax] at h
  exact h
theorem and_mask (a : Int) (i : Nat) (hi : i ≤ 8) : Go.bits .and .i64 a ((2 ^ i - 1 : Nat) : Int) = a % ((2 ^ i : Nat) : Int) := by
  have hp : 2 ^ i ≤ 2 ^ 8 := Nat.pow_le_pow_right (by decide) hi
  have h0 : 0 < 2 ^ i := Nat.two_pow_pos i
  have hd : (2 : Nat) ^ i ∣ 2 ^ 64 := Nat.pow_dvd_pow 2 (by omega)
  have e1 : (BitVec.ofInt 64 ((2 ^ i - 1 : Nat) : Int)).toNat = 2 ^ i - 1 := by
    rw [BitVec.ofInt_natCast, BitVec.toNat_ofNat]
    exact Nat.mod_eq_of_lt (by omega)
  have e2 : ((BitVec.ofInt 64 a &&& BitVec.ofInt 64 ((2 ^ i - 1 : Nat) : Int)).toNat : Int) = a % ((2 ^ i : Nat) : Int) := by
    rw [BitVec.toNat_and, e1, Nat.and_two_pow_sub_one_eq_mod, BitVec.toNat_ofInt, Int.natCast_emod, Int.toNat_of_nonneg (Int.emod_nonneg _ (by decide))]
    exact Int.emod_emod_of_dvd a (Int.natCast_dvd_natCast.2 hd)
  have hr : 0 ≤ a % ((2 ^ i : Nat) : Int) ∧ a % ((2 ^ i : Nat) : Int) < ((2 ^ i : Nat) : Int) := ⟨Int.emod_nonneg _ (by omega), Int.emod_lt_of_pos _ (by omega)⟩
  show IntKind.i64.wrap ((BitVec.ofInt 64 a &&& BitVec.ofInt 64 ((2 ^ i - 1 : Nat) : Int)).toNat : Int) = _
  rw [e2, i64_w]
  have h9 : 2 ^ i ≤ 256 := hp
  generalize 2 ^ i = m at hr h9
  unfold wrap64
  omega
theorem and3 (a : Int) : Go.bits .and .i64 a 3 = a % 4 := and_mask a 2 (by decide)
theorem and1 (a : Int) : Go.bits .and .i64 a 1 = a % 2 := and_mask a 1 (by decide)
theorem qn_eq (a : Int) : qn a = some (a % 4).toNat := by
  unfold qn
  rw [and3, and1, if_pos ⟨by omega, by omega, by omega⟩]
theorem tmod4 (a : Int) : Int.tmod (Int.tmod a 4 + 4) 4 = a % 4 ∧ -4 < Int.tmod a 4 ∧ Int.tmod a 4 < 4 := by
  have h1 : Int.tmod a 4 = if 0 ≤ a then a % 4 else -((-a) % 4) := by
    split
    · rw [Int.tmod_eq_emod_of_nonneg (by assumption)]
    · have := Int.neg_tmod (a := -a) (b := 4)
      rw [Int.neg_neg] at this
      rw [this, Int.tmod_eq_emod_of_nonneg (by omega)]
  have h2 : -4 < Int.tmod a 4 ∧ Int.tmod a 4 < 4 := by rw [h1]; split <;> omega
  refine ⟨?_, h2⟩
  rw [Int.tmod_eq_emod_of_nonneg (by omega), h1]
  split <;> omega
theorem quarters_eq (a : Int) : tinderref22_Quarters.f a = some (a % 4) := by
  unfold tinderref22_Quarters.f
  obtain ⟨h, h0, h1⟩ := tmod4 a
  rw [show wrap64 (Int.tmod a 4 + 4) = Int.tmod a 4 + 4 by unfold wrap64; omega, h]
def okSize (w h : Int) : Bool := decide (0 ≤ w ∧ w ≤ 64 ∧ 0 ≤ h ∧ h ≤ 64)
theorem sized_eq (w h : Int) : screen_sized.f w h = some (okSize w h) := by
  unfold screen_sized.f okSize
  repeat' split
  all_goals simp_all <;> omega
theorem rsized_eq (w h : Int) : tinderref22_sized.f w h = some (okSize w h) := by
  unfold tinderref22_sized.f okSize
  repeat' split
  all_goals simp_all <;> omega
theorem new_eq (w h : Int) : ∃ r, screen_New.f w h = some r ∧ tinderref22_New.f w h = some r := by
  unfold screen_New.f tinderref22_New.f
  rw [sized_eq, rsized_eq]
  simp only [Option.bind_some]
  by_cases hs : okSize w h = true
  · rw [if_pos hs]
    unfold okSize at hs
    have hs := of_decide_eq_true hs
    have h0 : 0 ≤ w * h := Int.mul_nonneg hs.1 hs.2.2.1
    have h1 : w * h ≤ 64 * 64 := Int.mul_le_mul hs.2.1 hs.2.2.2 hs.2.2.1 (by decide)
    have hw : wrap64 (w * h) = w * h := by unfold wrap64; omega
    rw [hw, if_pos h0, if_pos (by omega)]
    exact ⟨_, rfl, rfl⟩
  · rw [if_neg hs]
    exact ⟨_, rfl, rfl⟩
theorem same_eq (w h : Int) (l : List Int) (w2 h2 : Int) (l2 : List Int) (e : (w, h, l) = (w2, h2, l2)) : tinderref22_Same.f w h l w2 h2 l2 = some true := by
  simp only [Prod.mk.injEq] at e
  obtain ⟨rfl, rfl, rfl⟩ := e
  simp [tinderref22_Same.f, tinderref04_Same.f]
theorem alive_eq : tinderlaw22_alive.f = some true := by decide +kernel
def placeR (w h q x y : Int) : Int × Int := if okSize w h = true ∧ 0 ≤ x ∧ x < w ∧ 0 ≤ y ∧ y < h then place4 (q % 4).toNat w h x y else (0, 0)
theorem place_eq (w h q x y : Int) : screen_Place.f w h q x y = some (placeR w h q x y) := by
  unfold screen_Place.f placeR
  rw [sized_eq]
  simp only [Option.bind_some]
  by_cases hs : okSize w h = true
  · rw [if_pos hs]
    have hs2 := hs
    unfold okSize at hs2
    have hs2 := of_decide_eq_true hs2
    by_cases h1 : x < 0
    · rw [if_pos h1, if_neg (by omega)]
    rw [if_neg h1]
    by_cases h2 : x ≥ w
    · rw [if_pos h2, if_neg (by omega)]
    rw [if_neg h2]
    by_cases h3 : y < 0
    · rw [if_pos h3, if_neg (by omega)]
    rw [if_neg h3]
    by_cases h4 : y ≥ h
    · rw [if_pos h4, if_neg (by omega)]
    rw [if_neg h4, if_pos ⟨hs2.2.1, hs2.2.2.2⟩, qn_eq, if_pos ⟨hs, by omega, by omega, by omega, by omega⟩]
    rfl
  · rw [if_neg hs, if_neg (fun hc => hs hc.1)]
theorem w64s {x : Int} (h0 : -1000000 ≤ x) (h1 : x < 1000000) : wrap64 x = x := by unfold wrap64; omega
theorem rplace_l0 (w h q x y : Int) (hw : w ≤ 64) (hh : h ≤ 64) (x0 : 0 ≤ x) (x1 : x < w) (y0 : 0 ≤ y) (y1 : y < h) : tinderref22_Place.l0 6 w h q x y 0 = some (place4 (q % 4).toNat w h x y) := by
  have hq : q % 4 = 0 ∨ q % 4 = 1 ∨ q % 4 = 2 ∨ q % 4 = 3 := by omega
  simp only [tinderref22_Place.l0, quarters_eq, Option.bind_some]
  have s0 : wrap64 (0 + 1) = 1 := w64s (x := 1) (by decide) (by decide)
  have s1 : wrap64 (1 + 1) = 2 := w64s (x := 2) (by decide) (by decide)
  have s2 : wrap64 (2 + 1) = 3 := w64s (x := 3) (by decide) (by decide)
  have s3 : wrap64 (3 + 1) = 4 := w64s (x := 4) (by decide) (by decide)
  have w1 : wrap64 (h - 1) = h - 1 := w64s (by omega) (by omega)
  have w2 : wrap64 (h - 1 - y) = h - 1 - y := w64s (by omega) (by omega)
  have w3 : wrap64 (w - 1) = w - 1 := w64s (by omega) (by omega)
  have w4 : wrap64 (w - 1 - x) = w - 1 - x := w64s (by omega) (by omega)
  have w5 : wrap64 (h - 1 - (h - 1 - y)) = y := by rw [w64s (by omega) (by omega)]; omega
  simp only [s0, s1, s2, s3, w1, w2, w3, w4, w5]
  rcases hq with e | e | e | e <;> rw [e] <;> simp [place4]
theorem rplace_eq (w h q x y : Int) : tinderref22_Place.f 7 w h q x y = some (placeR w h q x y) := by
  unfold tinderref22_Place.f placeR
  rw [rsized_eq]
  simp only [Option.bind_some]
  by_cases hs : okSize w h = true
  · rw [if_pos hs]
    have hs2 := hs
    unfold okSize at hs2
    have hs2 := of_decide_eq_true hs2
    by_cases h1 : x < 0
    · rw [if_pos h1, if_neg (by omega)]; rfl
    rw [if_neg h1]
    by_cases h2 : x ≥ w
    · rw [if_pos h2, if_neg (by omega)]; rfl
    rw [if_neg h2]
    by_cases h3 : y < 0
    · rw [if_pos h3, if_neg (by omega)]; rfl
    rw [if_neg h3]
    by_cases h4 : y ≥ h
    · rw [decide_eq_true h4, if_neg (by omega)]; rfl
    rw [decide_eq_false h4, if_pos ⟨hs, by omega, by omega, by omega, by omega⟩]
    show tinderref22_Place.l0 6 w h q x y 0 = _
    exact rplace_l0 w h q x y hs2.2.1 hs2.2.2.2 (by omega) (by omega) (by omega) (by omega)
  · rw [if_neg hs, if_neg (fun hc => hs hc.1)]; rfl
end Go.Proofs.Ytngfijkageapgaa.V
