/- Sums and products of small whole numbers as floating-point words: what the machine's operations give. No condition. -/
import Derived.Laws.ComplexArith
namespace Go.Proofs.Ytngfijkageapgaa.Fl
/-- the word of a whole number -/
def F (n : Int) : Nat := FloatKind.f64.nearest n
/-- the word of a whole number; of a zero the other one, if 'b'. -/
def Z (n : Int) (b : Bool) : Nat := if n = 0 ∧ b = true then 9223372036854775808 else F n
def all (n : Nat) (p : Nat → Bool) : Bool := Nat.rec (motive := fun _ => Bool) true (fun k r => p k && r) n
theorem all_spec {n : Nat} {p : Nat → Bool} (h : all n p = true) (k : Nat) (hk : k < n) : p k = true := by
  induction n with
  | zero => omega
  | succ m ih =>
    have h' : (p m && all m p) = true := h
    rw [Bool.and_eq_true] at h'
    by_cases e : k = m
    · subst e; exact h'.1
    · exact ih h'.2 (by omega)
theorem Z_false (n : Int) : Z n false = F n := by simp [Z]
theorem Z_ne (n : Int) (b : Bool) (h : n ≠ 0) : Z n b = F n := by simp [Z, h]
theorem sub_chk : all 64 (fun m => all (m + 1) fun x => FloatKind.f64.format.sub (F (2 * (x : Int))) (F (m : Int)) == some (F (2 * (x : Int) - (m : Int)))) = true := by decide +kernel
theorem sub_small (x m : Int) (h0 : 0 ≤ x) (h1 : x ≤ m) (h3 : m < 64) : floatBits .sub .f64 (F (2 * x)) (F m) = some (F (2 * x - m)) := by
  obtain ⟨a, rfl⟩ := Int.eq_ofNat_of_zero_le h0
  obtain ⟨b, rfl⟩ := Int.eq_ofNat_of_zero_le (show 0 ≤ m by omega)
  have := all_spec (all_spec sub_chk b (by omega)) a (by omega)
  exact eq_of_beq this
def isZ (o : Option Nat) (n : Int) : Bool := o == some (Z n false) || o == some (Z n true)
theorem isZ_spec {o : Option Nat} {n : Int} (h : isZ o n = true) : ∃ b, o = some (Z n b) := by
  unfold isZ at h
  rw [Bool.or_eq_true] at h
  rcases h with h | h
  · exact ⟨_, eq_of_beq h⟩
  · exact ⟨_, eq_of_beq h⟩
/-- the four words of a turn's number -/
def U : Int → Bool → Nat | 1, _ => F 1 | -1, _ => F (-1) | _, b => Z 0 b
theorem mul_chk : all 127 (fun a => isZ (FloatKind.f64.format.mul (F ((a : Int) - 63)) (F 1)) ((a : Int) - 63) && isZ (FloatKind.f64.format.mul (F ((a : Int) - 63)) (F (-1))) (-((a : Int) - 63))
    && isZ (FloatKind.f64.format.mul (F ((a : Int) - 63)) (Z 0 false)) 0 && isZ (FloatKind.f64.format.mul (F ((a : Int) - 63)) (Z 0 true)) 0) = true := by decide +kernel
theorem mul_all (A : Int) (h0 : -63 ≤ A) (h1 : A ≤ 63) : (∃ b, floatBits .mul .f64 (F A) (F 1) = some (Z A b)) ∧ (∃ b, floatBits .mul .f64 (F A) (F (-1)) = some (Z (-A) b)) ∧ ∀ c, ∃ b, floatBits .mul .f64 (F A) (Z 0 c) = some (Z 0 b) := by
  have h := all_spec mul_chk (A + 63).toNat (by omega)
  rw [show (((A + 63).toNat : Nat) : Int) - 63 = A by omega] at h
  simp only [Bool.and_eq_true] at h
  obtain ⟨⟨⟨h1, h2⟩, h3⟩, h4⟩ := h
  refine ⟨isZ_spec h1, isZ_spec h2, fun c => ?_⟩
  cases c
  · exact isZ_spec h3
  · exact isZ_spec h4
def zer (x y : Nat) (A : Int) : Bool := isZ (FloatKind.f64.format.sub x y) A && isZ (FloatKind.f64.format.sub y x) (-A) && isZ (FloatKind.f64.format.add x y) A && isZ (FloatKind.f64.format.add y x) A
theorem zer_chk : all 127 (fun a => zer (F ((a : Int) - 63)) (Z 0 false) ((a : Int) - 63) && zer (F ((a : Int) - 63)) (Z 0 true) ((a : Int) - 63)) = true := by decide +kernel
theorem zer_chk0 : (zer (Z 0 true) (Z 0 false) 0 && zer (Z 0 true) (Z 0 true) 0) = true := by decide +kernel
theorem zer_all (A : Int) (b c : Bool) (h0 : -63 ≤ A) (h1 : A ≤ 63) : (∃ d, floatBits .sub .f64 (Z A b) (Z 0 c) = some (Z A d)) ∧ (∃ d, floatBits .sub .f64 (Z 0 c) (Z A b) = some (Z (-A) d)) ∧ (∃ d, floatBits .add .f64 (Z A b) (Z 0 c) = some (Z A d)) ∧ (∃ d, floatBits .add .f64 (Z 0 c) (Z A b) = some (Z A d)) := by
  have h : zer (Z A b) (Z 0 c) A = true := by
    by_cases h : A = 0 ∧ b = true
    · obtain ⟨rfl, rfl⟩ := h
      have := zer_chk0
      rw [Bool.and_eq_true] at this
      cases c
      · exact this.1
      · exact this.2
    · rw [show Z A b = F A by unfold Z; rw [if_neg h]]
      have h := all_spec zer_chk (A + 63).toNat (by omega)
      rw [show (((A + 63).toNat : Nat) : Int) - 63 = A by omega, Bool.and_eq_true] at h
      cases c
      · exact h.1
      · exact h.2
  unfold zer at h
  simp only [Bool.and_eq_true] at h
  obtain ⟨⟨⟨h1, h2⟩, h3⟩, h4⟩ := h
  exact ⟨isZ_spec h1, isZ_spec h2, isZ_spec h3, isZ_spec h4⟩
theorem end_chk : all 64 (fun m => all (m + 1) fun k => FloatKind.f64.format.add (F (2 * (k : Int) - (m : Int))) (F (m : Int)) == some (F (2 * (k : Int)))) = true := by decide +kernel
theorem end_chk0 : all 64 (fun m => FloatKind.f64.format.add (Z 0 true) (F (m : Int)) == some (F (m : Int))) = true := by decide +kernel
theorem end_all (k m : Int) (b : Bool) (h0 : 0 ≤ k) (h1 : k ≤ m) (h3 : m < 64) : floatBits .add .f64 (Z (2 * k - m) b) (F m) = some (F (2 * k)) := by
  obtain ⟨a, rfl⟩ := Int.eq_ofNat_of_zero_le h0
  obtain ⟨n, rfl⟩ := Int.eq_ofNat_of_zero_le (show 0 ≤ m by omega)
  by_cases h : 2 * (a : Int) - n = 0 ∧ b = true
  · obtain ⟨h, rfl⟩ := h
    have := all_spec end_chk0 n (by omega)
    rw [h, show 2 * (a : Int) = n by omega]
    exact eq_of_beq this
  · rw [show Z (2 * (a : Int) - n) b = F (2 * (a : Int) - n) by unfold Z; rw [if_neg h]]
    have := all_spec (all_spec end_chk n (by omega)) a (by omega)
    exact eq_of_beq this
theorem int_chk : all 128 (fun n => floatToIntVal .f64 (F (n : Int)) .i64 == some (n : Int)) = true := by decide +kernel
theorem int_all (n : Int) (h0 : 0 ≤ n) (h1 : n < 128) : floatToIntVal .f64 (F n) .i64 = some n := by
  obtain ⟨a, rfl⟩ := Int.eq_ofNat_of_zero_le h0
  exact eq_of_beq (all_spec int_chk a (by omega))
theorem wfF (n : Int) : (Lit.float .f64 (F n)).wf = true := floatOfInt_wf .f64 n
/-- the turns' numbers -/
def uR : Nat → Nat | 0 => F 1 | 1 => Z 0 false | 2 => F (-1) | _ => Z 0 true
def uI : Nat → Nat | 0 => Z 0 false | 1 => F 1 | 2 => Z 0 false | _ => F (-1)
def nR : Nat → Int | 0 => 1 | 1 => 0 | 2 => -1 | _ => 0
def nI : Nat → Int | 0 => 0 | 1 => 1 | 2 => 0 | _ => -1
theorem unit_next (q : Nat) (h : q < 3) : cMulBits (uR q) (uI q) 0 4607182418800017408 = some (uR (q + 1), uI (q + 1)) := by
  rcases (show q = 0 ∨ q = 1 ∨ q = 2 by omega) with rfl | rfl | rfl <;> decide +kernel
theorem unit_first : uR 0 = 4607182418800017408 ∧ uI 0 = 0 := by decide +kernel
theorem mul_unit (q : Nat) (hq : q < 4) (A B : Int) (a0 : -63 ≤ A) (a1 : A ≤ 63) (b0 : -63 ≤ B) (b1 : B ≤ 63) :
    ∃ b c, cMulBits (F A) (F B) (uR q) (uI q) = some (Z (A * nR q - B * nI q) b, Z (A * nI q + B * nR q) c) := by
  obtain ⟨⟨ba, hA1⟩, ⟨bb, hA2⟩, hA3⟩ := mul_all A a0 a1
  obtain ⟨⟨bc, hB1⟩, ⟨bd, hB2⟩, hB3⟩ := mul_all B b0 b1
  unfold cMulBits
  rcases (show q = 0 ∨ q = 1 ∨ q = 2 ∨ q = 3 by omega) with rfl | rfl | rfl | rfl
  · obtain ⟨d, h3⟩ := hB3 false
    obtain ⟨d', h4⟩ := hA3 false
    obtain ⟨e, h5⟩ := (zer_all A ba d a0 a1).1
    obtain ⟨e', h6⟩ := (zer_all B bc d' b0 b1).2.2.2
    refine ⟨e, e', ?_⟩
    simp only [uR, uI, nR, nI, hA1, hB1, h3, h4, h5, h6, Option.bind_some]
    simp
  · obtain ⟨d, h3⟩ := hA3 false
    obtain ⟨d', h4⟩ := hB3 false
    obtain ⟨e, h5⟩ := (zer_all B bc d b0 b1).2.1
    obtain ⟨e', h6⟩ := (zer_all A ba d' a0 a1).2.2.1
    refine ⟨e, e', ?_⟩
    simp only [uR, uI, nR, nI, hA1, hB1, h3, h4, h5, h6, Option.bind_some]
    simp
  · obtain ⟨d, h3⟩ := hB3 false
    obtain ⟨d', h4⟩ := hA3 false
    obtain ⟨e, h5⟩ := (zer_all (-A) bb d (by omega) (by omega)).1
    obtain ⟨e', h6⟩ := (zer_all (-B) bd d' (by omega) (by omega)).2.2.2
    refine ⟨e, e', ?_⟩
    simp only [uR, uI, nR, nI, hA2, hB2, h3, h4, h5, h6, Option.bind_some]
    simp [Int.mul_neg]
  · obtain ⟨d, h3⟩ := hA3 true
    obtain ⟨d', h4⟩ := hB3 true
    obtain ⟨e, h5⟩ := (zer_all (-B) bd d (by omega) (by omega)).2.1
    obtain ⟨e', h6⟩ := (zer_all (-A) bb d' (by omega) (by omega)).2.2.1
    refine ⟨e, e', ?_⟩
    simp only [uR, uI, nR, nI, hA2, hB2, h3, h4, h5, h6, Option.bind_some]
    simp [Int.mul_neg]
end Go.Proofs.Ytngfijkageapgaa.Fl
