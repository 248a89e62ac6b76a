/- Plain closed forms: what stands behind a code, which tokens are right. -/
import Derived.Test.YtfaebbmngplilaaPx4
import Derived.Test.YtfaebbmngplilaaG
namespace Go.Proofs.Ytfaebbmngplilaa.V
open Go.RowKit Go.Proofs.Ytfaebbmngplilaa.P Go.Proofs.Ytfaebbmngplilaa.G Go.Proofs.YtfaebbmngplilaaW.PrintWords Go.Proofs.YtfaebbmngplilaaW.PrintLast Go.Proofs.YtfaebbmngplilaaW.PrintMore
set_option linter.unusedVariables false

/-- What stands behind a code: 1 a number, 2 a code, 3 a text, 4 an offset, 5 a new code, 6 a name and a new code, 0 nothing. -/
def kindOf (c : Int) : Int :=
  if c = 16 then 1 else if c = 17 then 2 else if c = 195 then 2 else if c = 18 then 3 else if c = 19 then 4 else if c = 20 then 4 else if c = 21 then 4 else if c = 22 then 4 else
  if c = 23 then 4 else if c = 24 then 4 else if c = 28 then 4 else if c = 198 then 4 else if c = 181 then 5 else if c = 182 then 6 else if c = 202 then 6 else 0
theorem codes (c : Int) : c = 16 ∨ c = 17 ∨ c = 195 ∨ c = 18 ∨ c = 19 ∨ c = 20 ∨ c = 21 ∨ c = 22 ∨ c = 23 ∨ c = 24 ∨ c = 28 ∨ c = 198 ∨ c = 181 ∨ c = 182 ∨ c = 202 ∨
    (¬ c = 16 ∧ ¬ c = 17 ∧ ¬ c = 195 ∧ ¬ c = 18 ∧ ¬ c = 19 ∧ ¬ c = 20 ∧ ¬ c = 21 ∧ ¬ c = 22 ∧ ¬ c = 23 ∧ ¬ c = 24 ∧ ¬ c = 28 ∧ ¬ c = 198 ∧ ¬ c = 181 ∧ ¬ c = 182 ∧ ¬ c = 202) := by omega
theorem kind_other {c : Int} (h : ¬ c = 16 ∧ ¬ c = 17 ∧ ¬ c = 195 ∧ ¬ c = 18 ∧ ¬ c = 19 ∧ ¬ c = 20 ∧ ¬ c = 21 ∧ ¬ c = 22 ∧ ¬ c = 23 ∧ ¬ c = 24 ∧ ¬ c = 28 ∧ ¬ c = 198 ∧ ¬ c = 181 ∧ ¬ c = 182 ∧ ¬ c = 202) : kindOf c = 0 := by
  obtain ⟨h1, h2, h3, h4, h5, h6, h7, h8, h9, h10, h11, h12, h13, h14, h15⟩ := h
  unfold kindOf
  rw [if_neg h1, if_neg h2, if_neg h3, if_neg h4, if_neg h5, if_neg h6, if_neg h7, if_neg h8, if_neg h9, if_neg h10, if_neg h11, if_neg h12, if_neg h13, if_neg h14, if_neg h15]
theorem kind_range (c : Int) : kindOf c = 0 ∨ kindOf c = 1 ∨ kindOf c = 2 ∨ kindOf c = 3 ∨ kindOf c = 4 ∨ kindOf c = 5 ∨ kindOf c = 6 := by
  rcases codes c with rfl | rfl | rfl | rfl | rfl | rfl | rfl | rfl | rfl | rfl | rfl | rfl | rfl | rfl | rfl | h
  all_goals first | decide | skip
  exact .inl (kind_other h)
theorem kind_le (c : Int) : 0 ≤ kindOf c ∧ kindOf c ≤ 6 := by
  rcases kind_range c with h | h | h | h | h | h | h <;> rw [h] <;> decide
theorem behind_eq {k : Nat} (hk : 6 ≤ k) (c : Int) : token_behind.f k c = some (kindOf c) := by
  rcases codes c with rfl | rfl | rfl | rfl | rfl | rfl | rfl | rfl | rfl | rfl | rfl | rfl | rfl | rfl | rfl | h
  all_goals first | (exact at_rounds (g := fun k => token_behind.f k _) (fun k => token_behind.mono _ k) hk (by decide +kernel)) | skip
  rw [kind_other h]
  obtain ⟨h1, h2, h3, h4, h5, h6, h7, h8, h9, h10, h11, h12, h13, h14, h15⟩ := h
  obtain ⟨k, rfl⟩ : ∃ m, k = m + 1 + 1 := ⟨k - 2, by omega⟩
  unfold token_behind.f
  rw [if_neg h1, if_neg h2, token_behind.j0, beq_eq_false_iff_ne.mpr h3, if_neg (by decide), if_neg h4, if_neg h5, if_neg h6, if_neg h7, if_neg h8, if_neg h9, if_neg h10, if_neg h11, token_behind.j1, beq_eq_false_iff_ne.mpr h12, if_neg (by decide), if_neg h13, if_neg h14, if_neg h15]
def coded (c : Int) : Bool := decide (c = 0 ∨ 16 ≤ c ∧ c ≤ 4095)
theorem coded_eq (c : Int) : token_coded.f c = some (coded c) := by
  unfold token_coded.f coded
  by_cases h : c = 0
  · rw [if_pos h, decide_eq_true (.inl h)]
  · rw [if_neg h]
    by_cases h2 : c ≥ 16
    · rw [if_pos h2]
      congr 1
      rw [decide_eq_decide]
      omega
    · rw [if_neg h2, decide_eq_false (by omega)]
/-- What a right token's fields are, by what stands behind its code. -/
def okK (kd : Int) (most : Int) (t : S34) : Bool :=
  if kd = 1 then true else if kd = 2 then decide (t.f1 ≤ 4095) && coded t.f1 else if kd = 3 then decide (t.f1 = 0) && decide ((t.f2.size : Int) ≤ 255) else
  if kd = 4 then decide (t.f1 = 0) && (decide (-most ≤ t.f3) && decide (t.f3 < most)) else if kd = 5 ∨ kd = 6 then decide (2048 ≤ t.f1) && (decide (t.f1 ≤ 4095) && decide ((t.f2.size : Int) ≤ 31)) else decide (t.f1 = 0)
def mostOf (wide : Bool) : Int := if wide = true then 32768 else 128
def okTok (t : S34) (wide : Bool) : Bool :=
  coded t.f0 && ((decide (kindOf t.f0 = 4) || decide (t.f3 = 0)) && ((decide (kindOf t.f0 = 3) || decide (kindOf t.f0 = 6) || decide (t.f2.toList = [])) && okK (kindOf t.f0) (mostOf wide) t))
theorem j1_eq {k : Nat} (kd m : Int) (x : Bool) (t : S34) (hkd : kd = 0 ∨ kd = 1 ∨ kd = 2 ∨ kd = 3 ∨ kd = 4 ∨ kd = 5 ∨ kd = 6) (hm : m = 128 ∨ m = 32768) (h1 : 0 ≤ t.f1 ∧ t.f1 ≤ 4294967295) :
    token_right.j1 (k + 1) kd m x t.f0 t.f1 t.f2 t.f3 = some (!x && okK kd m t) := by
  have e : wrap64 (-m) = -m := w64 (by omega) (by omega)
  have e1 : wrap64 t.f1 = t.f1 := w64 (by omega) (by omega)
  rw [token_right.j1, e, e1, coded_eq]
  cases x with
  | true => rfl
  | false =>
    unfold okK
    rcases hkd with rfl | rfl | rfl | rfl | rfl | rfl | rfl
    all_goals simp only [if_neg (show ¬ (false = true) by decide), Option.bind_some, Bool.not_false, Bool.true_and]
    · rfl
    · rfl
    · by_cases h : t.f1 ≤ 4095 <;> simp [h]
    · by_cases h : t.f1 = 0 <;> simp [h]
    · by_cases h : t.f1 = 0 <;> by_cases h2 : t.f3 ≥ -m <;> simp [h, h2]
    · by_cases h : t.f1 ≥ 2048 <;> by_cases h2 : t.f1 ≤ 4095 <;> simp [h, h2]
    · by_cases h : t.f1 ≥ 2048 <;> by_cases h2 : t.f1 ≤ 4095 <;> simp [h, h2]
theorem right_eq {k : Nat} (hk : 8 ≤ k) (t : S34) (h1 : 0 ≤ t.f1 ∧ t.f1 ≤ 4294967295) (wide : Bool) : token_right.f k t.f0 t.f1 t.f2 t.f3 wide = some (okTok t wide) := by
  obtain ⟨k, rfl⟩ : ∃ m, k = m + 1 + 1 := ⟨k - 2, by omega⟩
  have key : ∀ m, (m = 128 ∨ m = 32768) → token_right.j0 (k + 1 + 1) (kindOf t.f0) m t.f0 t.f1 t.f2 t.f3 = some (coded t.f0 && ((decide (kindOf t.f0 = 4) || decide (t.f3 = 0)) && ((decide (kindOf t.f0 = 3) || decide (kindOf t.f0 = 6) || decide (t.f2.toList = [])) && okK (kindOf t.f0) m t))) := by
    intro m hm
    have hj := fun x => j1_eq (k := k) (kindOf t.f0) m x t (kind_range _) hm h1
    rw [token_right.j0, coded_eq, Option.bind_some, hj, hj, hj]
    cases coded t.f0 with
    | false => rfl
    | true =>
      have hb : (t.f2.toList != ([] : List UInt8)) = !decide (t.f2.toList = []) := by
        cases t.f2.toList <;> simp
      rw [hb]
      by_cases h4 : kindOf t.f0 = 4
      · rw [h4]
        simp
      · by_cases h3 : t.f3 = 0 <;> by_cases h5 : kindOf t.f0 = 3 <;> by_cases h6 : kindOf t.f0 = 6 <;> simp [h3, h4, h5, h6]
  unfold token_right.f okTok mostOf
  rw [behind_eq (by omega), Option.bind_some]
  cases wide with
  | true => exact key _ (.inr rfl)
  | false => exact key _ (.inl rfl)
end Go.Proofs.Ytfaebbmngplilaa.V
