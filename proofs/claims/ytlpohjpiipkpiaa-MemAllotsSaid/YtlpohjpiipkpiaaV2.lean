/- A memory that grows: closed forms. -/
import Derived.Test.YtlpohjpiipkpiaaV1
namespace Go.Proofs.Ytlpohjpiipkpiaa.V
open Go.RowKit Go.Proofs.Ytlpohjpiipkpiaa.P Go.Proofs.Ytlpohjpiipkpiaa.G Go.Proofs.YtlpohjpiipkpiaaW.PrintWords Go.Proofs.YtlpohjpiipkpiaaW.PrintLast Go.Proofs.YtlpohjpiipkpiaaW.PrintMore
set_option linter.unusedVariables false

theorem and_not3 (a : Nat) (ha : a < 2 ^ 62) : a &&& (2 ^ 64 - 4) = a / 4 * 4 := by
  apply Nat.eq_of_testBit_eq
  intro i
  rw [show 2 ^ 64 - 4 = (2 ^ 62 - 1) <<< 2 by decide, Nat.testBit_and, Nat.testBit_shiftLeft, Nat.testBit_two_pow_sub_one, show a / 4 * 4 = (a / 2 ^ 2) <<< 2 by rw [Nat.shiftLeft_eq], Nat.testBit_shiftLeft, Nat.testBit_div_two_pow]
  by_cases h2 : 2 ≤ i
  · simp only [ge_iff_le, h2, decide_true, Bool.true_and]
    rw [show i - 2 + 2 = i by omega]
    by_cases h3 : i - 2 < 62
    · simp [h3]
    · have : a.testBit i = false := Nat.testBit_lt_two_pow (Nat.lt_of_lt_of_le ha (Nat.pow_le_pow_right (by decide) (by omega)))
      simp [this]
  · simp [h2]
theorem bits_andNot3 {x : Int} (h0 : 0 ≤ x) (h1 : x < 2 ^ 62) : Go.bits .andNot .i64 x 3 = x / 4 * 4 := by
  obtain ⟨a, rfl⟩ := Int.eq_ofNat_of_zero_le h0
  have ha : a < 2 ^ 62 := by omega
  have ha' : a % 2 ^ IntKind.i64.bits = a := Nat.mod_eq_of_lt (Nat.lt_trans ha (by decide))
  have h3 : (3 : Int) = ((3 : Nat) : Int) := rfl
  have hm : (3 : Nat) % 2 ^ IntKind.i64.bits = 3 := by decide
  have e : Go.bits .andNot .i64 (a : Int) 3 = IntKind.i64.wrap (((a &&& (2 ^ 64 - 4) : Nat)) : Int) := by
    rw [h3]
    simp only [bits, BitVec.ofInt_natCast, BitVec.toNat_and, BitVec.toNat_not, BitVec.toNat_ofNat, ha', hm]
    rfl
  rw [e, and_not3 a ha, ww64 (by omega) (by omega)]
  omega
/-- Where the new memory begins. -/
def at4 (l : List Int) : Nat := (l.length + 3) / 4 * 4
theorem at4_le (l : List Int) : l.length ≤ at4 l ∧ at4 l ≤ l.length + 3 := by unfold at4; omega
def grown (l : List Int) (n : Int) : List Int := l ++ List.replicate (at4 l + n.toNat - l.length) 0
theorem allot_eq {l : List Int} {n : Int} (hl : Sh l) (hn : U n) : mem_Allot.f l n = some (if 4096 < (at4 l : Int) + n then ([], 0, 10) else (grown l n, (at4 l : Int), 0)) := by
  have h4 := at4_le l
  unfold mem_Allot.f
  unfold Sh at hl
  unfold U at hn
  have e : Go.bits .andNot .i64 ((l.length : Int) + 3) 3 = (at4 l : Int) := by
    rw [bits_andNot3 (by omega) (by omega)]
    unfold at4
    omega
  rw [e, if_pos ⟨by omega, by omega, by omega, by omega⟩]
  by_cases h1 : (at4 l : Int) > 4096
  · rw [if_pos h1, if_pos (by omega)]
  · rw [if_neg h1]
    by_cases h2 : n > 4096 - (at4 l : Int)
    · rw [if_pos h2, if_pos (by omega)]
    · rw [if_neg h2, if_neg (by omega), show ((at4 l : Int) + n).toNat = at4 l + n.toNat by omega, List.take_of_length_le (show l.length ≤ at4 l + n.toNat by omega)]
      unfold grown splice
      rw [Nat.zero_add, List.take_zero, List.nil_append, List.drop_replicate]
theorem rallot_loop {n at_ : Int} (hn : U n) (h0 : 0 ≤ at_) (h1 : at_ + n ≤ 4096) (d : Nat) : ∀ (k : Nat) (l : List Int), (l.length : Int) ≤ at_ + n → (at_ + n).toNat - l.length = d → d < k →
    tinderref04_Allot.l0 k n at_ l (l.length : Int) = some (l ++ List.replicate ((at_ + n).toNat - l.length) 0, at_, 0) := by
  unfold U at hn
  induction d with
  | zero =>
    intro k l hl hd hk
    obtain ⟨k, rfl⟩ : ∃ m, k = m + 1 := ⟨k - 1, by omega⟩
    rw [tinderref04_Allot.l0, w64 (n := n) (by omega) (by omega), w64 (n := at_ + n) (by omega) (by omega), if_neg (by omega), hd]
    simp only [List.replicate_zero, List.append_nil]
    rw [show at_ % 4294967296 = at_ by omega]
  | succ d ih =>
    intro k l hl hd hk
    obtain ⟨k, rfl⟩ : ∃ m, k = m + 1 := ⟨k - 1, by omega⟩
    have h2 := ih k (l ++ [0]) (by rw [List.length_append, List.length_singleton]; omega) (by rw [List.length_append, List.length_singleton]; omega) (by omega)
    rw [tinderref04_Allot.l0, w64 (n := n) (by omega) (by omega), w64 (n := at_ + n) (by omega) (by omega), if_pos (by omega), if_pos (by omega), w64 (n := (l.length : Int) + 1) (by omega) (by omega)]
    rw [show ((l.length : Int) + 1) = ((l ++ [0]).length : Int) by rw [List.length_append, List.length_singleton]; omega, h2]
    refine congrArg some (Prod.ext ?_ rfl)
    show l ++ [0] ++ List.replicate ((at_ + n).toNat - (l ++ [0]).length) 0 = l ++ List.replicate ((at_ + n).toNat - l.length) 0
    rw [List.append_assoc, List.length_append, List.length_singleton]
    congr 1
    rw [show (at_ + n).toNat - l.length = ((at_ + n).toNat - (l.length + 1)) + 1 by omega, List.replicate_succ]
    rfl
theorem rallot_eq {l : List Int} {n : Int} (hl : Sh l) (hn : U n) {k : Nat} (hk : 5000 < k) : tinderref04_Allot.f k l n = some (if 4096 < (at4 l : Int) + n then ([], 0, 10) else (grown l n, (at4 l : Int), 0)) := by
  have h4 := at4_le l
  unfold tinderref04_Allot.f
  have hl' := hl
  have hn' := hn
  unfold Sh at hl
  unfold U at hn
  by_cases h1 : (l.length : Int) > 4096
  · rw [if_pos h1, if_pos (by omega)]
  · have e : wrap64 ((wrap64 (Int.tdiv (wrap64 ((l.length : Int) + 3)) 4)) * 4) = (at4 l : Int) := by
      rw [w64 (n := (l.length : Int) + 3) (by omega) (by omega), Int.tdiv_eq_ediv_of_nonneg (by omega), w64 (n := ((l.length : Int) + 3) / 4) (by omega) (by omega), w64 (by omega) (by omega)]
      unfold at4
      omega
    rw [if_neg h1, e, w64 (n := n) (by omega) (by omega), w64 (n := 4096 - (at4 l : Int)) (by omega) (by omega)]
    by_cases h2 : n > 4096 - (at4 l : Int)
    · rw [if_pos h2, if_pos (by omega)]
    · rw [if_neg h2, if_neg (by omega), copy_eq hl', Option.bind_some, rallot_loop hn' (by omega) (by omega) _ k l (by omega) rfl (by omega)]
      unfold grown
      rw [show ((at4 l : Int) + n).toNat = at4 l + n.toNat by omega]
end Go.Proofs.Ytlpohjpiipkpiaa.V
