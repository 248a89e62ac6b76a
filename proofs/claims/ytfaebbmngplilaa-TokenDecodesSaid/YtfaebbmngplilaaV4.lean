/- One token read from bytes: what it comes to, with other bytes behind, and back. -/
import Derived.Test.YtfaebbmngplilaaV3
namespace Go.Proofs.Ytfaebbmngplilaa.V
open Go.RowKit Go.Proofs.Ytfaebbmngplilaa.P Go.Proofs.Ytfaebbmngplilaa.G Go.Proofs.YtfaebbmngplilaaW.PrintWords Go.Proofs.YtfaebbmngplilaaW.PrintLast Go.Proofs.YtfaebbmngplilaaW.PrintMore
set_option linter.unusedVariables false

/-- One token. -/
def tok1 (wide : Bool) (rb : List Int) : S34 × List Int × Bool := tokP (kindOf (codeP rb false).1) wide (codeP rb false).1 (codeP rb false).2.1 (codeP rb false).2.2
/-! a number taken: there were bytes enough -/
theorem num_ok {n : Nat} {rb r : List Int} {lack : Bool} {v : Int} (h : numP n rb lack = (v, r, false)) : lack = false ∧ n ≤ rb.length ∧ v = numB (rb.take n) ∧ r = rb.drop n := by
  unfold numP at h
  simp only [Prod.mk.injEq, Bool.or_eq_false_iff, decide_eq_false_iff_not] at h
  obtain ⟨h1, h2, h3, h4⟩ := h
  refine ⟨h3, by omega, ?_, h2.symm⟩
  rw [← h1]
  unfold P.takeB
  rw [if_pos (by omega)]
theorem num_of {n : Nat} {rb : List Int} (h : n ≤ rb.length) : numP n rb false = (numB (rb.take n), rb.drop n, false) := by
  unfold numP P.takeB
  rw [if_pos h, decide_eq_false (by omega)]
  rfl
theorem num_app {n : Nat} {bs r : List Int} (h : bs.length = n) : numP n (bs ++ r) false = (numB bs, r, false) := by
  subst h
  rw [num_of (by rw [List.length_append]; omega), List.take_left, List.drop_left]
theorem num_join {n : Nat} {rb r b : List Int} {lack : Bool} {v : Int} (h : numP n rb lack = (v, r, false)) : numP n (rb ++ b) lack = (v, r ++ b, false) := by
  obtain ⟨h1, h2, h3, h4⟩ := num_ok h
  subst h1
  rw [num_of (by rw [List.length_append]; omega), List.take_append_of_le_length h2, List.drop_append_of_le_length h2, h3, h4]
theorem num_lack {n : Nat} {rb : List Int} : (numP n rb true).2.2 = true := rfl
theorem tk_ok {n : Nat} {rb r bs : List Int} {lack : Bool} (h : tkP n rb lack = (bs, r, false)) : lack = false ∧ n ≤ rb.length ∧ bs = rb.take n ∧ r = rb.drop n := by
  unfold tkP at h
  simp only [Prod.mk.injEq, Bool.or_eq_false_iff, decide_eq_false_iff_not] at h
  obtain ⟨h1, h2, h3, h4⟩ := h
  refine ⟨h3, by omega, ?_, h2.symm⟩
  rw [← h1]
  unfold P.takeB
  rw [if_pos (by omega)]
theorem tk_of {n : Nat} {rb : List Int} (h : n ≤ rb.length) : tkP n rb false = (rb.take n, rb.drop n, false) := by
  unfold tkP P.takeB
  rw [if_pos h, decide_eq_false (by omega)]
  rfl
theorem tk_join {n : Nat} {rb r bs b : List Int} {lack : Bool} (h : tkP n rb lack = (bs, r, false)) : tkP n (rb ++ b) lack = (bs, r ++ b, false) := by
  obtain ⟨h1, h2, h3, h4⟩ := tk_ok h
  subst h1
  rw [tk_of (by rw [List.length_append]; omega), List.take_append_of_le_length h2, List.drop_append_of_le_length h2, h3, h4]
/-! a code -/
theorem code_join {rb r b : List Int} {lack : Bool} {v : Int} (h : codeP rb lack = (v, r, false)) : codeP (rb ++ b) lack = (v, r ++ b, false) := by
  unfold codeP at h ⊢
  obtain ⟨c1, r1, l1, e1⟩ : ∃ c1 r1 l1, numP 1 rb lack = (c1, r1, l1) := ⟨_, _, _, rfl⟩
  rw [e1] at h
  simp only at h
  by_cases hc : 0 < c1 ∧ c1 < 16
  · rw [if_pos hc] at h
    obtain ⟨d1, r2, l2, e2⟩ : ∃ c1 r2 l2, numP 1 r1 l1 = (c1, r2, l2) := ⟨_, _, _, rfl⟩
    rw [e2] at h
    simp only [Prod.mk.injEq] at h
    obtain ⟨h1, h2, h3⟩ := h
    subst h3
    obtain ⟨hl1, _⟩ := num_ok e2
    subst hl1
    have j1 := num_join (b := b) e1
    have j2 := num_join (b := b) e2
    rw [j1]
    simp only
    rw [if_pos hc, j2, h1, h2]
  · rw [if_neg hc] at h
    simp only [Prod.mk.injEq] at h
    obtain ⟨rfl, rfl, rfl⟩ := h
    have j1 := num_join (b := b) e1
    rw [j1]
    simp only
    rw [if_neg hc]
theorem numB1 {a : Int} : numB [a] = a := by
  show 0 * 256 % 4294967296 + a = a
  omega
theorem numB2 {a b : Int} (h : 0 ≤ a ∧ a ≤ 255) : numB [a, b] = a * 256 + b := by
  show (0 * 256 % 4294967296 + a) * 256 % 4294967296 + b = _
  omega
theorem numB4 {a b c d : Int} (h : 0 ≤ a ∧ a ≤ 255) (h2 : 0 ≤ b ∧ b ≤ 255) (h3 : 0 ≤ c ∧ c ≤ 255) : numB [a, b, c, d] = ((a * 256 + b) * 256 + c) * 256 + d := by
  show (((0 * 256 % 4294967296 + a) * 256 % 4294967296 + b) * 256 % 4294967296 + c) * 256 % 4294967296 + d = _
  omega
theorem code_lack {rb r : List Int} {v : Int} : ¬ codeP rb true = (v, r, false) := by
  intro h
  unfold codeP at h
  have e : (numP 1 rb true).2.2 = true := rfl
  by_cases hc : 0 < (numP 1 rb true).1 ∧ (numP 1 rb true).1 < 16
  · rw [if_pos hc] at h
    have := congrArg (fun x => x.2.2) h
    simp only at this
    rw [e, num_lack] at this
    cases this
  · rw [if_neg hc] at h
    have := congrArg (fun x => x.2.2) h
    simp only at this
    rw [e] at this
    cases this
theorem list1 {l : List Int} (h : 1 ≤ l.length) : ∃ a r, l = a :: r := by
  cases l with
  | nil => simp at h
  | cons a r => exact ⟨a, r, rfl⟩
theorem list2 {l : List Int} (h : 2 ≤ l.length) : ∃ a b r, l = a :: b :: r := by
  rcases l with _ | ⟨a, _ | ⟨b, r⟩⟩
  · simp at h
  · simp at h
  · exact ⟨a, b, r, rfl⟩
theorem list4 {l : List Int} (h : 4 ≤ l.length) : ∃ a b c d r, l = a :: b :: c :: d :: r := by
  rcases l with _ | ⟨a, _ | ⟨b, _ | ⟨c, _ | ⟨d, r⟩⟩⟩⟩ <;> simp at h
  exact ⟨a, b, c, d, r, rfl⟩
/-- A code that was read: its bytes. -/
theorem code_again {rb r : List Int} {lack : Bool} {v : Int} (hB : Bys rb) (h : codeP rb lack = (v, r, false)) : lack = false ∧ rb = codeB v ++ r ∧ r.length < rb.length := by
  have hl : lack = false := by
    cases lack with
    | false => rfl
    | true => exact absurd h code_lack
  subst hl
  refine ⟨rfl, ?_⟩
  unfold codeP at h
  obtain ⟨c1, r1, l1, e1⟩ : ∃ c1 r1 l1, numP 1 rb false = (c1, r1, l1) := ⟨_, _, _, rfl⟩
  rw [e1] at h
  simp only at h
  by_cases hc : 0 < c1 ∧ c1 < 16
  · rw [if_pos hc] at h
    obtain ⟨d1, r2, l2, e2⟩ : ∃ c1 r2 l2, numP 1 r1 l1 = (c1, r2, l2) := ⟨_, _, _, rfl⟩
    rw [e2] at h
    simp only [Prod.mk.injEq] at h
    obtain ⟨h1, h2, h3⟩ := h
    subst h3
    obtain ⟨hl1, hn2, hv2, hr2⟩ := num_ok e2
    subst hl1
    obtain ⟨_, hn1, hv1, hr1⟩ := num_ok e1
    obtain ⟨a, s, rfl⟩ := list1 hn1
    simp only [List.drop_succ_cons, List.drop_zero, List.take_succ_cons, List.take_zero] at hr1 hv1
    subst hr1
    obtain ⟨a2, s2, rfl⟩ := list1 hn2
    simp only [List.drop_succ_cons, List.drop_zero, List.take_succ_cons, List.take_zero] at hr2 hv2
    subst hr2
    rw [numB1] at hv1 hv2
    subst hv1 hv2 h1 h2
    have ha := hB c1 List.mem_cons_self
    have ha2 := hB d1 (List.mem_cons_of_mem _ List.mem_cons_self)
    refine ⟨?_, by simp only [List.length_cons]; omega⟩
    unfold codeB
    rw [if_pos (by omega)]
    show c1 :: d1 :: r2 = (c1 * 256 + d1) / 256 % 256 :: (c1 * 256 + d1) % 256 :: r2
    congr 1
    · omega
    · congr 1
      omega
  · rw [if_neg hc] at h
    simp only [Prod.mk.injEq] at h
    obtain ⟨rfl, rfl, rfl⟩ := h
    obtain ⟨_, hn1, hv1, hr1⟩ := num_ok e1
    obtain ⟨a, s, rfl⟩ := list1 hn1
    simp only [List.drop_succ_cons, List.drop_zero, List.take_succ_cons, List.take_zero] at hr1 hv1
    subst hr1
    rw [numB1] at hv1
    subst hv1
    have ha := hB c1 List.mem_cons_self
    refine ⟨?_, by simp⟩
    unfold codeB
    rw [if_neg (by omega)]
    show c1 :: r1 = c1 % 256 :: r1
    congr 1
    omega
/-- A code's bytes, read. -/
theorem code_back {c : Int} (r : List Int) (h : c = 0 ∨ 16 ≤ c ∧ c ≤ 4095) : codeP (codeB c ++ r) false = (c, r, false) := by
  unfold codeP codeB
  by_cases hc : c > 255
  · rw [if_pos hc]
    have e1 : numP 1 ([c / 256 % 256, c % 256] ++ r) false = (c / 256 % 256, c % 256 :: r, false) := by
      have := num_app (n := 1) (bs := [c / 256 % 256]) (r := c % 256 :: r) rfl
      rw [numB1] at this
      exact this
    have e2 : numP 1 (c % 256 :: r) false = (c % 256, r, false) := by
      have := num_app (n := 1) (bs := [c % 256]) (r := r) rfl
      rw [numB1] at this
      exact this
    rw [e1]
    simp only
    rw [if_pos (by omega), e2]
    simp only [Prod.mk.injEq, and_true]
    omega
  · rw [if_neg hc]
    have e1 : numP 1 ([c % 256] ++ r) false = (c % 256, r, false) := by
      have := num_app (n := 1) (bs := [c % 256]) (r := r) rfl
      rw [numB1] at this
      exact this
    rw [e1]
    simp only
    rw [if_neg (by omega)]
    simp only [Prod.mk.injEq, and_true]
    omega
end Go.Proofs.Ytfaebbmngplilaa.V
