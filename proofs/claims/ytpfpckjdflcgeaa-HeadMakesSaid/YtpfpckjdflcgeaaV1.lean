/- Plain closed forms of the header's functions. -/
import Derived.Test.YtpfpckjdflcgeaaPx4
import Derived.Test.YtpfpckjdflcgeaaPx5
import Derived.Test.YtpfpckjdflcgeaaG
namespace Go.Proofs.Ytpfpckjdflcgeaa.V
open Go.RowKit Go.Proofs.Ytpfpckjdflcgeaa.P Go.Proofs.Ytpfpckjdflcgeaa.G Go.Proofs.YtpfpckjdflcgeaaW.PrintWords Go.Proofs.YtpfpckjdflcgeaaW.PrintLast Go.Proofs.YtpfpckjdflcgeaaW.PrintMore
set_option linter.unusedVariables false

/-- The sum of bytes, as a header has it. -/
def su (l : List Int) : Int := l.sum % 65536
theorem su_range (l : List Int) : 0 ≤ su l ∧ su l < 65536 := by unfold su; omega
theorem su_snoc (l : List Int) (a : Int) : su (l ++ [a]) = (su l + a) % 65536 := by
  unfold su
  simp only [List.sum_append, List.sum_cons, List.sum_nil]
  omega
theorem su_take (l : List Int) (j : Nat) (h : j < l.length) : su (l.take (j + 1)) = (su (l.take j) + rd l j) % 65536 := by
  rw [List.take_succ_eq_append_getElem h, su_snoc, rd_at l j h]

theorem sum_loop {l : List Int} (hb : By l) (hl : l.length ≤ 140737488360000) (d : Nat) : ∀ (k j : Nat), j ≤ l.length → l.length - j = d → d < k → head_Sum.l0 k (su (l.take j)) l (l.length : Int) (j : Int) = some (su l) := by
  induction d with
  | zero =>
    intro k j h1 hd hk
    obtain ⟨k, rfl⟩ : ∃ m, k = m + 1 := ⟨k - 1, by omega⟩
    obtain rfl : j = l.length := by omega
    have := su_range l
    simp only [head_Sum.l0]
    rw [if_neg (by omega), List.take_length, w64 (by omega) (by omega)]
  | succ d ih =>
    intro k j h1 hd hk
    obtain ⟨k, rfl⟩ : ∃ m, k = m + 1 := ⟨k - 1, by omega⟩
    have hr := rd_by hb (j : Int)
    have h2 := su_take l j (by omega)
    simp only [head_Sum.l0]
    rw [if_pos (by omega), if_pos (by omega), if_pos (by omega), w64 (by omega) (by omega), wu16, wu16]
    have h3 := ih k (j + 1) (by omega) (by omega) (by omega)
    rw [h2] at h3
    rw [show (rd l (j : Int)) % 65536 = rd l j from by omega]
    exact h3
theorem sum_eq {l : List Int} (hb : By l) (hl : l.length ≤ 140737488360000) {k : Nat} (hk : l.length < k) : head_Sum.f k l = some (su l) := by
  unfold head_Sum.f
  have := sum_loop hb hl l.length k 0 (by omega) (by omega) hk
  simpa [su] using this
theorem rsum_loop {l : List Int} (hb : By l) (hl : l.length ≤ 140737488360000) (d : Nat) : ∀ (k j : Nat), j ≤ l.length → l.length - j = d → d < k → tinderref14_Sum.l0 k l (su (l.take j)) (j : Int) = some (su l) := by
  induction d with
  | zero =>
    intro k j h1 hd hk
    obtain ⟨k, rfl⟩ : ∃ m, k = m + 1 := ⟨k - 1, by omega⟩
    obtain rfl : j = l.length := by omega
    simp only [tinderref14_Sum.l0]
    rw [if_neg (by omega), List.take_length]
  | succ d ih =>
    intro k j h1 hd hk
    obtain ⟨k, rfl⟩ : ∃ m, k = m + 1 := ⟨k - 1, by omega⟩
    have hr := rd_by hb (j : Int)
    have h2 := su_take l j (by omega)
    have h4 := su_range (l.take j)
    simp only [tinderref14_Sum.l0]
    rw [if_pos (by omega), if_pos (by omega), w64 (n := (j : Int) + 1) (by omega) (by omega), w64 (n := rd l j) (by omega) (by omega), w64 (by omega) (by omega), Int.tmod_eq_emod_of_nonneg (by omega)]
    have h3 := ih k (j + 1) (by omega) (by omega) (by omega)
    rw [h2] at h3
    exact h3
theorem rsum_eq {l : List Int} (hb : By l) (hl : l.length ≤ 140737488360000) {k : Nat} (hk : l.length < k) : tinderref14_Sum.f k l = some (su l) := by
  unfold tinderref14_Sum.f
  have := rsum_loop hb hl l.length k 0 (by omega) (by omega) hk
  simpa [su] using this
/-- The header of a body, and the program. -/
def hdr (w : Bool) (s n : Int) : List Int := [if w then 241 else 253, 8, s / 256, s % 256, n / 16777216 % 256, n / 65536 % 256, n / 256 % 256, n % 256]
def mk (w : Bool) (l : List Int) : List Int := hdr w (su l) (8 + l.length) ++ l
theorem make_eq {l : List Int} (hb : By l) (hl : l.length ≤ 140737488360000) (w : Bool) {k : Nat} (hk : l.length < k) : head_Make.f k l w = some (if 8184 < l.length then ([], 3) else (mk w l, 0)) := by
  have hs := su_range l
  unfold head_Make.f
  rw [sum_eq hb hl hk, Option.bind_some]
  by_cases h : 8184 < l.length
  · rw [if_pos h, if_pos (by rw [w64 (by omega) (by omega)]; omega)]
  · rw [if_neg h, if_neg (by rw [w64 (by omega) (by omega)]; omega), w64 (by omega) (by omega)]
    have e : su l / 256 % 256 = su l / 256 := by omega
    cases w
    · rw [if_neg (by decide), Option.bind_some, if_pos (by simp only [List.length_cons, List.length_nil]; omega), e]
      rfl
    · rw [if_pos rfl, Option.bind_some, if_pos (by simp only [List.length_cons, List.length_nil]; omega), e]
      rfl
/-- The bytes of a number. -/
theorem enc_eq (n : Int) (h0 : 0 ≤ n) (h1 : n ≤ 4294967295) {k : Nat} (hk : 4 < k) : tinderref05_EncodeInt.f k n = some [n / 16777216 % 256, n / 65536 % 256, n / 256 % 256, n % 256] := by
  obtain ⟨k, rfl⟩ : ∃ m, k = m + 5 := ⟨k - 5, by omega⟩
  unfold tinderref05_EncodeInt.f
  have e3 : IntKind.u64.wrap (wrap64 (8 * 3)) = 24 := by decide +kernel
  have e2 : IntKind.u64.wrap (wrap64 (8 * 2)) = 16 := by decide +kernel
  have e1 : IntKind.u64.wrap (wrap64 (8 * 1)) = 8 := by decide +kernel
  have e0 : IntKind.u64.wrap (wrap64 (8 * 0)) = 0 := by decide +kernel
  have s3 : shr .u32 n 24 = n / 16777216 := rfl
  have s2 : shr .u32 n 16 = n / 65536 := rfl
  have s1 : shr .u32 n 8 = n / 256 := rfl
  have s0 : shr .u32 n 0 = n / 1 := rfl
  have t (m : Int) (hm : 0 ≤ m) : Int.tmod m 256 % 256 = m % 256 := by rw [Int.tmod_eq_emod_of_nonneg hm]; omega
  have w2 : wrap64 (3 - 1) = 2 := by decide +kernel
  have w1 : wrap64 (2 - 1) = 1 := by decide +kernel
  have w0 : wrap64 (1 - 1) = 0 := by decide +kernel
  have wm : wrap64 (0 - 1) = -1 := by decide +kernel
  rw [tinderref05_EncodeInt.l0, if_pos (by decide), e3, if_pos (by decide), if_pos (by simp only [List.length_nil]; omega), s3, t _ (by omega), w2]
  rw [tinderref05_EncodeInt.l0, if_pos (by decide), e2, if_pos (by decide), if_pos (by simp only [List.length_append, List.length_cons, List.length_nil]; omega), s2, t _ (by omega), w1]
  rw [tinderref05_EncodeInt.l0, if_pos (by decide), e1, if_pos (by decide), if_pos (by simp only [List.length_append, List.length_cons, List.length_nil]; omega), s1, t _ (by omega), w0]
  rw [tinderref05_EncodeInt.l0, if_pos (by decide), e0, if_pos (by decide), if_pos (by simp only [List.length_append, List.length_cons, List.length_nil]; omega), s0, t _ (by omega), wm]
  rw [tinderref05_EncodeInt.l0, if_neg (by decide), Int.ediv_one]
  rfl
theorem rmake_eq {l : List Int} (hb : By l) (hl : l.length ≤ 140737488360000) (w : Bool) {k : Nat} (hk : l.length + 4 < k) : tinderref14_Make.f k l w = some (if 8184 < l.length then ([], 3) else (mk w l, 0)) := by
  have hs := su_range l
  unfold tinderref14_Make.f
  by_cases h : 8184 < l.length
  · rw [if_pos h, if_pos (by omega)]
  · rw [if_neg h, if_neg (by omega), rsum_eq hb hl (by omega), Option.bind_some, Option.bind_some]
    have e6 := enc_eq (8 + (l.length : Int)) (by omega) (by omega) (k := k) (by omega)
    have e1 : Int.tdiv (su l) 256 = su l / 256 := Int.tdiv_eq_ediv_of_nonneg (by omega)
    have e2 : Int.tmod (su l) 256 = su l % 256 := Int.tmod_eq_emod_of_nonneg (by omega)
    have e3 : wrap64 (su l / 256) % 256 = su l / 256 := by rw [w64 (by omega) (by omega)]; omega
    have e4 : su l % 256 % 256 = su l % 256 := by omega
    have e5 : wrap64 (8 + (l.length : Int)) % 4294967296 = 8 + (l.length : Int) := by rw [w64 (by omega) (by omega)]; omega
    rw [e1, e2, e3, e4, e5, e6]
    clear e1 e2 e3 e4 e5 e6
    cases w
    · rw [if_neg (by decide), Option.bind_some, if_pos (by simp only [List.length_cons, List.length_nil]; omega), Option.bind_some, if_pos (by simp only [List.length_append, List.length_cons, List.length_nil]; omega)]
      rfl
    · rw [if_pos rfl, if_pos (by simp only [List.length_cons, List.length_nil]; omega), Option.bind_some, Option.bind_some, if_pos (by simp only [List.length_set, List.length_cons, List.length_nil]; omega), Option.bind_some, if_pos (by simp only [List.length_append, List.length_set, List.length_cons, List.length_nil]; omega)]
      rfl
theorem alive_eq {k : Nat} (hk : 20 < k) : tinderlaw14_alive.f k = some true := by
  have hb : By [71, 255] := By.cons (by omega) (By.cons (by omega) By.nil)
  have e : mk true [71, 255] = [241, 8, 1, 70, 0, 0, 0, 10, 71, 255] := by decide
  have hb2 : By [241, 8, 1, 70, 0, 0, 0, 10, 71, 255] := fun x hx => by simp at hx; omega
  have em : head_Make.f k [71, 255] true = some ([241, 8, 1, 70, 0, 0, 0, 10, 71, 255], 0) := by
    rw [make_eq hb (by simp) true (by simp; omega), e]
    rfl
  unfold tinderlaw14_alive.f
  rw [em, Option.bind_some, if_pos rfl, if_pos (by decide +kernel), sum_eq hb2 (by simp) (by simp; omega), Option.bind_some]
  rfl
end Go.Proofs.Ytpfpckjdflcgeaa.V
