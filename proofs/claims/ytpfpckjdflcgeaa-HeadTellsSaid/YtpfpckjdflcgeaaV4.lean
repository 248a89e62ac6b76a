/- What Check answers of a program that was made, whole or with one byte turned. -/
import Derived.Test.YtpfpckjdflcgeaaV3
namespace Go.Proofs.Ytpfpckjdflcgeaa.V
open Go.RowKit Go.Proofs.Ytpfpckjdflcgeaa.P Go.Proofs.Ytpfpckjdflcgeaa.G Go.Proofs.YtpfpckjdflcgeaaW.PrintWords Go.Proofs.YtpfpckjdflcgeaaW.PrintLast Go.Proofs.YtpfpckjdflcgeaaW.PrintMore
set_option linter.unusedVariables false

/-- Bytes that begin as a program with n bytes begins: what Check says of them. -/
theorem chk_of {a0 s2 s3 : Int} {n : Int} {q : List Int} (h0 : a0 = 241 ∨ a0 = 253) (hn : 0 ≤ n) (hn2 : n ≤ 8184) (hq : n ≤ q.length) (hq2 : q.length ≤ 8184) :
    chk (a0 :: 8 :: s2 :: s3 :: ((8 + n) / 16777216 % 256) :: ((8 + n) / 65536 % 256) :: ((8 + n) / 256 % 256) :: ((8 + n) % 256) :: q) =
      if su (q.take n.toNat) = s2 * 256 + s3 then (q.take n.toNat, a0 == 241, 0) else ([], false, 17) := by
  generalize hb : (a0 :: 8 :: s2 :: s3 :: ((8 + n) / 16777216 % 256) :: ((8 + n) / 65536 % 256) :: ((8 + n) / 256 % 256) :: ((8 + n) % 256) :: q) = b
  have e0 : rd b 0 = a0 := by rw [← hb]; rfl
  have e1 : rd b 1 = 8 := by rw [← hb]; rfl
  have e2 : rd b 2 = s2 := by rw [← hb]; rfl
  have e3 : rd b 3 = s3 := by rw [← hb]; rfl
  have e4 : n4 b = 8 + n := by
    have : n4 b = ((8 + n) / 16777216 % 256) * 16777216 + ((8 + n) / 65536 % 256) * 65536 + ((8 + n) / 256 % 256) * 256 + ((8 + n) % 256) := by rw [← hb]; rfl
    rw [this]
    omega
  have hl : b.length = 8 + q.length := by rw [← hb]; simp only [List.length_cons]; omega
  have et : (b.take (8 + n).toNat).drop 8 = q.take n.toNat := by
    rw [show (8 + n).toNat = n.toNat + 8 from by omega, ← hb]
    rfl
  have hbad : bad b ↔ su (q.take n.toNat) ≠ s2 * 256 + s3 := by
    unfold bad
    rw [e0, e1, e2, e3, e4, et]
    constructor
    · rintro (h | h | h | h | h)
      · exact absurd h0 h
      · exact absurd rfl h
      · omega
      · omega
      · exact h
    · exact fun h => .inr (.inr (.inr (.inr h)))
  unfold chk
  rw [if_neg (show ¬ (b.length < 8 ∨ 8192 < b.length) by omega)]
  by_cases hs : su (q.take n.toNat) = s2 * 256 + s3
  · rw [if_pos hs, if_neg (fun h => hbad.1 h hs), e4, et, e0]
  · rw [if_neg hs, if_pos (hbad.2 hs)]
theorem w241 (w : Bool) : ((if w then (241 : Int) else 253) = 241 ∨ (if w then (241 : Int) else 253) = 253) ∧ (((if w then (241 : Int) else 253) == 241) = w) := by cases w <;> simp
theorem su_split (l : List Int) : su l = su l / 256 * 256 + su l % 256 := by omega
theorem chk_mk {l m : List Int} (w : Bool) (hl : l.length + m.length ≤ 8184) : chk (mk w l ++ m) = (l, w, 0) := by
  have h := chk_of (a0 := if w then 241 else 253) (s2 := su l / 256) (s3 := su l % 256) (n := (l.length : Int)) (q := l ++ m) (w241 w).1 (by omega) (by omega) (by rw [List.length_append]; omega) (by rw [List.length_append]; exact hl)
  rw [show ((l.length : Int)).toNat = l.length from by omega, List.take_left, if_pos (su_split l), (w241 w).2] at h
  exact h
/-- One byte of the sum is another one. -/
theorem tell_2 {l : List Int} (w : Bool) (hl : l.length ≤ 8184) {x : Int} (hx : x ≠ rd (mk w l) 2) : chk ((mk w l).set 2 x) = ([], false, 17) := by
  have h := chk_of (a0 := if w then 241 else 253) (s2 := x) (s3 := su l % 256) (n := (l.length : Int)) (q := l) (w241 w).1 (by omega) (by omega) (by omega) (by omega)
  have e2 : rd (mk w l) 2 = su l / 256 := rfl
  rw [e2] at hx
  rw [show ((l.length : Int)).toNat = l.length from by omega, List.take_length, if_neg (show ¬ su l = x * 256 + su l % 256 by omega)] at h
  exact h
theorem tell_3 {l : List Int} (w : Bool) (hl : l.length ≤ 8184) {x : Int} (hx : x ≠ rd (mk w l) 3) : chk ((mk w l).set 3 x) = ([], false, 17) := by
  have h := chk_of (a0 := if w then 241 else 253) (s2 := su l / 256) (s3 := x) (n := (l.length : Int)) (q := l) (w241 w).1 (by omega) (by omega) (by omega) (by omega)
  have e2 : rd (mk w l) 3 = su l % 256 := rfl
  rw [e2] at hx
  rw [show ((l.length : Int)).toNat = l.length from by omega, List.take_length, if_neg (show ¬ su l = su l / 256 * 256 + x by omega)] at h
  exact h
theorem sum_set (l : List Int) (j : Nat) (hj : j < l.length) (x : Int) : (l.set j x).sum = l.sum + x - rd l (j : Int) := by
  induction l generalizing j with
  | nil => simp at hj
  | cons a l ih =>
    cases j with
    | zero =>
      have : rd (a :: l) ((0 : Nat) : Int) = a := rfl
      rw [this]
      simp only [List.set_cons_zero, List.sum_cons]
      omega
    | succ j =>
      have hj' : j < l.length := by simpa using hj
      have e : rd (a :: l) ((j + 1 : Nat) : Int) = rd l (j : Int) := by rw [rd_at _ _ hj, rd_at _ _ hj']; rfl
      have := ih j hj'
      rw [e]
      simp only [List.set_cons_succ, List.sum_cons]
      omega
theorem tell_8 {l : List Int} (hb : By l) (w : Bool) (hl : l.length ≤ 8184) {j : Nat} (hj : j < l.length) {x : Int} (hx : x ≠ rd (mk w l) ((8 + j : Nat) : Int)) (hx0 : 0 ≤ x) (hx1 : x ≤ 255) : chk ((mk w l).set (8 + j) x) = ([], false, 17) := by
  have h := chk_of (a0 := if w then 241 else 253) (s2 := su l / 256) (s3 := su l % 256) (n := (l.length : Int)) (q := l.set j x) (w241 w).1 (by omega) (by omega) (by rw [List.length_set]; omega) (by rw [List.length_set]; omega)
  have e2 : rd (mk w l) ((8 + j : Nat) : Int) = rd l (j : Int) := by
    have : (mk w l).length = 8 + l.length := by unfold mk hdr; simp only [List.length_append, List.length_cons, List.length_nil]
    rw [rd_at _ _ (by omega), rd_at _ _ hj]
    unfold mk
    rw [List.getElem_append_right (by unfold hdr; simp only [List.length_cons, List.length_nil]; omega)]
    congr 1
    show 8 + j - 8 = j
    omega
  rw [e2] at hx
  have hr := rd_by hb (j : Int)
  have e3 : (mk w l).set (8 + j) x = hdr w (su l) (8 + l.length) ++ l.set j x := by
    unfold mk
    rw [List.set_append_right _ _ (by unfold hdr; simp only [List.length_cons, List.length_nil]; omega)]
    congr 2
    show 8 + j - 8 = j
    omega
  have e4 : (l.set j x).take l.length = l.set j x := List.take_of_length_le (by rw [List.length_set]; omega)
  rw [e3]
  have e5 : ¬ su (l.set j x) = su l / 256 * 256 + su l % 256 := by
    rw [← su_split l]
    unfold su
    rw [sum_set l j hj x]
    omega
  rw [show ((l.length : Int)).toNat = l.length from by omega, e4, if_neg e5] at h
  exact h
/-- A byte turned by another than 0 is another one. -/
theorem xor_u8 {x t : Int} (h0 : 0 ≤ x) (h1 : x ≤ 255) (t0 : 0 < t) (t1 : t ≤ 255) : Go.bits .xor .u8 x t ≠ x ∧ 0 ≤ Go.bits .xor .u8 x t ∧ Go.bits .xor .u8 x t ≤ 255 := by
  obtain ⟨a, rfl⟩ := Int.eq_ofNat_of_zero_le h0
  obtain ⟨b, rfl⟩ := Int.eq_ofNat_of_zero_le (Int.le_of_lt t0)
  have ha : a < 2 ^ 8 := by omega
  have hb : b < 2 ^ 8 := by omega
  have hx : a ^^^ b < 2 ^ 8 := Nat.xor_lt_two_pow ha hb
  have e : Go.bits .xor .u8 (a : Int) (b : Int) = ((a ^^^ b : Nat) : Int) := by
    have ha' : a % 2 ^ IntKind.u8.bits = a := Nat.mod_eq_of_lt ha
    have hb' : b % 2 ^ IntKind.u8.bits = b := Nat.mod_eq_of_lt hb
    simp only [bits, BitVec.ofInt_natCast, BitVec.toNat_xor, BitVec.toNat_ofNat, ha', hb']
    rw [IntKind.wrap_u8]
    omega
  rw [e]
  refine ⟨fun h => ?_, by omega, by omega⟩
  have h' : a ^^^ b = a := by exact_mod_cast h
  have : b = 0 := by
    have h2 : a ^^^ (a ^^^ b) = a ^^^ a := by rw [h']
    rwa [← Nat.xor_assoc, Nat.xor_self, Nat.zero_xor] at h2
  omega
end Go.Proofs.Ytpfpckjdflcgeaa.V
