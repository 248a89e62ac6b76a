/- What Check answers, as one plain function; the program's and the reference's are it. -/
import Derived.Test.YtpfpckjdflcgeaaV1
namespace Go.Proofs.Ytpfpckjdflcgeaa.V
open Go.RowKit Go.Proofs.Ytpfpckjdflcgeaa.P Go.Proofs.Ytpfpckjdflcgeaa.G Go.Proofs.YtpfpckjdflcgeaaW.PrintWords Go.Proofs.YtpfpckjdflcgeaaW.PrintLast Go.Proofs.YtpfpckjdflcgeaaW.PrintMore
set_option linter.unusedVariables false

theorem ex8 (b : List Int) (h : 8 ≤ b.length) : ∃ a0 a1 a2 a3 a4 a5 a6 a7 r, b = a0 :: a1 :: a2 :: a3 :: a4 :: a5 :: a6 :: a7 :: r := by
  iterate 8
    rcases b with _ | ⟨_, b⟩
    · simp at h
  exact ⟨_, _, _, _, _, _, _, _, _, rfl⟩
/-- The fourth to seventh byte as a number. -/
def n4 (b : List Int) : Int := rd b 4 * 16777216 + rd b 5 * 65536 + rd b 6 * 256 + rd b 7
def bad (b : List Int) : Prop := ¬ (rd b 0 = 241 ∨ rd b 0 = 253) ∨ rd b 1 ≠ 8 ∨ n4 b < 8 ∨ (b.length : Int) < n4 b ∨ su ((b.take (n4 b).toNat).drop 8) ≠ rd b 2 * 256 + rd b 3
instance (b : List Int) : Decidable (bad b) := by unfold bad; infer_instance
def chk (b : List Int) : List Int × Bool × Int :=
  if b.length < 8 ∨ 8192 < b.length then ([], false, 17) else if bad b then ([], false, 17) else ((b.take (n4 b).toNat).drop 8, rd b 0 == 241, 0)
theorem bits4 (b : List Int) (hb : By b) : (Go.bits .or .i64 (Go.bits .or .i64 (Go.bits .or .i64 (wrap64 ((wrap64 (rd b 4)) * 16777216)) (wrap64 ((wrap64 (rd b 5)) * 65536))) (wrap64 ((wrap64 (rd b 6)) * 256))) (wrap64 (rd b 7))) = n4 b := by
  have h4 := rd_by hb 4
  have h5 := rd_by hb 5
  have h6 := rd_by hb 6
  have h7 := rd_by hb 7
  unfold n4
  generalize rd b 4 = x4 at *
  generalize rd b 5 = x5 at *
  generalize rd b 6 = x6 at *
  generalize rd b 7 = x7 at *
  rw [w64 (n := x4) (by omega) (by omega), w64 (n := x5) (by omega) (by omega), w64 (n := x6) (by omega) (by omega), w64 (n := x7) (by omega) (by omega)]
  rw [w64 (n := x4 * 16777216) (by omega) (by omega), w64 (n := x5 * 65536) (by omega) (by omega), w64 (n := x6 * 256) (by omega) (by omega)]
  rw [or_i64 24 (x := x4 * 16777216) (y := x5 * 65536) (by omega) (by omega) (by omega) (by omega) (by omega) (by omega)]
  rw [or_i64 16 (x := x4 * 16777216 + x5 * 65536) (y := x6 * 256) (by omega) (by omega) (by omega) (by omega) (by omega) (by omega)]
  rw [or_i64 8 (y := x7) (by omega) (by omega) (by omega) (by omega) (by omega) (by omega)]
theorem bits2 (b : List Int) (hb : By b) : (Go.bits .or .i64 (wrap64 ((wrap64 (rd b 2)) * 256)) (wrap64 (rd b 3))) = rd b 2 * 256 + rd b 3 := by
  have h4 := rd_by hb 2
  have h5 := rd_by hb 3
  generalize rd b 2 = x4 at *
  generalize rd b 3 = x5 at *
  rw [w64 (n := x4) (by omega) (by omega), w64 (n := x5) (by omega) (by omega), w64 (n := x4 * 256) (by omega) (by omega)]
  rw [or_i64 8 (y := x5) (by omega) (by omega) (by omega) (by omega) (by omega) (by omega)]
theorem n4_range {b : List Int} (hb : By b) : 0 ≤ n4 b ∧ n4 b ≤ 4294967295 := by
  have h4 := rd_by hb 4
  have h5 := rd_by hb 5
  have h6 := rd_by hb 6
  have h7 := rd_by hb 7
  unfold n4
  omega
theorem j1_eq {b : List Int} (hb : By b) (h8 : 8 ≤ b.length) (h9 : b.length ≤ 8192) (h0 : 8 ≤ n4 b) (h1 : n4 b ≤ b.length) {k : Nat} (hk : b.length < k) :
    head_Check.j1 (k + 1) b (n4 b) false = some (if su ((b.take (n4 b).toNat).drop 8) = rd b 2 * 256 + rd b 3 then ((b.take (n4 b).toNat).drop 8, rd b 0 == 241, 0) else ([], false, 17)) := by
  have hB := (hb.take (n4 b).toNat).drop 8
  have hL : ((b.take (n4 b).toNat).drop 8).length ≤ b.length := by rw [List.length_drop, List.length_take]; omega
  rw [head_Check.j1, if_neg (by decide), if_pos h0, if_pos h1]
  unfold slices_Clone_byte_byte.f
  rw [if_pos (by omega), Option.bind_some, sum_eq hB (by omega) (by omega), Option.bind_some, if_pos (by omega), if_pos (by omega), bits2 b hb]
  split
  · rw [if_pos (by omega)]
  · rfl
theorem j0_eq {b : List Int} (hb : By b) (h8 : 8 ≤ b.length) (h9 : b.length ≤ 8192) {k : Nat} (hk : b.length < k) (x : Bool) :
    head_Check.j0 (k + 2) b x = some (if x = true ∨ n4 b < 8 ∨ (b.length : Int) < n4 b ∨ su ((b.take (n4 b).toNat).drop 8) ≠ rd b 2 * 256 + rd b 3 then ([], false, 17) else ((b.take (n4 b).toNat).drop 8, rd b 0 == 241, 0)) := by
  rw [head_Check.j0, bits4 b hb]
  cases x with
  | true => rw [if_pos rfl, if_pos (.inl rfl)]
  | false =>
    rw [if_neg (by decide), if_pos (by omega), if_pos (by omega), if_pos (by omega), if_pos (by omega)]
    by_cases h1 : n4 b < 8
    · rw [if_pos h1, if_pos (.inr (.inl h1)), head_Check.j1, if_pos rfl]
    · rw [if_neg h1]
      by_cases h2 : n4 b > (b.length : Int)
      · rw [decide_eq_true h2, head_Check.j1, if_pos rfl, if_pos (.inr (.inr (.inl h2)))]
      · rw [decide_eq_false h2, j1_eq hb h8 h9 (by omega) (by omega) hk]
        by_cases h3 : su ((b.take (n4 b).toNat).drop 8) = rd b 2 * 256 + rd b 3
        · rw [if_pos h3, if_neg]
          rintro (h | h | h | h)
          · cases h
          · exact h1 h
          · exact h2 h
          · exact h h3
        · rw [if_neg h3, if_pos (.inr (.inr (.inr h3)))]
theorem check_eq {b : List Int} (hb : By b) {k : Nat} (hk : 8192 < k) : head_Check.f (k + 2) b = some (chk b) := by
  unfold head_Check.f chk
  by_cases h8 : b.length < 8
  · rw [if_pos (by omega), if_pos (.inl h8), head_Check.j0, if_pos rfl]
  · by_cases h9 : 8192 < b.length
    · rw [if_neg (by omega), if_pos (by omega), if_pos (.inr h9), head_Check.j0, if_pos rfl]
    · have J := fun x => j0_eq hb (by omega) (by omega) (k := k) (by omega) x
      rw [if_neg (show ¬ (b.length : Int) < 8 by omega), if_neg (show ¬ (b.length : Int) > 8192 by omega), if_pos (show 0 < (b.length : Int) by omega), if_pos (show 1 < (b.length : Int) by omega), J, if_neg (show ¬ (b.length < 8 ∨ 8192 < b.length) by omega)]
      by_cases h0 : rd b 0 = 241 ∨ rd b 0 = 253
      · have e : (if rd b 0 = 241 then some (if (rd b 1 != 8) = true ∨ n4 b < 8 ∨ (b.length : Int) < n4 b ∨ su ((b.take (n4 b).toNat).drop 8) ≠ rd b 2 * 256 + rd b 3 then (([] : List Int), false, (17 : Int)) else ((b.take (n4 b).toNat).drop 8, rd b 0 == 241, 0)) else if rd b 0 = 253 then some (if (rd b 1 != 8) = true ∨ n4 b < 8 ∨ (b.length : Int) < n4 b ∨ su ((b.take (n4 b).toNat).drop 8) ≠ rd b 2 * 256 + rd b 3 then ([], false, 17) else ((b.take (n4 b).toNat).drop 8, rd b 0 == 241, 0)) else head_Check.j0 (k + 2) b true) = some (if (rd b 1 != 8) = true ∨ n4 b < 8 ∨ (b.length : Int) < n4 b ∨ su ((b.take (n4 b).toNat).drop 8) ≠ rd b 2 * 256 + rd b 3 then ([], false, 17) else ((b.take (n4 b).toNat).drop 8, rd b 0 == 241, 0)) := by
          rcases h0 with h0 | h0
          · rw [if_pos h0]
          · rw [if_neg (by omega), if_pos h0]
        rw [e]
        refine congrArg some ?_
        have hi : ((rd b 1 != 8) = true ∨ n4 b < 8 ∨ (b.length : Int) < n4 b ∨ su ((b.take (n4 b).toNat).drop 8) ≠ rd b 2 * 256 + rd b 3) ↔ bad b := by
          unfold bad
          rw [bne_iff_ne]
          constructor
          · exact fun h => .inr h
          · rintro (h | h)
            · exact absurd h0 h
            · exact h
        by_cases hB : bad b
        · rw [if_pos (hi.2 hB), if_pos hB]
        · rw [if_neg (fun h => hB (hi.1 h)), if_neg hB]
      · rw [if_neg (fun h => h0 (.inl h)), if_neg (fun h => h0 (.inr h)), head_Check.j0, if_pos rfl, if_pos (show bad b from .inl h0)]
end Go.Proofs.Ytpfpckjdflcgeaa.V
