/- The reference's Check is the same plain function. -/
import Derived.Test.YtpfpckjdflcgeaaV2
namespace Go.Proofs.Ytpfpckjdflcgeaa.V
open Go.RowKit Go.Proofs.Ytpfpckjdflcgeaa.P Go.Proofs.Ytpfpckjdflcgeaa.G Go.Proofs.YtpfpckjdflcgeaaW.PrintWords Go.Proofs.YtpfpckjdflcgeaaW.PrintLast Go.Proofs.YtpfpckjdflcgeaaW.PrintMore
set_option linter.unusedVariables false

theorem dec_eq {b : List Int} (hb : By b) (h : 4 ≤ b.length) (k : Nat) : tinderref05_DecodeInt.f (k + 5) b = some (rd b 0 * 16777216 + rd b 1 * 65536 + rd b 2 * 256 + rd b 3, b.drop 4, 0) := by
  have h0 := rd_by hb 0
  have h1 := rd_by hb 1
  have h2 := rd_by hb 2
  have h3 := rd_by hb 3
  have w1 : wrap64 (0 + 1) = 1 := by decide +kernel
  have w2 : wrap64 (1 + 1) = 2 := by decide +kernel
  have w3 : wrap64 (2 + 1) = 3 := by decide +kernel
  have w4 : wrap64 (3 + 1) = 4 := by decide +kernel
  unfold tinderref05_DecodeInt.f
  rw [if_neg (show ¬ (b.length : Int) < 4 by omega)]
  rw [tinderref05_DecodeInt.l0, if_pos (by decide), if_pos (by decide), if_pos (show (0 : Int) < b.length by omega), w1]
  rw [tinderref05_DecodeInt.l0, if_pos (by decide), if_pos (by decide), if_pos (show (1 : Int) < b.length by omega), w2]
  rw [tinderref05_DecodeInt.l0, if_pos (by decide), if_pos (by decide), if_pos (show (2 : Int) < b.length by omega), w3]
  rw [tinderref05_DecodeInt.l0, if_pos (by decide), if_pos (by decide), if_pos (show (3 : Int) < b.length by omega), w4]
  rw [tinderref05_DecodeInt.l0, if_neg (by decide), if_pos (show (4 : Int) ≤ b.length by omega)]
  refine congrArg some (Prod.ext ?_ rfl)
  show _ = rd b 0 * 16777216 + rd b 1 * 65536 + rd b 2 * 256 + rd b 3
  omega
theorem mk_by {l : List Int} (hb : By l) (w : Bool) (hl : l.length ≤ 8184) : By (mk w l) := by
  have hs := su_range l
  unfold mk hdr
  refine By.append ?_ hb
  refine By.cons (by cases w <;> simp) (By.cons (by omega) (By.cons (by omega) (By.cons (by omega) (By.cons (by omega) (By.cons (by omega) (By.cons (by omega) (By.cons (by omega) By.nil)))))))
/-- What is made of the body is the bytes just where they are not bad. -/
theorem mk_iff {b : List Int} (hb : By b) (h8 : 8 ≤ b.length) (h9 : b.length ≤ 8192) (h0 : 8 ≤ n4 b) (h1 : n4 b ≤ b.length) :
    mk (rd b 0 == 241) ((b.take (n4 b).toNat).drop 8) = b.take (n4 b).toNat ↔ ¬ bad b := by
  have hr := n4_range hb
  obtain ⟨a0, a1, a2, a3, a4, a5, a6, a7, r, rfl⟩ := ex8 b h8
  have e0 : rd (a0 :: a1 :: a2 :: a3 :: a4 :: a5 :: a6 :: a7 :: r) 0 = a0 := rfl
  have e1 : rd (a0 :: a1 :: a2 :: a3 :: a4 :: a5 :: a6 :: a7 :: r) 1 = a1 := rfl
  have e2 : rd (a0 :: a1 :: a2 :: a3 :: a4 :: a5 :: a6 :: a7 :: r) 2 = a2 := rfl
  have e3 : rd (a0 :: a1 :: a2 :: a3 :: a4 :: a5 :: a6 :: a7 :: r) 3 = a3 := rfl
  have e4 : n4 (a0 :: a1 :: a2 :: a3 :: a4 :: a5 :: a6 :: a7 :: r) = a4 * 16777216 + a5 * 65536 + a6 * 256 + a7 := rfl
  unfold bad
  rw [e0, e1, e2, e3]
  have b0 := hb a0 (by simp)
  have b2 := hb a2 (by simp)
  have b3 := hb a3 (by simp)
  have b4 := hb a4 (by simp)
  have b5 := hb a5 (by simp)
  have b6 := hb a6 (by simp)
  have b7 := hb a7 (by simp)
  generalize hn : n4 (a0 :: a1 :: a2 :: a3 :: a4 :: a5 :: a6 :: a7 :: r) = n at *
  clear hb e0 e1 e2 e3
  have et : (a0 :: a1 :: a2 :: a3 :: a4 :: a5 :: a6 :: a7 :: r).take n.toNat = a0 :: a1 :: a2 :: a3 :: a4 :: a5 :: a6 :: a7 :: r.take (n.toNat - 8) := by
    obtain ⟨m, hm⟩ : ∃ m, n.toNat = m + 8 := ⟨n.toNat - 8, by omega⟩
    rw [hm]
    rfl
  have ed : (a0 :: a1 :: a2 :: a3 :: a4 :: a5 :: a6 :: a7 :: r.take (n.toNat - 8)).drop 8 = r.take (n.toNat - 8) := rfl
  rw [et, ed]
  have hl : (r.take (n.toNat - 8)).length = n.toNat - 8 := by
    simp only [List.length_cons] at h1
    rw [List.length_take]
    omega
  have hs := su_range (r.take (n.toNat - 8))
  generalize r.take (n.toNat - 8) = q at *
  unfold mk hdr
  simp only [List.cons_append, List.nil_append, List.cons.injEq, and_true]
  rw [hl]
  have h11 : ¬ ((↑(a0 :: a1 :: a2 :: a3 :: a4 :: a5 :: a6 :: a7 :: r).length : Int) < n) := by omega
  constructor
  · rintro ⟨g0, g1, g2, g3, _⟩ (h | h | h | h | h)
    · apply h
      by_cases hw : a0 = 241
      · exact .inl hw
      · right
        rw [beq_eq_false_iff_ne.2 hw] at g0
        simpa using g0.symm
    · exact h g1.symm
    · omega
    · exact h11 h
    · apply h
      omega
  · intro h
    have h2 : a0 = 241 ∨ a0 = 253 := Classical.byContradiction fun hc => h (.inl hc)
    have h3 : a1 = 8 := Classical.byContradiction fun hc => h (.inr (.inl hc))
    have h4 : su q = a2 * 256 + a3 := Classical.byContradiction fun hc => h (.inr (.inr (.inr (.inr hc))))
    refine ⟨?_, h3.symm, by omega, by omega, by omega, by omega, by omega, by omega⟩
    rcases h2 with rfl | rfl <;> rfl
theorem rj1_eq {b : List Int} (hb : By b) (h8 : 8 ≤ b.length) (h9 : b.length ≤ 8192) (h0 : 8 ≤ n4 b) (h1 : n4 b ≤ b.length) {k : Nat} (hk : b.length + 4 < k) :
    tinderref14_Check.j1 (k + 1) b (n4 b) false = some (if bad b then ([], false, 17) else ((b.take (n4 b).toNat).drop 8, rd b 0 == 241, 0)) := by
  have hB := (hb.take (n4 b).toNat).drop 8
  have hL : ((b.take (n4 b).toNat).drop 8).length ≤ b.length - 8 := by rw [List.length_drop, List.length_take]; omega
  have hi := mk_iff hb h8 h9 h0 h1
  rw [tinderref14_Check.j1, if_neg (by decide), if_pos (show (0 : Int) < b.length by omega), w64 (by omega) (by omega), if_pos h0, if_pos h1, rmake_eq hB (by omega) _ (by omega), Option.bind_some, if_neg (show ¬ 8184 < ((b.take (n4 b).toNat).drop 8).length by omega), if_pos (show 0 ≤ n4 b by omega)]
  by_cases hbad : bad b
  · rw [if_pos hbad, if_neg]
    intro h
    exact hi.1 (strOfNums_toList_inj (mk_by hB _ (by omega)) (hb.take _) h) hbad
  · rw [if_neg hbad, if_pos (by rw [hi.2 hbad]), if_pos]
    · rfl
    · show (8 : Int) ≤ ((mk _ _).length : Int)
      unfold mk hdr
      simp only [List.length_append, List.length_cons, List.length_nil]
      omega
theorem rj0_eq {b : List Int} (hb : By b) (h8 : 8 ≤ b.length) (h9 : b.length ≤ 8192) {k : Nat} (hk : b.length + 5 < k) :
    tinderref14_Check.j0 (k + 2) b false = some (if bad b then ([], false, 17) else ((b.take (n4 b).toNat).drop 8, rd b 0 == 241, 0)) := by
  have hr := n4_range hb
  obtain ⟨k, rfl⟩ : ∃ m, k = m + 5 := ⟨k - 5, by omega⟩
  have hd : tinderref05_DecodeInt.f (k + 5 + 1) (b.drop 4) = some (n4 b, (b.drop 4).drop 4, 0) := by
    rw [dec_eq (hb.drop 4) (by rw [List.length_drop]; omega) (k + 1)]
    obtain ⟨a0, a1, a2, a3, a4, a5, a6, a7, r, rfl⟩ := ex8 b h8
    rfl
  rw [tinderref14_Check.j0, if_neg (by decide), if_pos (show (4 : Int) ≤ b.length by omega), hd, Option.bind_some]
  show (if wrap64 (n4 b) < 8 then _ else _) = _
  rw [w64 (by omega) (by omega)]
  by_cases h1 : n4 b < 8
  · rw [if_pos h1, if_pos (show bad b from .inr (.inr (.inl h1))), tinderref14_Check.j1, if_pos rfl]
  · rw [if_neg h1]
    by_cases h2 : n4 b > (b.length : Int)
    · rw [decide_eq_true h2, tinderref14_Check.j1, if_pos rfl, if_pos (show bad b from .inr (.inr (.inr (.inl h2))))]
    · rw [decide_eq_false h2]
      exact rj1_eq hb h8 h9 (by omega) (by omega) (by omega)
theorem rcheck_eq {b : List Int} (hb : By b) {k : Nat} (hk : 8200 < k) : tinderref14_Check.f (k + 2) b = some (chk b) := by
  unfold tinderref14_Check.f chk
  by_cases h8 : b.length < 8
  · rw [if_pos (show (b.length : Int) < 8 by omega), if_pos (.inl h8), tinderref14_Check.j0, if_pos rfl]
  · by_cases h9 : 8192 < b.length
    · rw [if_neg (show ¬ (b.length : Int) < 8 by omega), decide_eq_true (show (b.length : Int) > 8192 by omega), if_pos (.inr h9), tinderref14_Check.j0, if_pos rfl]
    · rw [if_neg (show ¬ (b.length : Int) < 8 by omega), decide_eq_false (show ¬ (b.length : Int) > 8192 by omega), rj0_eq hb (by omega) (by omega) (by omega), if_neg (show ¬ (b.length < 8 ∨ 8192 < b.length) by omega)]
end Go.Proofs.Ytpfpckjdflcgeaa.V
