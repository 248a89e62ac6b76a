/- A program of which one byte of the body, or of the sum, is another one is refused by Check. No condition. -/
import Derived.Test.YtpfpckjdflcgeaaV4
namespace Go.Proofs.Ytpfpckjdflcgeaa.Pure
open Go.RowKit Go.Proofs.Ytpfpckjdflcgeaa.P Go.Proofs.Ytpfpckjdflcgeaa.G Go.Proofs.Ytpfpckjdflcgeaa.V Go.Proofs.YtpfpckjdflcgeaaW.PrintWords Go.Proofs.YtpfpckjdflcgeaaW.PrintLast Go.Proofs.YtpfpckjdflcgeaaW.PrintMore

theorem HeadTells : tinderlaw14_HeadTells.Pure := by
  intro l at_ t hm hl hw ha ht
  have hb := By.of hw
  have hat := bounds_u16 ha
  have htt := bounds_u8 ht
  refine ⟨l.length + 9000 + 3, ?_⟩
  unfold tinderlaw14_HeadTells.f
  rw [alive_eq (by omega), Option.bind_some, if_pos rfl, make_eq hb (by omega) _ (by omega), Option.bind_some]
  generalize (Int.tmod t 2 == 0) = w
  by_cases h : 8184 < l.length
  · rw [if_pos h, if_neg (by decide), tinderlaw14_HeadTells.j0, if_pos rfl]
  · rw [if_neg h, if_pos rfl]
    show tinderlaw14_HeadTells.j0 _ l at_ t (mk w l) (t == 0) = _
    by_cases h0 : t = 0
    · rw [h0, tinderlaw14_HeadTells.j0, if_pos (by rfl)]
    · have hk : (mk w l).length = 8 + l.length := by unfold mk hdr; simp only [List.length_append, List.length_cons, List.length_nil]
      have hB := mk_by hb w (by omega)
      have hq : ∃ q : Int, Int.tmod at_ ((l.length : Int) + 2) = q ∧ 0 ≤ q ∧ q < (l.length : Int) + 2 := ⟨_, rfl, Int.tmod_nonneg _ (by omega), Int.tmod_lt_of_pos _ (by omega)⟩
      obtain ⟨q, hq, q0, q1⟩ := hq
      have hz : ∀ b : List Int, By b → chk b = ([], false, 17) → head_Check.f (l.length + 9000 + 2) b = some ([], false, 17) := fun b h1 h2 => by rw [check_eq h1 (by omega), h2]
      rw [beq_eq_false_iff_ne.2 h0, tinderlaw14_HeadTells.j0, if_neg (by decide), w64 (n := (l.length : Int) + 2) (by omega) (by omega), if_neg (show ¬ (l.length : Int) + 2 = 0 by omega), w64 (n := at_) (by omega) (by omega), hq, w64 (n := 2 + q) (by omega) (by omega)]
      by_cases h4 : 2 + q ≥ 4
      · rw [if_pos h4, w64 (n := 2 + q + 4) (by omega) (by omega), if_pos (show 0 ≤ 2 + q + 4 by omega), if_pos (show 2 + q + 4 < ((mk w l).length : Int) by omega)]
        have hx := xor_u8 (rd_by hB (2 + q + 4)).1 (rd_by hB (2 + q + 4)).2 (show 0 < t by omega) htt.2
        obtain ⟨j, hj⟩ : ∃ j : Nat, q = 2 + j := ⟨(q - 2).toNat, by omega⟩
        have e1 : (2 + q + 4).toNat = 8 + j := by omega
        have e2 : 2 + q + 4 = ((8 + j : Nat) : Int) := by omega
        have hc := tell_8 hb w (by omega) (j := j) (by omega) (x := Go.bits .xor .u8 (rd (mk w l) (2 + q + 4)) t) (by rw [← e2]; exact hx.1) hx.2.1 hx.2.2
        rw [← e1] at hc
        rw [hz _ (hB.set _ hx.2) hc, Option.bind_some, if_pos rfl]
        rfl
      · rw [if_neg h4, if_pos (show 0 ≤ 2 + q by omega), if_pos (show 2 + q < ((mk w l).length : Int) by omega)]
        have hx := xor_u8 (rd_by hB (2 + q)).1 (rd_by hB (2 + q)).2 (show 0 < t by omega) htt.2
        have hc : chk ((mk w l).set (2 + q).toNat (Go.bits .xor .u8 (rd (mk w l) (2 + q)) t)) = ([], false, 17) := by
          rcases (show q = 0 ∨ q = 1 by omega) with rfl | rfl
          · exact tell_2 w (by omega) hx.1
          · exact tell_3 w (by omega) hx.1
        rw [hz _ (hB.set _ hx.2) hc, Option.bind_some, if_pos rfl]
        rfl

end Go.Proofs.Ytpfpckjdflcgeaa.Pure
