/- Tokens that are right: what is known of their fields. -/
import Derived.Test.YtfaebbmngplilaaV2
namespace Go.Proofs.Ytfaebbmngplilaa.V
open Go.RowKit Go.Proofs.Ytfaebbmngplilaa.P Go.Proofs.Ytfaebbmngplilaa.G Go.Proofs.YtfaebbmngplilaaW.PrintWords Go.Proofs.YtfaebbmngplilaaW.PrintLast Go.Proofs.YtfaebbmngplilaaW.PrintMore
set_option linter.unusedVariables false

/-- The fields' numbers are numbers of their kinds. -/
def Wf (t : S34) : Prop := (0 ≤ t.f1 ∧ t.f1 ≤ 4294967295) ∧ (-9223372036854775808 ≤ t.f3 ∧ t.f3 ≤ 9223372036854775807)
theorem rd_tok {l : List S34} {i : Nat} (h : i < l.length) : rd_T34 l (i : Int) = l[i] := by
  unfold rd_T34
  rw [List.getD_eq_getElem?_getD, Int.toNat_natCast, List.getElem?_eq_getElem h]
  rfl
theorem ok_parts {t : S34} {wide : Bool} (h : okTok t wide = true) : coded t.f0 = true ∧ (kindOf t.f0 = 4 ∨ t.f3 = 0) ∧ (kindOf t.f0 = 3 ∨ kindOf t.f0 = 6 ∨ t.f2.toList = []) ∧ okK (kindOf t.f0) (mostOf wide) t = true := by
  unfold okTok at h
  simp only [Bool.and_eq_true, Bool.or_eq_true, decide_eq_true_eq] at h
  obtain ⟨h1, h2, h3, h4⟩ := h
  refine ⟨h1, h2, ?_, h4⟩
  rcases h3 with (h3 | h3) | h3
  · exact .inl h3
  · exact .inr (.inl h3)
  · exact .inr (.inr h3)
theorem coded_range {c : Int} (h : coded c = true) : c = 0 ∨ 16 ≤ c ∧ c ≤ 4095 := by
  unfold coded at h
  simpa using h
theorem size_nil {s : ByteArray} (h : s.toList = []) : s.size = 0 := by
  rw [Lib.toList_data] at h
  have := congrArg List.length h
  rw [Array.length_toList] at this
  exact this
theorem ok_size {t : S34} {wide : Bool} (h : okTok t wide = true) : t.f2.size ≤ 255 := by
  obtain ⟨_, _, h3, h4⟩ := ok_parts h
  unfold okK at h4
  rcases h3 with e | e | e
  · rw [e] at h4
    simp at h4
    omega
  · rw [e] at h4
    simp at h4
    omega
  · have := size_nil e
    omega
theorem ok_tok {t : S34} {wide : Bool} (h : okTok t wide = true) (hw : Wf t) : TokOk t := by
  have h1 := coded_range (ok_parts h).1
  have h2 := ok_size h
  exact ⟨by omega, hw.1, by omega, hw.2⟩
theorem text_len (s : ByteArray) : (textB s).length = s.size + 1 := by
  unfold textB
  rw [List.length_append, bytesOf_length]
  simp
  omega
theorem two_len (n : Int) : (twoB n).length = 2 := rfl
theorem wtok_len {t : S34} {wide : Bool} (h : okTok t wide = true) : 1 ≤ (wtokB (kindOf t.f0) wide t).length ∧ (wtokB (kindOf t.f0) wide t).length ≤ 300 := by
  have h2 := ok_size h
  have hc := codeB_len t.f0
  have hc1 : 1 ≤ (codeB t.f0).length := by unfold codeB; split <;> simp
  have hc2 := codeB_len t.f1
  have ht := text_len t.f2
  unfold wtokB
  rw [List.length_append]
  rcases kind_range t.f0 with e | e | e | e | e | e | e <;> rw [e] <;> simp [two_len, ht]
  all_goals first | omega | skip
  · cases wide <;> simp [two_len] <;> omega
theorem alive_eq {k : Nat} (hk : 30 ≤ k) : tinderlaw13_alive.f k = some true :=
  at_rounds (g := tinderlaw13_alive.f) tinderlaw13_alive.mono hk (by decide +kernel)
end Go.Proofs.Ytfaebbmngplilaa.V
