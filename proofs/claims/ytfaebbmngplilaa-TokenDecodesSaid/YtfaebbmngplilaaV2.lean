/- The document's bytes of a token, in closed form. -/
import Derived.Test.YtfaebbmngplilaaV1
import Derived.Test.YtfaebbmngplilaaPx6
import Derived.Test.YtfaebbmngplilaaPx8
namespace Go.Proofs.Ytfaebbmngplilaa.V
open Go.RowKit Go.Proofs.Ytfaebbmngplilaa.P Go.Proofs.Ytfaebbmngplilaa.G Go.Proofs.YtfaebbmngplilaaW.PrintWords Go.Proofs.YtfaebbmngplilaaW.PrintLast Go.Proofs.YtfaebbmngplilaaW.PrintMore
set_option linter.unusedVariables false

theorem rbehind_eq {k : Nat} (hk : 6 ≤ k) (c : Int) : tinderref13_Behind.f k c = some (kindOf c) := by
  rcases codes c with rfl | rfl | rfl | rfl | rfl | rfl | rfl | rfl | rfl | rfl | rfl | rfl | rfl | rfl | rfl | h
  all_goals first | (exact at_rounds (g := fun k => tinderref13_Behind.f k _) (fun k => tinderref13_Behind.mono _ k) hk (by decide +kernel)) | skip
  rw [kind_other h]
  obtain ⟨h1, h2, h3, h4, h5, h6, h7, h8, h9, h10, h11, h12, h13, h14, h15⟩ := h
  obtain ⟨k, rfl⟩ : ∃ m, k = m + 1 + 1 := ⟨k - 2, by omega⟩
  unfold tinderref13_Behind.f
  rw [if_neg h1, if_neg h2, tinderref13_Behind.j0, beq_eq_false_iff_ne.mpr h3, if_neg (by decide), if_neg h4, if_neg h5, if_neg h6, if_neg h7, if_neg h8, if_neg h9, if_neg h10, if_neg h11, tinderref13_Behind.j1, beq_eq_false_iff_ne.mpr h12, if_neg (by decide), if_neg h13, if_neg h14, if_neg h15]
theorem rcoded_eq (c : Int) : tinderref13_Coded.f c = some (coded c) := by
  unfold tinderref13_Coded.f coded
  by_cases h : c = 0
  · rw [if_pos h, decide_eq_true (.inl h)]
  · rw [if_neg h]
    by_cases h2 : c ≥ 16
    · rw [if_pos h2]
      congr 1
      rw [decide_eq_decide]
      omega
    · rw [if_neg h2, decide_eq_false (by omega)]
theorem rcode_eq {c : Int} (h0 : 0 ≤ c) (h1 : c ≤ 4294967295) : tinderref13_code.f c = some (codeB c) := by
  unfold tinderref13_code.f codeB
  by_cases h : c ≤ 255
  · rw [if_pos h, if_neg (by omega)]
  · rw [if_neg h, if_pos (by omega), Int.tdiv_eq_ediv_of_nonneg h0, Int.tmod_eq_emod_of_nonneg h0, w64 (by omega) (by omega)]
    congr 2
    congr 1
    omega
theorem rtwo_eq {n : Int} (h0 : 0 ≤ n) (h1 : n ≤ 4294967295) : tinderref13_two.f n = some (twoB n) := by
  unfold tinderref13_two.f twoB
  have e1 : Int.tdiv n 256 = n / 256 := Int.tdiv_eq_ediv_of_nonneg h0
  have e2 : Int.tmod n 256 = n % 256 := Int.tmod_eq_emod_of_nonneg h0
  have e4 : Int.tmod (n / 256) 256 = n / 256 % 256 := Int.tmod_eq_emod_of_nonneg (by omega)
  rw [e1, e2, w64 (by omega) (by omega), e4]
  congr 2
  · omega
  · congr 1
    omega
theorem codeB_len (c : Int) : (codeB c).length ≤ 2 := by
  unfold codeB
  split <;> simp
theorem two_some (n : Int) : ∃ a b, tinderref13_two.f n = some [a, b] := ⟨_, _, rfl⟩
theorem rtwo_off {n : Int} (h0 : -32768 ≤ n) (h1 : n ≤ 32767) : tinderref13_two.f (wrap64 (n + 65536)) = some (twoB n) := by
  rw [w64 (by omega) (by omega), rtwo_eq (by omega) (by omega)]
  unfold twoB
  congr 2
  · omega
  · congr 1
    omega
theorem big (n m : Nat) (h : n ≤ 1000) (h' : m ≤ 140737488351232) : n + m < 140737488355328 := by omega
theorem good {k : Nat} (t : S34) (h1 : 0 ≤ t.f1 ∧ t.f1 ≤ 4294967295) (h3 : -9223372036854775808 ≤ t.f3 ∧ t.f3 ≤ 9223372036854775807) (wide : Bool) (hc0 : t.f0 = 0 ∨ 16 ≤ t.f0 ∧ t.f0 ≤ 4095) (kd : Int)
    (hkd : kd = 0 ∨ kd = 1 ∨ kd = 2 ∨ kd = 3 ∨ kd = 4 ∨ kd = 5 ∨ kd = 6) (hf : kd = 0 ∨ kd = 3 ∨ kd = 4 → t.f1 = 0) :
    ∃ b, tinderref13_Bytes.j0 (k + 1 + 1 + 1) wide kd false t.f0 t.f1 t.f2 t.f3 = some (b, okK kd (mostOf wide) t) ∧ (okK kd (mostOf wide) t = true → b = wtokB kd wide t) := by
  have hcl := codeB_len t.f0
  have e1 : wrap64 t.f1 = t.f1 := w64 (by omega) (by omega)
  rw [tinderref13_Bytes.j0, if_neg (by decide), rcode_eq (by omega) (by omega), Option.bind_some, e1]
  unfold wtokB okK
  rcases hkd with rfl | rfl | rfl | rfl | rfl | rfl | rfl
  · rw [if_neg (by decide), if_neg (by decide), if_neg (by decide), if_neg (by decide), if_neg (by decide), tinderref13_Bytes.j1, if_neg (by decide)]
    have := hf (.inl rfl)
    refine ⟨codeB t.f0, ?_, fun _ => by simp⟩
    simp [this]
  · have a1 : Int.tdiv t.f1 65536 = t.f1 / 65536 := Int.tdiv_eq_ediv_of_nonneg h1.1
    have a2 : Int.tmod t.f1 65536 = t.f1 % 65536 := Int.tmod_eq_emod_of_nonneg h1.1
    rw [if_pos rfl, a1, a2, w64 (n := t.f1 / 65536) (by omega) (by omega), rtwo_eq (n := t.f1 / 65536) (by omega) (by omega), Option.bind_some, if_pos (by show _ + 2 < _; omega), Option.bind_some, rtwo_eq (by omega) (by omega), Option.bind_some, if_pos (by rw [List.length_append]; show _ + 2 + 2 < _; omega)]
    exact ⟨_, rfl, fun _ => by rw [if_pos rfl, List.append_assoc]⟩
  · rw [if_neg (by decide), if_pos rfl, rcoded_eq, Option.bind_some]
    cases hcd : coded t.f1 with
    | true =>
      have hc1 : t.f1 = 0 ∨ 16 ≤ t.f1 ∧ t.f1 ≤ 4095 := by unfold coded at hcd; simpa using hcd
      have hcl1 := codeB_len t.f1
      rw [if_pos rfl, rcode_eq (by omega) (by omega), Option.bind_some, if_pos (by omega)]
      refine ⟨codeB t.f0 ++ codeB t.f1, ?_, fun _ => by simp⟩
      simp
      omega
    | false =>
      rw [if_neg (by decide)]
      exact ⟨[], by simp, fun h => by simp at h⟩
  · have hz := hf (.inr (.inl rfl))
    rw [if_neg (by decide), if_neg (by decide), if_pos rfl]
    by_cases h : (t.f2.size : Int) > 255
    · rw [if_pos h]
      refine ⟨[], ?_, fun h2 => ?_⟩
      · simp [hz]
        omega
      · simp [hz] at h2
        omega
    · rw [if_neg h, if_pos (by omega), Option.bind_some, if_pos (by rw [List.length_append, List.length_cons, List.length_nil]; omega)]
      refine ⟨codeB t.f0 ++ [(t.f2.size : Int) % 256] ++ bytesOf t.f2, ?_, fun _ => ?_⟩
      · simp [hz]
        omega
      · simp [textB]
  · have hz := hf (.inr (.inr rfl))
    rw [if_neg (by decide), if_neg (by decide), if_neg (by decide), if_pos rfl]
    cases wide with
    | true =>
      rw [if_pos rfl]
      by_cases hr : -32768 ≤ t.f3 ∧ t.f3 ≤ 32767
      · rw [rtwo_off hr.1 hr.2, Option.bind_some, if_pos (by show _ + 2 < _; omega), Option.bind_some, if_pos hr.1]
        refine ⟨codeB t.f0 ++ twoB t.f3, ?_, fun _ => by simp⟩
        rw [decide_eq_true (show t.f3 ≤ 32767 by omega)]
        simp [mostOf, hz]
        omega
      · obtain ⟨a, b, hab⟩ := two_some (wrap64 (t.f3 + 65536))
        rw [hab, Option.bind_some, if_pos (by show _ + 2 < _; omega), Option.bind_some]
        have hno : (decide (-mostOf true ≤ t.f3) && decide (t.f3 < mostOf true)) = false := by
          simp [mostOf]
          omega
        refine ⟨codeB t.f0 ++ [a, b], ?_, fun h2 => ?_⟩
        · by_cases h4 : t.f3 ≥ -32768
          · rw [if_pos h4, decide_eq_false (show ¬ t.f3 ≤ 32767 by omega)]
            simp [mostOf, hz]
            omega
          · rw [if_neg h4]
            simp [mostOf, hz]
            omega
        · simp [mostOf, hz] at h2
          omega
    | false =>
      rw [if_neg (by decide), if_pos (by omega), Option.bind_some]
      by_cases hr : -128 ≤ t.f3 ∧ t.f3 ≤ 127
      · have e : Int.tmod (wrap64 (t.f3 + 256)) 256 % 256 = t.f3 % 256 := by
          rw [w64 (by omega) (by omega), Int.tmod_eq_emod_of_nonneg (by omega)]
          omega
        rw [e, if_pos hr.1]
        refine ⟨codeB t.f0 ++ [t.f3 % 256], ?_, fun _ => by simp⟩
        rw [decide_eq_true (show t.f3 ≤ 127 by omega)]
        simp [mostOf, hz]
        omega
      · refine ⟨codeB t.f0 ++ [Int.tmod (wrap64 (t.f3 + 256)) 256 % 256], ?_, fun h2 => ?_⟩
        · by_cases h4 : t.f3 ≥ -128
          · rw [if_pos h4, decide_eq_false (show ¬ t.f3 ≤ 127 by omega)]
            simp [mostOf, hz]
            omega
          · rw [if_neg h4]
            simp [mostOf, hz]
            omega
        · simp [mostOf, hz] at h2
          omega
  · rw [if_neg (by decide), if_neg (by decide), if_neg (by decide), if_neg (by decide), if_pos rfl, tinderref13_Bytes.j1, if_pos (by decide)]
    by_cases h : t.f1 < 2048
    · rw [if_pos h, tinderref13_Bytes.j2, if_pos rfl]
      exact ⟨[], by simp; omega, fun h2 => by simp at h2; omega⟩
    · rw [if_neg h]
      by_cases h4 : t.f1 > 4095
      · rw [if_pos h4, tinderref13_Bytes.j2, if_pos rfl]
        exact ⟨[], by simp; omega, fun h2 => by simp at h2; omega⟩
      · rw [if_neg h4]
        by_cases h5 : (t.f2.size : Int) > 31
        · rw [decide_eq_true h5, tinderref13_Bytes.j2, if_pos rfl]
          exact ⟨[], by simp; omega, fun h2 => by simp at h2; omega⟩
        · rw [decide_eq_false h5, tinderref13_Bytes.j2, if_neg (by decide), if_neg (by decide), rtwo_eq (by omega) (by omega), Option.bind_some, if_pos (by show _ + 2 < _; omega)]
          exact ⟨codeB t.f0 ++ twoB t.f1, by simp; omega, fun _ => by simp⟩
  · rw [if_neg (by decide), if_neg (by decide), if_neg (by decide), if_neg (by decide), if_neg (by decide), tinderref13_Bytes.j1, if_pos (by decide)]
    by_cases h : t.f1 < 2048
    · rw [if_pos h, tinderref13_Bytes.j2, if_pos rfl]
      exact ⟨[], by simp; omega, fun h2 => by simp at h2; omega⟩
    · rw [if_neg h]
      by_cases h4 : t.f1 > 4095
      · rw [if_pos h4, tinderref13_Bytes.j2, if_pos rfl]
        exact ⟨[], by simp; omega, fun h2 => by simp at h2; omega⟩
      · rw [if_neg h4]
        by_cases h5 : (t.f2.size : Int) > 31
        · rw [decide_eq_true h5, tinderref13_Bytes.j2, if_pos rfl]
          exact ⟨[], by simp; omega, fun h2 => by simp at h2; omega⟩
        · have hbl := bytesOf_length t.f2
          rw [decide_eq_false h5, tinderref13_Bytes.j2, if_neg (by decide), if_pos rfl, if_pos (by omega), Option.bind_some, if_pos (by rw [List.length_append, List.length_cons, List.length_nil]; omega), Option.bind_some, rtwo_eq (by omega) (by omega), Option.bind_some, if_pos (by rw [List.length_append, List.length_append, List.length_cons, List.length_nil, hbl]; show _ + 2 < _; omega)]
          exact ⟨codeB t.f0 ++ [(t.f2.size : Int) % 256] ++ bytesOf t.f2 ++ twoB t.f1, by simp; omega, fun _ => by simp [textB]⟩
/-- A field that has no meaning is not empty. -/
def flagK (kd : Int) (t : S34) : Bool := (!decide (kd = 1) && !decide (kd = 2) && !decide (kd = 5) && !decide (kd = 6) && !decide (t.f1 = 0)) || (!decide (kd = 3) && !decide (kd = 6) && !decide (t.f2.toList = [])) || (!decide (kd = 4) && !decide (t.f3 = 0))
theorem flag_ok (kd m : Int) (t : S34) (hkd : kd = 0 ∨ kd = 1 ∨ kd = 2 ∨ kd = 3 ∨ kd = 4 ∨ kd = 5 ∨ kd = 6) :
    ((decide (kd = 4) || decide (t.f3 = 0)) && ((decide (kd = 3) || decide (kd = 6) || decide (t.f2.toList = [])) && okK kd m t)) = (!flagK kd t && okK kd m t) := by
  unfold flagK okK
  rcases hkd with rfl | rfl | rfl | rfl | rfl | rfl | rfl <;> by_cases h1 : t.f1 = 0 <;> by_cases h2 : t.f2.toList = [] <;> by_cases h3 : t.f3 = 0 <;> simp [h1, h2, h3]
/-- The document's: its bytes, if it is a right token. -/
theorem bytes_eq {k : Nat} (hk : 10 ≤ k) (t : S34) (h1 : 0 ≤ t.f1 ∧ t.f1 ≤ 4294967295) (h3 : -9223372036854775808 ≤ t.f3 ∧ t.f3 ≤ 9223372036854775807) (wide : Bool) :
    ∃ b, tinderref13_Bytes.f k t.f0 t.f1 t.f2 t.f3 wide = some (b, okTok t wide) ∧ (okTok t wide = true → b = wtokB (kindOf t.f0) wide t) := by
  obtain ⟨k, rfl⟩ : ∃ m, k = m + 1 + 1 + 1 := ⟨k - 3, by omega⟩
  cases hcd : coded t.f0 with
  | false =>
    unfold tinderref13_Bytes.f okTok
    rw [rcoded_eq, Option.bind_some, hcd, if_neg (by decide)]
    exact ⟨[], rfl, fun h => by cases h⟩
  | true =>
    have hc0 : t.f0 = 0 ∨ 16 ≤ t.f0 ∧ t.f0 ≤ 4095 := by unfold coded at hcd; simpa using hcd
    have sel : tinderref13_Bytes.f (k + 1 + 1 + 1) t.f0 t.f1 t.f2 t.f3 wide = tinderref13_Bytes.j0 (k + 1 + 1 + 1) wide (kindOf t.f0) (flagK (kindOf t.f0) t) t.f0 t.f1 t.f2 t.f3 := by
      unfold tinderref13_Bytes.f flagK
      rw [rcoded_eq, Option.bind_some, hcd, if_pos rfl, rbehind_eq (by omega), Option.bind_some]
      rcases kind_range t.f0 with e | e | e | e | e | e | e <;> rw [e] <;> by_cases h1 : t.f1 = 0 <;> by_cases h2 : t.f2.toList = [] <;> by_cases h3 : t.f3 = 0 <;> simp [h1, h2, h3]
      all_goals (rw [bne_iff_ne.mpr h3])
    have hok : okTok t wide = (!flagK (kindOf t.f0) t && okK (kindOf t.f0) (mostOf wide) t) := by
      unfold okTok
      rw [hcd, Bool.true_and, flag_ok _ _ _ (kind_range _)]
    rw [sel, hok]
    cases hfl : flagK (kindOf t.f0) t with
    | true =>
      rw [tinderref13_Bytes.j0, if_pos rfl]
      exact ⟨[], rfl, fun h => by cases h⟩
    | false =>
      refine good t h1 h3 wide hc0 _ (kind_range _) (fun hz => ?_)
      unfold flagK at hfl
      refine Classical.byContradiction fun hn => ?_
      rcases hz with e | e | e <;> rw [e] at hfl <;> simp [hn] at hfl
end Go.Proofs.Ytfaebbmngplilaa.V
