/- Bytes are read as tokens, or refused, as the document says. No condition. -/
import Derived.Test.YtfaebbmngplilaaV7
namespace Go.Proofs.Ytfaebbmngplilaa.Pure
open Go.RowKit Go.Proofs.Ytfaebbmngplilaa.P Go.Proofs.Ytfaebbmngplilaa.G Go.Proofs.Ytfaebbmngplilaa.V Go.Proofs.YtfaebbmngplilaaW.PrintWords Go.Proofs.YtfaebbmngplilaaW.PrintLast Go.Proofs.YtfaebbmngplilaaW.PrintMore
set_option linter.unusedVariables false

/-- The document's first token of bytes: it lacks bytes, or is a token that is right, or none. -/
theorem one_eq {k : Nat} (hk : 10 ≤ k) {wide : Bool} {rb r : List Int} {t : S34} {lk : Bool} (hB : Bys rb) (h0 : 0 < rb.length) (h : tok1 wide rb = (t, r, lk)) :
    tinderref13_one.f k rb wide = if lk = true then some (0, 0, (⟨#[]⟩ : ByteArray), 0, 0) else if okTok t wide = true then some (t.f0, t.f1, t.f2, t.f3, ((wtokB (kindOf t.f0) wide t).length : Int)) else some (0, 0, (⟨#[]⟩ : ByteArray), 0, 0) := by
  unfold tinderref13_one.f
  rw [if_pos (all_of hB), if_neg (by omega)]
  obtain ⟨c, r1, l1, e1⟩ : ∃ c r1 l1, codeP rb false = (c, r1, l1) := ⟨_, _, _, rfl⟩
  have e : tokP (kindOf c) wide c r1 l1 = (t, r, lk) := by
    have h2 : tokP (kindOf (codeP rb false).1) wide (codeP rb false).1 (codeP rb false).2.1 (codeP rb false).2.2 = (t, r, lk) := h
    rw [e1] at h2
    exact h2
  rw [e1]
  cases l1 with
  | true =>
    rw [if_pos rfl]
    cases lk with
    | true => rw [if_pos rfl]
    | false => exact (lack_of (kindOf c) wide c r1 (by rw [e])).elim
  | false =>
    rw [if_neg (show ¬ (false = true) by decide)]
    unfold one.g
    rw [rbehind_eq (by omega), Option.bind_some, if_pos (kind_le _)]
    show (if (tokP (kindOf c) wide c r1 false).2.2 = true then _ else one.h k wide (tokP (kindOf c) wide c r1 false).1) = _
    rw [e]
    cases lk with
    | true => rw [if_pos rfl, if_pos rfl]
    | false =>
      obtain ⟨_, hw⟩ := tok_again hB h
      obtain ⟨b, hb, hb2⟩ := bytes_eq hk t hw.1 hw.2 wide
      rw [if_neg (show ¬ (false = true) by decide), if_neg (show ¬ (false = true) by decide)]
      unfold one.h
      rw [hb, Option.bind_some]
      by_cases ho : okTok t wide = true
      · rw [if_pos ho, if_pos ho, hb2 ho]
      · rw [if_neg ho, if_neg ho]
theorem dec_both {l0 : List Int} (hB0 : Bys l0) (h8 : l0.length ≤ 8192) (d : Nat) : ∀ (i k : Nat) (rb : List Int) (wide : Bool) (acc : List S34), rb.length ≤ d → l0.drop i = rb → i ≤ l0.length → acc.length + rb.length ≤ 8192 → d + 20 < k →
    ∃ y, token_Decode.l0 k wide rb acc = some y ∧ tinderref13_Decode.l0 k l0 wide acc (i : Int) = some y ∧ y.1.length ≤ 8192 := by
  induction d with
  | zero =>
    intro i k rb wide acc hd hr hi ha hk
    obtain ⟨k, rfl⟩ : ∃ m, k = m + 1 := ⟨k - 1, by omega⟩
    obtain rfl := List.eq_nil_of_length_eq_zero (show rb.length = 0 by omega)
    have hlen := congrArg List.length hr
    rw [List.length_drop, List.length_nil] at hlen
    refine ⟨(acc, 0), dec_nil k wide acc, ?_, by show acc.length ≤ 8192; omega⟩
    rw [tinderref13_Decode.l0, if_neg (by omega)]
  | succ d ih =>
    intro i k rb wide acc hd hr hi ha hk
    obtain ⟨k, rfl⟩ : ∃ m, k = m + 1 := ⟨k - 1, by omega⟩
    have hlen := congrArg List.length hr
    rw [List.length_drop] at hlen
    have hB : Bys rb := by rw [← hr]; exact hB0.drop i
    by_cases h0 : 0 < rb.length
    · obtain ⟨t, r, lk, e⟩ : ∃ t r lk, tok1 wide rb = (t, r, lk) := ⟨_, _, _, rfl⟩
      rw [dec_step (by omega) hB h0 e, tinderref13_Decode.l0, if_pos (show (i : Int) < (l0.length : Int) by omega), if_pos (show (0 : Int) ≤ (i : Int) by omega), if_pos (show (i : Int) ≤ (l0.length : Int) by omega), Int.toNat_natCast, hr, one_eq (by omega) hB h0 e]
      cases lk with
      | true =>
        rw [if_pos rfl, if_pos rfl, Option.bind_some, if_pos rfl]
        exact ⟨_, rfl, rfl, by show (0 : Nat) ≤ 8192; omega⟩
      | false =>
        rw [if_neg (show ¬ (false = true) by decide), if_neg (show ¬ (false = true) by decide)]
        by_cases ho : okTok t wide = true
        · obtain ⟨er, _⟩ := tok_again hB e
          have hp := wtok_pos (kindOf t.f0) wide t
          have hl2 := congrArg List.length er
          rw [List.length_append] at hl2
          have hr2 : l0.drop (i + (wtokB (kindOf t.f0) wide t).length) = r := by
            rw [← List.drop_drop, hr, er, List.drop_left]
          obtain ⟨y, y1, y2, y3⟩ := ih (i + (wtokB (kindOf t.f0) wide t).length) k r (wide || (t.f0 == 204)) (acc ++ [t]) (by omega) hr2 (by omega) (by rw [List.length_append, List.length_singleton]; omega) (by omega)
          rw [if_pos ho, if_pos ho, if_pos (by omega), Option.bind_some]
          simp only
          rw [if_neg (by omega), if_pos (by omega), Option.bind_some, w64 (n := (i : Int) + _) (by omega) (by omega)]
          refine ⟨y, y1, ?_, y3⟩
          rw [Int.natCast_add] at y2
          cases wide with
          | true => rw [if_pos rfl]; exact y2
          | false => rw [if_neg (by decide)]; exact y2
        · rw [if_neg ho, if_neg ho, Option.bind_some, if_pos rfl]
          exact ⟨_, rfl, rfl, by show (0 : Nat) ≤ 8192; omega⟩
    · obtain rfl := List.eq_nil_of_length_eq_zero (show rb.length = 0 by omega)
      rw [List.length_nil] at hlen
      refine ⟨(acc, 0), dec_nil k wide acc, ?_, by show acc.length ≤ 8192; omega⟩
      rw [tinderref13_Decode.l0, if_neg (by omega)]

theorem TokenDecodes : tinderlaw13_TokenDecodes.Pure := by
  intro l wide hm hl hw
  have hB : Bys l := fun x hx => bounds_u8 (hw x hx)
  refine ⟨l.length + 9000, ?_⟩
  unfold tinderlaw13_TokenDecodes.f tinderref04_Copy.f
  rw [alive_eq (by omega), Option.bind_some, if_pos rfl, if_pos (by rw [List.length_nil]; omega), Option.bind_some, List.nil_append]
  by_cases h8 : l.length ≤ 8192
  · obtain ⟨y, y1, y2, y3⟩ := dec_both hB h8 l.length 0 (l.length + 9000) l wide [] (by omega) rfl (by omega) (by rw [List.length_nil]; omega) (by omega)
    rw [dec_f hB h8, y1, Option.bind_some]
    unfold tinderref13_Decode.f
    have e0 : ((0 : Nat) : Int) = 0 := rfl
    rw [e0] at y2
    rw [if_neg (by omega), y2, Option.bind_some, same_toks (by omega) (by omega), Option.bind_some, if_pos rfl, if_pos rfl, same_refl, Option.bind_some]
  · rw [dec_long h8, Option.bind_some]
    unfold tinderref13_Decode.f
    rw [if_pos (by omega), Option.bind_some, same_toks (by simp) (by simp), Option.bind_some, if_pos rfl, if_pos rfl, same_refl, Option.bind_some]

end Go.Proofs.Ytfaebbmngplilaa.Pure
