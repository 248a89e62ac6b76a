/- A token's size is the document's, and the number of its bytes. No condition. -/
import Derived.Test.YtfaebbmngplilaaV3
namespace Go.Proofs.Ytfaebbmngplilaa.Pure
open Go.RowKit Go.Proofs.Ytfaebbmngplilaa.P Go.Proofs.Ytfaebbmngplilaa.G Go.Proofs.Ytfaebbmngplilaa.V Go.Proofs.YtfaebbmngplilaaW.PrintWords Go.Proofs.YtfaebbmngplilaaW.PrintLast Go.Proofs.YtfaebbmngplilaaW.PrintMore
set_option linter.unusedVariables false

/-- The statement over numbers. -/
theorem TokenSizes (t : S34) (wide : Bool) (hw : Wf t) : ∃ k, tinderlaw13_TokenSizes.f k t.f0 t.f1 t.f2 t.f3 wide = some true := by
  refine ⟨60, ?_⟩
  obtain ⟨b, hb1, hb2⟩ := bytes_eq (k := 60) (by omega) t hw.1 hw.2 wide
  have henc := enc_eq (l := [t]) (fun x hx => by rcases List.mem_singleton.1 hx with rfl; exact hw) wide (k := 60) (by simp)
  have hsz : token_Size.f 60 t.f0 t.f1 t.f2 t.f3 wide = some (if okTok t wide = true then ((wtokB (kindOf t.f0) wide t).length : Int) else 0) := by
    unfold token_Size.f
    rw [right_eq (by omega) t hw.1, Option.bind_some]
    by_cases h : okTok t wide = true
    · rw [if_pos h, if_pos h, behind_eq (by omega), Option.bind_some, if_pos (kind_le _)]
      show (if TokOk t then some ((wtokB (kindOf t.f0) wide t).length : Int) else none) = _
      rw [if_pos (ok_tok h hw)]
    · rw [if_neg h, if_neg h]
  have hrs : tinderref13_Size.f 60 t.f0 t.f1 t.f2 t.f3 wide = some (if okTok t wide = true then ((wtokB (kindOf t.f0) wide t).length : Int) else 0) := by
    unfold tinderref13_Size.f
    rw [hb1, Option.bind_some]
    by_cases h : okTok t wide = true
    · rw [if_pos h, if_pos h, hb2 h]
    · rw [if_neg h, if_neg h]
  unfold tinderlaw13_TokenSizes.f
  rw [alive_eq (by omega), Option.bind_some, if_pos rfl, hsz, Option.bind_some, show ([(⟨t.f0, t.f1, t.f2, t.f3⟩ : S34)] : List S34) = [t] from rfl, henc, Option.bind_some, hrs, Option.bind_some, if_pos rfl]
  by_cases h : okTok t wide = true
  · have hl := wtok_len h
    have e : encL [t] wide false [] = (wtokB (kindOf t.f0) wide t, 0) := by
      rw [encL, if_pos h, if_neg (by decide), List.nil_append, decide_eq_false (by omega), encL, if_neg (by decide)]
    rw [e, if_pos h, decide_eq_true (by omega)]
    simp
  · have e : encL [t] wide false [] = ([], 16) := by rw [encL, if_neg h]
    rw [e, if_neg h]
    simp

end Go.Proofs.Ytfaebbmngplilaa.Pure
