/- Tokens encoded, in closed form: the program's text and the document's. -/
import Derived.Test.YtfaebbmngplilaaV2
import Derived.Test.YtfaebbmngplilaaPx10
namespace Go.Proofs.Ytfaebbmngplilaa.V
open Go.RowKit Go.Proofs.Ytfaebbmngplilaa.P Go.Proofs.Ytfaebbmngplilaa.G Go.Proofs.YtfaebbmngplilaaW.PrintWords Go.Proofs.YtfaebbmngplilaaW.PrintLast Go.Proofs.YtfaebbmngplilaaW.PrintMore
set_option linter.unusedVariables false

/-- The fields' numbers are numbers of their kinds. -/
def Wf (t : S34) : Prop := (0 ≤ t.f1 ∧ t.f1 ≤ 4294967295) ∧ (-9223372036854775808 ≤ t.f3 ∧ t.f3 ≤ 9223372036854775807)
theorem rd_tok {l : List S34} {i : Nat} (h : i < l.length) : rd_T34 l (i : Int) = l[i] := by
  unfold rd_T34
  rw [List.getD_eq_getElem?_getD, Int.toNat_natCast, List.getElem?_eq_getElem h]
  rfl
theorem ok_parts {t : S34} {wide : Bool} (h : okTok t wide = true) : coded t.f0 = true ∧ (kindOf t.f0 = 4 ∨ t.f3 = 0) ∧ (kindOf t.f0 = 3 ∨ kindOf t.f0 = 6 ∨ t.f2.toList = []) ∧ okK (kindOf t.f0) (mostOf wide) t = true := by
  unfold okTok at h
  simp only [Bool.and_eq_true, Bool.or_eq_true, decide_eq_true_eq] at h
  obtain ⟨h1, h2, h3, h4⟩ := h
  refine ⟨h1, h2, ?_, h4⟩
  rcases h3 with (h3 | h3) | h3
  · exact .inl h3
  · exact .inr (.inl h3)
  · exact .inr (.inr h3)
theorem coded_range {c : Int} (h : coded c = true) : c = 0 ∨ 16 ≤ c ∧ c ≤ 4095 := by
  unfold coded at h
  simpa using h
theorem size_nil {s : ByteArray} (h : s.toList = []) : s.size = 0 := by
  rw [Lib.toList_data] at h
  have := congrArg List.length h
  rw [Array.length_toList] at this
  exact this
theorem ok_size {t : S34} {wide : Bool} (h : okTok t wide = true) : t.f2.size ≤ 255 := by
  obtain ⟨_, _, h3, h4⟩ := ok_parts h
  unfold okK at h4
  rcases h3 with e | e | e
  · rw [e] at h4
    simp at h4
    omega
  · rw [e] at h4
    simp at h4
    omega
  · have := size_nil e
    omega
theorem ok_tok {t : S34} {wide : Bool} (h : okTok t wide = true) (hw : Wf t) : TokOk t := by
  have h1 := coded_range (ok_parts h).1
  have h2 := ok_size h
  exact ⟨by omega, hw.1, by omega, hw.2⟩
theorem text_len (s : ByteArray) : (textB s).length = s.size + 1 := by
  unfold textB
  rw [List.length_append, bytesOf_length]
  simp
  omega
theorem two_len (n : Int) : (twoB n).length = 2 := rfl
theorem wtok_len {t : S34} {wide : Bool} (h : okTok t wide = true) : 1 ≤ (wtokB (kindOf t.f0) wide t).length ∧ (wtokB (kindOf t.f0) wide t).length ≤ 300 := by
  have h2 := ok_size h
  have hc := codeB_len t.f0
  have hc1 : 1 ≤ (codeB t.f0).length := by unfold codeB; split <;> simp
  have hc2 := codeB_len t.f1
  have ht := text_len t.f2
  unfold wtokB
  rw [List.length_append]
  rcases kind_range t.f0 with e | e | e | e | e | e | e <;> rw [e] <;> simp [two_len, ht]
  all_goals first | omega | skip
  · cases wide <;> simp [two_len] <;> omega
/-- Tokens encoded. -/
def encL : List S34 → Bool → Bool → List Int → List Int × Int
  | [], _, long, bs => if long = true then ([], 3) else (bs, 0)
  | t :: l, wide, long, bs => if okTok t wide = true then
      (if long = true then encL l (wide || (t.f0 == 204)) true bs else encL l (wide || (t.f0 == 204)) (decide (((bs ++ wtokB (kindOf t.f0) wide t).length : Int) > 8192)) (bs ++ wtokB (kindOf t.f0) wide t)) else ([], 16)
theorem encL_long (l : List S34) : ∀ (wide : Bool) (bs bs' : List Int), encL l wide true bs = encL l wide true bs' := by
  induction l with
  | nil => intro wide bs bs'; rfl
  | cons t l ih =>
    intro wide bs bs'
    rw [encL, encL]
    by_cases h : okTok t wide = true
    · rw [if_pos h, if_pos h, if_pos rfl, if_pos rfl]
      exact ih _ _ _
    · rw [if_neg h, if_neg h]
theorem enc_loop {l : List S34} (hw : ∀ t ∈ l, Wf t) (d : Nat) : ∀ (k i : Nat) (wide long : Bool) (bs : List Int), i ≤ l.length → l.length - i = d → d + 20 < k → (long = false → bs.length ≤ 8192) →
    token_Encode.l0 k l wide long bs (i : Int) = some (encL (l.drop i) wide long bs) := by
  induction d with
  | zero =>
    intro k i wide long bs hi hd hk hb
    obtain ⟨k, rfl⟩ : ∃ m, k = m + 1 := ⟨k - 1, by omega⟩
    rw [token_Encode.l0, if_pos (by omega), if_neg (by omega), List.drop_eq_nil_of_le (by omega), encL]
    cases long <;> rfl
  | succ d ih =>
    intro k i wide long bs hi hd hk hb
    obtain ⟨k, rfl⟩ : ∃ m, k = m + 1 := ⟨k - 1, by omega⟩
    have hi2 : i < l.length := by omega
    have hwt := hw l[i] (List.getElem_mem hi2)
    rw [token_Encode.l0, if_pos (by omega), if_pos (by omega), rd_tok hi2, right_eq (by omega) _ hwt.1, Option.bind_some, List.drop_eq_getElem_cons hi2, encL]
    have e : (i : Int) + 1 = ((i + 1 : Nat) : Int) := by omega
    rw [e]
    by_cases h : okTok l[i] wide = true
    · rw [if_pos h, if_pos h]
      cases long with
      | true =>
        rw [if_pos rfl, if_pos rfl]
        exact ih k (i + 1) _ _ _ (by omega) (by omega) (by omega) (fun h => by cases h)
      | false =>
        have hbl := hb rfl
        rw [if_neg (by decide), if_neg (by decide), behind_eq (by omega), Option.bind_some, if_pos (kind_le _), if_pos (ok_tok h hwt), if_pos (by omega)]
        exact ih k (i + 1) _ _ _ (by omega) (by omega) (by omega) (fun hl => by
          have := of_decide_eq_false hl
          omega)
    · rw [if_neg h, if_neg h]
theorem enc_eq {l : List S34} (hw : ∀ t ∈ l, Wf t) (wide : Bool) {k : Nat} (hk : l.length + 20 < k) : token_Encode.f k l wide = some (encL l wide false []) := by
  have := enc_loop hw l.length k 0 wide false [] (by omega) (by omega) hk (fun _ => by simp)
  rw [List.drop_zero] at this
  exact this
theorem renc_loop {l : List S34} (hw : ∀ t ∈ l, Wf t) (hl : l.length ≤ 9223372036854775807) (d : Nat) : ∀ (k i : Nat) (wide long : Bool) (bs : List Int), i ≤ l.length → l.length - i = d → d + 20 < k → (long = false → bs.length ≤ 8192) →
    tinderref13_Encode.l0 k l wide bs long (i : Int) = some (encL (l.drop i) wide long bs) := by
  induction d with
  | zero =>
    intro k i wide long bs hi hd hk hb
    obtain ⟨k, rfl⟩ : ∃ m, k = m + 1 := ⟨k - 1, by omega⟩
    rw [tinderref13_Encode.l0, if_neg (by omega), List.drop_eq_nil_of_le (by omega), encL]
    cases long <;> rfl
  | succ d ih =>
    intro k i wide long bs hi hd hk hb
    obtain ⟨k, rfl⟩ : ∃ m, k = m + 1 := ⟨k - 1, by omega⟩
    have hi2 : i < l.length := by omega
    have hwt := hw l[i] (List.getElem_mem hi2)
    obtain ⟨b, hb1, hb2⟩ := bytes_eq (k := k) (by omega) l[i] hwt.1 hwt.2 wide
    rw [tinderref13_Encode.l0, if_pos (by omega), if_pos (by omega), rd_tok hi2, hb1, Option.bind_some, List.drop_eq_getElem_cons hi2, encL]
    have e : wrap64 ((i : Int) + 1) = ((i + 1 : Nat) : Int) := by rw [w64 (by omega) (by omega)]; omega
    rw [e]
    clear e
    by_cases h : okTok l[i] wide = true
    · rw [if_pos h, if_pos h]
      have hbl := hb2 h
      have hln := wtok_len h
      rw [← hbl] at hln ⊢
      cases long with
      | true =>
        have h2 := ih k (i + 1) (wide || (l[i].f0 == 204)) true bs (by omega) (by omega) (by omega) (fun h => by cases h)
        rw [if_pos rfl]
        cases wide with
        | true =>
          rw [if_pos rfl, if_pos rfl]
          exact h2
        | false =>
          rw [if_neg (by decide), if_pos rfl]
          exact h2
      | false =>
        have hbs := hb rfl
        have e2 : wrap64 (8192 - (bs.length : Int)) = 8192 - (bs.length : Int) := w64 (by omega) (by omega)
        have el : (bs ++ b).length = bs.length + b.length := List.length_append
        simp only [Bool.false_eq_true, if_false]
        rw [e2]
        by_cases hg : (b.length : Int) > 8192 - (bs.length : Int)
        · have h2 := ih k (i + 1) (wide || (l[i].f0 == 204)) true bs (by omega) (by omega) (by omega) (fun h => by cases h)
          rw [decide_eq_true hg, decide_eq_true (show ((bs ++ b).length : Int) > 8192 by omega), encL_long _ _ (bs ++ b) bs, ← h2]
          cases wide with
          | true => rw [if_pos rfl, if_pos hg]; rfl
          | false => rw [if_neg (by decide), if_pos hg]; rfl
        · have h2 := ih k (i + 1) (wide || (l[i].f0 == 204)) false (bs ++ b) (by omega) (by omega) (by omega) (fun _ => by omega)
          rw [decide_eq_false hg, decide_eq_false (show ¬ ((bs ++ b).length : Int) > 8192 by omega), ← h2]
          cases wide with
          | true => rw [if_pos rfl, if_neg hg, if_pos (by omega)]; rfl
          | false => rw [if_neg (by decide), if_neg hg, if_pos (by omega)]; rfl
    · rw [if_neg h, if_neg h]
theorem renc_eq {l : List S34} (hw : ∀ t ∈ l, Wf t) (hl : l.length ≤ 9223372036854775807) (wide : Bool) {k : Nat} (hk : l.length + 20 < k) : tinderref13_Encode.f k l wide = some (encL l wide false []) := by
  have := renc_loop hw hl l.length k 0 wide false [] (by omega) (by omega) hk (fun _ => by simp)
  rw [List.drop_zero] at this
  exact this
theorem alive_eq {k : Nat} (hk : 30 ≤ k) : tinderlaw13_alive.f k = some true :=
  at_rounds (g := tinderlaw13_alive.f) tinderlaw13_alive.mono hk (by decide +kernel)
theorem same_refl (l : List Int) : tinderref04_Same.f l l = some true := by
  unfold tinderref04_Same.f
  simp
end Go.Proofs.Ytfaebbmngplilaa.V
