/- Tokens decoded, in closed form. -/
import Derived.Test.YtfaebbmngplilaaV6
import Derived.Test.YtfaebbmngplilaaPx10
namespace Go.Proofs.Ytfaebbmngplilaa.V
open Go.RowKit Go.Proofs.Ytfaebbmngplilaa.P Go.Proofs.Ytfaebbmngplilaa.G Go.Proofs.YtfaebbmngplilaaW.PrintWords Go.Proofs.YtfaebbmngplilaaW.PrintLast Go.Proofs.YtfaebbmngplilaaW.PrintMore
set_option linter.unusedVariables false

/-- The bytes of tokens that are right. -/
def bytesL : List S34 → Bool → List Int
  | [], _ => []
  | t :: l, wide => wtokB (kindOf t.f0) wide t ++ bytesL l (wide || (t.f0 == 204))
def okL : List S34 → Bool → Prop
  | [], _ => True
  | t :: l, wide => okTok t wide = true ∧ okL l (wide || (t.f0 == 204))
def wideL : List S34 → Bool → Bool
  | [], wide => wide
  | t :: l, wide => wideL l (wide || (t.f0 == 204))
theorem codeB_pos (c : Int) : 1 ≤ (codeB c).length := by unfold codeB; split <;> simp
theorem wtok_pos (kd : Int) (wide : Bool) (t : S34) : 1 ≤ (wtokB kd wide t).length := by
  unfold wtokB
  rw [List.length_append]
  have := codeB_pos t.f0
  omega
theorem tok_less {wide : Bool} {rb r : List Int} {t : S34} (hB : Bys rb) (h : tok1 wide rb = (t, r, false)) : r.length < rb.length ∧ Bys r := by
  obtain ⟨e, _⟩ := tok_again hB h
  refine ⟨?_, bys_drop hB e⟩
  have := wtok_pos (kindOf t.f0) wide t
  have := congrArg List.length e
  rw [List.length_append] at this
  omega
theorem dec_step {k : Nat} (hk : 8 ≤ k) {wide : Bool} {rb r : List Int} {l : List S34} {t : S34} {lk : Bool} (hB : Bys rb) (h0 : 0 < rb.length) (h : tok1 wide rb = (t, r, lk)) :
    token_Decode.l0 (k + 1) wide rb l = if lk = true then some ([], 16) else if okTok t wide = true then (if l.length < 1000000 then token_Decode.l0 k (wide || (t.f0 == 204)) r (l ++ [t]) else none) else some ([], 16) := by
  have e : tokP (kindOf (codeP rb false).1) wide (codeP rb false).1 (codeP rb false).2.1 (codeP rb false).2.2 = (t, r, lk) := h
  rw [token_Decode.l0, if_pos h0, behind_eq (by omega), Option.bind_some, if_pos (kind_le _), e]
  simp only
  cases lk with
  | true => rfl
  | false =>
    obtain ⟨_, hw⟩ := tok_again hB h
    simp only [Bool.false_eq_true, if_false]
    rw [right_eq hk t hw.1, Option.bind_some]
theorem dec_nil (k : Nat) (wide : Bool) (l : List S34) : token_Decode.l0 (k + 1) wide [] l = some (l, 0) := by
  rw [token_Decode.l0, if_neg (by simp)]
/-- What bytes come to. -/
theorem dec_ex (n : Nat) : ∀ (rb : List Int) (wide : Bool), rb.length ≤ n → Bys rb → ∃ (y : List S34) (e : Int), (e = 0 ∨ e = 16) ∧ (e = 0 → rb = bytesL y wide ∧ okL y wide ∧ (∀ t ∈ y, Wf t) ∧ y.length ≤ rb.length) ∧
    ∀ (k : Nat) (acc : List S34), rb.length + 20 < k → acc.length + rb.length ≤ 900000 → token_Decode.l0 k wide rb acc = some (if e = 0 then (acc ++ y, 0) else ([], e)) := by
  induction n with
  | zero =>
    intro rb wide hn hB
    obtain rfl := List.eq_nil_of_length_eq_zero (show rb.length = 0 by omega)
    refine ⟨[], 0, .inl rfl, fun _ => ⟨rfl, trivial, (fun t ht => by cases ht), Nat.le_refl _⟩, fun k acc hk _ => ?_⟩
    obtain ⟨k, rfl⟩ : ∃ m, k = m + 1 := ⟨k - 1, by omega⟩
    rw [dec_nil, if_pos rfl, List.append_nil]
  | succ n ih =>
    intro rb wide hn hB
    by_cases h0 : 0 < rb.length
    · obtain ⟨t, r, lk, h⟩ : ∃ t r lk, tok1 wide rb = (t, r, lk) := ⟨_, _, _, rfl⟩
      cases lk with
      | true =>
        refine ⟨[], 16, .inr rfl, (fun h => by cases h), fun k acc hk _ => ?_⟩
        obtain ⟨k, rfl⟩ : ∃ m, k = m + 1 := ⟨k - 1, by omega⟩
        rw [dec_step (by omega) hB h0 h, if_pos rfl, if_neg (by decide)]
      | false =>
        obtain ⟨hlt, hB2⟩ := tok_less hB h
        obtain ⟨hrb, hw⟩ := tok_again hB h
        by_cases ho : okTok t wide = true
        · obtain ⟨y, e, h1, h2, h3⟩ := ih r (wide || (t.f0 == 204)) (by omega) hB2
          refine ⟨t :: y, e, h1, fun he => ?_, fun k acc hk ha => ?_⟩
          · obtain ⟨e1, e2, e3, e4⟩ := h2 he
            refine ⟨?_, ⟨ho, e2⟩, fun x hx => ?_, by simp only [List.length_cons]; omega⟩
            · rw [bytesL, ← e1]
              exact hrb
            · rcases List.mem_cons.1 hx with rfl | hx
              · exact hw
              · exact e3 x hx
          · obtain ⟨k, rfl⟩ : ∃ m, k = m + 1 := ⟨k - 1, by omega⟩
            rw [dec_step (by omega) hB h0 h, if_neg (by decide), if_pos ho, if_pos (by omega), h3 k (acc ++ [t]) (by omega) (by rw [List.length_append, List.length_cons, List.length_nil]; omega), List.append_assoc]
            rfl
        · refine ⟨[], 16, .inr rfl, (fun h => by cases h), fun k acc hk _ => ?_⟩
          obtain ⟨k, rfl⟩ : ∃ m, k = m + 1 := ⟨k - 1, by omega⟩
          rw [dec_step (by omega) hB h0 h, if_neg (by decide), if_neg ho, if_neg (by decide)]
    · obtain rfl := List.eq_nil_of_length_eq_zero (show rb.length = 0 by omega)
      refine ⟨[], 0, .inl rfl, fun _ => ⟨rfl, trivial, (fun t ht => by cases ht), Nat.le_refl _⟩, fun k acc hk _ => ?_⟩
      obtain ⟨k, rfl⟩ : ∃ m, k = m + 1 := ⟨k - 1, by omega⟩
      rw [dec_nil, if_pos rfl, List.append_nil]
/-- Right tokens' bytes, others behind. -/
theorem dec_app (y : List S34) : ∀ (wide : Bool) (b : List Int) (acc : List S34) (k : Nat), okL y wide → (∀ t ∈ y, Wf t) → Bys (bytesL y wide ++ b) → 8 ≤ k → acc.length + y.length ≤ 900000 →
    token_Decode.l0 (k + y.length) wide (bytesL y wide ++ b) acc = token_Decode.l0 k (wideL y wide) b (acc ++ y) := by
  induction y with
  | nil =>
    intro wide b acc k _ _ _ _ _
    rw [List.append_nil]
    rfl
  | cons t y ih =>
    intro wide b acc k ho hw hB hk ha
    simp only [List.length_cons] at ha
    have hb := tok_back (wide := wide) (t := t) (bytesL y (wide || (t.f0 == 204)) ++ b) ho.1 (hw t List.mem_cons_self)
    have hl : bytesL (t :: y) wide ++ b = wtokB (kindOf t.f0) wide t ++ (bytesL y (wide || (t.f0 == 204)) ++ b) := by rw [bytesL, List.append_assoc]
    rw [hl] at hB ⊢
    have hp := wtok_pos (kindOf t.f0) wide t
    have := ih (wide || (t.f0 == 204)) b (acc ++ [t]) k ho.2 (fun x hx => hw x (List.mem_cons_of_mem _ hx)) (bys_drop hB rfl) hk (by rw [List.length_append, List.length_cons, List.length_nil]; omega)
    rw [List.length_cons, show k + (y.length + 1) = (k + y.length) + 1 by omega, dec_step (by omega) hB (by rw [List.length_append]; omega) hb, if_neg (by decide), if_pos ho.1, if_pos (by omega), this, List.append_assoc]
    rfl
theorem bys_app {a b : List Int} (h : Bys a) (k : Bys b) : Bys (a ++ b) := fun x hx => by
  rcases List.mem_append.1 hx with hx | hx
  · exact h x hx
  · exact k x hx
theorem bys_codeB (c : Int) : Bys (codeB c) := by
  unfold codeB
  split <;> intro x hx <;> simp at hx <;> omega
theorem bys_twoB (c : Int) : Bys (twoB c) := by
  unfold twoB
  intro x hx
  simp at hx
  omega
theorem bys_textB (s : ByteArray) : Bys (textB s) := by
  unfold textB
  refine bys_app (fun x hx => by simp at hx; omega) ?_
  unfold bytesOf
  intro x hx
  obtain ⟨b, _, rfl⟩ := List.mem_map.1 hx
  have := b.toNat_lt
  simp
  omega
theorem bys_wtok (kd : Int) (wide : Bool) (t : S34) : Bys (wtokB kd wide t) := by
  unfold wtokB
  refine bys_app (bys_codeB _) ?_
  repeat' split
  all_goals first | exact bys_app (bys_twoB _) (bys_twoB _) | exact bys_codeB _ | exact bys_app (bys_textB _) (bys_twoB _) | exact bys_textB _ | exact bys_twoB _ | (intro x hx; simp at hx; try omega)
theorem bys_bytesL (y : List S34) : ∀ wide, Bys (bytesL y wide) := by
  induction y with
  | nil => intro wide x hx; cases hx
  | cons t y ih => intro wide; exact bys_app (bys_wtok _ _ _) (ih _)
theorem bytesL_len (y : List S34) : ∀ wide, y.length ≤ (bytesL y wide).length := by
  induction y with
  | nil => intro wide; exact Nat.le_refl _
  | cons t y ih =>
    intro wide
    have := ih (wide || (t.f0 == 204))
    have hp := wtok_pos (kindOf t.f0) wide t
    rw [bytesL, List.length_append, List.length_cons]
    omega
theorem same_toks_loop {l : List S34} (hl : l.length ≤ 9223372036854775807) (d : Nat) : ∀ (k i : Nat), i ≤ l.length → l.length - i = d → d < k → tinderref13_Same.l0 k l l (i : Int) = some true := by
  induction d with
  | zero =>
    intro k i hi hd hk
    obtain ⟨k, rfl⟩ : ∃ m, k = m + 1 := ⟨k - 1, by omega⟩
    rw [tinderref13_Same.l0, if_neg (by omega)]
  | succ d ih =>
    intro k i hi hd hk
    obtain ⟨k, rfl⟩ : ∃ m, k = m + 1 := ⟨k - 1, by omega⟩
    have h2 := ih k (i + 1) (by omega) (by omega) (by omega)
    rw [tinderref13_Same.l0, if_pos (by omega), if_pos (by omega), if_pos (by omega), show wrap64 ((i : Int) + 1) = ((i + 1 : Nat) : Int) by rw [w64 (by omega) (by omega)]; omega, h2]
    rw [if_neg (by simp)]
theorem same_toks {l : List S34} (hl : l.length ≤ 9223372036854775807) {k : Nat} (hk : l.length < k) : tinderref13_Same.f k l l = some true := by
  unfold tinderref13_Same.f
  rw [if_pos rfl]
  exact same_toks_loop hl l.length k 0 (by omega) (by omega) hk
theorem all_of {l : List Int} (h : Bys l) : l.all (fun x => decide (0 ≤ x ∧ x ≤ 255)) = true := by
  rw [List.all_eq_true]
  intro x hx
  exact decide_eq_true (h x hx)
theorem dec_f {rb : List Int} (hB : Bys rb) (hl : rb.length ≤ 8192) (wide : Bool) (k : Nat) : token_Decode.f k rb wide = token_Decode.l0 k wide rb [] := by
  unfold token_Decode.f
  rw [if_neg (by omega), if_pos (all_of hB)]
theorem dec_long {rb : List Int} (hl : ¬ rb.length ≤ 8192) (wide : Bool) (k : Nat) : token_Decode.f k rb wide = some ([], 3) := by
  unfold token_Decode.f
  rw [if_pos (by omega)]
theorem same_refl (l : List Int) : tinderref04_Same.f l l = some true := by
  unfold tinderref04_Same.f
  simp
end Go.Proofs.Ytfaebbmngplilaa.V
