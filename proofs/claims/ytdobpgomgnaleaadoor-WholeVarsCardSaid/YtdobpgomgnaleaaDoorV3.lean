/- WholeVars, plain: form and Right come to an end; what is right. No condition. -/
import Derived.Test.YtdobpgomgnaleaaDoorV2
namespace Go.Proofs.YtdobpgomgnaleaaDoor.V
open Go.RowKit Go.Proofs.YtdobpgomgnaleaaDoor.P Go.Proofs.YtdobpgomgnaleaaDoor.G Go.Proofs.YtdobpgomgnaleaaDoorW.PrintWords
set_option linter.unusedVariables false
set_option linter.unusedSimpArgs false
def okVal (s : ByteArray) : Prop := (∀ b ∈ s.toList, b ≠ 0) ∧ s.size ≤ 200
theorem tl_len (s : ByteArray) : s.toList.length = s.size := by rw [Lib.toList_data, data_length]
theorem digit_ne (d : Nat) (h : d < 10) : UInt8.ofNat (48 + d) ≠ 0 := by
  intro e
  have := congrArg UInt8.toNat e
  simp at this
  omega
theorem dec_ne (u : Nat) : ∀ b ∈ Lib.decDigits u, b ≠ 0 := by
  induction u using Nat.strongRecOn with
  | _ u ih =>
    intro b hb
    by_cases h : u < 10
    · rw [Lib.decDigits, dif_pos h] at hb
      rw [List.mem_singleton.mp hb]
      exact digit_ne u h
    · rw [Lib.decDigits, dif_neg h] at hb
      rcases List.mem_append.mp hb with hb | hb
      · exact ih (u / 10) (by omega) b hb
      · rw [List.mem_singleton.mp hb]
        exact digit_ne (u % 10) (by omega)
theorem dec_len (u : Nat) (h : u < 4294967296) : (Lib.decDigits u).length ≤ 20 := by
  rw [Lib.decDigits_length]
  rcases Nat.eq_zero_or_pos u with rfl | h0
  · rw [Lib.nDigits_small (by omega)]
    omega
  · have := Lib.numDigits_eq u h0 (by omega)
    split at this <;> omega
theorem text_ev (s : ByteArray) (hs : s.size ≤ 9223372036854775807) : ∀ (m j : Nat), j + m = s.size → ∃ r : ByteArray × Bool, Ev (fun k => vars_variable_form.l0 k s (s.size : Int) (j : Int)) r ∧ r.1.size ≤ s.size ∧ (r.2 = true → (∀ i : Nat, j ≤ i → i < s.size → 32 ≤ bt s (i : Int)) ∧ s.size ≤ 128)
  | 0, j, h => by
    refine ⟨(s, decide ((s.size : Int) ≤ 128)), Ev.succ (g := fun _ => some (s, decide ((s.size : Int) ≤ 128))) (fun k => ?_) (Ev.const rfl), Nat.le_refl _, fun e => ⟨fun i h1 h2 => by omega, by have := of_decide_eq_true e; omega⟩⟩
    show (if (j : Int) < (s.size : Int) then _ else _) = _
    rw [if_neg (by omega)]
  | m + 1, j, h => by
    have hjj : wrap64 ((j : Int) + 1) = ((j + 1 : Nat) : Int) := by rw [wrap1 (by omega) (by omega)]; rfl
    by_cases h1 : bt s (j : Int) < 32
    · refine ⟨((⟨#[]⟩ : ByteArray), false), Ev.succ (g := fun _ => some ((⟨#[]⟩ : ByteArray), false)) (fun k => ?_) (Ev.const rfl), Nat.zero_le _, fun e => by cases e⟩
      show (if (j : Int) < (s.size : Int) then _ else _) = _
      rw [if_pos (by omega), if_pos (by omega), if_pos (by omega), if_pos h1]
    · by_cases h2 : bt s (j : Int) > 126
      · refine ⟨((⟨#[]⟩ : ByteArray), false), Ev.succ (g := fun _ => some ((⟨#[]⟩ : ByteArray), false)) (fun k => ?_) (Ev.const rfl), Nat.zero_le _, fun e => by cases e⟩
        show (if (j : Int) < (s.size : Int) then _ else _) = _
        rw [if_pos (by omega), if_pos (by omega), if_pos (by omega), if_neg h1, if_pos h2]
      · obtain ⟨r, hr, hr1, hr2⟩ := text_ev s hs m (j + 1) (by omega)
        refine ⟨r, Ev.succ (g := fun k => vars_variable_form.l0 k s (s.size : Int) ((j + 1 : Nat) : Int)) (fun k => ?_) hr, hr1, fun e => ⟨fun i h3 h4 => ?_, (hr2 e).2⟩⟩
        · show (if (j : Int) < (s.size : Int) then _ else _) = _
          rw [if_pos (by omega), if_pos (by omega), if_pos (by omega), if_neg h1, if_neg h2, hjj]
        · rcases Nat.eq_or_lt_of_le h3 with rfl | h5
          · omega
          · exact (hr2 e).1 i h5 h4
theorem bt_mem (s : ByteArray) (h : ∀ i : Nat, i < s.size → 32 ≤ bt s (i : Int)) : ∀ b ∈ s.toList, b ≠ 0 := by
  intro b hb
  rw [Lib.toList_data] at hb
  obtain ⟨i, hi, rfl⟩ := List.getElem_of_mem hb
  have hi2 : i < s.size := by rw [data_length] at hi; exact hi
  have h1 := h i hi2
  have h2 := bt_at s (i : Int) (by rw [Int.toNat_natCast]; exact hi2)
  rw [← h2] at h1
  intro e
  have e2 : s[i] = 0 := by
    rw [← e, Array.getElem_toList]
    rfl
  simp [e2] at h1
theorem form_tot (nm : ByteArray) (kind : Int) (std s : ByteArray) (hs : s.size ≤ 9223372036854775807) : ∃ r : ByteArray × Bool, Ev (fun k => vars_variable_form.f k nm kind std s) r ∧ r.1.size ≤ max s.size 20 ∧ (r.2 = true → r.1.toList = s.toList → okVal s) := by
  by_cases k0 : kind = 0
  · by_cases h1 : s.toList = ([116, 114, 117, 101] : List UInt8)
    · refine ⟨(s, true), Ev.congr (g := fun _ => some (s, true)) (fun k => ?_) (Ev.const rfl), Nat.le_max_left _ _, fun _ _ => ⟨by rw [h1]; decide, by rw [← tl_len, h1]; decide⟩⟩
      unfold vars_variable_form.f
      rw [if_pos k0, if_pos h1]
    · refine ⟨(s, (s.toList == ([102, 97, 108, 115, 101] : List UInt8))), Ev.congr (g := fun _ => some (s, (s.toList == ([102, 97, 108, 115, 101] : List UInt8)))) (fun k => ?_) (Ev.const rfl), Nat.le_max_left _ _, fun e _ => ?_⟩
      · unfold vars_variable_form.f
        rw [if_pos k0, if_neg h1]
      · have e2 : s.toList = ([102, 97, 108, 115, 101] : List UInt8) := beq_iff_eq.mp e
        exact ⟨by rw [e2]; decide, by rw [← tl_len, e2]; decide⟩
  · by_cases k1 : kind = 1
    · obtain ⟨⟨n, e⟩, hr, hn0, hn1⟩ := parse_tot s hs
      replace hn0 : 0 ≤ n := hn0
      replace hn1 : n < 4294967296 := hn1
      by_cases he : e = 0
      · subst he
        refine ⟨((⟨(Lib.decDigits n.toNat).toArray⟩ : ByteArray), true), Ev.congr (fun k => ?_) (Ev.bind (g := fun _ bt128 => (if bt128.2 = 0 then ((digit_Show.f bt128.1 10).bind fun bt130 => (some (bt130.1, (bt130.2 == 0)))) else (some ((⟨#[]⟩ : ByteArray), false)))) hr (Ev.const ?_)), ?_, fun _ h => ?_⟩
        · unfold vars_variable_form.f
          rw [if_neg k0, if_pos k1]
        · show (if (0 : Int) = 0 then _ else _) = _
          rw [if_pos rfl]
          unfold digit_Show.f
          rw [if_pos ⟨rfl, hn0, hn1⟩]
          rfl
        · have h1 := dec_len n.toNat (by omega)
          show (Lib.decDigits n.toNat).toArray.size ≤ _
          rw [List.size_toArray]
          omega
        · have h2 : (⟨(Lib.decDigits n.toNat).toArray⟩ : ByteArray).toList = Lib.decDigits n.toNat := by rw [Lib.toList_data]
          replace h : (⟨(Lib.decDigits n.toNat).toArray⟩ : ByteArray).toList = s.toList := h
          rw [h2] at h
          refine ⟨by rw [← h]; exact dec_ne _, ?_⟩
          rw [← tl_len, ← h]
          have := dec_len n.toNat (by omega)
          omega
      · refine ⟨((⟨#[]⟩ : ByteArray), false), Ev.congr (fun k => ?_) (Ev.bind (g := fun _ bt128 => (if bt128.2 = 0 then ((digit_Show.f bt128.1 10).bind fun bt130 => (some (bt130.1, (bt130.2 == 0)))) else (some ((⟨#[]⟩ : ByteArray), false)))) hr (Ev.const ?_)), Nat.zero_le _, fun h => by cases h⟩
        · unfold vars_variable_form.f
          rw [if_neg k0, if_pos k1]
        · show (if e = 0 then _ else _) = _
          rw [if_neg he]
    · obtain ⟨r, hr, hr1, hr2⟩ := text_ev s hs s.size 0 (by omega)
      refine ⟨r, Ev.congr (fun k => ?_) hr, Nat.le_trans hr1 (Nat.le_max_left _ _), fun e _ => ⟨bt_mem s (fun i hi => (hr2 e).1 i (Nat.zero_le _) hi), by have := (hr2 e).2; omega⟩⟩
      unfold vars_variable_form.f
      rw [if_neg k0, if_neg k1]
      rfl
open Classical in
noncomputable def formR (nm : ByteArray) (kind : Int) (std s : ByteArray) : ByteArray × Bool := if h : s.size ≤ 9223372036854775807 then Classical.choose (form_tot nm kind std s h) else (s, false)
theorem formR_ev (nm : ByteArray) (kind : Int) (std s : ByteArray) (hs : s.size ≤ 9223372036854775807) : Ev (fun k => vars_variable_form.f k nm kind std s) (formR nm kind std s) ∧ (formR nm kind std s).1.size ≤ max s.size 20 ∧ ((formR nm kind std s).2 = true → (formR nm kind std s).1.toList = s.toList → okVal s) := by
  unfold formR
  rw [dif_pos hs]
  exact Classical.choose_spec (form_tot nm kind std s hs)
def Sz (l : List S31) : Prop := ∀ x ∈ l, x.f1.size ≤ 9223372036854775807
noncomputable def rightL : Int → List S31 → Bool
  | _, [] => true
  | last, x :: t => if (findR x.f0).2.2.2.2 = true then (if (formR (findR x.f0).1 (findR x.f0).2.1 (findR x.f0).2.2.1 x.f1).2 = true then (if (findR x.f0).2.2.2.1 ≤ last then false else (if (formR (findR x.f0).1 (findR x.f0).2.1 (findR x.f0).2.2.1 x.f1).1.toList = x.f1.toList then (if (formR (findR x.f0).1 (findR x.f0).2.1 (findR x.f0).2.2.1 x.f1).1.toList = (findR x.f0).2.2.1.toList then false else rightL (findR x.f0).2.2.2.1 t) else false)) else false) else false
theorem right_ev (l : List S31) (hz : Sz l) (hl : l.length ≤ 4611686018427387904) : ∀ (m j : Nat) (last : Int), j + m = l.length → Ev (fun k => vars_Right.l0 k last l (l.length : Int) (j : Int)) (rightL last (l.drop j))
  | 0, j, last, h => by
    refine Ev.succ (g := fun _ => some true) (fun k => ?_) (Ev.const (by rw [List.drop_eq_nil_of_le (by omega)]; rfl))
    show (if (j : Int) < (l.length : Int) then _ else _) = _
    rw [if_neg (by omega)]
  | m + 1, j, last, h => by
    have hj : j < l.length := by omega
    have hjj : wrap64 ((j : Int) + 1) = ((j + 1 : Nat) : Int) := by rw [wrap1 (by omega) (by omega)]; rfl
    have hx : rd_T31 l (j : Int) ∈ l := by
      show l.getD ((j : Int).toNat) z31 ∈ l
      rw [Int.toNat_natCast, List.getD_eq_getElem?_getD, List.getElem?_eq_getElem hj]
      exact List.getElem_mem hj
    rw [drop_T31 l j hj]
    generalize hxe : rd_T31 l (j : Int) = x at hx
    obtain ⟨hf, _, _⟩ := formR_ev (findR x.f0).1 (findR x.f0).2.1 (findR x.f0).2.2.1 x.f1 (hz x hx)
    have ih := right_ev l hz hl m (j + 1) (findR x.f0).2.2.2.1 (by omega)
    refine Ev.succ (g := fun k => (vars_find.f k x.f0).bind fun bt134 => ((vars_variable_form.f k bt134.1 bt134.2.1 bt134.2.2.1 x.f1).bind fun bt140 => (if bt134.2.2.2.2 = true then (if bt140.2 = true then (if bt134.2.2.2.1 ≤ last then (some false) else (if bt140.1.toList = x.f1.toList then (if bt140.1.toList = bt134.2.2.1.toList then (some false) else (vars_Right.l0 k bt134.2.2.2.1 l (l.length : Int) ((j + 1 : Nat) : Int))) else (some false))) else (some false)) else (some false)))) (fun k => ?_) (Ev.bind (g := fun k bt134 => ((vars_variable_form.f k bt134.1 bt134.2.1 bt134.2.2.1 x.f1).bind fun bt140 => (if bt134.2.2.2.2 = true then (if bt140.2 = true then (if bt134.2.2.2.1 ≤ last then (some false) else (if bt140.1.toList = x.f1.toList then (if bt140.1.toList = bt134.2.2.1.toList then (some false) else (vars_Right.l0 k bt134.2.2.2.1 l (l.length : Int) ((j + 1 : Nat) : Int))) else (some false))) else (some false)) else (some false)))) (find_tot x.f0) (Ev.bind (g := fun k bt140 => (if (findR x.f0).2.2.2.2 = true then (if bt140.2 = true then (if (findR x.f0).2.2.2.1 ≤ last then (some false) else (if bt140.1.toList = x.f1.toList then (if bt140.1.toList = (findR x.f0).2.2.1.toList then (some false) else (vars_Right.l0 k (findR x.f0).2.2.2.1 l (l.length : Int) ((j + 1 : Nat) : Int))) else (some false))) else (some false)) else (some false))) hf ?_))
    · show (if (j : Int) < (l.length : Int) then _ else _) = _
      rw [if_pos (by omega), if_pos (by omega), if_pos (by omega), hxe, hjj]
    · unfold rightL
      split
      · split
        · split
          · exact Ev.const rfl
          · split
            · split
              · exact Ev.const rfl
              · exact ih
            · exact Ev.const rfl
        · exact Ev.const rfl
      · exact Ev.const rfl
theorem right_tot (l : List S31) (hz : Sz l) (hl : l.length ≤ 4611686018427387904) : Ev (fun k => vars_Right.f k l) (rightL (-1) l) := by
  have h := right_ev l hz hl l.length 0 (-1) (by omega)
  rw [List.drop_zero] at h
  exact h
theorem right_good : ∀ (l : List S31) (last : Int), Sz l → rightL last l = true → -1 ≤ last → last ≤ 8 → (∀ x ∈ l, okName x.f0.toList ∧ okVal x.f1) ∧ (l.length : Int) + last ≤ 8
  | [], last, hz, h, h0, h1 => ⟨fun x hx => (by cases hx), by show ((0 : Nat) : Int) + last ≤ 8; omega⟩
  | x :: t, last, hz, h, h0, h1 => by
    unfold rightL at h
    split at h
    · rename_i hok
      split at h
      · rename_i hf
        split at h
        · cases h
        · rename_i hlt
          split at h
          · rename_i heq
            split at h
            · cases h
            · obtain ⟨n0, n8, hname⟩ := find_ok x.f0 hok
              obtain ⟨g1, g2⟩ := right_good t _ (fun y hy => hz y (List.mem_cons_of_mem _ hy)) h (by omega) n8
              have hv := (formR_ev (findR x.f0).1 (findR x.f0).2.1 (findR x.f0).2.2.1 x.f1 (hz x List.mem_cons_self)).2.2 hf heq
              refine ⟨fun y hy => ?_, by rw [List.length_cons]; omega⟩
              rcases List.mem_cons.mp hy with rfl | hy
              · exact ⟨hname, hv⟩
              · exact g1 y hy
          · cases h
      · cases h
    · cases h
end Go.Proofs.YtdobpgomgnaleaaDoor.V
