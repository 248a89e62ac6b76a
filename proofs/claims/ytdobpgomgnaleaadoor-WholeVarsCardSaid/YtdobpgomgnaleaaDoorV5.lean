/- WholeVars, plain: Load, Save, Set, Apply, Same; then the law's loop. No condition. -/
import Derived.Test.YtdobpgomgnaleaaDoorV4
import Derived.Test.YtdobpgomgnaleaaDoorN4
namespace Go.Proofs.YtdobpgomgnaleaaDoor.V
open Go.RowKit Go.Proofs.YtdobpgomgnaleaaDoor.P Go.Proofs.YtdobpgomgnaleaaDoor.G Go.Proofs.YtdobpgomgnaleaaDoorW.PrintWords
set_option linter.unusedVariables false
set_option linter.unusedSimpArgs false
def recQ (nv : List Int) : Option (List Int) := if nv.length = 512 then recR nv else none
theorem nil_Sz : Sz ([] : List S31) := fun x hx => (by cases hx)
theorem load_none (nv : List Int) (hb : By8 nv) (h : recQ nv = none) (k : Nat) : vars_Load.f k nv = some [] := by
  have h1 : ∃ i, nvram_Recover.f nv = some ([], i, false) := by
    unfold nvram_Recover.f
    rw [if_pos (show ∀ x ∈ nv, 0 ≤ x ∧ x ≤ 255 from hb)]
    unfold recQ recR at h
    by_cases hl : nv.length = 512
    · rw [if_pos hl] at h ⊢
      by_cases hc : countsR nv < 0
      · rw [if_pos hc]
        exact ⟨_, rfl⟩
      · rw [if_neg hc] at h
        cases h
    · rw [if_neg hl]
      exact ⟨_, rfl⟩
  obtain ⟨i, h1⟩ := h1
  unfold vars_Load.f
  rw [h1]
  rfl
theorem load_some (nv d : List Int) (hb : By8 nv) (h : recQ nv = some d) (k : Nat) : vars_Load.f k nv = (vars_Decode.f k d).bind fun r => if r.2 = 0 then some r.1 else some [] := by
  have h1 : ∃ i, nvram_Recover.f nv = some (d, i, true) := by
    unfold nvram_Recover.f
    rw [if_pos (show ∀ x ∈ nv, 0 ≤ x ∧ x ≤ 255 from hb)]
    unfold recQ recR at h
    by_cases hl : nv.length = 512
    · rw [if_pos hl] at h ⊢
      by_cases hc : countsR nv < 0
      · rw [if_pos hc] at h
        cases h
      · rw [if_neg hc] at h ⊢
        rw [Option.some.inj h]
        exact ⟨_, rfl⟩
    · rw [if_neg hl] at h
      cases h
  obtain ⟨i, h1⟩ := h1
  unfold vars_Load.f
  rw [h1]
  rfl
theorem recQ_len (nv d : List Int) (h : recQ nv = some d) : d.length ≤ 256 := by
  unfold recQ recR at h
  split at h
  · split at h
    · cases h
    · rw [← Option.some.inj h]
      unfold dDat
      rw [List.length_take, List.length_drop, List.length_take]
      omega
  · cases h
theorem load_tot (nv : List Int) (hb : By8 nv) : ∃ l : List S31, Ev (fun k => vars_Load.f k nv) l ∧ Sz l ∧ l.length ≤ 2000000 := by
  cases hq : recQ nv with
  | none => exact ⟨[], Ev.congr (load_none nv hb hq) (Ev.const rfl), nil_Sz, Nat.zero_le _⟩
  | some d =>
    have hd := recQ_len nv d hq
    obtain ⟨r, hr, hr1, hr2⟩ := dec_tot 1000 [] (strOfNums d) (by rw [strOfNums_size]; omega) (by rw [strOfNums_size]; omega) (by simp) nil_Sz
    refine ⟨if r.2 = 0 then r.1 else [], Ev.congr (load_some nv d hb hq) (Ev.bind (g := fun _ r => if r.2 = 0 then some r.1 else some []) (f := fun k => vars_Decode.f k d) hr (Ev.const (by split <;> rfl))), ?_⟩
    split
    · exact ⟨hr1, hr2⟩
    · exact ⟨nil_Sz, Nat.zero_le _⟩
theorem load_same (nv nv2 : List Int) (hb : By8 nv) (hb2 : By8 nv2) (h : recQ nv2 = recQ nv) (l : List S31) (hl : Ev (fun k => vars_Load.f k nv) l) : Ev (fun k => vars_Load.f k nv2) l := by
  refine Ev.congr (fun k => ?_) hl
  cases hq : recQ nv with
  | none => rw [load_none nv hb hq, load_none nv2 hb2 (h.trans hq)]
  | some d => rw [load_some nv d hb hq, load_some nv2 d hb2 (h.trans hq)]
theorem load_new (nv2 : List Int) (l : List S31) (hb2 : By8 nv2) (h : recQ nv2 = some (bytesR l)) (hz : Sz l) (hr : rightL (-1) l = true) : Ev (fun k => vars_Load.f k nv2) l := by
  obtain ⟨hg, hlen⟩ := right_good l (-1) hz hr (by omega) (by omega)
  have hd := recQ_len nv2 _ h
  have hdb := dec_back l [] (strOfNums (bytesR l)) (str_enc l) (fun x hx => by
    obtain ⟨h1, h2⟩ := hg x hx
    refine ⟨fun b hb => h1.1 b (by rw [Lib.toList_data]; exact hb), fun b hb => h2.1 b (by rw [Lib.toList_data]; exact hb)⟩) (by rw [strOfNums_size]; omega) (by simp only [List.length_nil]; omega) hz
  rw [List.nil_append, if_pos hr] at hdb
  exact Ev.congr (load_some nv2 _ hb2 h) (Ev.bind (g := fun _ r => if r.2 = 0 then some r.1 else some []) (f := fun k => vars_Decode.f k (bytesR l)) hdb (Ev.const rfl))
/-! Form, Set -/
theorem Form_tot (a1 a2 : ByteArray) (h : a2.size ≤ 9223372036854775807) : ∃ r : ByteArray × Int, Ev (fun k => vars_Form.f k a1 a2) r ∧ r.1.size ≤ 9223372036854775807 := by
  obtain ⟨⟨K2, hf⟩, hs, _⟩ := formR_ev (findR a1).1 (findR a1).2.1 (findR a1).2.2.1 a2 h
  obtain ⟨K1, h1⟩ := find_tot a1
  dsimp only at hf h1
  by_cases hok : (findR a1).2.2.2.2 = true
  · by_cases h2 : (formR (findR a1).1 (findR a1).2.1 (findR a1).2.2.1 a2).2 = true
    · refine ⟨((formR (findR a1).1 (findR a1).2.1 (findR a1).2.2.1 a2).1, 0), ⟨K1 + K2, fun k hk => ?_⟩, ?_⟩
      · show vars_Form.f k a1 a2 = _
        unfold vars_Form.f
        rw [h1 k (by omega), Option.bind_some, if_pos hok, hf k (by omega), Option.bind_some, if_pos h2]
      · show (formR (findR a1).1 (findR a1).2.1 (findR a1).2.2.1 a2).1.size ≤ _
        omega
    · refine ⟨((⟨#[]⟩ : ByteArray), 27), ⟨K1 + K2, fun k hk => ?_⟩, Nat.zero_le _⟩
      show vars_Form.f k a1 a2 = _
      unfold vars_Form.f
      rw [h1 k (by omega), Option.bind_some, if_pos hok, hf k (by omega), Option.bind_some, if_neg h2]
  · refine ⟨((⟨#[]⟩ : ByteArray), 2), ⟨K1 + K2, fun k hk => ?_⟩, Nat.zero_le _⟩
    show vars_Form.f k a1 a2 = _
    unfold vars_Form.f
    rw [h1 k (by omega), Option.bind_some, if_neg hok]
theorem idxS_tot (n : Int) : ∀ (l : List S31) (i : Nat), ∃ r, Ev (fun k => idxS k n i l) r
  | [], i => ⟨-1, Ev.const rfl⟩
  | x :: t, i => by
    obtain ⟨r, ⟨K2, hr⟩⟩ := idxS_tot n t (i + 1)
    obtain ⟨K1, h1⟩ := find_tot x.f0
    dsimp only at hr h1
    by_cases hp : decide (n < (findR x.f0).2.2.2.1) = true
    · refine ⟨(i : Int), K1, fun k hk => ?_⟩
      show idxS k n i (x :: t) = _
      unfold idxS
      rw [h1 k hk, Option.bind_some, if_pos hp]
    · refine ⟨r, K1 + K2, fun k hk => ?_⟩
      show idxS k n i (x :: t) = _
      unfold idxS
      rw [h1 k (by omega), Option.bind_some, if_neg hp]
      exact hr k (by omega)
theorem keepN_Sz (s : ByteArray) (l : List S31) (h : Sz l) : Sz (keepN s l) := fun x hx => h x (List.mem_filter.mp hx).1
theorem insAt_Sz (l : List S31) (r : Int) (x : S31) (h : Sz l) (hx : x.f1.size ≤ 9223372036854775807) : Sz (insAt l r x) := by
  intro y hy
  unfold insAt at hy
  split at hy
  · rcases List.mem_append.mp hy with hy | hy
    · exact h y hy
    · rw [List.mem_singleton.mp hy]
      exact hx
  · rcases List.mem_append.mp hy with hy | hy
    · exact h y (List.mem_of_mem_take hy)
    · rcases List.mem_cons.mp hy with rfl | hy
      · exact hx
      · exact h y (List.mem_of_mem_drop hy)
theorem insAt_len (l : List S31) (r : Int) (x : S31) : (insAt l r x).length ≤ l.length + 1 := by
  unfold insAt
  split
  · rw [List.length_append]
    simp
  · rw [List.length_append, List.length_cons, List.length_take, List.length_drop]
    omega
theorem set_tot (now : List S31) (a1 a2 : ByteArray) (hz : Sz now) (hl : now.length ≤ 2000000) (h2 : a2.size ≤ 9223372036854775807) : ∃ r : List S31 × Int, Ev (fun k => vars_Set.f k now a1 a2) r ∧ Sz r.1 ∧ r.1.length ≤ 2000000 := by
  obtain ⟨K1, hr⟩ := right_tot now hz (by omega)
  dsimp only at hr
  by_cases hok : rightL (-1) now = true
  · obtain ⟨_, hlen⟩ := right_good now (-1) hz hok (by omega) (by omega)
    obtain ⟨⟨s, e⟩, ⟨K2, hF⟩, hs⟩ := Form_tot a1 a2 h2
    replace hs : s.size ≤ 9223372036854775807 := hs
    obtain ⟨K3, hf⟩ := find_tot a1
    dsimp only at hF hf
    have hk := keepN_length a1 now
    by_cases he : e = 0
    · subst he
      by_cases hst : s.toList = (findR a1).2.2.1.toList
      · refine ⟨(keepN a1 now, 0), ⟨K1 + K2 + K3, fun k hk => ?_⟩, keepN_Sz a1 now hz, by show (keepN a1 now).length ≤ _; omega⟩
        show vars_Set.f k now a1 a2 = _
        unfold vars_Set.f
        rw [hr k (by omega), Option.bind_some, if_pos hok, hF k (by omega), Option.bind_some, if_pos rfl, hf k (by omega), Option.bind_some, if_pos (by omega), if_pos hst]
      · obtain ⟨r, ⟨K4, hi⟩⟩ := idxS_tot (findR a1).2.2.2.1 (keepN a1 now) 0
        dsimp only at hi
        refine ⟨(insAt (keepN a1 now) r ⟨a1, s⟩, 0), ⟨K1 + K2 + K3 + K4, fun k hk => ?_⟩, insAt_Sz _ _ _ (keepN_Sz a1 now hz) hs, ?_⟩
        · show vars_Set.f k now a1 a2 = _
          unfold vars_Set.f
          rw [hr k (by omega), Option.bind_some, if_pos hok, hF k (by omega), Option.bind_some, if_pos rfl, hf k (by omega), Option.bind_some, if_pos (by omega), if_neg hst, hi k (by omega), Option.bind_some]
        · have h3 := insAt_len (keepN a1 now) r ⟨a1, s⟩
          show (insAt (keepN a1 now) r ⟨a1, s⟩).length ≤ _
          omega
    · refine ⟨([], e), ⟨K1 + K2, fun k hk => ?_⟩, nil_Sz, Nat.zero_le _⟩
      show vars_Set.f k now a1 a2 = _
      unfold vars_Set.f
      rw [hr k (by omega), Option.bind_some, if_pos hok, hF k (by omega), Option.bind_some, if_neg he]
  · refine ⟨([], 1), ⟨K1, fun k hk => ?_⟩, nil_Sz, Nat.zero_le _⟩
    show vars_Set.f k now a1 a2 = _
    unfold vars_Set.f
    rw [hr k (by omega), Option.bind_some, if_neg hok]
end Go.Proofs.YtdobpgomgnaleaaDoor.V
