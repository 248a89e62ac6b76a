/- WholeVars, plain: Decode, and Decode of what Encode made. No condition. -/
import Derived.Test.YtdobpgomgnaleaaDoorV3
namespace Go.Proofs.YtdobpgomgnaleaaDoor.V
open Go.RowKit Go.Proofs.YtdobpgomgnaleaaDoor.P Go.Proofs.YtdobpgomgnaleaaDoor.G Go.Proofs.YtdobpgomgnaleaaDoorW.PrintWords
set_option linter.unusedVariables false
set_option linter.unusedSimpArgs false
theorem ext_data (s : ByteArray) (a b : Nat) : (s.extract a b).data.toList = (s.data.toList.drop a).take (b - a) := by
  rw [ByteArray.data_extract, Array.toList_extract, List.extract_eq_take_drop]
theorem ba_ext {a b : ByteArray} (h : a.data.toList = b.data.toList) : a = b := ByteArray.ext (Array.toList_inj.1 h)
theorem cut_eq (s : ByteArray) (c : UInt8) (h : s.size < 1000000) : strings_Cut.f s ⟨#[c]⟩ = some (if 0 ≤ Lib.indexByte s.data.toList c then (s.extract 0 (Lib.indexByte s.data.toList c).toNat, s.extract ((Lib.indexByte s.data.toList c).toNat + 1) s.size, true) else (s, ⟨#[]⟩, false)) := by
  show (if s.size < 1000000 then _ else _) = _
  rw [if_pos h]
  split <;> rfl
theorem index_at (c : UInt8) : ∀ (p q : List UInt8), (∀ b ∈ p, b ≠ c) → Lib.indexByte (p ++ c :: q) c = p.length
  | [], q, h => by simp [Lib.indexByte]
  | b :: p, q, h => by
    have h1 : (b == c) = false := beq_eq_false_iff_ne.mpr (h b List.mem_cons_self)
    have ih := index_at c p q (fun x hx => h x (List.mem_cons_of_mem _ hx))
    rw [List.cons_append, Lib.indexByte, h1, ih]
    have h2 : ((p.length : Int) == -1) = false := beq_eq_false_iff_ne.mpr (by omega)
    rw [h2]
    simp
def encB : List S31 → List UInt8
  | [] => []
  | x :: t => x.f0.data.toList ++ 61 :: (x.f1.data.toList ++ 0 :: encB t)
theorem u8_back (b : UInt8) : UInt8.ofNat ((b.toNat : Int)).toNat = b := by rw [Int.toNat_natCast, UInt8.ofNat_toNat]
theorem map_back (l : List UInt8) : (l.map fun b => (b.toNat : Int)).map (fun n => UInt8.ofNat n.toNat) = l := by
  rw [List.map_map]
  conv => rhs; rw [← List.map_id l]
  exact List.map_congr_left (fun b _ => u8_back b)
theorem bytesR_enc : ∀ l : List S31, bytesR l = (encB l).map fun b => (b.toNat : Int)
  | [] => rfl
  | x :: t => by
    rw [bytesR, bytesR_enc t, encB]
    simp [bytesOf]
theorem str_enc (l : List S31) : (strOfNums (bytesR l)).data.toList = encB l := by
  rw [strOfNums_data, bytesR_enc, map_back]
def Names (l : List S31) : Prop := ∀ x ∈ l, (∀ b ∈ x.f0.data.toList, b ≠ 0 ∧ b ≠ 61) ∧ (∀ b ∈ x.f1.data.toList, b ≠ 0)
theorem dec_step (k : Nat) (acc : List S31) (s : ByteArray) (hs : s.toList ≠ []) (hl : acc.length < 4398046511104) (c1 c2 : ByteArray × ByteArray × Bool) (h1 : strings_Cut.f s ⟨#[0]⟩ = some c1) (h2 : strings_Cut.f c1.1 ⟨#[61]⟩ = some c2) :
    vars_Decode.l0 (k + 1) acc s = if c1.2.2 = true then (if c2.2.2 = true then vars_Decode.l0 k (acc ++ [(⟨c2.1, c2.2.1⟩ : S31)]) c1.2.1 else some ([], 15)) else some ([], 15) := by
  rw [vars_Decode.l0, if_neg hs, h1]
  simp only [Option.bind_some]
  rw [h2]
  simp only [Option.bind_some]
  rw [if_pos hl]
theorem dec_back : ∀ (l acc : List S31) (s : ByteArray), s.data.toList = encB l → Names l → s.size < 1000000 → acc.length + l.length ≤ 1000000 → Sz (acc ++ l) → Ev (fun k => vars_Decode.l0 k acc s) (if rightL (-1) (acc ++ l) = true then (acc ++ l, 0) else ([], 15))
  | [], acc, s, hs, hn, hz, hl, hsz => by
    have he : s.toList = ([] : List UInt8) := by rw [Lib.toList_data, hs]; rfl
    rw [List.append_nil] at hsz ⊢
    have hr := right_tot acc hsz (by simp only [List.length_nil] at hl; omega)
    refine Ev.succ (g := fun k => (vars_Right.f k acc).bind fun t142 => (if t142 = true then (some (acc, 0)) else (some (([] : List (S31)), 15)))) (fun k => ?_) (Ev.bind (g := fun _ t142 => (if t142 = true then (some (acc, 0)) else (some (([] : List (S31)), 15)))) hr (Ev.const ?_))
    · rw [vars_Decode.l0, if_pos he]
    · split <;> rfl
  | x :: t, acc, s, hs, hn, hz, hl, hsz => by
    obtain ⟨hx0, hx1⟩ := hn x List.mem_cons_self
    have hne : s.toList ≠ [] := by
      rw [Lib.toList_data, hs, encB]
      intro e
      have := congrArg List.length e
      simp at this
    have hss : s.size = (encB (x :: t)).length := by rw [← hs, data_length]
    have hA : encB (x :: t) = (x.f0.data.toList ++ 61 :: x.f1.data.toList) ++ 0 :: encB t := by rw [encB]; simp
    have hi1 : Lib.indexByte s.data.toList 0 = ((x.f0.data.toList ++ 61 :: x.f1.data.toList).length : Int) := by
      rw [hs, hA]
      refine index_at 0 _ _ (fun b hb => ?_)
      rcases List.mem_append.mp hb with hb | hb
      · exact (hx0 b hb).1
      · rcases List.mem_cons.mp hb with rfl | hb
        · decide
        · exact hx1 b hb
    have h1 := cut_eq s 0 hz
    rw [hi1, if_pos (by omega), Int.toNat_natCast] at h1
    obtain ⟨L, hL⟩ : ∃ L, L = (x.f0.data.toList ++ 61 :: x.f1.data.toList).length := ⟨_, rfl⟩
    rw [← hL] at h1
    have hb1 : (s.extract 0 L).data.toList = x.f0.data.toList ++ 61 :: x.f1.data.toList := by
      rw [ext_data, List.drop_zero, Nat.sub_zero, hs, hA, hL, List.take_left]
    have hr1 : (s.extract (L + 1) s.size).data.toList = encB t := by
      rw [ext_data, hs, hA, hL, show (x.f0.data.toList ++ 61 :: x.f1.data.toList).length + 1 = ((x.f0.data.toList ++ 61 :: x.f1.data.toList) ++ [0]).length by rw [List.length_append (bs := [0])]; rfl, show (x.f0.data.toList ++ 61 :: x.f1.data.toList) ++ 0 :: encB t = ((x.f0.data.toList ++ 61 :: x.f1.data.toList) ++ [0]) ++ encB t by simp, List.drop_left]
      refine List.take_of_length_le ?_
      rw [hss, hA]
      simp
      omega
    have hz1 : (s.extract 0 L).size < 1000000 := by
      rw [ByteArray.size_extract]
      omega
    have hi2 : Lib.indexByte (s.extract 0 L).data.toList 61 = (x.f0.data.toList.length : Int) := by
      rw [hb1]
      exact index_at 61 _ _ (fun b hb => (hx0 b hb).2)
    have h2 := cut_eq (s.extract 0 L) 61 hz1
    rw [hi2, if_pos (by omega), Int.toNat_natCast] at h2
    have e1 : (s.extract 0 L).extract 0 x.f0.data.toList.length = x.f0 := by
      refine ba_ext ?_
      rw [ext_data, List.drop_zero, Nat.sub_zero, hb1, List.take_left]
    have e2 : (s.extract 0 L).extract (x.f0.data.toList.length + 1) (s.extract 0 L).size = x.f1 := by
      refine ba_ext ?_
      rw [ext_data, hb1, show x.f0.data.toList.length + 1 = (x.f0.data.toList ++ [61]).length by simp, show x.f0.data.toList ++ 61 :: x.f1.data.toList = (x.f0.data.toList ++ [61]) ++ x.f1.data.toList by simp, List.drop_left]
      refine List.take_of_length_le ?_
      have h9 := data_length (s.extract 0 L)
      rw [hb1] at h9
      rw [← h9]
      simp
      omega
    rw [e1, e2] at h2
    have ih := dec_back t (acc ++ [x]) (s.extract (L + 1) s.size) hr1 (fun y hy => hn y (List.mem_cons_of_mem _ hy)) (by rw [ByteArray.size_extract]; omega) (by rw [List.length_append]; simp only [List.length_cons, List.length_nil] at hl ⊢; omega) (by rw [List.append_assoc]; exact hsz)
    rw [List.append_assoc] at ih
    refine Ev.succ (fun k => ?_) ih
    rw [dec_step k acc s hne (by simp only [List.length_cons] at hl; omega) _ _ h1 h2, if_pos rfl, if_pos rfl]
theorem ext_size (s : ByteArray) (a b : Nat) : (s.extract a b).size ≤ s.size := by
  rw [ByteArray.size_extract]
  omega
/-- Whatever the bytes: Decode comes to an end. -/
theorem dec_tot : ∀ (n : Nat) (acc : List S31) (s : ByteArray), s.size ≤ n → s.size < 1000000 → acc.length + n ≤ 2000000 → Sz acc → ∃ r : List S31 × Int, Ev (fun k => vars_Decode.l0 k acc s) r ∧ Sz r.1 ∧ r.1.length ≤ 2000000
  | n, acc, s, hn, hz, hl, hsz => by
    by_cases he : s.toList = ([] : List UInt8)
    · have hr := right_tot acc hsz (by omega)
      refine ⟨if rightL (-1) acc = true then (acc, 0) else ([], 15), Ev.succ (g := fun k => (vars_Right.f k acc).bind fun t142 => (if t142 = true then (some (acc, 0)) else (some (([] : List (S31)), 15)))) (fun k => ?_) (Ev.bind (g := fun _ t142 => (if t142 = true then (some (acc, 0)) else (some (([] : List (S31)), 15)))) hr (Ev.const ?_)), ?_⟩
      · rw [vars_Decode.l0, if_pos he]
      · split <;> rfl
      · split
        · exact ⟨hsz, by show acc.length ≤ _; omega⟩
        · exact ⟨fun x hx => (by cases hx), Nat.zero_le _⟩
    · have hs0 : 0 < s.size := by
        rcases Nat.eq_zero_or_pos s.size with h | h
        · exact absurd (List.eq_nil_of_length_eq_zero (by rw [tl_len, h])) he
        · exact h
      have h1 := cut_eq s 0 hz
      obtain ⟨c1, hc1⟩ : ∃ c1, c1 = (if 0 ≤ Lib.indexByte s.data.toList 0 then (s.extract 0 (Lib.indexByte s.data.toList 0).toNat, s.extract ((Lib.indexByte s.data.toList 0).toNat + 1) s.size, true) else (s, (⟨#[]⟩ : ByteArray), false)) := ⟨_, rfl⟩
      rw [← hc1] at h1
      have hs1 : c1.1.size ≤ s.size := by
        rw [hc1]
        split
        · exact ext_size _ _ _
        · exact Nat.le_refl _
      have h2 := cut_eq c1.1 61 (by omega)
      obtain ⟨c2, hc2⟩ : ∃ c2, c2 = (if 0 ≤ Lib.indexByte c1.1.data.toList 61 then (c1.1.extract 0 (Lib.indexByte c1.1.data.toList 61).toNat, c1.1.extract ((Lib.indexByte c1.1.data.toList 61).toNat + 1) c1.1.size, true) else (c1.1, (⟨#[]⟩ : ByteArray), false)) := ⟨_, rfl⟩
      rw [← hc2] at h2
      have hs2 : c2.2.1.size ≤ c1.1.size := by
        rw [hc2]
        split
        · exact ext_size _ _ _
        · exact Nat.zero_le _
      have hnil : Sz ([] : List S31) := fun x hx => (by cases hx)
      by_cases hb1 : c1.2.2 = true
      · by_cases hb2 : c2.2.2 = true
        · have hs3 : c1.2.1.size < s.size := by
            rw [hc1] at hb1 ⊢
            split
            · show (s.extract _ s.size).size < s.size
              rw [ByteArray.size_extract]
              omega
            · rename_i h9
              rw [if_neg h9] at hb1
              cases hb1
          obtain ⟨m, rfl⟩ : ∃ m, n = m + 1 := ⟨n - 1, by omega⟩
          obtain ⟨r, hr, hr2⟩ := dec_tot m (acc ++ [(⟨c2.1, c2.2.1⟩ : S31)]) c1.2.1 (by omega) (by omega) (by rw [List.length_append]; show acc.length + 1 + m ≤ _; omega) (fun x hx => by
            rcases List.mem_append.mp hx with hx | hx
            · exact hsz x hx
            · rw [List.mem_singleton.mp hx]
              show c2.2.1.size ≤ _
              omega)
          refine ⟨r, Ev.succ (fun k => ?_) hr, hr2⟩
          rw [dec_step k acc s he (by omega) _ _ h1 h2, if_pos hb1, if_pos hb2]
        · refine ⟨([], 15), Ev.succ (g := fun _ => some ([], 15)) (fun k => ?_) (Ev.const rfl), hnil, Nat.zero_le _⟩
          rw [dec_step k acc s he (by omega) _ _ h1 h2, if_pos hb1, if_neg hb2]
      · refine ⟨([], 15), Ev.succ (g := fun _ => some ([], 15)) (fun k => ?_) (Ev.const rfl), hnil, Nat.zero_le _⟩
        rw [dec_step k acc s he (by omega) _ _ h1 h2, if_neg hb1]
end Go.Proofs.YtdobpgomgnaleaaDoor.V
