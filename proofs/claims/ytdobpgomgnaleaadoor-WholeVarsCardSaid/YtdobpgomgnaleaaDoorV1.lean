/- WholeVars, plain: what a row of bytes does to the NVRAM. No condition. -/
import Derived.Test.YtdobpgomgnaleaaDoorPx
namespace Go.Proofs.YtdobpgomgnaleaaDoor.V
open Go.Proofs.YtdobpgomgnaleaaDoor.P Go.Proofs.YtdobpgomgnaleaaDoor.G Go.Proofs.YtdobpgomgnaleaaDoorW.PrintWords
set_option linter.unusedVariables false
set_option linter.unusedSimpArgs false
def By8 (l : List Int) : Prop := ∀ x ∈ l, 0 ≤ x ∧ x ≤ 255
def wr (ba : Int) : Nat → List Int → List S64
  | _, [] => []
  | s, b :: bs => ⟨ba + s, b⟩ :: wr ba (s + 1) bs
theorem wr_len (ba : Int) : ∀ (bs : List Int) (s : Nat), (wr ba s bs).length = bs.length
  | [], _ => rfl
  | b :: bs, s => by rw [wr, List.length_cons, List.length_cons, wr_len ba bs]
theorem wr_take (ba : Int) : ∀ (bs : List Int) (s j : Nat), (wr ba s bs).take j = wr ba s (bs.take j)
  | [], _, _ => by simp [wr]
  | b :: bs, s, 0 => by simp [wr]
  | b :: bs, s, j + 1 => by rw [wr, List.take_succ_cons, List.take_succ_cons, wr, wr_take ba bs]
theorem wr_append (ba : Int) : ∀ (cs bs : List Int) (s : Nat), wr ba s (cs ++ bs) = wr ba s cs ++ wr ba (s + cs.length) bs
  | [], bs, s => by simp [wr]
  | a :: cs, bs, s => by
    rw [List.cons_append, wr, wr, wr_append ba cs bs, List.cons_append, List.length_cons, show s + 1 + cs.length = s + (cs.length + 1) by omega]
theorem layR_wr (ba : Int) : ∀ (bs : List Int) (row : List S64), layR ba row bs = row ++ wr ba row.length bs
  | [], row => by simp [layR, wr]
  | b :: bs, row => by
    rw [layR, layR_wr ba bs, wr, List.length_append, List.append_assoc]
    rfl
def body (gen : Int) (data : List Int) : List Int := [gen, (data.length : Int) / 256 % 256, (data.length : Int) % 256] ++ fourR (sumR gen data) ++ data
theorem body_len (gen : Int) (data : List Int) : (body gen data).length = data.length + 7 := by
  simp [body, fourR]
theorem rowR_wr (ba gen : Int) (data : List Int) : rowR ba gen data = ⟨ba, 0⟩ :: wr ba 1 (body gen data) ++ [⟨ba, 165⟩] := by
  unfold rowR body
  rw [layR_wr, layR_wr, layR_wr, wr_append, wr_append]
  simp [fourR, wr]
theorem rowR_len (ba gen : Int) (data : List Int) : (rowR ba gen data).length = data.length + 9 := by
  rw [rowR_wr, List.length_append, List.length_cons, wr_len, body_len]
  rfl
def put1 (nv : List Int) (b : S64) : List Int := if 0 ≤ b.f0 ∧ b.f0 < nv.length then nv.set b.f0.toNat b.f1 else nv
def applyR (nv : List Int) (row : List S64) : List Int := row.foldl put1 nv
theorem put1_len (nv : List Int) (b : S64) : (put1 nv b).length = nv.length := by
  unfold put1
  split
  · rw [List.length_set]
  · rfl
theorem applyR_len : ∀ (row : List S64) (nv : List Int), (applyR nv row).length = nv.length
  | [], nv => rfl
  | b :: row, nv => by
    show (applyR (put1 nv b) row).length = _
    rw [applyR_len row, put1_len]
/-- A run of writes. -/
theorem apply_wr : ∀ (bs : List Int) (p s : Nat) (nv : List Int), p + s + bs.length ≤ nv.length → applyR nv (wr (p : Int) s bs) = nv.take (p + s) ++ bs ++ nv.drop (p + s + bs.length)
  | [], p, s, nv, h => by simp [wr, applyR]
  | b :: bs, p, s, nv, h => by
    have hl : p + s < nv.length := by simp only [List.length_cons] at h; omega
    show applyR (put1 nv ⟨(p : Int) + s, b⟩) (wr (p : Int) (s + 1) bs) = _
    have e : put1 nv ⟨(p : Int) + s, b⟩ = nv.set (p + s) b := by
      unfold put1
      rw [if_pos ⟨by show (0 : Int) ≤ (p : Int) + s; omega, by show ((p : Int) + s) < _; omega⟩]
      show nv.set ((p : Int) + s).toNat b = _
      rw [show ((p : Int) + s).toNat = p + s by omega]
    rw [e, apply_wr bs p (s + 1) _ (by rw [List.length_set]; simp only [List.length_cons] at h; omega)]
    rw [List.drop_set_of_lt (by omega), show p + (s + 1) = p + s + 1 by omega]
    have e2 : (nv.set (p + s) b).take (p + s + 1) = nv.take (p + s) ++ [b] := by
      rw [List.take_succ_eq_append_getElem (by rw [List.length_set]; exact hl), List.take_set_of_le (Nat.le_refl _), List.getElem_set_self]
    rw [e2, List.length_cons, show p + s + 1 + bs.length = p + s + (bs.length + 1) by omega]
    simp
/-- The bank's cells from p on: x, then bs. -/
def seg (nv : List Int) (p : Nat) (x : Int) (bs : List Int) : List Int := nv.take p ++ (x :: bs) ++ nv.drop (p + 1 + bs.length)
theorem apply_cons (nv : List Int) (p : Nat) (x : Int) (bs : List Int) (h : p + 1 + bs.length ≤ nv.length) : applyR nv (⟨p, x⟩ :: wr (p : Int) 1 bs) = seg nv p x bs := by
  have e : (⟨(p : Int), x⟩ : S64) :: wr (p : Int) 1 bs = wr (p : Int) 0 (x :: bs) := by
    rw [wr]
    simp
  rw [e, apply_wr (x :: bs) p 0 nv (by simp only [List.length_cons]; omega)]
  unfold seg
  rw [List.length_cons, Nat.add_zero, show p + (bs.length + 1) = p + 1 + bs.length by omega]
theorem applyR_append (nv : List Int) (a b : List S64) : applyR nv (a ++ b) = applyR (applyR nv a) b := List.foldl_append
theorem apply_full (nv : List Int) (p : Nat) (gen : Int) (data : List Int) (h : p + 8 + data.length ≤ nv.length) : applyR nv (rowR (p : Int) gen data) = seg nv p 165 (body gen data) := by
  have hb := body_len gen data
  rw [rowR_wr, applyR_append, apply_cons nv p 0 _ (by omega)]
  show put1 (seg nv p 0 (body gen data)) ⟨p, 165⟩ = _
  have hl : (seg nv p 0 (body gen data)).length = nv.length := by
    unfold seg
    rw [List.length_append, List.length_append, List.length_cons, List.length_take, List.length_drop]
    omega
  unfold put1
  rw [if_pos ⟨by show (0 : Int) ≤ (p : Int); omega, by rw [hl]; show (p : Int) < _; omega⟩]
  show (seg nv p 0 (body gen data)).set ((p : Int).toNat) 165 = _
  rw [Int.toNat_natCast]
  unfold seg
  rw [List.append_assoc, List.append_assoc, List.set_append_right _ _ (by rw [List.length_take]; omega), List.length_take, Nat.min_eq_left (by omega), Nat.sub_self]
  rfl
theorem apply_part (nv : List Int) (p : Nat) (gen : Int) (data : List Int) (m : Nat) (h : p + 8 + data.length ≤ nv.length) (h0 : 0 < m) (h1 : m < (rowR (p : Int) gen data).length) : ∃ bs, bs.length ≤ data.length + 7 ∧ applyR nv ((rowR (p : Int) gen data).take m) = seg nv p 0 bs := by
  have hb := body_len gen data
  rw [rowR_len] at h1
  refine ⟨(body gen data).take (m - 1), by rw [List.length_take]; omega, ?_⟩
  rw [rowR_wr, List.take_append_of_le_length (by rw [List.length_cons, wr_len, hb]; omega)]
  obtain ⟨j, rfl⟩ : ∃ j, m = j + 1 := ⟨m - 1, by omega⟩
  rw [List.take_succ_cons, wr_take, Nat.add_sub_cancel]
  exact apply_cons nv p 0 _ (by rw [List.length_take]; omega)
/-- The bank that is written, and the other one. -/
theorem seg0_take (nv : List Int) (x : Int) (bs : List Int) (h : bs.length ≤ 255) (hl : nv.length = 512) : (seg nv 0 x bs).take 256 = x :: bs ++ (nv.drop (1 + bs.length)).take (255 - bs.length) := by
  unfold seg
  rw [List.take_zero, List.nil_append, Nat.zero_add, List.take_append, List.take_of_length_le (by rw [List.length_cons]; omega), List.length_cons]
  congr 2
  omega
theorem seg0_drop (nv : List Int) (x : Int) (bs : List Int) (h : bs.length ≤ 255) (hl : nv.length = 512) : (seg nv 0 x bs).drop 256 = nv.drop 256 := by
  unfold seg
  rw [List.take_zero, List.nil_append, Nat.zero_add, List.drop_append, List.drop_eq_nil_of_le (by rw [List.length_cons]; omega), List.nil_append, List.drop_drop, List.length_cons]
  congr 1
  omega
theorem seg1_take (nv : List Int) (x : Int) (bs : List Int) (hl : nv.length = 512) : (seg nv 256 x bs).take 256 = nv.take 256 := by
  unfold seg
  rw [List.append_assoc, List.take_append_of_le_length (by rw [List.length_take]; omega), List.take_take, Nat.min_self]
theorem seg1_drop (nv : List Int) (x : Int) (bs : List Int) (hl : nv.length = 512) : (seg nv 256 x bs).drop 256 = x :: bs ++ nv.drop (257 + bs.length) := by
  unfold seg
  rw [List.append_assoc, List.drop_append_of_le_length (by rw [List.length_take]; omega), List.drop_eq_nil_of_le (by rw [List.length_take]; omega), List.nil_append]
theorem seg_len (nv : List Int) (p : Nat) (x : Int) (bs : List Int) (h : p + 1 + bs.length ≤ nv.length) : (seg nv p x bs).length = nv.length := by
  unfold seg
  rw [List.length_append, List.length_append, List.length_cons, List.length_take, List.length_drop]
  omega
theorem dOk_zero (bs : List Int) : dOk (0 :: bs) = false := by
  unfold dOk
  rfl
theorem dOk_body (gen : Int) (data rest : List Int) (h : data.length ≤ 248) : dOk (165 :: body gen data ++ rest) = true ∧ dDat (165 :: body gen data ++ rest) = data ∧ rd (165 :: body gen data ++ rest) 1 = gen := by
  have e : 165 :: body gen data ++ rest = 165 :: gen :: ((data.length : Int) / 256 % 256) :: ((data.length : Int) % 256) :: ((sumR gen data) / 16777216 % 256) :: ((sumR gen data) / 65536 % 256) :: ((sumR gen data) / 256 % 256) :: ((sumR gen data) % 256) :: (data ++ rest) := by
    unfold body fourR
    simp
  rw [e]
  have hL : dLen (165 :: gen :: ((data.length : Int) / 256 % 256) :: ((data.length : Int) % 256) :: ((sumR gen data) / 16777216 % 256) :: ((sumR gen data) / 65536 % 256) :: ((sumR gen data) / 256 % 256) :: ((sumR gen data) % 256) :: (data ++ rest)) = data.length := by
    show ((data.length : Int) / 256 % 256) * 256 + ((data.length : Int) % 256) = data.length
    omega
  have hD : dDat (165 :: gen :: ((data.length : Int) / 256 % 256) :: ((data.length : Int) % 256) :: ((sumR gen data) / 16777216 % 256) :: ((sumR gen data) / 65536 % 256) :: ((sumR gen data) / 256 % 256) :: ((sumR gen data) % 256) :: (data ++ rest)) = data := by
    unfold dDat
    rw [hL]
    show (data ++ rest).take ((data.length : Int).toNat) = data
    rw [Int.toNat_natCast, List.take_left]
  refine ⟨?_, hD, rfl⟩
  unfold dOk
  rw [hD, hL]
  have h1 : decide ((data.length : Int) ≤ 248) = true := decide_eq_true (by omega)
  rw [h1]
  show ((165 : Int) == 165 && true && (fourR (sumR gen data) == fourR (sumR gen data))) = true
  simp
def planR (nv data : List Int) : List S64 := if countsR nv = 0 then rowR 256 ((rd (nv.take 256) 1 + 1) % 256) data else if countsR nv = 1 then rowR 0 ((rd (nv.drop 256) 1 + 1) % 256) data else rowR 0 1 data
def recR (nv : List Int) : Option (List Int) := if countsR nv < 0 then none else some (dDat ((nv.drop (256 * (countsR nv).toNat)).take 256))
theorem counts_eq (nv : List Int) : countsR nv = if dOk (nv.drop 256) && (!dOk (nv.take 256) || rd (nv.drop 256) 1 == (rd (nv.take 256) 1 + 1) % 256) then 1 else if dOk (nv.take 256) then 0 else -1 := rfl
theorem recR_eq (nv : List Int) (hl : nv.length = 512) : recR nv = if dOk (nv.drop 256) && (!dOk (nv.take 256) || rd (nv.drop 256) 1 == (rd (nv.take 256) 1 + 1) % 256) then some (dDat (nv.drop 256)) else if dOk (nv.take 256) then some (dDat (nv.take 256)) else none := by
  unfold recR
  rw [counts_eq]
  by_cases h1 : (dOk (nv.drop 256) && (!dOk (nv.take 256) || rd (nv.drop 256) 1 == (rd (nv.take 256) 1 + 1) % 256)) = true
  · rw [if_pos h1, if_pos h1, if_neg (by decide)]
    show some (dDat ((nv.drop 256).take 256)) = _
    rw [List.take_of_length_le (by rw [List.length_drop]; omega)]
  · rw [if_neg h1, if_neg h1]
    by_cases h2 : dOk (nv.take 256) = true
    · rw [if_pos h2, if_pos h2, if_neg (by decide)]
      rfl
    · rw [if_neg h2, if_neg h2, if_pos (by decide)]
theorem planR_row (nv data : List Int) : ∃ (p : Nat) (gen : Int), (p = 0 ∨ p = 256) ∧ planR nv data = rowR (p : Int) gen data := by
  unfold planR
  split
  · exact ⟨256, _, .inr rfl, rfl⟩
  · split
    · exact ⟨0, _, .inl rfl, rfl⟩
    · exact ⟨0, _, .inl rfl, rfl⟩
theorem planR_len (nv data : List Int) : (planR nv data).length = data.length + 9 := by
  obtain ⟨p, gen, _, h⟩ := planR_row nv data
  rw [h, rowR_len]
theorem rd_cons0 (x : Int) (l : List Int) : rd (x :: l) 0 = x := rfl
/-- What was written whole counts. -/
theorem rec_full (nv data : List Int) (hb : By8 nv) (hl : nv.length = 512) (hd : data.length ≤ 248) : recR (applyR nv (planR nv data)) = some data := by
  have hbl : ∀ gen, (body gen data).length ≤ 255 := fun gen => by rw [body_len]; omega
  unfold planR
  by_cases h0 : countsR nv = 0
  · rw [if_pos h0]
    have hk : dOk (nv.take 256) = true := by
      rcases counts_cases nv with h | h | h
      · omega
      · exact h.2
      · omega
    obtain ⟨gen, hg⟩ : ∃ gen, gen = (rd (nv.take 256) 1 + 1) % 256 := ⟨_, rfl⟩
    rw [← hg]
    have ha := apply_full nv 256 gen data (by omega)
    rw [show ((256 : Nat) : Int) = 256 from rfl] at ha
    rw [ha, recR_eq _ (by rw [seg_len _ _ _ _ (by have := hbl gen; omega)]; exact hl), seg1_take _ _ _ hl, seg1_drop _ _ _ hl]
    obtain ⟨e1, e2, e3⟩ := dOk_body gen data (nv.drop (257 + (body gen data).length)) hd
    rw [e1, e2, e3, hk, hg]
    simp
  · rw [if_neg h0]
    by_cases h1 : countsR nv = 1
    · rw [if_pos h1]
      have hk : dOk (nv.drop 256) = true := by
        rcases counts_cases nv with h | h | h
        · omega
        · omega
        · exact h.2
      have hr : 0 ≤ rd (nv.drop 256) 1 ∧ rd (nv.drop 256) 1 ≤ 255 := rd_wf (nv.drop 256) 1 (by rw [List.length_drop]; omega) (fun x hx => hb x (List.mem_of_mem_drop hx))
      obtain ⟨gen, hg⟩ : ∃ gen, gen = (rd (nv.drop 256) 1 + 1) % 256 := ⟨_, rfl⟩
      rw [← hg]
      have ha := apply_full nv 0 gen data (by omega)
      rw [show ((0 : Nat) : Int) = 0 from rfl] at ha
      rw [ha, recR_eq _ (by rw [seg_len _ _ _ _ (by have := hbl gen; omega)]; exact hl), seg0_take _ _ _ (hbl gen) hl, seg0_drop _ _ _ (hbl gen) hl]
      obtain ⟨e1, e2, e3⟩ := dOk_body gen data ((nv.drop (1 + (body gen data).length)).take (255 - (body gen data).length)) hd
      rw [e1, e2, e3, hk]
      have hne : (rd (nv.drop 256) 1 == (gen + 1) % 256) = false := beq_eq_false_iff_ne.mpr (by rw [hg]; omega)
      rw [hne]
      simp
    · rw [if_neg h1]
      have hk : dOk (nv.drop 256) = false := by
        rw [counts_eq] at h0 h1
        cases hy : dOk (nv.drop 256) with
        | false => rfl
        | true =>
          cases hx : dOk (nv.take 256) with
          | false => rw [hy, hx] at h1; simp at h1
          | true =>
            rw [hy, hx] at h0 h1
            simp at h0 h1
            exact absurd (h0) (by simp [h1])
      have ha := apply_full nv 0 1 data (by omega)
      rw [show ((0 : Nat) : Int) = 0 from rfl] at ha
      rw [ha, recR_eq _ (by rw [seg_len _ _ _ _ (by have := hbl 1; omega)]; exact hl), seg0_take _ _ _ (hbl 1) hl, seg0_drop _ _ _ (hbl 1) hl]
      obtain ⟨e1, e2, e3⟩ := dOk_body 1 data ((nv.drop (1 + (body 1 data).length)).take (255 - (body 1 data).length)) hd
      rw [e1, e2, hk]
      simp
/-- What was not written whole changes nothing. -/
theorem rec_part (nv data : List Int) (hl : nv.length = 512) (hd : data.length ≤ 248) (m : Nat) (hm : m < (planR nv data).length) : recR (applyR nv ((planR nv data).take m)) = recR nv := by
  rcases Nat.eq_zero_or_pos m with rfl | hm0
  · rw [List.take_zero]; rfl
  unfold planR at hm ⊢
  by_cases h0 : countsR nv = 0
  · rw [if_pos h0] at hm ⊢
    have hk : dOk (nv.take 256) = true ∧ (dOk (nv.drop 256) && (!dOk (nv.take 256) || rd (nv.drop 256) 1 == (rd (nv.take 256) 1 + 1) % 256)) = false := by
      rw [counts_eq] at h0
      by_cases h1 : (dOk (nv.drop 256) && (!dOk (nv.take 256) || rd (nv.drop 256) 1 == (rd (nv.take 256) 1 + 1) % 256)) = true
      · rw [if_pos h1] at h0; cases h0
      · rw [if_neg h1] at h0
        by_cases h2 : dOk (nv.take 256) = true
        · exact ⟨h2, Bool.eq_false_iff.mpr h1⟩
        · rw [if_neg h2] at h0; cases h0
    obtain ⟨bs, hbs, ha⟩ := apply_part nv 256 _ data m (by omega) hm0 hm
    rw [show ((256 : Nat) : Int) = 256 from rfl] at ha
    rw [ha, recR_eq _ (by rw [seg_len _ _ _ _ (by omega)]; exact hl), seg1_take _ _ _ hl, seg1_drop _ _ _ hl, recR_eq nv hl, hk.2, hk.1]
    rw [show (0 : Int) :: bs ++ nv.drop (257 + bs.length) = 0 :: (bs ++ nv.drop (257 + bs.length)) from rfl, dOk_zero]
    simp
  · rw [if_neg h0] at hm ⊢
    by_cases h1 : countsR nv = 1
    · rw [if_pos h1] at hm ⊢
      have hk : (dOk (nv.drop 256) && (!dOk (nv.take 256) || rd (nv.drop 256) 1 == (rd (nv.take 256) 1 + 1) % 256)) = true := by
        rw [counts_eq] at h1
        by_cases h2 : (dOk (nv.drop 256) && (!dOk (nv.take 256) || rd (nv.drop 256) 1 == (rd (nv.take 256) 1 + 1) % 256)) = true
        · exact h2
        · rw [if_neg h2] at h1
          split at h1 <;> cases h1
      have hk2 : dOk (nv.drop 256) = true := by
        rw [Bool.and_eq_true] at hk
        exact hk.1
      obtain ⟨bs, hbs, ha⟩ := apply_part nv 0 _ data m (by omega) hm0 hm
      rw [show ((0 : Nat) : Int) = 0 from rfl] at ha
      rw [ha, recR_eq _ (by rw [seg_len _ _ _ _ (by omega)]; exact hl), seg0_take _ _ _ (by omega) hl, seg0_drop _ _ _ (by omega) hl, recR_eq nv hl, hk, hk2]
      rw [show (0 : Int) :: bs ++ (nv.drop (1 + bs.length)).take (255 - bs.length) = 0 :: (bs ++ (nv.drop (1 + bs.length)).take (255 - bs.length)) from rfl, dOk_zero]
      simp
    · rw [if_neg h1] at hm ⊢
      have hk : dOk (nv.drop 256) = false ∧ dOk (nv.take 256) = false := by
        rw [counts_eq] at h0 h1
        cases hy : dOk (nv.drop 256) <;> cases hx : dOk (nv.take 256) <;> rw [hy, hx] at h0 h1 <;> simp at h0 h1 ⊢
        exact absurd h0 (by simp [h1])
      obtain ⟨bs, hbs, ha⟩ := apply_part nv 0 1 data m (by omega) hm0 hm
      rw [show ((0 : Nat) : Int) = 0 from rfl] at ha
      rw [ha, recR_eq _ (by rw [seg_len _ _ _ _ (by omega)]; exact hl), seg0_take _ _ _ (by omega) hl, seg0_drop _ _ _ (by omega) hl, recR_eq nv hl, hk.1, hk.2]
      rw [show (0 : Int) :: bs ++ (nv.drop (1 + bs.length)).take (255 - bs.length) = 0 :: (bs ++ (nv.drop (1 + bs.length)).take (255 - bs.length)) from rfl, dOk_zero]
      simp
end Go.Proofs.YtdobpgomgnaleaaDoor.V
