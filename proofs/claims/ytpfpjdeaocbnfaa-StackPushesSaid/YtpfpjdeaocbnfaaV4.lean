/- What a word leaves of a stack: its height; that the lower cells stay. -/
import Derived.Test.YtpfpjdeaocbnfaaV3
namespace Go.Proofs.Ytpfpjdeaocbnfaa.V
open Go.RowKit Go.Proofs.Ytpfpjdeaocbnfaa.P Go.Proofs.Ytpfpjdeaocbnfaa.G Go.Proofs.YtpfpjdeaocbnfaaW.PrintWords Go.Proofs.YtpfpjdeaocbnfaaW.PrintLast Go.Proofs.YtpfpjdeaocbnfaaW.PrintMore
set_option linter.unusedVariables false

theorem chk_len (r : List Int) : (chk r).1.length ≤ 64 := by
  unfold chk
  by_cases h : r.length > 64
  · rw [if_pos h]
    simp
  · rw [if_neg h]
    show r.length ≤ 64
    omega
theorem deep_len {op : Int} {l : List Int} (h : l.length ≤ 64) : (deepx op l).1.length ≤ 64 := by
  unfold deepx
  by_cases h0 : l.length = 0
  · rw [if_pos h0]
    simp
  · rw [if_neg h0]
    by_cases h1 : (l.length : Int) - 1 ≤ top l
    · rw [if_pos h1]
      simp
    · rw [if_neg h1]
      by_cases h2 : op = 79
      · rw [if_pos h2]
        simp
        omega
      · rw [if_neg h2]
        simp
        omega
theorem dox_len (op : Int) (l : List Int) : (dox op l).1.length ≤ 64 := by
  unfold dox
  by_cases h64 : l.length > 64
  · rw [if_pos h64]
    simp
  · rw [if_neg h64]
    cases tab op with
    | some r =>
      obtain ⟨t, ix, s⟩ := r
      show (if l.length < t then _ else _ : List Int × Int).1.length ≤ 64
      by_cases hl : l.length < t
      · rw [if_pos hl]
        simp
      · rw [if_neg hl]
        exact chk_len _
    | none =>
      simp only
      by_cases hd : op = 78 ∨ op = 79
      · rw [if_pos hd]
        exact deep_len (by omega)
      · rw [if_neg hd]
        by_cases h80 : op = 80
        · rw [if_pos h80]
          by_cases h0 : l.length = 0
          · rw [if_pos h0]
            simp
          · rw [if_neg h0]
            by_cases hz : top l = 0
            · rw [if_pos hz]
              show l.length ≤ 64
              omega
            · rw [if_neg hz]
              exact chk_len _
        · rw [if_neg h80]
          by_cases h81 : op = 81
          · rw [if_pos h81]
            exact chk_len _
          · rw [if_neg h81]
            simp
theorem dox_sh (op : Int) (l : List Int) : Sh (dox op l).1 := by
  have := dox_len op l
  unfold Sh
  omega
/-- What is left when a word has been done above other cells. -/
theorem rd_mem {l : List Int} (h : Cells l) (i : Int) : 0 ≤ rd l i ∧ rd l i ≤ 4294967295 := by
  unfold rd
  rw [List.getD_eq_getElem?_getD]
  rcases Nat.lt_or_ge i.toNat l.length with hj | hj
  · rw [List.getElem?_eq_getElem hj]
    exact h _ (List.getElem_mem hj)
  · rw [List.getElem?_eq_none hj]
    simp
theorem below_top {l b : List Int} (h : 0 < l.length) : top (b ++ l) = top l := by
  unfold top
  rw [List.getD_eq_getElem?_getD, List.getD_eq_getElem?_getD, List.length_append, List.getElem?_append_right (by omega)]
  congr 2
  omega
theorem below_take {l b : List Int} {n : Nat} (h : n ≤ l.length) : (b ++ l).take ((b ++ l).length - n) = b ++ l.take (l.length - n) := by
  rw [List.length_append, List.take_append, List.take_of_length_le (by omega), show b.length + l.length - n - b.length = l.length - n by omega]
theorem below_drop {l b : List Int} {n : Nat} (h : n ≤ l.length) : (b ++ l).drop ((b ++ l).length - n) = l.drop (l.length - n) := by
  rw [List.length_append, List.drop_append, List.drop_eq_nil_of_le (by omega), List.nil_append, show b.length + l.length - n - b.length = l.length - n by omega]
theorem below_chk {r b : List Int} (h : (chk r).2 = 0) : (chk r).1 = r ∧ (chk (b ++ r) = (b ++ r, 0) ∨ (chk (b ++ r)).2 = 6 ∧ (b ++ r).length > 64) := by
  unfold chk at h ⊢
  by_cases h64 : r.length > 64
  · rw [if_pos h64] at h
    cases h
  · rw [if_neg h64]
    refine ⟨rfl, ?_⟩
    by_cases h2 : (b ++ r).length > 64
    · rw [if_pos h2]
      exact .inr ⟨rfl, h2⟩
    · rw [if_neg h2]
      exact .inl rfl
theorem below_deep {op : Int} {l b : List Int} (h : (deepx op l).2 = 0) (hc : Cells l) : deepx op (b ++ l) = (b ++ (deepx op l).1, 0) := by
  have ht := top_cell hc
  unfold deepx at h ⊢
  by_cases h0 : l.length = 0
  · rw [if_pos h0] at h
    cases h
  · rw [if_neg h0] at h
    rw [if_neg (by rw [List.length_append]; omega), if_neg h0, below_top (by omega)]
    by_cases h1 : (l.length : Int) - 1 ≤ top l
    · rw [if_pos h1] at h
      cases h
    · rw [if_neg h1, if_neg (by rw [List.length_append]; omega), below_take (n := 1) (by omega)]
      obtain ⟨p, hp⟩ : ∃ p, l.length - 2 - (top l).toNat = p := ⟨_, rfl⟩
      have hp2 : (b ++ l).length - 2 - (top l).toNat = b.length + p := by rw [List.length_append]; omega
      rw [hp, hp2]
      have e1 : (b ++ l.take (l.length - 1)).getD (b.length + p) 0 = (l.take (l.length - 1)).getD p 0 := by
        rw [List.getD_eq_getElem?_getD, List.getD_eq_getElem?_getD, List.getElem?_append_right (by omega), show b.length + p - b.length = p by omega]
      have e2 : (b ++ l.take (l.length - 1)).take (b.length + p) = b ++ (l.take (l.length - 1)).take p := by
        rw [List.take_append, List.take_of_length_le (by omega), show b.length + p - b.length = p by omega]
      have e3 : (b ++ l.take (l.length - 1)).drop (b.length + p + 1) = (l.take (l.length - 1)).drop (p + 1) := by
        rw [List.drop_append, List.drop_eq_nil_of_le (by omega), List.nil_append, show b.length + p + 1 - b.length = p + 1 by omega]
      rw [e1, e2, e3]
      by_cases h79 : op = 79
      · rw [if_pos h79, if_pos h79, List.append_assoc, List.append_assoc, List.append_assoc]
      · rw [if_neg h79, if_neg h79, List.append_assoc]
/-- The table's words take no more cells than 6 and leave no more than two more. -/
theorem below_dox {op : Int} {l b : List Int} (hop : op ≠ 81) (hc : Cells l) (hl : l.length + b.length ≤ 64) (h : (dox op l).2 = 0) : dox op (b ++ l) = (b ++ (dox op l).1, 0) ∨ (dox op (b ++ l)).2 = 6 ∧ (b ++ l).length + 2 > 64 := by
  unfold dox at h ⊢
  have hbl : (b ++ l).length = b.length + l.length := List.length_append
  rw [if_neg (by omega)] at h
  rw [if_neg (show ¬ (b ++ l).length > 64 by omega), if_neg (show ¬ l.length > 64 by omega)]
  cases ht : tab op with
  | some r =>
    obtain ⟨t, ix, s⟩ := r
    rw [ht] at h
    simp only at h ⊢
    have hgrow : ix.length ≤ t + 2 := by
      have key : (match tab op with | some (t, ix, s) => decide (ix.length ≤ t + 2) | none => true) = true := by
        rcases ops_of op with rfl | rfl | rfl | rfl | rfl | rfl | rfl | rfl | rfl | rfl | rfl | rfl | rfl | hn
        all_goals first | decide +kernel | skip
        rw [tab_none hn]
      rw [ht] at key
      simpa using key
    by_cases hlt : l.length < t
    · rw [if_pos hlt] at h
      cases h
    · rw [if_neg hlt] at h
      rw [if_neg hlt, if_neg (by rw [List.length_append]; omega), below_take (by omega), below_drop (by omega)]
      obtain ⟨e1, e2⟩ := below_chk (b := b) h
      rw [e1, List.append_assoc]
      rcases e2 with e2 | ⟨e2, e3⟩
      · exact .inl e2
      · refine .inr ⟨e2, ?_⟩
        rw [List.length_append, List.length_append, List.length_map, List.length_take] at e3
        rw [List.length_append]
        omega
  | none =>
    rw [ht] at h
    simp only at h ⊢
    by_cases hd : op = 78 ∨ op = 79
    · rw [if_pos hd] at h
      rw [if_pos hd, if_pos hd]
      exact .inl (below_deep h hc)
    · rw [if_neg hd] at h
      rw [if_neg hd, if_neg hd]
      by_cases h80 : op = 80
      · rw [if_pos h80] at h
        rw [if_pos h80, if_pos h80]
        by_cases h0 : l.length = 0
        · rw [if_pos h0] at h
          cases h
        · rw [if_neg h0] at h
          rw [if_neg h0, if_neg (by rw [List.length_append]; omega), below_top (by omega)]
          by_cases hz : top l = 0
          · rw [if_pos hz, if_pos hz]
            exact .inl rfl
          · rw [if_neg hz] at h
            rw [if_neg hz, if_neg hz]
            obtain ⟨e1, e2⟩ := below_chk (b := b) h
            rw [e1, List.append_assoc]
            rcases e2 with e2 | ⟨e2, e3⟩
            · exact .inl e2
            · refine .inr ⟨e2, ?_⟩
              rw [List.length_append, List.length_append] at e3
              rw [List.length_append]
              simp only [List.length_cons, List.length_nil] at e3
              omega
      · rw [if_neg h80, if_neg hop] at h
        cases h
end Go.Proofs.Ytpfpjdeaocbnfaa.V
