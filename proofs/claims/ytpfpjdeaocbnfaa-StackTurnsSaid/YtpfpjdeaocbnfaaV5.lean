/- Words done one behind the other. -/
import Derived.Test.YtpfpjdeaocbnfaaV4
namespace Go.Proofs.Ytpfpjdeaocbnfaa.V
open Go.RowKit Go.Proofs.Ytpfpjdeaocbnfaa.P Go.Proofs.Ytpfpjdeaocbnfaa.G Go.Proofs.YtpfpjdeaocbnfaaW.PrintWords Go.Proofs.YtpfpjdeaocbnfaaW.PrintLast Go.Proofs.YtpfpjdeaocbnfaaW.PrintMore
set_option linter.unusedVariables false

theorem Cells.nil : Cells [] := fun x hx => by cases hx
theorem Cells.take {l : List Int} (h : Cells l) (n : Nat) : Cells (l.take n) := fun x hx => h x (List.mem_of_mem_take hx)
theorem Cells.drop {l : List Int} (h : Cells l) (n : Nat) : Cells (l.drop n) := fun x hx => h x (List.mem_of_mem_drop hx)
theorem Cells.one {a : Int} (h : 0 ≤ a ∧ a ≤ 4294967295) : Cells [a] := fun x hx => by
  rcases List.mem_cons.1 hx with rfl | hx
  · exact h
  · cases hx
theorem chk_cells {r : List Int} (h : Cells r) : Cells (chk r).1 := by
  unfold chk
  by_cases h64 : r.length > 64
  · rw [if_pos h64]
    exact Cells.nil
  · rw [if_neg h64]
    exact h
theorem map_cells {q : List Int} (h : Cells q) (ix : List Int) : Cells (ix.map (rd q)) := fun x hx => by
  obtain ⟨i, _, rfl⟩ := List.mem_map.1 hx
  exact rd_mem h i
theorem tab_cells {op : Int} {l : List Int} (h : Cells l) (ht : tab op ≠ none ∨ op = 81) : Cells (dox op l).1 := by
  unfold dox
  by_cases h64 : l.length > 64
  · rw [if_pos h64]
    exact Cells.nil
  · rw [if_neg h64]
    cases he : tab op with
    | some r =>
      obtain ⟨t, ix, s⟩ := r
      show Cells (if l.length < t then _ else _ : List Int × Int).1
      by_cases hl : l.length < t
      · rw [if_pos hl]
        exact Cells.nil
      · rw [if_neg hl]
        exact chk_cells ((h.take _).append (map_cells (h.drop _) ix))
    | none =>
      rcases ht with ht | rfl
      · exact absurd he ht
      · simp only
        rw [if_neg (by decide), if_neg (by decide), if_pos trivial]
        exact chk_cells (h.append (Cells.one ⟨by omega, by omega⟩))
/-- Why a word that turns is refused. -/
theorem dox_no {op : Int} {l : List Int} (ht : tab op ≠ none ∨ op = 81) (h : (dox op l).2 ≠ 0) :
    (dox op l).1 = [] ∧ ((dox op l).2 = 1 ∧ l.length > 64 ∨ (dox op l).2 = 5 ∧ l.length < 6 ∨ (dox op l).2 = 6 ∧ l.length > 62) := by
  have hchk : ∀ r : List Int, (chk r).2 ≠ 0 → (chk r).1 = [] ∧ (chk r).2 = 6 ∧ r.length > 64 := by
    intro r hr
    unfold chk at hr ⊢
    by_cases h64 : r.length > 64
    · rw [if_pos h64]
      exact ⟨rfl, rfl, h64⟩
    · rw [if_neg h64] at hr
      exact absurd rfl hr
  unfold dox at h ⊢
  by_cases h64 : l.length > 64
  · rw [if_pos h64]
    exact ⟨rfl, .inl ⟨rfl, h64⟩⟩
  · rw [if_neg h64] at h ⊢
    cases he : tab op with
    | some r =>
      obtain ⟨t, ix, s⟩ := r
      rw [he] at h
      have hok := tab_ok he
      simp only [okRow, Bool.and_eq_true, List.all_eq_true, decide_eq_true_eq] at hok
      obtain ⟨⟨⟨⟨⟨h1, h2⟩, h3⟩, h4⟩, h5⟩, h6⟩ := hok
      simp only at h ⊢
      by_cases hl : l.length < t
      · rw [if_pos hl]
        exact ⟨rfl, .inr (.inl ⟨rfl, by omega⟩)⟩
      · rw [if_neg hl] at h ⊢
        obtain ⟨e1, e2, e3⟩ := hchk _ h
        refine ⟨e1, .inr (.inr ⟨e2, ?_⟩)⟩
        have hgrow : ix.length ≤ t + 2 := by
          have key : (match tab op with | some (t, ix, s) => decide (ix.length ≤ t + 2) | none => true) = true := by
            rcases ops_of op with rfl | rfl | rfl | rfl | rfl | rfl | rfl | rfl | rfl | rfl | rfl | rfl | rfl | hn
            all_goals first | decide +kernel | skip
            rw [tab_none hn]
          rw [he] at key
          simpa using key
        rw [List.length_append, List.length_map, List.length_take] at e3
        omega
    | none =>
      rw [he] at h
      rcases ht with ht | rfl
      · exact absurd he ht
      · simp only at h ⊢
        rw [if_neg (by decide), if_neg (by decide), if_pos trivial] at h ⊢
        obtain ⟨e1, e2, e3⟩ := hchk _ h
        refine ⟨e1, .inr (.inr ⟨e2, ?_⟩)⟩
        rw [List.length_append] at e3
        simp only [List.length_cons, List.length_nil] at e3
        omega
/-- Words one behind the other; none: one is refused. -/
def run : List Int → List Int → Option (List Int)
  | [], x => some x
  | o :: os, x => if (dox o x).2 = 0 then run os (dox o x).1 else none
def words (row : List Int) : Prop := ∀ o ∈ row, tab o ≠ none ∨ o = 81
theorem turns_loop {l row : List Int} (hs : Sh l) (hw : words row) (hr : row.length ≤ 100) (d : Nat) : ∀ (k i : Nat) (x : List Int), i ≤ row.length → row.length - i = d → d + l.length + 100 < k → Cells x → x.length ≤ l.length + 64 → run (row.drop i) x = some l →
    tinderlaw03_StackTurns.l0 k l row x (i : Int) = some true := by
  induction d with
  | zero =>
    intro k i x hi hd hk hc hx hrun
    obtain ⟨k, rfl⟩ : ∃ m, k = m + 1 := ⟨k - 1, by omega⟩
    rw [List.drop_eq_nil_of_le (by omega)] at hrun
    obtain rfl : x = l := Option.some.inj hrun
    rw [tinderlaw03_StackTurns.l0, if_neg (by omega), same_refl hs (by omega), Option.bind_some]
  | succ d ih =>
    intro k i x hi hd hk hc hx hrun
    obtain ⟨k, rfl⟩ : ∃ m, k = m + 1 := ⟨k - 1, by omega⟩
    have hi2 : i < row.length := by omega
    rw [List.drop_eq_getElem_cons hi2] at hrun
    have h0 : (dox row[i] x).2 = 0 := by
      refine Classical.byContradiction fun hn => ?_
      rw [run, if_neg hn] at hrun
      cases hrun
    rw [run, if_pos h0] at hrun
    have hlen := dox_len row[i] x
    by_cases hd0 : d = 0 ∧ False
    · exact hd0.2.elim
    · rw [tinderlaw03_StackTurns.l0, if_pos (by omega), if_pos (by omega), rd_at row i hi2, do_eq hc (by omega), Option.bind_some, if_pos h0]
      have e : wrap64 ((i : Int) + 1) = ((i + 1 : Nat) : Int) := by rw [w64 (by omega) (by omega)]; omega
      rw [e]
      exact at_rounds (g := fun k => tinderlaw03_StackTurns.l0 k l row (dox row[i] x).1 ((i + 1 : Nat) : Int)) (fun k => tinderlaw03_StackTurns.mono_l k _ _ _ _) (Nat.le_refl k) (ih k (i + 1) _ (by omega) (by omega) (by omega) (tab_cells hc (hw _ (List.getElem_mem _))) (by omega) hrun)
theorem turns_first {l row : List Int} (hc : Cells l) (h : 0 < row.length) (hw : words row) {k : Nat} (hk : 30 ≤ k) (hn : (dox (rd row 0) l).2 ≠ 0) : tinderlaw03_StackTurns.l0 k l row l 0 = some true := by
  obtain ⟨k, rfl⟩ : ∃ m, k = m + 1 := ⟨k - 1, by omega⟩
  have hm : rd row 0 ∈ row := by
    have := rd_at row 0 h
    rw [show ((0 : Nat) : Int) = 0 from rfl] at this
    rw [this]
    exact List.getElem_mem _
  obtain ⟨e1, e2⟩ := dox_no (hw _ hm) hn
  rw [tinderlaw03_StackTurns.l0, if_pos (by omega), if_pos (by omega), do_eq hc (by omega), Option.bind_some, if_neg hn, if_pos rfl, if_pos (by rw [e1]; rfl)]
  rcases e2 with ⟨e2, e3⟩ | ⟨e2, e3⟩ | ⟨e2, e3⟩
  · rw [if_pos e2, if_pos (by omega)]
  · rw [if_neg (by omega), if_pos e2, if_pos (by omega)]
  · rw [if_neg (by omega), if_neg (by omega), if_pos e2, decide_eq_true (by omega)]
theorem dox_at {op : Int} {t : Nat} {ix : List Int} {s : ByteArray} {p q : List Int} (h : tab op = some (t, ix, s)) (hq : q.length = t) (hl : (p ++ q).length ≤ 64) : dox op (p ++ q) = chk (p ++ ix.map (rd q)) := by
  unfold dox
  have e : (p ++ q).length = p.length + q.length := List.length_append
  rw [if_neg (by omega), h]
  simp only
  rw [if_neg (by omega), show (p ++ q).length - t = p.length by omega, List.take_left, List.drop_left]
theorem dox_under {op : Int} {t : Nat} {ix : List Int} {s : ByteArray} {l : List Int} (h : tab op = some (t, ix, s)) (hl : l.length < t) : (dox op l).2 ≠ 0 := by
  unfold dox
  by_cases h64 : l.length > 64
  · rw [if_pos h64]
    exact (by decide : (1 : Int) ≠ 0)
  · rw [if_neg h64, h]
    simp only
    rw [if_pos hl]
    exact (by decide : (5 : Int) ≠ 0)
theorem dox_over {op : Int} {l : List Int} (hl : l.length > 64) : (dox op l).2 ≠ 0 := by
  unfold dox
  rw [if_pos hl]
  exact (by decide : (1 : Int) ≠ 0)
theorem cut_at (l : List Int) {t : Nat} (h : t ≤ l.length) : ∃ p q, l = p ++ q ∧ q.length = t := ⟨l.take (l.length - t), l.drop (l.length - t), (List.take_append_drop _ _).symm, by rw [List.length_drop]; omega⟩
theorem q1 {q : List Int} (h : q.length = 1) : ∃ a, q = [a] := by
  rcases q with _ | ⟨a, _ | ⟨b, q⟩⟩ <;> simp at h
  exact ⟨a, rfl⟩
theorem q2 {q : List Int} (h : q.length = 2) : ∃ a b, q = [a, b] := by
  rcases q with _ | ⟨a, _ | ⟨b, _ | ⟨c, q⟩⟩⟩ <;> simp at h
  exact ⟨a, b, rfl⟩
theorem q3 {q : List Int} (h : q.length = 3) : ∃ a b c, q = [a, b, c] := by
  rcases q with _ | ⟨a, _ | ⟨b, _ | ⟨c, _ | ⟨d, q⟩⟩⟩⟩ <;> simp at h
  exact ⟨a, b, c, rfl⟩
theorem q4 {q : List Int} (h : q.length = 4) : ∃ a b c d, q = [a, b, c, d] := by
  rcases q with _ | ⟨a, _ | ⟨b, _ | ⟨c, _ | ⟨d, _ | ⟨e, q⟩⟩⟩⟩⟩ <;> simp at h
  exact ⟨a, b, c, d, rfl⟩
theorem q6 {q : List Int} (h : q.length = 6) : ∃ a b c d e f, q = [a, b, c, d, e, f] := by
  rcases q with _ | ⟨a, _ | ⟨b, _ | ⟨c, _ | ⟨d, _ | ⟨e, _ | ⟨f, _ | ⟨g, q⟩⟩⟩⟩⟩⟩⟩ <;> simp at h
  exact ⟨a, b, c, d, e, f, rfl⟩
theorem chk_ok {r : List Int} (h : r.length ≤ 64) : chk r = (r, 0) := chk_le h
theorem chk_fit {r : List Int} (h : (chk r).2 = 0) : r.length ≤ 64 := by
  unfold chk at h
  refine Classical.byContradiction fun hn => ?_
  rw [if_pos (by omega)] at h
  cases h
theorem run_step {op : Int} {os x y : List Int} {e : Int} (h : dox op x = (y, e)) (he : e = 0) : run (op :: os) x = run os y := by
  rw [run, h, if_pos he]
theorem Words.of {row : List Int} (h : row.all (fun o => (tab o).isSome || o == 81) = true) : words row := fun o ho => by
  have := List.all_eq_true.1 h o ho
  simp only [Bool.or_eq_true, beq_iff_eq] at this
  rcases this with h | h
  · left
    intro e
    rw [e] at h
    cases h
  · exact .inr h
end Go.Proofs.Ytpfpjdeaocbnfaa.V
