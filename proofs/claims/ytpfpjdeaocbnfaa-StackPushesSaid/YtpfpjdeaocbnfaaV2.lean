/- What a word does to the stack, in the program's text and in the document's. -/
import Derived.Test.YtpfpjdeaocbnfaaV1
namespace Go.Proofs.Ytpfpjdeaocbnfaa.V
open Go.RowKit Go.Proofs.Ytpfpjdeaocbnfaa.P Go.Proofs.Ytpfpjdeaocbnfaa.G Go.Proofs.YtpfpjdeaocbnfaaW.PrintWords Go.Proofs.YtpfpjdeaocbnfaaW.PrintLast Go.Proofs.YtpfpjdeaocbnfaaW.PrintMore
set_option linter.unusedVariables false

/-- The cell on top. -/
def top (l : List Int) : Int := l.getD (l.length - 1) 0
/-- pick (78) and roll (79). -/
def deepx (op : Int) (l : List Int) : List Int × Int :=
  if l.length = 0 then ([], 5) else if (l.length : Int) - 1 ≤ top l then ([], 5) else
    ((if op = 79 then (l.take (l.length - 1)).take (l.length - 2 - (top l).toNat) ++ (l.take (l.length - 1)).drop (l.length - 2 - (top l).toNat + 1) else l.take (l.length - 1)) ++ [(l.take (l.length - 1)).getD (l.length - 2 - (top l).toNat) 0], 0)
/-- A word. -/
def dox (op : Int) (l : List Int) : List Int × Int :=
  if l.length > 64 then ([], 1) else
  match tab op with
  | some (t, ix, _) => if l.length < t then ([], 5) else chk (l.take (l.length - t) ++ ix.map (rd (l.drop (l.length - t))))
  | none => if op = 78 ∨ op = 79 then deepx op l else if op = 80 then (if l.length = 0 then ([], 5) else if top l = 0 then (l, 0) else chk (l ++ [top l])) else if op = 81 then chk (l ++ [(l.length : Int)]) else ([], 2)

theorem top_cell {l : List Int} (h : Cells l) : 0 ≤ top l ∧ top l ≤ 4294967295 := by
  unfold top
  rw [List.getD_eq_getElem?_getD]
  rcases Nat.lt_or_ge (l.length - 1) l.length with hj | hj
  · rw [List.getElem?_eq_getElem hj]
    exact h _ (List.getElem_mem hj)
  · rw [List.getElem?_eq_none hj]
    simp
theorem deep_eq {op : Int} {l : List Int} (h : Cells l) (hs : Sh l) : stack_deep.f op l = some (deepx op l) := by
  unfold stack_deep.f deepx
  have ht := top_cell h
  unfold Sh at hs
  rw [if_pos (by omega)]
  by_cases h0 : l.length = 0
  · rw [if_pos h0, if_pos h0]
  · rw [if_neg h0, if_neg h0]
    show (if 0 ≤ top l ∧ top l ≤ 4294967295 then (if (l.length : Int) - 1 ≤ top l then _ else _) else none) = _
    rw [if_pos ht]
    by_cases h1 : (l.length : Int) - 1 ≤ top l
    · rw [if_pos h1, if_pos h1]
    · rw [if_neg h1, if_neg h1]
      rfl
theorem ix_loop {a b ix : List Int} (ha : a.length + ix.length ≤ 1000) (hb : ∀ i ∈ ix, 0 ≤ i ∧ i < (b.length : Int)) (d : Nat) : ∀ (k i : Nat) (a' : List Int), i ≤ ix.length → ix.length - i = d → d < k → a'.length = a.length + i →
    stack_Do.l0 k a' b ix (ix.length : Int) (i : Int) = some (chk (a' ++ (ix.drop i).map (rd b))) := by
  induction d with
  | zero =>
    intro k i a' hi hd hk ha'
    obtain ⟨k, rfl⟩ : ∃ m, k = m + 1 := ⟨k - 1, by omega⟩
    rw [stack_Do.l0, if_neg (by omega), full_eq, Option.bind_some, List.drop_eq_nil_of_le (by omega), List.map_nil, List.append_nil]
  | succ d ih =>
    intro k i a' hi hd hk ha'
    obtain ⟨k, rfl⟩ : ∃ m, k = m + 1 := ⟨k - 1, by omega⟩
    have e : wrap64 ((i : Int) + 1) = ((i + 1 : Nat) : Int) := by rw [w64 (by omega) (by omega)]; omega
    have h2 := ih k (i + 1) (a' ++ [rd b ix[i]]) (by omega) (by omega) (by omega) (by rw [List.length_append, ha']; simp; omega)
    have h3 := hb ix[i] (List.getElem_mem _)
    rw [stack_Do.l0, if_pos (by omega), if_pos (by omega), if_pos (by omega), rd_at ix i (by omega), if_pos h3.1, if_pos h3.2, if_pos (by omega), e, h2, List.drop_eq_getElem_cons (by omega : i < ix.length), List.map_cons, List.append_assoc]
    rfl
theorem popx_under {l : List Int} {t : Nat} (h : l.length < t) : popx l (t : Int) = ([], [], 5) := by
  unfold popx
  rw [if_neg (by omega), if_pos (by omega)]
theorem popx_ok {l : List Int} {t : Nat} (h : t ≤ l.length) : popx l (t : Int) = (l.take (l.length - t), l.drop (l.length - t), 0) := by
  unfold popx
  rw [if_neg (by omega), if_neg (by omega), Int.toNat_natCast]
theorem do_eq {op : Int} {l : List Int} (h : Cells l) {k : Nat} (hk : 20 ≤ k) : stack_Do.f k op l = some (dox op l) := by
  unfold stack_Do.f dox
  by_cases h64 : l.length > 64
  · rw [if_pos (by omega), if_pos h64]
  have hs : Sh l := by unfold Sh; omega
  rw [if_neg (by omega), if_neg h64, turns_eq, Option.bind_some]
  cases ht : tab op with
  | some r =>
    obtain ⟨t, ix, s⟩ := r
    have hok := tab_ok ht
    simp only [okRow, Bool.and_eq_true, List.all_eq_true, decide_eq_true_eq] at hok
    obtain ⟨⟨⟨⟨⟨h1, h2⟩, h3⟩, h4⟩, h5⟩, h6⟩ := hok
    show (if true = true then ((stack_Pop.f l (t : Int)).bind fun bt149 => (if bt149.2.2 = 0 then (stack_Do.l0 k bt149.1 bt149.2.1 ix (ix.length : Int) 0) else (some (([] : List Int), bt149.2.2)))) else _) = _
    rw [if_pos rfl, pop_eq hs (by omega), Option.bind_some]
    by_cases hl : l.length < t
    · rw [popx_under (by omega)]
      show (if (5 : Int) = 0 then _ else _) = some (if l.length < t then _ else _)
      rw [if_neg (by decide), if_pos hl]
    · rw [popx_ok (by omega)]
      show (if (0 : Int) = 0 then (stack_Do.l0 k (l.take (l.length - t)) (l.drop (l.length - t)) ix (ix.length : Int) 0) else _) = some (if l.length < t then _ else _)
      rw [if_pos rfl, if_neg hl]
      have := ix_loop (a := l.take (l.length - t)) (b := l.drop (l.length - t)) (ix := ix) (by rw [List.length_take]; omega) (fun i hi => by have := h1 i hi; rw [List.length_drop]; omega) ix.length k 0 (l.take (l.length - t)) (by omega) (by omega) (by omega) (by omega)
      rw [List.drop_zero] at this
      exact this
  | none =>
    have j1 : ∀ b : Bool, b = (decide (op = 78 ∨ op = 79)) → stack_Do.j1 k op l op b = some (if op = 78 ∨ op = 79 then deepx op l else if op = 80 then (if l.length = 0 then ([], 5) else if top l = 0 then (l, 0) else chk (l ++ [top l])) else if op = 81 then chk (l ++ [(l.length : Int)]) else ([], 2)) := by
      intro b hb
      obtain ⟨k, rfl⟩ : ∃ m, k = m + 1 := ⟨k - 1, by omega⟩
      rw [stack_Do.j1, hb]
      by_cases hd : op = 78 ∨ op = 79
      · rw [if_pos (decide_eq_true hd), if_pos hd, deep_eq h hs, Option.bind_some]
      · rw [if_neg (by simpa using hd), if_neg hd]
        by_cases h80 : op = 80
        · rw [if_pos h80, if_pos h80]
          by_cases h0 : l.length = 0
          · rw [if_pos (by omega), if_pos h0]
          · have e : wrap64 ((l.length : Int) - 1) = ((l.length - 1 : Nat) : Int) := by rw [w64 (by omega) (by omega)]; omega
            have er : rd l ((l.length - 1 : Nat) : Int) = top l := rfl
            rw [if_neg (by omega), if_neg h0, e, if_pos (by omega), if_pos (by omega), er]
            by_cases hz : top l = 0
            · rw [if_pos hz, if_pos hz, clone_eq hs, Option.bind_some]
            · rw [if_neg hz, if_neg hz, push_eq (by simp; omega), Option.bind_some]
        · rw [if_neg h80, if_neg h80]
          by_cases h81 : op = 81
          · rw [if_pos h81, if_pos h81, Int.emod_eq_of_lt (by omega) (by omega), push_eq (by simp; omega), Option.bind_some]
          · rw [if_neg h81, if_neg h81]
    show (if false = true then _ else (if op = 78 then (stack_Do.j1 k op l op (op == 78)) else (stack_Do.j1 k op l op (op == 79)))) = _
    rw [if_neg (by decide)]
    by_cases h78 : op = 78
    · rw [if_pos h78]
      exact j1 _ (by subst h78; decide)
    · rw [if_neg h78]
      exact j1 _ (by
        by_cases h79 : op = 79
        · subst h79; decide
        · rw [decide_eq_false (by omega)]
          exact beq_eq_false_iff_ne.mpr h79)
end Go.Proofs.Ytpfpjdeaocbnfaa.V
