/- Words done one behind the other that undo one another leave the stack as it was, or the first one is refused. No condition. -/
import Derived.Test.YtpfpjdeaocbnfaaV5
namespace Go.Proofs.Ytpfpjdeaocbnfaa.Pure
open Go.RowKit Go.Proofs.Ytpfpjdeaocbnfaa.P Go.Proofs.Ytpfpjdeaocbnfaa.G Go.Proofs.Ytpfpjdeaocbnfaa.V Go.Proofs.YtpfpjdeaocbnfaaW.PrintWords Go.Proofs.YtpfpjdeaocbnfaaW.PrintLast Go.Proofs.YtpfpjdeaocbnfaaW.PrintMore
set_option linter.unusedVariables false

theorem row0 {l : List Int} (h : (dox 73 l).2 = 0) : run [73, 73] l = some l := by
  have h1 : 2 ≤ l.length := Nat.le_of_not_lt fun hl => dox_under (op := 73) (t := 2) rfl hl h
  have h2 : l.length ≤ 64 := Nat.le_of_not_lt fun hl => dox_over hl h
  obtain ⟨p, q, rfl, hq⟩ := cut_at l h1
  obtain ⟨a, b, rfl⟩ := q2 hq
  have hl : ∀ q : List Int, q.length = 2 → (p ++ q).length ≤ 64 := fun q e => by rw [List.length_append] at h2 ⊢; rw [e]; exact h2
  have e6 : dox 73 (p ++ [a, b]) = (p ++ [b, a], 0) := (dox_at (t := 2) rfl rfl (hl _ rfl)).trans (chk_ok (hl _ rfl))
  have e7 : dox 73 (p ++ [b, a]) = (p ++ [a, b], 0) := (dox_at (t := 2) rfl rfl (hl _ rfl)).trans (chk_ok (hl _ rfl))
  rw [run_step e6 rfl]
  rw [run_step e7 rfl]
  rfl
theorem row1 {l : List Int} (h : (dox 85 l).2 = 0) : run [85, 85] l = some l := by
  have h1 : 4 ≤ l.length := Nat.le_of_not_lt fun hl => dox_under (op := 85) (t := 4) rfl hl h
  have h2 : l.length ≤ 64 := Nat.le_of_not_lt fun hl => dox_over hl h
  obtain ⟨p, q, rfl, hq⟩ := cut_at l h1
  obtain ⟨a, b, c, d, rfl⟩ := q4 hq
  have hl : ∀ q : List Int, q.length = 4 → (p ++ q).length ≤ 64 := fun q e => by rw [List.length_append] at h2 ⊢; rw [e]; exact h2
  have e17 : dox 85 (p ++ [a, b, c, d]) = (p ++ [c, d, a, b], 0) := (dox_at (t := 4) rfl rfl (hl _ rfl)).trans (chk_ok (hl _ rfl))
  have e18 : dox 85 (p ++ [c, d, a, b]) = (p ++ [a, b, c, d], 0) := (dox_at (t := 4) rfl rfl (hl _ rfl)).trans (chk_ok (hl _ rfl))
  rw [run_step e17 rfl]
  rw [run_step e18 rfl]
  rfl
theorem row2 {l : List Int} (h : (dox 74 l).2 = 0) : run [74, 74, 74] l = some l := by
  have h1 : 3 ≤ l.length := Nat.le_of_not_lt fun hl => dox_under (op := 74) (t := 3) rfl hl h
  have h2 : l.length ≤ 64 := Nat.le_of_not_lt fun hl => dox_over hl h
  obtain ⟨p, q, rfl, hq⟩ := cut_at l h1
  obtain ⟨a, b, c, rfl⟩ := q3 hq
  have hl : ∀ q : List Int, q.length = 3 → (p ++ q).length ≤ 64 := fun q e => by rw [List.length_append] at h2 ⊢; rw [e]; exact h2
  have e28 : dox 74 (p ++ [a, b, c]) = (p ++ [b, c, a], 0) := (dox_at (t := 3) rfl rfl (hl _ rfl)).trans (chk_ok (hl _ rfl))
  have e29 : dox 74 (p ++ [b, c, a]) = (p ++ [c, a, b], 0) := (dox_at (t := 3) rfl rfl (hl _ rfl)).trans (chk_ok (hl _ rfl))
  have e30 : dox 74 (p ++ [c, a, b]) = (p ++ [a, b, c], 0) := (dox_at (t := 3) rfl rfl (hl _ rfl)).trans (chk_ok (hl _ rfl))
  rw [run_step e28 rfl]
  rw [run_step e29 rfl]
  rw [run_step e30 rfl]
  rfl
theorem row3 {l : List Int} (h : (dox 86 l).2 = 0) : run [86, 86, 86] l = some l := by
  have h1 : 6 ≤ l.length := Nat.le_of_not_lt fun hl => dox_under (op := 86) (t := 6) rfl hl h
  have h2 : l.length ≤ 64 := Nat.le_of_not_lt fun hl => dox_over hl h
  obtain ⟨p, q, rfl, hq⟩ := cut_at l h1
  obtain ⟨a, b, c, d, e, f, rfl⟩ := q6 hq
  have hl : ∀ q : List Int, q.length = 6 → (p ++ q).length ≤ 64 := fun q e => by rw [List.length_append] at h2 ⊢; rw [e]; exact h2
  have e41 : dox 86 (p ++ [a, b, c, d, e, f]) = (p ++ [c, d, e, f, a, b], 0) := (dox_at (t := 6) rfl rfl (hl _ rfl)).trans (chk_ok (hl _ rfl))
  have e42 : dox 86 (p ++ [c, d, e, f, a, b]) = (p ++ [e, f, a, b, c, d], 0) := (dox_at (t := 6) rfl rfl (hl _ rfl)).trans (chk_ok (hl _ rfl))
  have e43 : dox 86 (p ++ [e, f, a, b, c, d]) = (p ++ [a, b, c, d, e, f], 0) := (dox_at (t := 6) rfl rfl (hl _ rfl)).trans (chk_ok (hl _ rfl))
  rw [run_step e41 rfl]
  rw [run_step e42 rfl]
  rw [run_step e43 rfl]
  rfl
theorem row4 {l : List Int} (h : (dox 74 l).2 = 0) : run [74, 75] l = some l := by
  have h1 : 3 ≤ l.length := Nat.le_of_not_lt fun hl => dox_under (op := 74) (t := 3) rfl hl h
  have h2 : l.length ≤ 64 := Nat.le_of_not_lt fun hl => dox_over hl h
  obtain ⟨p, q, rfl, hq⟩ := cut_at l h1
  obtain ⟨a, b, c, rfl⟩ := q3 hq
  have hl : ∀ q : List Int, q.length = 3 → (p ++ q).length ≤ 64 := fun q e => by rw [List.length_append] at h2 ⊢; rw [e]; exact h2
  have e54 : dox 74 (p ++ [a, b, c]) = (p ++ [b, c, a], 0) := (dox_at (t := 3) rfl rfl (hl _ rfl)).trans (chk_ok (hl _ rfl))
  have e55 : dox 75 (p ++ [b, c, a]) = (p ++ [a, b, c], 0) := (dox_at (t := 3) rfl rfl (hl _ rfl)).trans (chk_ok (hl _ rfl))
  rw [run_step e54 rfl]
  rw [run_step e55 rfl]
  rfl
theorem row5 {l : List Int} (h : (dox 75 l).2 = 0) : run [75, 74] l = some l := by
  have h1 : 3 ≤ l.length := Nat.le_of_not_lt fun hl => dox_under (op := 75) (t := 3) rfl hl h
  have h2 : l.length ≤ 64 := Nat.le_of_not_lt fun hl => dox_over hl h
  obtain ⟨p, q, rfl, hq⟩ := cut_at l h1
  obtain ⟨a, b, c, rfl⟩ := q3 hq
  have hl : ∀ q : List Int, q.length = 3 → (p ++ q).length ≤ 64 := fun q e => by rw [List.length_append] at h2 ⊢; rw [e]; exact h2
  have e65 : dox 75 (p ++ [a, b, c]) = (p ++ [c, a, b], 0) := (dox_at (t := 3) rfl rfl (hl _ rfl)).trans (chk_ok (hl _ rfl))
  have e66 : dox 74 (p ++ [c, a, b]) = (p ++ [a, b, c], 0) := (dox_at (t := 3) rfl rfl (hl _ rfl)).trans (chk_ok (hl _ rfl))
  rw [run_step e65 rfl]
  rw [run_step e66 rfl]
  rfl
theorem row6 {l : List Int} (h : (dox 71 l).2 = 0) : run [71, 70] l = some l := by
  have h1 : 1 ≤ l.length := Nat.le_of_not_lt fun hl => dox_under (op := 71) (t := 1) rfl hl h
  have h2 : l.length ≤ 64 := Nat.le_of_not_lt fun hl => dox_over hl h
  obtain ⟨p, q, rfl, hq⟩ := cut_at l h1
  obtain ⟨a, rfl⟩ := q1 hq
  have e1 : dox 71 (p ++ [a]) = chk (p ++ [a, a]) := dox_at (op := 71) (t := 1) (ix := [0, 0]) rfl rfl h2
  rw [e1] at h
  have h3 := chk_fit h
  rw [chk_ok h3] at e1
  rw [run_step e1 rfl]
  have e2 : p ++ [a, a] = (p ++ [a]) ++ [a] := by rw [List.append_assoc]; rfl
  rw [e2] at h3 ⊢
  have e3 : dox 70 ((p ++ [a]) ++ [a]) = (p ++ [a], 0) := (dox_at (t := 1) rfl rfl h3).trans (by rw [show ([] : List Int).map (rd [a]) = [] from rfl, List.append_nil]; exact chk_ok h2)
  rw [run_step e3 rfl]
  rfl
theorem row7 {l : List Int} (h : (dox 83 l).2 = 0) : run [83, 82] l = some l := by
  have h1 : 2 ≤ l.length := Nat.le_of_not_lt fun hl => dox_under (op := 83) (t := 2) rfl hl h
  have h2 : l.length ≤ 64 := Nat.le_of_not_lt fun hl => dox_over hl h
  obtain ⟨p, q, rfl, hq⟩ := cut_at l h1
  obtain ⟨a, b, rfl⟩ := q2 hq
  have e1 : dox 83 (p ++ [a, b]) = chk (p ++ [a, b, a, b]) := dox_at (op := 83) (t := 2) (ix := [0, 1, 0, 1]) rfl rfl h2
  rw [e1] at h
  have h3 := chk_fit h
  rw [chk_ok h3] at e1
  rw [run_step e1 rfl]
  have e2 : p ++ [a, b, a, b] = (p ++ [a, b]) ++ [a, b] := by rw [List.append_assoc]; rfl
  rw [e2] at h3 ⊢
  have e3 : dox 82 ((p ++ [a, b]) ++ [a, b]) = (p ++ [a, b], 0) := (dox_at (t := 2) rfl rfl h3).trans (by rw [show ([] : List Int).map (rd [a, b]) = [] from rfl, List.append_nil]; exact chk_ok h2)
  rw [run_step e3 rfl]
  rfl
theorem row8 {l : List Int} (h : (dox 72 l).2 = 0) : run [72, 70] l = some l := by
  have h1 : 2 ≤ l.length := Nat.le_of_not_lt fun hl => dox_under (op := 72) (t := 2) rfl hl h
  have h2 : l.length ≤ 64 := Nat.le_of_not_lt fun hl => dox_over hl h
  obtain ⟨p, q, rfl, hq⟩ := cut_at l h1
  obtain ⟨a, b, rfl⟩ := q2 hq
  have e1 : dox 72 (p ++ [a, b]) = chk (p ++ [a, b, a]) := dox_at (op := 72) (t := 2) (ix := [0, 1, 0]) rfl rfl h2
  rw [e1] at h
  have h3 := chk_fit h
  rw [chk_ok h3] at e1
  rw [run_step e1 rfl]
  have e2 : p ++ [a, b, a] = (p ++ [a, b]) ++ [a] := by rw [List.append_assoc]; rfl
  rw [e2] at h3 ⊢
  have e3 : dox 70 ((p ++ [a, b]) ++ [a]) = (p ++ [a, b], 0) := (dox_at (t := 1) rfl rfl h3).trans (by rw [show ([] : List Int).map (rd [a]) = [] from rfl, List.append_nil]; exact chk_ok h2)
  rw [run_step e3 rfl]
  rfl
theorem row9 {l : List Int} (h : (dox 84 l).2 = 0) : run [84, 82] l = some l := by
  have h1 : 4 ≤ l.length := Nat.le_of_not_lt fun hl => dox_under (op := 84) (t := 4) rfl hl h
  have h2 : l.length ≤ 64 := Nat.le_of_not_lt fun hl => dox_over hl h
  obtain ⟨p, q, rfl, hq⟩ := cut_at l h1
  obtain ⟨a, b, c, d, rfl⟩ := q4 hq
  have e1 : dox 84 (p ++ [a, b, c, d]) = chk (p ++ [a, b, c, d, a, b]) := dox_at (op := 84) (t := 4) (ix := [0, 1, 2, 3, 0, 1]) rfl rfl h2
  rw [e1] at h
  have h3 := chk_fit h
  rw [chk_ok h3] at e1
  rw [run_step e1 rfl]
  have e2 : p ++ [a, b, c, d, a, b] = (p ++ [a, b, c, d]) ++ [a, b] := by rw [List.append_assoc]; rfl
  rw [e2] at h3 ⊢
  have e3 : dox 82 ((p ++ [a, b, c, d]) ++ [a, b]) = (p ++ [a, b, c, d], 0) := (dox_at (t := 2) rfl rfl h3).trans (by rw [show ([] : List Int).map (rd [a, b]) = [] from rfl, List.append_nil]; exact chk_ok h2)
  rw [run_step e3 rfl]
  rfl
theorem row10 {l : List Int} (h : (dox 81 l).2 = 0) : run [81, 70] l = some l := by
  have h2 : l.length ≤ 64 := Nat.le_of_not_lt fun hl => dox_over hl h
  have e1 : dox 81 l = chk (l ++ [(l.length : Int)]) := by
    unfold dox
    rw [if_neg (by omega), tab_none (by decide)]
    simp only
    rw [if_neg (by decide), if_neg (by decide), if_pos trivial]
  rw [e1] at h
  have h3 := chk_fit h
  rw [chk_ok h3] at e1
  rw [run_step e1 rfl]
  have e3 : dox 70 (l ++ [(l.length : Int)]) = (l, 0) := (dox_at (t := 1) rfl rfl h3).trans (by rw [show ([] : List Int).map (rd [(l.length : Int)]) = [] from rfl, List.append_nil]; exact chk_ok h2)
  rw [run_step e3 rfl]
  rfl
def rows : List (List Int) := [[73, 73], [85, 85], [74, 74, 74], [86, 86, 86], [74, 75], [75, 74], [71, 70], [83, 82], [72, 70], [84, 82], [81, 70]]
theorem row_all {l row : List Int} (hs : Sh l) (hc : Cells l) (hr : row.length ≤ 100) (h0 : 0 < row.length) (hw : words row) {k : Nat} (hk : l.length + 300 < k) (h : (dox (rd row 0) l).2 = 0 → run row l = some l) : tinderlaw03_StackTurns.l0 k l row l 0 = some true := by
  by_cases hn : (dox (rd row 0) l).2 = 0
  · exact turns_loop hs hw hr row.length k 0 l (by omega) (by omega) (by omega) hc (by omega) (by rw [List.drop_zero]; exact h hn)
  · exact turns_first hc h0 hw (by omega) hn
theorem StackTurns : tinderlaw03_StackTurns.Pure := by
  intro l a hm hl hw ha
  have hs : Sh l := by unfold Sh; omega
  have hc := Cells.of hw
  have ha2 := bounds_u8 ha
  refine ⟨l.length + 400, ?_⟩
  unfold tinderlaw03_StackTurns.f
  rw [alive_eq (by omega), Option.bind_some, if_pos rfl, Option.bind_some]
  have e1 : wrap64 a = a := w64 (by omega) (by omega)
  obtain ⟨m, hm2, hm3⟩ : ∃ m : Nat, a.tmod 11 = (m : Int) ∧ m < 11 := by
    rw [Int.tmod_eq_emod_of_nonneg ha2.1]
    exact ⟨(a % 11).toNat, by omega, by omega⟩
  show (if (11 : Int) = 0 then none else if 0 ≤ Int.tmod (wrap64 a) 11 then (if Int.tmod (wrap64 a) 11 < 11 then tinderlaw03_StackTurns.l0 (l.length + 400) l (rd_L2 rows (Int.tmod (wrap64 a) 11)) l 0 else none) else none) = some true
  rw [if_neg (by decide), e1, hm2, if_pos (by omega), if_pos (by omega)]
  have hcases : m = 0 ∨ m = 1 ∨ m = 2 ∨ m = 3 ∨ m = 4 ∨ m = 5 ∨ m = 6 ∨ m = 7 ∨ m = 8 ∨ m = 9 ∨ m = 10 := by omega
  rcases hcases with rfl | rfl | rfl | rfl | rfl | rfl | rfl | rfl | rfl | rfl | rfl
  · exact row_all (row := [73, 73]) hs hc (by decide) (by decide) (Words.of (by decide +kernel)) (by omega) (fun h => row0 h)
  · exact row_all (row := [85, 85]) hs hc (by decide) (by decide) (Words.of (by decide +kernel)) (by omega) (fun h => row1 h)
  · exact row_all (row := [74, 74, 74]) hs hc (by decide) (by decide) (Words.of (by decide +kernel)) (by omega) (fun h => row2 h)
  · exact row_all (row := [86, 86, 86]) hs hc (by decide) (by decide) (Words.of (by decide +kernel)) (by omega) (fun h => row3 h)
  · exact row_all (row := [74, 75]) hs hc (by decide) (by decide) (Words.of (by decide +kernel)) (by omega) (fun h => row4 h)
  · exact row_all (row := [75, 74]) hs hc (by decide) (by decide) (Words.of (by decide +kernel)) (by omega) (fun h => row5 h)
  · exact row_all (row := [71, 70]) hs hc (by decide) (by decide) (Words.of (by decide +kernel)) (by omega) (fun h => row6 h)
  · exact row_all (row := [83, 82]) hs hc (by decide) (by decide) (Words.of (by decide +kernel)) (by omega) (fun h => row7 h)
  · exact row_all (row := [72, 70]) hs hc (by decide) (by decide) (Words.of (by decide +kernel)) (by omega) (fun h => row8 h)
  · exact row_all (row := [84, 82]) hs hc (by decide) (by decide) (Words.of (by decide +kernel)) (by omega) (fun h => row9 h)
  · exact row_all (row := [81, 70]) hs hc (by decide) (by decide) (Words.of (by decide +kernel)) (by omega) (fun h => row10 h)

end Go.Proofs.Ytpfpjdeaocbnfaa.Pure
