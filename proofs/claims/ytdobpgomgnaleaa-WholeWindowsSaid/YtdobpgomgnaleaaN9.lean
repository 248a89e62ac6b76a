import Derived.RangeFuncNested
import Derived.RangeFuncBound
import Derived.RangeFuncCalls
import Derived.RangeFuncLeaves
import Derived.Shelf.Abstract
import Derived.Shelf.RegionOpen
import Derived.WalkKit
import Derived.OwnWalkIn
import Derived.TacticsInMore
import Derived.LoopNIn
import Derived.LoopIn
import Derived.RangeFuncBox
import Derived.RangeFuncFrom
import Derived.RangeFuncWrites
import Derived.Maps.AppendAt
import Derived.Stop.RegionWithIn
import Derived.Deep.WholeRow
import Derived.Test.YtdobpgomgnaleaaN2
import Derived.Test.YtdobpgomgnaleaaN3
import Derived.Test.YtdobpgomgnaleaaN4
import Derived.Test.YtdobpgomgnaleaaN6
import Derived.Test.YtdobpgomgnaleaaN7
import Derived.Test.YtdobpgomgnaleaaN8
import Derived.Shelf.Spec.SlicesInsertGrow
namespace Go.Proofs.Ytdobpgomgnaleaa.P
open Go.RowKit Go.Shelf Go.Proofs.YtdobpgomgnaleaaW.PrintWords
attribute [local go_sem] Oper.semAt_some
set_option linter.unusedVariables false
set_option linter.unusedSimpArgs false
/-- The parts of the sectors that n bytes from k on have. -/
def Good : Nat → Nat → List S66 → Prop
  | _, n, [] => n = 0
  | k, n, p :: r => ∃ m : Nat, p = ⟨((k / 512 : Nat) : Int), ((k % 512 : Nat) : Int), (m : Int)⟩ ∧ m = min n (512 - k % 512) ∧ 0 < m ∧ Good (k + m) (n - m) r
theorem pw0 (k : Nat) : Int.tmod (k : Int) 512 = ((k % 512 : Nat) : Int) := by rw [Int.tmod_eq_emod_of_nonneg (by omega)]; omega
theorem pw1 (k : Nat) : wrap64 (512 - ((k % 512 : Nat) : Int)) = ((512 - k % 512 : Nat) : Int) := by unfold wrap64; omega
theorem pw2 (n c : Nat) : mn (n : Int) (c : Int) = ((min n c : Nat) : Int) := by unfold mn; split <;> omega
theorem pw3 (k : Nat) (h : k ≤ 2560) : wrap64 (Int.tdiv (k : Int) 512) = ((k / 512 : Nat) : Int) := by rw [Int.tdiv_eq_ediv_of_nonneg (by omega)]; unfold wrap64; omega
theorem pw4 (k m : Nat) (h : k + m ≤ 10000) : wrap64 ((k : Int) + (m : Int)) = ((k + m : Nat) : Int) := by unfold wrap64; omega
theorem pw5 (n m : Nat) (h : m ≤ n) (h2 : n ≤ 10000) : wrap64 ((n : Int) - (m : Int)) = ((n - m : Nat) : Int) := by unfold wrap64; omega
theorem pieces_good (fuel : Nat) : ∀ (n k : Nat) (acc : List S66), n ≤ fuel → k + n ≤ 2560 → acc.length + n ≤ 5000 → ∃ r, block_pieces.l0 (fuel + 1) (k : Int) (n : Int) acc = some (acc ++ r) ∧ Good k n r := by
  induction fuel with
  | zero =>
    intro n k acc h _ _
    obtain rfl : n = 0 := by omega
    exact ⟨[], by unfold block_pieces.l0; simp, rfl⟩
  | succ fuel ih =>
    intro n k acc h h2 h3
    by_cases hn : n = 0
    · subst hn
      exact ⟨[], by unfold block_pieces.l0; simp, rfl⟩
    obtain ⟨m, hm⟩ : ∃ m, m = min n (512 - k % 512) := ⟨_, rfl⟩
    have hm0 : 0 < m := by omega
    obtain ⟨r, hr, hg⟩ := ih (n - m) (k + m) (acc ++ [⟨((k / 512 : Nat) : Int), ((k % 512 : Nat) : Int), (m : Int)⟩]) (by omega) (by omega) (by rw [List.length_append, List.length_singleton]; omega)
    refine ⟨⟨((k / 512 : Nat) : Int), ((k % 512 : Nat) : Int), (m : Int)⟩ :: r, ?_, m, rfl, hm, hm0, hg⟩
    unfold block_pieces.l0
    rw [if_pos (show (n : Int) > 0 by omega), if_pos (show acc.length < 5864062014805 by omega), pw0, pw1, pw2, pw3 k (by omega), ← hm, pw4 k m (by omega), pw5 n m (by omega) (by omega), hr, List.append_assoc]
    rfl
theorem Good.len : ∀ {r : List S66} {k n : Nat}, Good k n r → r.length ≤ n
  | [], _, _, _ => Nat.zero_le _
  | p :: r, k, n, ⟨m, _, h1, h2, hg⟩ => by
    have := Good.len hg
    rw [List.length_cons]
    omega
/-- d with data written from k on. -/
def putL (d : List Int) (k : Nat) (data : List Int) : List Int := d.take k ++ data ++ d.drop (k + data.length)
theorem putL_len (d data : List Int) (k : Nat) (h : k + data.length ≤ d.length) : (putL d k data).length = d.length := by
  unfold putL; rw [List.length_append, List.length_append, List.length_take, List.length_drop]; omega
theorem putL_get (d data : List Int) (k : Nat) (h : k + data.length ≤ d.length) (i : Nat) : (putL d k data)[i]? = if i < k then d[i]? else if i < k + data.length then data[i - k]? else d[i]? := by
  unfold putL
  have hl : (d.take k).length = k := by rw [List.length_take]; omega
  by_cases h1 : i < k
  · rw [if_pos h1, List.append_assoc, List.getElem?_append_left (by omega), List.getElem?_take, if_pos h1]
  · rw [if_neg h1]
    by_cases h2 : i < k + data.length
    · rw [if_pos h2, List.getElem?_append_left (by rw [List.length_append]; omega), List.getElem?_append_right (by omega), hl]
    · rw [if_neg h2, List.getElem?_append_right (by rw [List.length_append]; omega), List.getElem?_drop, List.length_append, hl]
      congr 1
      omega
theorem secL_get (l : List Int) (n i : Nat) : (secL l n)[i]? = if i < 512 then l[512 * n + i]? else none := by
  unfold secL
  rw [List.getElem?_drop, List.getElem?_take]
  by_cases h : i < 512
  · rw [if_pos (by omega), if_pos h]
  · rw [if_neg (by omega), if_neg h]
/-- One part: the sector is read, changed, and written back. -/
theorem putL_part (d rest : List Int) (k m : Nat) (hd : d.length = 2560) (hk : k + rest.length ≤ 2560) (hm : m = min rest.length (512 - k % 512)) (hm0 : 0 < m) :
    putL d (512 * (k / 512)) (putL (secL d (k / 512)) (k % 512) (rest.take m)) = putL d k (rest.take m) := by
  have hs := secL_len d (k / 512) hd (by omega)
  have hml : (rest.take m).length = m := by rw [List.length_take]; omega
  have h1 : k % 512 + (rest.take m).length ≤ (secL d (k / 512)).length := by omega
  have h2 := putL_len (secL d (k / 512)) (rest.take m) (k % 512) h1
  apply List.ext_getElem?
  intro i
  rw [putL_get d _ (512 * (k / 512)) (by omega), putL_get d _ k (by omega), putL_get _ _ _ h1, h2, hs, hml, secL_get]
  have e := Nat.div_add_mod k 512
  by_cases c1 : i < 512 * (k / 512)
  · rw [if_pos c1, if_pos (by omega)]
  · rw [if_neg c1]
    by_cases c2 : i < 512 * (k / 512) + 512
    · rw [if_pos c2, if_pos (show i - 512 * (k / 512) < 512 by omega), show 512 * (k / 512) + (i - 512 * (k / 512)) = i by omega]
      by_cases c3 : i < k
      · rw [if_pos (by omega), if_pos c3]
      · rw [if_neg (by omega), if_neg c3]
        by_cases c4 : i < k + m
        · rw [if_pos (by omega), if_pos c4, show i - 512 * (k / 512) - k % 512 = i - k by omega]
        · rw [if_neg (by omega), if_neg c4]
    · rw [if_neg c2, if_neg (by omega), if_neg (by omega)]
theorem putL_step (d rest : List Int) (k m : Nat) (hk : k + rest.length ≤ d.length) (hm : m ≤ rest.length) : putL (putL d k (rest.take m)) (k + m) (rest.drop m) = putL d k rest := by
  have hml : (rest.take m).length = m := by rw [List.length_take]; omega
  have hl := putL_len d (rest.take m) k (by omega)
  apply List.ext_getElem?
  intro i
  rw [putL_get _ _ _ (by rw [hl, List.length_drop]; omega), putL_get _ _ _ (by omega), putL_get _ _ _ hk, hml, List.length_drop, List.getElem?_take, List.getElem?_drop]
  by_cases c1 : i < k
  · rw [if_pos (by omega), if_pos c1, if_pos c1]
  · by_cases c2 : i < k + m
    · rw [if_pos c2, if_neg c1, if_pos c2, if_neg c1, if_pos (by omega), if_pos (by omega)]
    · rw [if_neg c2]
      by_cases c3 : i < k + rest.length
      · rw [if_pos (by omega), if_neg c1, if_pos c3, show m + (i - (k + m)) = i - k by omega]
      · rw [if_neg (by omega), if_neg c1, if_neg c2, if_neg c1, if_neg c3]
theorem putL_nil (d : List Int) (k : Nat) : putL d k [] = d := by unfold putL; simp
end Go.Proofs.Ytdobpgomgnaleaa.P
