import Derived.RangeFuncNested
import Derived.RangeFuncBound
import Derived.RangeFuncCalls
import Derived.RangeFuncLeaves
import Derived.Shelf.Abstract
import Derived.Shelf.RegionOpen
import Derived.WalkKit
import Derived.OwnWalkIn
import Derived.TacticsInMore
import Derived.LoopNIn
import Derived.LoopIn
import Derived.RangeFuncBox
import Derived.RangeFuncFrom
import Derived.RangeFuncWrites
import Derived.Maps.AppendAt
import Derived.Stop.RegionWithIn
import Derived.Lib.AppendZeros
import Derived.Deep.WholeRow
import Derived.Test.YtdobpgomgnaleaaN2
import Derived.Test.YtdobpgomgnaleaaN3
import Derived.Test.YtdobpgomgnaleaaN4
import Derived.Test.YtdobpgomgnaleaaN6
import Derived.Test.YtdobpgomgnaleaaN7
import Derived.Test.YtdobpgomgnaleaaN8
import Derived.Test.YtdobpgomgnaleaaN9
import Derived.Test.YtdobpgomgnaleaaN10
import Derived.Test.YtdobpgomgnaleaaN11
import Derived.Test.YtdobpgomgnaleaaN12
import Derived.Test.YtdobpgomgnaleaaN13
import Derived.Test.YtdobpgomgnaleaaN14
import Derived.Shelf.Spec.SlicesInsertGrow
namespace Go.Proofs.Ytdobpgomgnaleaa.P
open Go.RowKit Go.Shelf Go.Proofs.YtdobpgomgnaleaaW.PrintWords
attribute [local go_sem] Oper.semAt_some
set_option linter.unusedVariables false
set_option linter.unusedSimpArgs false
theorem dOf_get (f1 f2 : List Int) (h1 : f1.length = 1024) (h2 : f2.length = 512) (i : Nat) : (dOf f1 f2)[i]? = if i < 512 then LAB[i]? else if i < 1536 then f1[i - 512]? else if i < 2048 then f2[i - 1536]? else (List.replicate 512 (0 : Int))[i - 2048]? := by
  unfold dOf
  have hL := LAB_len
  by_cases c1 : i < 512
  · rw [if_pos c1, List.append_assoc, List.append_assoc, List.getElem?_append_left (by omega)]
  · rw [if_neg c1]
    by_cases c2 : i < 1536
    · rw [if_pos c2, List.append_assoc, List.getElem?_append_left (by rw [List.length_append]; omega), List.getElem?_append_right (by omega), hL]
    · rw [if_neg c2]
      by_cases c3 : i < 2048
      · rw [if_pos c3, List.getElem?_append_left (by rw [List.length_append, List.length_append]; omega), List.getElem?_append_right (by rw [List.length_append]; omega), List.length_append, hL, h1]
      · rw [if_neg c3, List.getElem?_append_right (by rw [List.length_append, List.length_append]; omega), List.length_append, List.length_append, hL, h1, h2]
theorem put_first (f1 f2 data : List Int) (a : Nat) (h1 : f1.length = 1024) (h2 : f2.length = 512) (ha : a + data.length ≤ 1024) : putL (dOf f1 f2) (512 + a) data = dOf (putL f1 a data) f2 := by
  have hd := dOf_len h1 h2
  have hp := putL_len f1 data a (by omega)
  apply List.ext_getElem?
  intro i
  rw [putL_get _ _ _ (by omega), dOf_get _ _ h1 h2, dOf_get _ _ (by omega) h2, putL_get _ _ _ (by omega)]
  by_cases c1 : i < 512
  · rw [if_pos (by omega), if_pos c1, if_pos c1]
  · by_cases c2 : i < 1536
    · by_cases c3 : i < 512 + a
      · rw [if_pos c3, if_neg c1, if_pos c2, if_neg c1, if_pos c2, if_pos (by omega)]
      · by_cases c4 : i < 512 + a + data.length
        · rw [if_neg c3, if_pos c4, if_neg c1, if_pos c2, if_neg (by omega), if_pos (by omega), show i - 512 - a = i - (512 + a) by omega]
        · rw [if_neg c3, if_neg c4, if_neg c1, if_pos c2, if_neg c1, if_pos c2, if_neg (by omega), if_neg (by omega)]
    · rw [if_neg (by omega), if_neg (by omega), if_neg c1, if_neg c2, if_neg c1, if_neg c2]
theorem put_second (f1 f2 data : List Int) (a : Nat) (h1 : f1.length = 1024) (h2 : f2.length = 512) (ha : a + data.length ≤ 512) : putL (dOf f1 f2) (1536 + a) data = dOf f1 (putL f2 a data) := by
  have hd := dOf_len h1 h2
  have hp := putL_len f2 data a (by omega)
  apply List.ext_getElem?
  intro i
  rw [putL_get _ _ _ (by omega), dOf_get _ _ h1 h2, dOf_get _ _ h1 (by omega), putL_get _ _ _ (by omega)]
  by_cases c1 : i < 512
  · rw [if_pos (by omega), if_pos c1, if_pos c1]
  · by_cases c2 : i < 1536
    · rw [if_pos (by omega), if_neg c1, if_pos c2, if_neg c1, if_pos c2]
    · by_cases c5 : i < 2048
      · by_cases c3 : i < 1536 + a
        · rw [if_pos c3, if_neg c1, if_neg c2, if_pos c5, if_neg c1, if_neg c2, if_pos c5, if_pos (by omega)]
        · by_cases c4 : i < 1536 + a + data.length
          · rw [if_neg c3, if_pos c4, if_neg c1, if_neg c2, if_pos c5, if_neg (by omega), if_pos (by omega), show i - 1536 - a = i - (1536 + a) by omega]
          · rw [if_neg c3, if_neg c4, if_neg c1, if_neg c2, if_pos c5, if_neg c1, if_neg c2, if_pos c5, if_neg (by omega), if_neg (by omega)]
      · rw [if_neg (by omega), if_neg (by omega), if_neg c1, if_neg c2, if_neg c5, if_neg c1, if_neg c2, if_neg c5]
/-- 'copy(model[a:], data)'. -/
theorem copyM {W : World} {base : Nat} (g a n : Nat) (AD : Option Addr) (xs ys : List Int) (sp : Option Addr) (sCap : Nat) (hxs : xs.length = n) (HO : Kd.R (Kd.int .u8) 5 W base (fun _ => True) (.slice (some ⟨g, 0, none⟩) n n) xs) (hfit : a + ys.length ≤ n) (hAD : AD = if n = a then some ⟨g, 0, none⟩ else some ⟨g, a, none⟩) (HR : Kd.C (Kd.int .u8) W sp ys.length ys) :
    ∃ w1, (Builtin.copy_ #[23, 23] 3 #[.slice AD (n - a) (n - a), .slice sp ys.length sCap]).run Try.prog W = .ok (.int .i64 (ys.length : Int)) w1 ∧ Kd.R (Kd.int .u8) 5 w1 base (fun _ => True) (.slice (some ⟨g, 0, none⟩) n n) (putL xs a ys) ∧ W.grownBy w1 (some g) := by
  subst hxs
  by_cases h : xs.length = a
  · rw [if_pos h] at hAD
    subst hAD
    obtain ⟨w1, h1, h2, h3⟩ := Kd.run_copy_R (P := Try.prog) (enc := Value.int .u8) (h1 := fun _ => rfl) (off := a) 23 23 3 5 Try.underlying23 (by kernel_rfl) HO (some ⟨g, 0, none⟩) (xs.length - a) (xs.length - a) (by omega) (fun hh => absurd hh (by omega)) ys sp sCap HR
    rw [List.take_of_length_le (by omega)] at h1 h2
    refine ⟨w1, h1, ?_, h3⟩
    have e : splice xs a ys = putL xs a ys := by unfold splice putL; rw [List.append_assoc]
    rw [e] at h2
    exact h2
  · rw [if_neg h] at hAD
    subst hAD
    exact copy8 3 g a xs.length (xs.length - a) (xs.length - a) xs ys sp sCap HO (by omega) (by omega) HR
end Go.Proofs.Ytdobpgomgnaleaa.P
