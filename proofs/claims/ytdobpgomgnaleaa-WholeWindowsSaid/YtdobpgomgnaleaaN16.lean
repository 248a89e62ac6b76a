import Derived.RangeFuncNested
import Derived.RangeFuncBound
import Derived.RangeFuncCalls
import Derived.RangeFuncLeaves
import Derived.Shelf.Abstract
import Derived.Shelf.RegionOpen
import Derived.WalkKit
import Derived.OwnWalkIn
import Derived.TacticsInMore
import Derived.LoopNIn
import Derived.LoopIn
import Derived.RangeFuncBox
import Derived.RangeFuncFrom
import Derived.RangeFuncWrites
import Derived.Maps.AppendAt
import Derived.Stop.RegionWithIn
import Derived.Deep.RegionHeldLaw
import Derived.Lib.AppendZeros
import Derived.Deep.WholeRow
import Derived.Test.YtdobpgomgnaleaaN2
import Derived.Test.YtdobpgomgnaleaaN3
import Derived.Test.YtdobpgomgnaleaaN4
import Derived.Test.YtdobpgomgnaleaaN6
import Derived.Test.YtdobpgomgnaleaaN7
import Derived.Test.YtdobpgomgnaleaaN8
import Derived.Test.YtdobpgomgnaleaaN9
import Derived.Test.YtdobpgomgnaleaaN10
import Derived.Test.YtdobpgomgnaleaaN11
import Derived.Test.YtdobpgomgnaleaaN12
import Derived.Test.YtdobpgomgnaleaaN13
import Derived.Test.YtdobpgomgnaleaaN14
import Derived.Test.YtdobpgomgnaleaaN15
import Derived.Shelf.Spec.SlicesInsertGrow
namespace Go.Proofs.Ytdobpgomgnaleaa.P
open Go.RowKit Go.Shelf Go.Proofs.YtdobpgomgnaleaaW.PrintWords
attribute [local go_sem] Oper.semAt_some
set_option linter.unusedVariables false
set_option linter.unusedSimpArgs false
theorem get_first {f1 f2 : List Int} (h1 : f1.length = 1024) (h2 : f2.length = 512) : getL (dOf f1 f2) 512 1024 = f1 := by
  apply List.ext_getElem?
  intro i
  rw [getL_get, dOf_get _ _ h1 h2]
  by_cases c : i < 1024
  · rw [if_pos c, if_neg (by omega), if_pos (by omega), show 512 + i - 512 = i by omega]
  · rw [if_neg c, List.getElem?_eq_none (by omega)]
theorem get_second {f1 f2 : List Int} (h1 : f1.length = 1024) (h2 : f2.length = 512) : getL (dOf f1 f2) 1536 512 = f2 := by
  apply List.ext_getElem?
  intro i
  rw [getL_get, dOf_get _ _ h1 h2]
  by_cases c : i < 512
  · rw [if_pos c, if_neg (by omega), if_neg (by omega), if_pos (by omega), show 1536 + i - 1536 = i by omega]
  · rw [if_neg c, List.getElem?_eq_none (by omega)]
theorem sec_one {f1 f2 : List Int} (h1 : f1.length = 1024) (h2 : f2.length = 512) (k : Nat) (hk : 1 ≤ k) (hk3 : k ≤ 3) : secL (dOf f1 f2) k = getL (f1 ++ f2) (512 * (k - 1)) 512 := by
  apply List.ext_getElem?
  intro i
  rw [secL_get, getL_get, dOf_get _ _ h1 h2]
  by_cases c : i < 512
  · rw [if_pos c, if_pos c, if_neg (by omega)]
    by_cases c2 : 512 * k + i < 1536
    · rw [if_pos c2, List.getElem?_append_left (by omega), show 512 * k + i - 512 = 512 * (k - 1) + i by omega]
    · rw [if_neg c2, if_pos (by omega), List.getElem?_append_right (by omega), h1, show 512 * k + i - 1536 = 512 * (k - 1) + i - 1024 by omega]
  · rw [if_neg c, if_neg c]
theorem sec_four {f1 f2 : List Int} (h1 : f1.length = 1024) (h2 : f2.length = 512) : secL (dOf f1 f2) 4 = List.replicate 512 0 := by
  apply List.ext_getElem?
  intro i
  rw [secL_get, dOf_get _ _ h1 h2]
  by_cases c : i < 512
  · rw [if_pos c, if_neg (by omega), if_neg (by omega), if_neg (by omega), show 512 * 4 + i - 2048 = i by omega]
  · rw [if_neg c, List.getElem?_eq_none (by rw [List.length_replicate]; omega)]
end Go.Proofs.Ytdobpgomgnaleaa.P
