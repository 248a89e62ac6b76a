/- The plain half of WholeBanks: where neither bank bears the mark nothing is recovered, and each variable has its default. No condition. -/
import Derived.Test.YtdobpgomgnaleaaDoorPx13
namespace Go.Proofs.YtdobpgomgnaleaaDoor.Pure
open Go.RowKit Go.Proofs.YtdobpgomgnaleaaDoor.P Go.Proofs.YtdobpgomgnaleaaDoor.G Go.Proofs.YtdobpgomgnaleaaDoorW.PrintWords Go.Proofs.YtdobpgomgnaleaaDoorW.PrintLast
set_option maxRecDepth 100000
theorem keeps_true : tindertop_keeps.f 700 = some true := by decide +kernel
theorem names_loop : (vars_Names.f 699).bind (fun t => tindertop_WholeBanks.l0 699 [] t 0) = some true := by decide +kernel
theorem dOk_mark {b : List Int} (h : rd b 0 ≠ 165) : dOk b = false := by
  unfold dOk
  rw [beq_eq_false_iff_ne.mpr h]
  rfl
theorem counts_none {l : List Int} (h0 : rd (l.take 256) 0 ≠ 165) (h1 : rd (l.drop 256) 0 ≠ 165) : countsR l = -1 := by
  unfold countsR
  rw [dOk_mark h0, dOk_mark h1]
  rfl
theorem WholeBanks : tindertop_WholeBanks.Pure := by
  intro l0 a1 a2 hm hl hw hw1 hw2
  refine ⟨700, ?_⟩
  have hb1 := bounds_u8 hw1
  have hb2 := bounds_u8 hw2
  have hby := By.of hw
  unfold tindertop_WholeBanks.f
  rw [keeps_true, Option.bind_some, if_pos rfl]
  have yes : tindertop_WholeBanks.j0 700 l0 a1 a2 true = some true := by rw [tindertop_WholeBanks.j0, if_pos rfl]
  by_cases h512 : l0.length = 512
  · rw [if_pos (by omega)]
    by_cases ha : a1 = 165
    · rw [if_pos ha, yes]
    · rw [if_neg ha]
      by_cases hb : a2 = 165
      · rw [beq_iff_eq.mpr hb, yes]
      · rw [beq_eq_false_iff_ne.mpr hb, tindertop_WholeBanks.j0, if_neg (by decide), Option.bind_some, List.length_nil, if_pos (by omega), List.nil_append, Option.bind_some, if_pos (by omega), if_pos (by omega)]
        have hload : vars_Load.f 699 ((l0.set (0 : Int).toNat a1).set (256 : Int).toNat a2) = some [] := by
          have hc : countsR ((l0.set 0 a1).set 256 a2) = -1 := by
            apply counts_none
            · intro h
              apply ha
              rw [← h]
              simp [rd, List.getD_eq_getElem?_getD, h512]
            · intro h
              apply hb
              rw [← h]
              simp [rd, List.getD_eq_getElem?_getD, h512]
          unfold vars_Load.f nvram_Recover.f
          show ((if (∀ x ∈ (l0.set 0 a1).set 256 a2, 0 ≤ x ∧ x ≤ 255) then _ else none : Option (List Int × Int × Bool)).bind _) = some []
          rw [if_pos (show ∀ x ∈ (l0.set 0 a1).set 256 a2, 0 ≤ x ∧ x ≤ 255 from (hby.set 0 hb1).set 256 hb2)]
          show ((if ((l0.set 0 a1).set 256 a2).length = 512 then (if countsR ((l0.set 0 a1).set 256 a2) < 0 then _ else _) else _ : Option (List Int × Int × Bool)).bind _) = some []
          rw [hc]
          rw [if_pos (by simp [h512]), if_pos (by decide)]
          rfl
        rw [hload, Option.bind_some]
        exact names_loop
  · rw [if_neg (by omega), yes]

end Go.Proofs.YtdobpgomgnaleaaDoor.Pure
