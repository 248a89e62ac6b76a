/- The plain half of WholeVars. No condition. -/
import Derived.Test.YtdobpgomgnaleaaDoorV6
namespace Go.Proofs.YtdobpgomgnaleaaDoor.Pure
open Go.RowKit Go.Proofs.YtdobpgomgnaleaaDoor.P Go.Proofs.YtdobpgomgnaleaaDoor.G Go.Proofs.YtdobpgomgnaleaaDoor.V Go.Proofs.YtdobpgomgnaleaaDoorW.PrintWords
set_option maxRecDepth 100000
theorem keeps_true : tindertop_keeps.f 700 = some true := by decide +kernel
theorem WholeVars (l0 : List Int) (l1 : List S31) (l2 : List Int) (hb : By8 l0) (hn : l0.length < 140737488355328) (hz : ∀ x ∈ l1, x.f1.size ≤ 9223372036854775807) : ∃ k, tindertop_WholeVars.f k l0 l1 l2 = some true := by
  obtain ⟨now, ⟨K1, h1⟩, hz1, hl1⟩ := load_tot l0 hb
  obtain ⟨K2, h2⟩ := wv_true l1 l2 hz l1.length 0 now l0 (by omega) hb hn hz1 hl1 ⟨K1, h1⟩
  dsimp only at h1 h2
  have hk : ∀ m, tindertop_keeps.f (700 + m) = some true := by
    intro m
    induction m with
    | zero => exact keeps_true
    | succ m ih => exact tindertop_keeps.mono (700 + m) _ ih
  refine ⟨700 + (K1 + K2), ?_⟩
  unfold tindertop_WholeVars.f
  rw [hk, Option.bind_some, if_pos rfl]
  split
  · rfl
  · rw [h1 _ (by omega), Option.bind_some, h2 _ (by omega)]
end Go.Proofs.YtdobpgomgnaleaaDoor.Pure
