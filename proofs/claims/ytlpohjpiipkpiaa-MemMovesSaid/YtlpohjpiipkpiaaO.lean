/- Arguments opened: an array of whole numbers by value. No condition. -/
import Derived.ProofKit
import Derived.OpenShut
namespace Go.Proofs.Ytlpohjpiipkpiaa.O
open Go.ChangeShapes Go.WideShapes Go.ChangeAt Go.RowKit
set_option linter.unusedVariables false
section
variable {H : Type} {enc : TypeId × Value → H} {P : Program} {w : World} {base : Nat} {spare : Nat → Bool} {held : Bool}
theorem okWide_array {r : Reach} {b0 : Nat} {t : TypeId} {n : Nat} {e : TypeId} {v : Value} (ht : P.underlying t = some (.array n e)) (h : Value.okWide P w r b0 t v) : ∃ cs, v = .agg cs ∧ cs.size = P.cellsOf t := by
  simp only [Value.okWide, ht] at h
  obtain ⟨cs, h1, h2, _⟩ := h
  exact ⟨cs, h1, h2⟩
theorem open_ints_array {r : Reach} {b0 : Nat} {t e : TypeId} {n : Nat} {k : IntKind} {v : Value} {d : DataW H} {p : List MemPlace} (ht : P.underlying t = some (.array n e)) (he : P.underlying e = some (.int k)) (hce : P.cellsOf e = 1) (hC : P.cellsOf t = n)
    (hv : Value.okWide P w r b0 t v) (h : DataW.Trod enc P w base spare held t v d p) :
    ∃ zs : List Int, zs.length = n ∧ v = .agg (zs.map (Value.int k)).toArray ∧ ∀ z ∈ zs, (Lit.int k z).wf = true := by
  obtain ⟨cs, rfl, hsz⟩ := okWide_array ht hv
  obtain ⟨fuel, hf⟩ := h
  obtain ⟨xs, m, _, _, _, hxl, hall⟩ := DataW.trod_array ht hf
  rw [hC] at hsz
  have hcells : (Value.agg cs).cells.toList = cs.toList := by simp [Value.cells]
  have key : ∀ i, i < n → ∃ z, cs.toList[i]? = some (.int k z) ∧ (Lit.int k z).wf = true := by
    intro i hi
    have h1 := hall i hi
    have hx : xs[i]? = some xs[i] := List.getElem?_eq_getElem (by omega)
    rw [hx, hcells, hce, Nat.mul_one] at h1
    obtain ⟨z, hz, _, hw⟩ := DataW.trod_int he h1
    refine ⟨z, ?_, hw⟩
    have h2 : ((cs.toList.drop i).take 1)[0]? = some (.int k z) := by rw [hz]; rfl
    rw [List.getElem?_take, if_pos (by decide), List.getElem?_drop] at h2
    simpa using h2
  have build : ∀ (l : List Value), (∀ i, i < l.length → ∃ z, l[i]? = some (.int k z) ∧ (Lit.int k z).wf = true) → ∃ zs : List Int, l = zs.map (Value.int k) ∧ ∀ z ∈ zs, (Lit.int k z).wf = true := by
    intro l
    induction l with
    | nil => exact fun _ => ⟨[], rfl, fun z hz => by cases hz⟩
    | cons a l ih =>
      intro hl
      obtain ⟨z, hz, hw⟩ := hl 0 (by simp)
      obtain ⟨zs, hzs, hws⟩ := ih (fun i hi => by
        obtain ⟨z', h1, h2⟩ := hl (i + 1) (by simp; omega)
        exact ⟨z', by simpa using h1, h2⟩)
      have ha : a = .int k z := by simpa using hz
      refine ⟨z :: zs, by rw [ha, hzs]; rfl, fun y hy => ?_⟩
      rcases List.mem_cons.1 hy with rfl | hy
      · exact hw
      · exact hws y hy
  obtain ⟨zs, hzs, hws⟩ := build cs.toList (fun i hi => key i (by rw [Array.length_toList, hsz] at hi; exact hi))
  refine ⟨zs, ?_, ?_, hws⟩
  · have := congrArg List.length hzs
    rw [Array.length_toList, List.length_map, hsz] at this
    exact this.symm
  · rw [← hzs, Array.toArray_toList]
theorem two_of {zs : List Int} (h : zs.length = 2) : ∃ a b, zs = [a, b] := by
  rcases zs with _ | ⟨a, _ | ⟨b, _ | ⟨c, z⟩⟩⟩ <;> simp at h
  exact ⟨a, b, rfl⟩
theorem three_of {zs : List Int} (h : zs.length = 3) : ∃ a b c, zs = [a, b, c] := by
  rcases zs with _ | ⟨a, _ | ⟨b, _ | ⟨c, _ | ⟨d, z⟩⟩⟩⟩ <;> simp at h
  exact ⟨a, b, c, rfl⟩
end
end Go.Proofs.Ytlpohjpiipkpiaa.O
