/- Arguments opened: a slice of settings. No condition. -/
import Derived.Test.YtdobpgomgnaleaaDoorPx0
import Derived.Deep.Slices
import Derived.Deep.Fields
import Derived.ChangeSame
import Derived.Lib.SmallJoins
import Derived.ProofKit
import Derived.OpenShut
namespace Go.Proofs.YtdobpgomgnaleaaDoor.O
open Go.ChangeShapes Go.WideShapes Go.Deep Go.RowKit Go.Proofs.YtdobpgomgnaleaaDoor.P Go.Proofs.YtdobpgomgnaleaaDoorW.PrintWords
set_option linter.unusedVariables false
section
variable {H : Type} {enc : TypeId × Value → H} {P : Program} {w : World} {base : Nat} {spare : Nat → Bool} {held : Bool}
theorem open_slice_fields {t e : TypeId} {fs : Array Field} {fuel : Nat} {cs : List Value} {x : DataW H × List MemPlace} (ht : P.underlying t = some (.slice e)) (he : P.underlying e = some (.struct fs))
    (hone : oneCellFields P fs = true) (hC : P.cellsOf e = fs.size) (h : DataW.trod enc P w base spare held fuel t cs = some x) :
    (cs = [.slice none 0 0] ∧ x = (.nil, [])) ∨
    ∃ (a : Addr) (len cap m : Nat) (D : Nat → DataW H) (Pl : Nat → List MemPlace), cs = [.slice (some a) len cap] ∧ base ≤ a.block ∧ len ≤ cap ∧ cap ≤ maxLen ∧ m = (if spare a.block then cap else len) ∧
      x = (.slice ((List.range len).map D) ((List.range (m - len)).map fun j => D (len + j)), MemPlace.row a (m * fs.size) ++ (List.range m).flatMap Pl) ∧
      ∀ i, i < m → ∃ (ys : List (DataW H × List MemPlace)) (n : Nat), D i = .agg (ys.map (·.1)) ∧ Pl i = ys.flatMap (·.2) ∧ ys.length = fs.size ∧
        ∀ (j : Nat) (f : Field), fs[j]? = some f → ∃ (v : Value) (y : DataW H × List MemPlace), w.cell? (a.add (i * fs.size + j)) = some v ∧ ys[j]? = some y ∧ DataW.trod enc P w base spare held n f.type [v] = some y := by
  rcases open_slice ht h with h0 | ⟨a, len, cap, m, n, D, Pl, hcs, hb, hl, hm, hmm, hx, hi⟩
  · exact .inl h0
  · refine .inr ⟨a, len, cap, m, D, Pl, hcs, hb, hl, hm, hmm, by rw [hC] at hx; exact hx, fun i him => ?_⟩
    obtain ⟨cs', hc, ht'⟩ := hi i him
    rw [hC] at hc
    obtain ⟨ys, n', hn', hy, hlen, hyl, hf⟩ := DataW.trod_struct he ht'
    obtain ⟨_, hcl, hat⟩ := World.cells?_some hc
    simp only [Prod.mk.injEq] at hy
    refine ⟨ys, n', hy.1, hy.2, hyl, fun j f hj => ?_⟩
    obtain ⟨ho, hk⟩ := hone_of hone j f hj
    have hjl : j < fs.size := (Array.getElem?_eq_some_iff.1 hj).1
    have hcell := hat j hjl
    have hv : cs'[j]? = some (cs'[j]'(by omega)) := List.getElem?_eq_getElem (by omega)
    have h1 := hf j f hj
    rw [ho, hk] at h1
    have hone' : (cs'.drop j).take 1 = [cs'[j]'(by omega)] := by
      rw [List.drop_eq_getElem_cons (by omega)]
      rfl
    rw [hone'] at h1
    have hys : ys[j]? = some (ys[j]'(by omega)) := List.getElem?_eq_getElem (by omega)
    refine ⟨_, _, ?_, hys, h1.trans hys⟩
    rw [← Go.Deep.add_add, hcell, hv]
end
section
open Go.Joins
variable {H : Type} {enc : TypeId × Value → H} {w : World} {base : Nat} {spare : Nat → Bool} {held : Bool}
/-- The fields are of their kinds. -/
def SetWf (t : S31) : Prop := t.f0.size ≤ maxLen ∧ t.f1.size ≤ maxLen
theorem list_of {α : Type} {Q : Nat → α → Prop} (n : Nat) (h : ∀ i, i < n → ∃ x, Q i x) : ∃ l : List α, l.length = n ∧ ∀ i x, l[i]? = some x → Q i x := by
  induction n with
  | zero => exact ⟨[], rfl, fun i x hx => by simp at hx⟩
  | succ n ih =>
    obtain ⟨l, hl, hq⟩ := ih (fun i hi => h i (by omega))
    obtain ⟨y, hy⟩ := h n (by omega)
    refine ⟨l ++ [y], by rw [List.length_append, hl]; rfl, fun i x hx => ?_⟩
    rcases Nat.lt_or_ge i n with hi | hi
    · rw [List.getElem?_append_left (by omega)] at hx
      exact hq i x hx
    · rw [List.getElem?_append_right (by omega)] at hx
      have hin : i = n := by
        have := (List.getElem?_eq_some_iff.1 hx).1
        simp at this
        omega
      subst hin
      rw [hl, Nat.sub_self] at hx
      simp at hx
      subst hx
      exact hy
theorem open_sets {v : Value} {d : DataW H} {p : List MemPlace} {A : Option Addr} {len cap : Nat} (hv : v = .slice A len cap) (h : DataW.Trod enc Tryd.prog w base spare held 23 v d p) :
    ∃ l : List S31, l.length = len ∧ l.length ≤ cap ∧ Kd.C k31 w A l.length l ∧ ∀ t ∈ l, SetWf t := by
  obtain ⟨fuel, hf⟩ := h
  subst hv
  rcases open_slice_fields Tryd.underlying23 Tryd.underlying31 (by kernel_rfl) (by kernel_rfl) hf with ⟨hcs, _⟩ | ⟨a, len', cap', m, D, Pl, hcs, _, hl, hm, hmm, _, hi⟩
  · simp [Value.cells] at hcs
    obtain ⟨rfl, rfl, rfl⟩ := hcs
    exact ⟨[], rfl, Nat.le_refl _, Kd.C_nil _ _, fun t ht => by cases ht⟩
  · simp [Value.cells] at hcs
    obtain ⟨rfl, rfl, rfl⟩ := hcs
    have hlm : len ≤ m := by
      rw [hmm]
      split <;> omega
    obtain ⟨l, hll, hq⟩ := list_of (α := S31) (Q := fun i t => SetWf t ∧ ∀ j u, ([.string t.f0, .string t.f1] : List Value)[j]? = some u → w.cell? (a.add (i * 2 + j)) = some u) len (fun i hil => by
      obtain ⟨ys, n, _, _, _, hf2⟩ := hi i (by omega)
      obtain ⟨v0, y0, c0, _, h0⟩ := hf2 0 _ rfl
      obtain ⟨v1, y1, c1, _, h1⟩ := hf2 1 _ rfl
      obtain ⟨s0, e0, _, w0⟩ := DataW.trod_string Tryd.underlying9 h0
      obtain ⟨s1, e1, _, w1⟩ := DataW.trod_string Tryd.underlying9 h1
      injection e0 with e0
      injection e1 with e1
      subst e0 e1
      refine ⟨⟨s0, s1⟩, ⟨w0, w1⟩, fun j u hj => ?_⟩
      rcases j with _ | _ | j
      · injection hj with hj; subst hj; exact c0
      · injection hj with hj; subst hj; exact c1
      · simp at hj)
    refine ⟨l, hll, by omega, ?_, fun t ht => ?_⟩
    · rw [hll]
      refine ⟨hll, by simp only [maxLen] at hm; omega, fun _ => ⟨a, rfl, fun i t ht => ⟨_, rfl, k31_mk _ t, fun j u hj => ?_⟩⟩⟩
      exact (hq i t ht).2 j u hj
    · obtain ⟨i, hil, hti⟩ := List.getElem_of_mem ht
      exact (hq i t (by rw [List.getElem?_eq_getElem hil, hti])).1
end
end Go.Proofs.YtdobpgomgnaleaaDoor.O
