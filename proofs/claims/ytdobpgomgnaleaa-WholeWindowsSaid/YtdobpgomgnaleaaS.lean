/- Arguments opened: a slice of what is put. No condition. -/
import Derived.Test.YtdobpgomgnaleaaN14
import Derived.Deep.Slices
import Derived.Deep.Fields
import Derived.ChangeSame
import Derived.Lib.SmallJoins
import Derived.ProofKit
import Derived.OpenShut
namespace Go.Proofs.Ytdobpgomgnaleaa.O
open Go.ChangeShapes Go.WideShapes Go.Deep Go.RowKit Go.Proofs.Ytdobpgomgnaleaa.P Go.Proofs.YtdobpgomgnaleaaW.PrintWords
set_option linter.unusedVariables false
section
variable {H : Type} {enc : TypeId × Value → H} {P : Program} {w : World} {base : Nat} {spare : Nat → Bool} {held : Bool}
theorem open_slice_fields {t e : TypeId} {fs : Array Field} {fuel : Nat} {cs : List Value} {x : DataW H × List MemPlace} (ht : P.underlying t = some (.slice e)) (he : P.underlying e = some (.struct fs))
    (hone : oneCellFields P fs = true) (hC : P.cellsOf e = fs.size) (h : DataW.trod enc P w base spare held fuel t cs = some x) :
    (cs = [.slice none 0 0] ∧ x = (.nil, [])) ∨
    ∃ (a : Addr) (len cap m : Nat) (D : Nat → DataW H) (Pl : Nat → List MemPlace), cs = [.slice (some a) len cap] ∧ base ≤ a.block ∧ len ≤ cap ∧ cap ≤ maxLen ∧ m = (if spare a.block then cap else len) ∧
      x = (.slice ((List.range len).map D) ((List.range (m - len)).map fun j => D (len + j)), MemPlace.row a (m * fs.size) ++ (List.range m).flatMap Pl) ∧
      ∀ i, i < m → ∃ (ys : List (DataW H × List MemPlace)) (n : Nat), D i = .agg (ys.map (·.1)) ∧ Pl i = ys.flatMap (·.2) ∧ ys.length = fs.size ∧
        ∀ (j : Nat) (f : Field), fs[j]? = some f → ∃ (v : Value) (y : DataW H × List MemPlace), w.cell? (a.add (i * fs.size + j)) = some v ∧ ys[j]? = some y ∧ DataW.trod enc P w base spare held n f.type [v] = some y := by
  rcases open_slice ht h with h0 | ⟨a, len, cap, m, n, D, Pl, hcs, hb, hl, hm, hmm, hx, hi⟩
  · exact .inl h0
  · refine .inr ⟨a, len, cap, m, D, Pl, hcs, hb, hl, hm, hmm, by rw [hC] at hx; exact hx, fun i him => ?_⟩
    obtain ⟨cs', hc, ht'⟩ := hi i him
    rw [hC] at hc
    obtain ⟨ys, n', hn', hy, hlen, hyl, hf⟩ := DataW.trod_struct he ht'
    obtain ⟨_, hcl, hat⟩ := World.cells?_some hc
    simp only [Prod.mk.injEq] at hy
    refine ⟨ys, n', hy.1, hy.2, hyl, fun j f hj => ?_⟩
    obtain ⟨ho, hk⟩ := hone_of hone j f hj
    have hjl : j < fs.size := (Array.getElem?_eq_some_iff.1 hj).1
    have hcell := hat j hjl
    have hv : cs'[j]? = some (cs'[j]'(by omega)) := List.getElem?_eq_getElem (by omega)
    have h1 := hf j f hj
    rw [ho, hk] at h1
    have hone' : (cs'.drop j).take 1 = [cs'[j]'(by omega)] := by
      rw [List.drop_eq_getElem_cons (by omega)]
      rfl
    rw [hone'] at h1
    have hys : ys[j]? = some (ys[j]'(by omega)) := List.getElem?_eq_getElem (by omega)
    refine ⟨_, _, ?_, hys, h1.trans hys⟩
    rw [← Go.Deep.add_add, hcell, hv]
end
section
open Go.Joins
variable {H : Type} {enc : TypeId × Value → H} {w : World} {base : Nat} {spare : Nat → Bool} {held : Bool}
theorem list_of {α : Type} {Q : Nat → α → Prop} (n : Nat) (h : ∀ i, i < n → ∃ x, Q i x) : ∃ l : List α, l.length = n ∧ ∀ i x, l[i]? = some x → Q i x := by
  induction n with
  | zero => exact ⟨[], rfl, fun i x hx => by simp at hx⟩
  | succ n ih =>
    obtain ⟨l, hl, hq⟩ := ih (fun i hi => h i (by omega))
    obtain ⟨y, hy⟩ := h n (by omega)
    refine ⟨l ++ [y], by rw [List.length_append, hl]; rfl, fun i x hx => ?_⟩
    rcases Nat.lt_or_ge i n with hi | hi
    · rw [List.getElem?_append_left (by omega)] at hx
      exact hq i x hx
    · rw [List.getElem?_append_right (by omega)] at hx
      have hin : i = n := by
        have := (List.getElem?_eq_some_iff.1 hx).1
        simp at this
        omega
      subst hin
      rw [hl, Nat.sub_self] at hx
      simp at hx
      subst hx
      exact hy
theorem open_writes {v : Value} {d : DataW H} {p : List MemPlace} {A : Option Addr} {len cap : Nat} (hv : v = .slice A len cap) (h : DataW.Trod enc Try.prog w base (fun _ => true) held 22 v d p) :
    ∃ l : List WR, l.length = len ∧ l.length ≤ 9223372036854775807 ∧ Lies w A l := by
  obtain ⟨fuel, hf⟩ := h
  subst hv
  rcases open_slice_fields Try.underlying22 Try.underlying34 (by kernel_rfl) (by kernel_rfl) hf with ⟨hcs, _⟩ | ⟨a, len', cap', m, D, Pl, hcs, _, hl, hm, hmm, _, hi⟩
  · simp [Value.cells] at hcs
    obtain ⟨rfl, rfl, rfl⟩ := hcs
    exact ⟨[], rfl, Nat.zero_le _, fun i x hx => by simp at hx⟩
  · simp [Value.cells] at hcs
    obtain ⟨rfl, rfl, rfl⟩ := hcs
    have hlm : len ≤ m := by
      rw [hmm]
      split <;> omega
    obtain ⟨l, hll, hq⟩ := list_of (α := WR) (Q := fun i x => w.cell? (a.add (i * 3)) = some (.bool x.s) ∧ w.cell? (a.add (i * 3 + 1)) = some (.int .i64 x.at_) ∧ w.cell? (a.add (i * 3 + 2)) = some (.slice x.A x.data.length x.c) ∧ Kd.C (Kd.int .u8) w x.A x.data.length x.data ∧ x.data.length ≤ x.c) len (fun i hil => by
      obtain ⟨ys, n, _, _, _, hf2⟩ := hi i (by omega)
      obtain ⟨v0, y0, c0, _, h0⟩ := hf2 0 _ rfl
      obtain ⟨v1, y1, c1, _, h1⟩ := hf2 1 _ rfl
      obtain ⟨v2, y2, c2, _, h2⟩ := hf2 2 _ rfl
      obtain ⟨b, e0, _⟩ := DataW.trod_bool Try.underlying4 h0
      obtain ⟨z, e1, _, _⟩ := DataW.trod_int Try.underlying3 h1
      injection e0 with e0
      injection e1 with e1
      subst e0 e1
      rcases open_ints Try.underlying23 Try.underlying5 (by kernel_rfl) h2 with ⟨hcs, _⟩ | ⟨x, ln, c, zs, hcs, _, hln, hcm, hz, _, hcell, hwz⟩
      · injection hcs with hcs
        subst hcs
        exact ⟨⟨b, z, none, 0, []⟩, c0, c1, c2, Kd.C_nil _ _, Nat.le_refl _⟩
      · injection hcs with hcs
        subst hcs
        obtain ⟨ld, rfl, hr, hmx, _, hlc⟩ := ReadsInt.ofRowC (k := .u8) (w := w) (a := some x) (len := ln) (cap := c) (zs := zs) (.inr ⟨x, rfl, hln, hcm, by simpa using hz, hcell, hwz⟩)
        exact ⟨⟨b, z, some x, c, ld⟩, c0, c1, c2, Kd.C_of_reads (d := (0 : Int)) (h1 := fun _ => rfl) hr, hlc⟩)
    refine ⟨l, hll, by simp only [maxLen] at hm; omega, fun i x hx => ?_⟩
    obtain ⟨q0, q1, q2, q3, q4⟩ := hq i x hx
    exact ⟨a, rfl, q0, by rw [← add_field _ _ 1 (by omega)]; exact q1, by rw [← add_field _ _ 2 (by omega)]; exact q2, q3, q4⟩
end
end Go.Proofs.Ytdobpgomgnaleaa.O
