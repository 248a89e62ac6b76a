/- Arguments opened: a token by value, a slice of tokens. No condition. -/
import Derived.Test.YtfaebbmngplilaaPx0
import Derived.Deep.Slices
import Derived.Deep.Fields
import Derived.ChangeSame
import Derived.Lib.SmallJoins
import Derived.ProofKit
import Derived.OpenShut
namespace Go.Proofs.Ytfaebbmngplilaa.O
open Go.ChangeShapes Go.WideShapes Go.Deep Go.RowKit Go.Proofs.Ytfaebbmngplilaa.P Go.Proofs.YtfaebbmngplilaaW.PrintWords
set_option linter.unusedVariables false
section
variable {H : Type} {enc : TypeId × Value → H} {P : Program} {w : World} {base : Nat} {spare : Nat → Bool} {held : Bool}
theorem open_slice_fields {t e : TypeId} {fs : Array Field} {fuel : Nat} {cs : List Value} {x : DataW H × List MemPlace} (ht : P.underlying t = some (.slice e)) (he : P.underlying e = some (.struct fs))
    (hone : oneCellFields P fs = true) (hC : P.cellsOf e = fs.size) (h : DataW.trod enc P w base spare held fuel t cs = some x) :
    (cs = [.slice none 0 0] ∧ x = (.nil, [])) ∨
    ∃ (a : Addr) (len cap m : Nat) (D : Nat → DataW H) (Pl : Nat → List MemPlace), cs = [.slice (some a) len cap] ∧ base ≤ a.block ∧ len ≤ cap ∧ cap ≤ maxLen ∧ m = (if spare a.block then cap else len) ∧
      x = (.slice ((List.range len).map D) ((List.range (m - len)).map fun j => D (len + j)), MemPlace.row a (m * fs.size) ++ (List.range m).flatMap Pl) ∧
      ∀ i, i < m → ∃ (ys : List (DataW H × List MemPlace)) (n : Nat), D i = .agg (ys.map (·.1)) ∧ Pl i = ys.flatMap (·.2) ∧ ys.length = fs.size ∧
        ∀ (j : Nat) (f : Field), fs[j]? = some f → ∃ (v : Value) (y : DataW H × List MemPlace), w.cell? (a.add (i * fs.size + j)) = some v ∧ ys[j]? = some y ∧ DataW.trod enc P w base spare held n f.type [v] = some y := by
  rcases open_slice ht h with h0 | ⟨a, len, cap, m, n, D, Pl, hcs, hb, hl, hm, hmm, hx, hi⟩
  · exact .inl h0
  · refine .inr ⟨a, len, cap, m, D, Pl, hcs, hb, hl, hm, hmm, by rw [hC] at hx; exact hx, fun i him => ?_⟩
    obtain ⟨cs', hc, ht'⟩ := hi i him
    rw [hC] at hc
    obtain ⟨ys, n', hn', hy, hlen, hyl, hf⟩ := DataW.trod_struct he ht'
    obtain ⟨_, hcl, hat⟩ := World.cells?_some hc
    simp only [Prod.mk.injEq] at hy
    refine ⟨ys, n', hy.1, hy.2, hyl, fun j f hj => ?_⟩
    obtain ⟨ho, hk⟩ := hone_of hone j f hj
    have hjl : j < fs.size := (Array.getElem?_eq_some_iff.1 hj).1
    have hcell := hat j hjl
    have hv : cs'[j]? = some (cs'[j]'(by omega)) := List.getElem?_eq_getElem (by omega)
    have h1 := hf j f hj
    rw [ho, hk] at h1
    have hone' : (cs'.drop j).take 1 = [cs'[j]'(by omega)] := by
      rw [List.drop_eq_getElem_cons (by omega)]
      rfl
    rw [hone'] at h1
    have hys : ys[j]? = some (ys[j]'(by omega)) := List.getElem?_eq_getElem (by omega)
    refine ⟨_, _, ?_, hys, h1.trans hys⟩
    rw [← Go.Deep.add_add, hcell, hv]
end
section
open Go.Joins
variable {H : Type} {enc : TypeId × Value → H} {w : World} {base : Nat} {spare : Nat → Bool} {held : Bool}
/-- The fields are of their kinds. -/
def TokWf (t : S34) : Prop := (Lit.int .i64 t.f0).wf = true ∧ (Lit.int .u32 t.f1).wf = true ∧ t.f2.size ≤ maxLen ∧ (Lit.int .i64 t.f3).wf = true
theorem open_tok {r : Reach} {b0 : Nat} {v : Value} {d : DataW H} {p : List MemPlace} (hv : Value.okWide Try.prog w r b0 34 v) (h : DataW.Trod enc Try.prog w base spare held 34 v d p) :
    ∃ t : S34, v = .agg #[.int .i64 t.f0, .int .u32 t.f1, .string t.f2, .int .i64 t.f3] ∧ TokWf t := by
  obtain ⟨v0, v1, v2, v3, y0, y1, y2, y3, n, rfl, _, _, h0, h1, h2, h3⟩ := open_agg4 Try.underlying34 (by kernel_rfl) (by kernel_rfl) hv h
  obtain ⟨z0, e0, _, w0⟩ := DataW.trod_int Try.underlying3 h0
  obtain ⟨z1, e1, _, w1⟩ := DataW.trod_int Try.underlying32 h1
  obtain ⟨s, e2, _, w2⟩ := DataW.trod_string Try.underlying9 h2
  obtain ⟨z3, e3, _, w3⟩ := DataW.trod_int Try.underlying3 h3
  injection e0 with e0
  injection e1 with e1
  injection e2 with e2
  injection e3 with e3
  subst e0 e1 e2 e3
  exact ⟨⟨z0, z1, s, z3⟩, rfl, w0, w1, w2, w3⟩
theorem list_of {α : Type} {Q : Nat → α → Prop} (n : Nat) (h : ∀ i, i < n → ∃ x, Q i x) : ∃ l : List α, l.length = n ∧ ∀ i x, l[i]? = some x → Q i x := by
  induction n with
  | zero => exact ⟨[], rfl, fun i x hx => by simp at hx⟩
  | succ n ih =>
    obtain ⟨l, hl, hq⟩ := ih (fun i hi => h i (by omega))
    obtain ⟨y, hy⟩ := h n (by omega)
    refine ⟨l ++ [y], by rw [List.length_append, hl]; rfl, fun i x hx => ?_⟩
    rcases Nat.lt_or_ge i n with hi | hi
    · rw [List.getElem?_append_left (by omega)] at hx
      exact hq i x hx
    · rw [List.getElem?_append_right (by omega)] at hx
      have hin : i = n := by
        have := (List.getElem?_eq_some_iff.1 hx).1
        simp at this
        omega
      subst hin
      rw [hl, Nat.sub_self] at hx
      simp at hx
      subst hx
      exact hy
theorem open_toks {v : Value} {d : DataW H} {p : List MemPlace} {A : Option Addr} {len cap : Nat} (hv : v = .slice A len cap) (h : DataW.Trod enc Try.prog w base spare held 25 v d p) :
    ∃ l : List S34, l.length = len ∧ l.length ≤ cap ∧ Kd.C k34 w A l.length l ∧ ∀ t ∈ l, TokWf t := by
  obtain ⟨fuel, hf⟩ := h
  subst hv
  rcases open_slice_fields Try.underlying25 Try.underlying34 (by kernel_rfl) (by kernel_rfl) hf with ⟨hcs, _⟩ | ⟨a, len', cap', m, D, Pl, hcs, _, hl, hm, hmm, _, hi⟩
  · simp [Value.cells] at hcs
    obtain ⟨rfl, rfl, rfl⟩ := hcs
    exact ⟨[], rfl, Nat.le_refl _, Kd.C_nil _ _, fun t ht => by cases ht⟩
  · simp [Value.cells] at hcs
    obtain ⟨rfl, rfl, rfl⟩ := hcs
    have hlm : len ≤ m := by
      rw [hmm]
      split <;> omega
    obtain ⟨l, hll, hq⟩ := list_of (α := S34) (Q := fun i t => TokWf t ∧ ∀ j u, ([.int .i64 t.f0, .int .u32 t.f1, .string t.f2, .int .i64 t.f3] : List Value)[j]? = some u → w.cell? (a.add (i * 4 + j)) = some u) len (fun i hil => by
      obtain ⟨ys, n, _, _, _, hf2⟩ := hi i (by omega)
      obtain ⟨v0, y0, c0, _, h0⟩ := hf2 0 _ rfl
      obtain ⟨v1, y1, c1, _, h1⟩ := hf2 1 _ rfl
      obtain ⟨v2, y2, c2, _, h2⟩ := hf2 2 _ rfl
      obtain ⟨v3, y3, c3, _, h3⟩ := hf2 3 _ rfl
      obtain ⟨z0, e0, _, w0⟩ := DataW.trod_int Try.underlying3 h0
      obtain ⟨z1, e1, _, w1⟩ := DataW.trod_int Try.underlying32 h1
      obtain ⟨s, e2, _, w2⟩ := DataW.trod_string Try.underlying9 h2
      obtain ⟨z3, e3, _, w3⟩ := DataW.trod_int Try.underlying3 h3
      injection e0 with e0
      injection e1 with e1
      injection e2 with e2
      injection e3 with e3
      subst e0 e1 e2 e3
      refine ⟨⟨z0, z1, s, z3⟩, ⟨w0, w1, w2, w3⟩, fun j u hj => ?_⟩
      rcases j with _ | _ | _ | _ | j
      · injection hj with hj; subst hj; exact c0
      · injection hj with hj; subst hj; exact c1
      · injection hj with hj; subst hj; exact c2
      · injection hj with hj; subst hj; exact c3
      · simp at hj)
    refine ⟨l, hll, by omega, ?_, fun t ht => ?_⟩
    · rw [hll]
      refine ⟨hll, by simp only [maxLen] at hm; omega, fun _ => ⟨a, rfl, fun i t ht => ⟨_, rfl, k34_mk _ t, fun j u hj => ?_⟩⟩⟩
      exact (hq i t ht).2 j u hj
    · obtain ⟨i, hil, hti⟩ := List.getElem_of_mem ht
      exact (hq i t (by rw [List.getElem?_eq_getElem hil, hti])).1
end
end Go.Proofs.Ytfaebbmngplilaa.O
