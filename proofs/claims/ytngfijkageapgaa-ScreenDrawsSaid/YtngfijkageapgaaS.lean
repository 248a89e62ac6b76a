/- Arguments opened: a picture by value. No condition. -/
import Derived.Test.YtngfijkageapgaaPx0
import Derived.Deep.Slices
import Derived.Deep.Fields
import Derived.ChangeSame
import Derived.Lib.SmallJoins
import Derived.ProofKit
import Derived.OpenShut
import Derived.SizedLaws
namespace Go.Proofs.Ytngfijkageapgaa.O
open Go.ChangeShapes Go.WideShapes Go.Deep Go.RowKit Go.Joins Go.Proofs.Ytngfijkageapgaa.P Go.Proofs.YtngfijkageapgaaW.PrintWords
set_option linter.unusedVariables false
section
variable {H : Type} {enc : TypeId × Value → H} {w : World}
theorem open_pic {r : Reach} {b0 : Nat} {v : Value} {d : DataW H} {p : List MemPlace} (hv : Value.okWide Try.prog w r b0 28 v) (h : DataW.Trod enc Try.prog w 0 (fun _ => true) true 28 v d p) :
    ∃ (a b : Int) (A : Option Addr) (len cap : Nat) (zs : List Int), v = .agg #[.int .i64 a, .int .i64 b, .slice A len cap] ∧ (Lit.int .i64 a).wf = true ∧ (Lit.int .i64 b).wf = true ∧
      ((A = none ∧ len = 0 ∧ cap = 0 ∧ zs = []) ∨ ∃ x, A = some x ∧ len ≤ cap ∧ cap ≤ maxLen ∧ zs.length = cap ∧ (∀ i, i < zs.length → w.cell? (x.add i) = some (.int .u8 (zs.getD i 0))) ∧ ∀ n ∈ zs, (Lit.int .u8 n).wf = true) ∧
      ∀ B, (d.weights Try.prog 28).all (· ≤ B) = true → len ≤ B := by
  obtain ⟨v0, v1, v2, y0, y1, y2, n, rfl, rfl, _, h0, h1, h2⟩ := open_agg3 Try.underlying28 (by kernel_rfl) (by kernel_rfl) hv h
  obtain ⟨z0, e0, _, w0⟩ := DataW.trod_int Try.underlying3 h0
  obtain ⟨z1, e1, _, w1⟩ := DataW.trod_int Try.underlying3 h1
  injection e0 with e0
  injection e1 with e1
  subst e0 e1
  rcases open_ints Try.underlying26 Try.underlying5 (by kernel_rfl) h2 with ⟨hcs, hx⟩ | ⟨x, l, c, zs, hcs, _, hl, hm, hz, hx, hcell, hwz⟩
  · injection hcs with hcs
    subst hcs
    exact ⟨z0, z1, none, 0, 0, [], rfl, w0, w1, .inl ⟨rfl, rfl, rfl, rfl⟩, fun B _ => Nat.zero_le _⟩
  · injection hcs with hcs
    subst hcs
    refine ⟨z0, z1, some x, l, c, zs, rfl, w0, w1, .inr ⟨_, rfl, hl, hm, by simpa using hz, hcell, hwz⟩, fun B hB => ?_⟩
    have hz2 : zs.length = c := by simpa using hz
    have hb : Try.prog.bytesOf 5 = 1 := by kernel_rfl
    rw [hx] at hB
    simp only [DataW.weights, Try.underlying28, DataW.weightsEach, List.map_cons, List.map_nil, Try.underlying26, hb] at hB
    have := List.all_eq_true.1 hB (((lits (H := H) .u8 (zs.take l)).length + (lits (H := H) .u8 (zs.drop l)).length) * 1) (by simp)
    simp [lits] at this
    omega
end
end Go.Proofs.Ytngfijkageapgaa.O
