/- ScreenDraws returns true for every input and leaves its arguments as they were. No condition. Written by a program (wip/tools/lawrow.py); Lean checks it. -/
import Derived.Test.YtngfijkageapgaaRows
import Derived.Test.YtngfijkageapgaaPx16
import Derived.Test.YtngfijkageapgaaS
import Derived.Test.YtngfijkageapgaaO
import Derived.Test.YtngfijkageapgaaPureScreenDraws
import Derived.Test.YtngfijkageapgaaWSized
import Derived.WalkKit
import Derived.ProofKit
import Derived.OpenShut
import Derived.ShutString
import Derived.ChangeOld
import Derived.Below
import Derived.SizedLaws
namespace Go.Proofs.Ytngfijkageapgaa.screenDraws
open Go.ChangeShapes Go.WideShapes Go.ChangeAt Go.RowKit Go.Proofs.Ytngfijkageapgaa.P Go.Proofs.YtngfijkageapgaaW.PrintWords
open Go.ChangeMaps (open_string shut_string)
set_option linter.unusedVariables false
theorem own : ownKnob Try.prog.godebug = none := by kernel_rfl
theorem laidOut : laidOutB Try.prog = true := by kernel_rfl
set_option maxRecDepth 100000 in
theorem lifted (os : Os) (started : os.Started) (H : Type) (enc : TypeId × Value → H) :
    ReturnsInHanded {} Try.checked os 5 .any (Rows.screenDrawsSpec.pre6 enc Try.prog Try.f5 Rows.screenDrawsRow.domain false) (Rows.screenDrawsSpec.post enc Try.prog Try.f5 false true false false) := by
  refine returnsInHanded_of_change_sized (C := Try.checked) own started (by kernel_rfl) Try.func5
    (ChangeSpec.witness6 (enc := enc) (C := Try.checked) false ⟨#[], #[.agg #[.int .i64 0, .int .i64 0, .slice none 0 0], .agg #[.int .i64 0, .int .i64 0, .slice none 0 0], .agg #[.int .i64 0, .int .i64 0, .int .i64 0]], []⟩ 8 (by kernel_rfl) (by kernel_rfl) (by kernel_rfl) (by kernel_rfl)) ?_
  intro W base args ds gs before hval0 hW hcnd hsz0 _
  have hsz : (DataW.weightsEach Try.prog (Try.f5.params.toList ++ Rows.screenDrawsSpec.plain.varTypes Try.prog) (ds ++ gs)).all (· ≤ reachBytes) = true := hsz0
  have hval : ∀ (j : Nat) t v, Try.f5.params[j]? = some t → args[j]? = some v → Value.okWide Try.prog W .any base t v := hval0
  have hW' := hW
  obtain ⟨p, q, hA0, hV, rfl, hfz, hnd⟩ := hW
  have hA : DataW.TrodAll enc Try.prog W 0 (fun _ => true) true Try.f5.params.toList args.toList ds p := hA0
  rw [Try.params5] at hA hval hsz
  obtain ⟨v0, vs0, d0, ds0, p0, q0, hargs, rfl, rfl, h0, r0⟩ := trodAll_cons hA
  obtain ⟨v1, vs1, d1, ds1, p1, q1, rfl, rfl, rfl, h1, r1⟩ := trodAll_cons r0
  obtain ⟨v2, vs2, d2, ds2, p2, q2, rfl, rfl, rfl, h2, r2⟩ := trodAll_cons r1
  obtain ⟨rfl, rfl, rfl⟩ := trodAll_nil r2
  obtain rfl : args = #[v0, v1, v2] := by cases args; simp_all
  obtain ⟨rfl, rfl⟩ := trodVars_none hV
  have k0 := h0
  have lt0 : ∀ x ∈ p0, x.block < W.heap.size := by obtain ⟨m, hm⟩ := k0; exact DataW.trod_lt m _ _ _ hm
  obtain ⟨a0_0, a0_1, A0, len0, cap0, z0, rfl, w0_0, w0_1, row0, sz0⟩ := O.open_pic (hval 0 28 v0 rfl rfl) h0
  have sq0 : len0 ≤ 140737488351232 := sz0 reachBytes (List.all_eq_true.2 (fun n hn => List.all_eq_true.1 hsz n (DataW.weights_mem_each (j := 0) rfl rfl n hn)))
  obtain ⟨l0, rfl, hr0, hm0, hw0, hc0⟩ := ReadsInt.ofRowC row0
  have k1 := h1
  have lt1 : ∀ x ∈ p1, x.block < W.heap.size := by obtain ⟨m, hm⟩ := k1; exact DataW.trod_lt m _ _ _ hm
  obtain ⟨a1_0, a1_1, A1, len1, cap1, z1, rfl, w1_0, w1_1, row1, sz1⟩ := O.open_pic (hval 1 28 v1 rfl rfl) h1
  have sq1 : len1 ≤ 140737488351232 := sz1 reachBytes (List.all_eq_true.2 (fun n hn => List.all_eq_true.1 hsz n (DataW.weights_mem_each (j := 1) rfl rfl n hn)))
  obtain ⟨l1, rfl, hr1, hm1, hw1, hc1⟩ := ReadsInt.ofRowC row1
  have k2 := h2
  have lt2 : ∀ x ∈ p2, x.block < W.heap.size := by obtain ⟨m, hm⟩ := k2; exact DataW.trod_lt m _ _ _ hm
  obtain ⟨z2, n2, rfl, wz2⟩ := O.open_ints_array Try.underlying39 Try.underlying3 (by kernel_rfl) (by kernel_rfl) (hval 2 39 v2 rfl rfl) h2
  obtain ⟨a2_0, a2_1, a2_2, rfl⟩ := O.three_of n2
  have w2_0 : (Lit.int .i64 a2_0).wf = true := wz2 a2_0 (by simp)
  have w2_1 : (Lit.int .i64 a2_1).wf = true := wz2 a2_1 (by simp)
  have w2_2 : (Lit.int .i64 a2_2).wf = true := wz2 a2_2 (by simp)
  clear hA0 hval0 hsz0 hsz
  obtain ⟨k, hk⟩ := Pure.ScreenDraws a0_0 a0_1 l0 a1_0 a1_1 l1 a2_0 a2_1 a2_2 hw0 sq0 hw1 sq1 w2_0 w2_1 w2_2
  refine (P.tinderlaw22_ScreenDraws.calls k a0_0 a0_1 _ _ l0 a1_0 a1_1 _ _ l1 a2_0 a2_1 a2_2 true W (Kd.C_of_reads (d := (0 : Int)) (h1 := fun _ => rfl) hr0) hc0 (Kd.C_of_reads (d := (0 : Int)) (h1 := fun _ => rfl) hr1) hc1 hk).mono fun e W' ⟨he, bel⟩ => ?_
  subst he
  exact ⟨_, rfl, _, _, _, [], _, [], hW', trodAll_mk1 (shut_bool Try.underlying4 _), (trodAll_cons_mk (Below.trod laidOut (by kernel_rfl) (of_decide_eq_true (by kernel_rfl)) k0 bel lt0) (trodAll_cons_mk (Below.trod laidOut (by kernel_rfl) (of_decide_eq_true (by kernel_rfl)) k1 bel lt1) (trodAll_cons_mk (Below.trod laidOut (by kernel_rfl) (of_decide_eq_true (by kernel_rfl)) k2 bel lt2) trodAll_mk0))), rfl, bel.frame _, fun h => by cases h⟩
theorem over : Rows.screenDrawsRow.holds Try.pinned (OpenSpec.ofChange Rows.screenDrawsSpec) :=
  OpenClaim.holds_of_wide 5 Try.f5 rfl rfl rfl rfl rfl rfl rfl ⟨rfl, rfl, rfl, rfl, rfl⟩ rfl rfl rfl rfl rfl (by kernel_rfl) Try.func5 (by kernel_rfl)
    (of_decide_eq_true (by kernel_rfl)) (by unfold Func.isWrapper; first | (rw [if_pos (by decide +kernel)]; kernel_rfl) | (rw [if_neg (by decide +kernel)]; exact ⟨rfl, rfl⟩))
    (fun os started H enc _ => lifted os started H enc)
theorem proved : Rows.ScreenDrawsSaid := over
#print axioms proved
end Go.Proofs.Ytngfijkageapgaa.screenDraws
namespace Go.Proofs.Ytngfijkageapgaa
/-- The row, under a short name, for the claim. -/
theorem screenDraws_holds : Rows.ScreenDrawsSaid := screenDraws.proved
end Go.Proofs.Ytngfijkageapgaa
