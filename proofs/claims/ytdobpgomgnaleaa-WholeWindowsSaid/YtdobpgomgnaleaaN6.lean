import Derived.RangeFuncNested
import Derived.RangeFuncBound
import Derived.RangeFuncCalls
import Derived.RangeFuncLeaves
import Derived.Shelf.Abstract
import Derived.Shelf.RegionOpen
import Derived.WalkKit
import Derived.OwnWalkIn
import Derived.TacticsInMore
import Derived.LoopNIn
import Derived.LoopIn
import Derived.RangeFuncBox
import Derived.RangeFuncFrom
import Derived.RangeFuncWrites
import Derived.Maps.AppendAt
import Derived.Stop.RegionWithIn
import Derived.Deep.WholeRow
import Derived.Test.YtdobpgomgnaleaaN2
import Derived.Test.YtdobpgomgnaleaaN3
import Derived.Test.YtdobpgomgnaleaaN4
import Derived.Test.YtdobpgomgnaleaaN5
namespace Go.Proofs.Ytdobpgomgnaleaa.P
open Go.RowKit Go.Shelf Go.Proofs.YtdobpgomgnaleaaW.PrintWords
attribute [local go_sem] Oper.semAt_some
set_option linter.unusedVariables false
set_option linter.unusedSimpArgs false
theorem select_calls (s : ByteArray) (k : Int) (w : World) (h : (s = ⟨#[97]⟩ ∧ k = 0) ∨ (s = ⟨#[98]⟩ ∧ k = 1)) :
    Calls Try.prog 13 #[.string s] w fun e w' => e = .returned (.tuple #[.int .i64 k, .string ⟨#[]⟩, .int .i64 0]) ∧ Drawn0 w w' := by
  have hcut : ∀ X, Calls Try.prog 22 #[.string s, .string ⟨#[44]⟩] X fun e w' => e = .returned (.tuple #[.string s, .string ⟨#[]⟩, .bool false]) ∧ Drawn0 X w' := fun X =>
    strings_Cut.calls s ⟨#[44]⟩ s ⟨#[]⟩ false X (by unfold strings_Cut.f; rw [if_pos ⟨h.imp And.left And.left, rfl⟩])
  have g1 : ∀ X, (binOp BinOp.gtr 9 (.string ⟨#[97]⟩) (.string ⟨#[104]⟩)).run Try.prog X = .ok (.bool false) X := fun X => by kernel_rfl
  have g2 : ∀ X, (binOp BinOp.gtr 9 (.string ⟨#[98]⟩) (.string ⟨#[104]⟩)).run Try.prog X = .ok (.bool false) X := fun X => by kernel_rfl
  rcases h with ⟨rfl, rfl⟩ | ⟨rfl, rfl⟩
  · go_enter Try.func13, Try.ntmps13
    go_wp2_with (go_at_call 22; refine (hcut _).mono ?_; rintro e w' ⟨rfl, ⟨m, rfl⟩⟩)
    refine bodyPost_ret (results_tmp3 rfl _ _ _) rfl ?_
    exact ⟨rfl, ⟨_, rfl⟩⟩
  · go_enter Try.func13, Try.ntmps13
    go_wp2_with (go_at_call 22; refine (hcut _).mono ?_; rintro e w' ⟨rfl, ⟨m, rfl⟩⟩)
    refine bodyPost_ret (results_tmp3 rfl _ _ _) rfl ?_
    exact ⟨rfl, ⟨_, rfl⟩⟩
/-- The label: two windows, one of two sectors from 1 on, one of one from 3 on. -/
def LAB : List Int := [0, 0, 0, 1, 0, 0, 0, 2, 0, 0, 0, 3, 0, 0, 0, 1] ++ List.replicate 492 0 ++ [218, 190, 218, 191]
theorem LAB_len : LAB.length = 512 := by decide +kernel
theorem LAB_cross : crossR LAB false 0 0 = (0, 0) := by decide +kernel
theorem LAB_8 : rd LAB 508 = 218 := by decide +kernel
theorem LAB_9 : rd LAB 509 = 190 := by decide +kernel
theorem LAB_z : ∀ x ∈ (LAB.take 508).drop 64, x = 0 := by decide +kernel
def csL : Array Value := #[.int .u32 1, .int .u32 2, .int .u32 3, .int .u32 1, .int .u32 0, .int .u32 0, .int .u32 0, .int .u32 0, .int .u32 0, .int .u32 0, .int .u32 0, .int .u32 0, .int .u32 0, .int .u32 0, .int .u32 0, .int .u32 0]
theorem LAB_cs : arrP (fun i => numR (partR (LAB.take 64) i)) 8 = csL := by kernel_rfl
theorem parse_lab (b off c0 : Nat) (l0 : List Int) (w : World) (hr0 : Kd.C (Kd.int .u8) w (some ⟨b, off, none⟩) l0.length l0) (hl : 512 ≤ l0.length) (hT : l0.take 512 = LAB) (hc : l0.length ≤ c0) :
    Calls Try.prog 9 #[.slice (some ⟨b, off, none⟩) 512 c0] w fun e w' => e = .returned (.tuple #[.agg csL, .int .i64 0]) ∧ Below w.heap.size w w' := by
  have hC3 := Kd.C_mid (lo := 0) (hi := 512) (c := l0.length + 1) hr0 (by omega) (by omega) (by omega)
  rw [if_neg (by omega), List.drop_zero, hT] at hC3
  have e : (some (⟨b, off, none⟩ : Addr)).map (·.add (0 * (Kd.int .u8).sz)) = some ⟨b, off, none⟩ := by show some ((⟨b, off, none⟩ : Addr).add (0 * 1)) = _; unfold Addr.add; rfl
  rw [e] at hC3
  have h := parse_calls b off c0 LAB w hC3 LAB_len (by omega) LAB_cross LAB_8 LAB_9 LAB_z
  rw [LAB_cs] at h
  exact h
def baseW (k : Int) : Int := if k = 0 then 512 else 1536
def sizeW (k : Int) : Int := if k = 0 then 1024 else 512
def zs16 : Array Value := #[.int .u32 0, .int .u32 0, .int .u32 0, .int .u32 0, .int .u32 0, .int .u32 0, .int .u32 0, .int .u32 0, .int .u32 0, .int .u32 0, .int .u32 0, .int .u32 0, .int .u32 0, .int .u32 0, .int .u32 0, .int .u32 0]
theorem store_lab (W : World) : (Instr.storeAt 30 (.pointer (some ⟨W.heap.size, 0, none⟩)) (.agg csL)).run Try.prog (W.alloc (.cells zs16 30)) = .ok () (W.alloc (.cells csL 30)) := by
  have h := run_storeVar_new (P := Try.prog) W 30 zs16 csL (by kernel_rfl) (by kernel_rfl) (by kernel_rfl)
  simp only [Instr.storeAt, Instr.sureAddr, Sem.run_bind, Sem.run_pure, Result.andThen_ok, h]
set_option maxHeartbeats 4000000 in
set_option maxRecDepth 100000 in
theorem window_calls (b off c0 : Nat) (l0 : List Int) (s : ByteArray) (k : Int) (hk : (s = ⟨#[97]⟩ ∧ k = 0) ∨ (s = ⟨#[98]⟩ ∧ k = 1)) (w : World) (hr0 : Kd.C (Kd.int .u8) w (some ⟨b, off, none⟩) l0.length l0) (hl : l0.length = 2560) (hT : l0.take 512 = LAB) (hc : l0.length ≤ c0) :
    Calls Try.prog 5 #[.slice (some ⟨b, off, none⟩) 2560 c0, .string s] w fun e w' => e = .returned (.tuple #[.int .i64 (baseW k), .int .i64 (sizeW k), .int .i64 0]) ∧ Below w.heap.size w w' := by
  have hform : ∀ X, Below w.heap.size w X → Calls Try.prog 12 #[.slice (some ⟨b, off, none⟩) 2560 c0] X fun e w' => e = .returned (.bool true) ∧ Drawn0 X w' := fun X hX => by
    have h := block_Formed.calls (some ⟨b, off, none⟩) c0 l0 true X (Kd.C_below hr0 hX) hc (by unfold block_Formed.f; rw [hl]; decide +kernel)
    rw [hl] at h
    exact h
  have hsel : ∀ X, Calls Try.prog 13 #[.string s] X fun e w' => e = .returned (.tuple #[.int .i64 k, .string ⟨#[]⟩, .int .i64 0]) ∧ Drawn0 X w' := fun X => select_calls s k X hk
  have hpar : ∀ X, Below w.heap.size w X → Calls Try.prog 9 #[.slice (some ⟨b, off, none⟩) 512 c0] X fun e w' => e = .returned (.tuple #[.agg csL, .int .i64 0]) ∧ Below X.heap.size X w' := fun X hX =>
    parse_lab b off c0 l0 X (Kd.C_below hr0 hX) (by omega) hT hc
  have hcc : 2560 ≤ c0 := by omega
  have hz : ∀ X : World, ∀ i, (X.alloc (.cells csL 30)).cell? ⟨X.heap.size, i, none⟩ = csL[i]? := fun X i => blk_cell (blk_new X (.cells csL 30)) i
  have z0 : ∀ X : World, (X.alloc (.cells csL 30)).cell? ⟨X.heap.size, 0, none⟩ = some (.int .u32 1) := fun X => (hz X 0).trans rfl
  have z1 : ∀ X : World, (X.alloc (.cells csL 30)).cell? ⟨X.heap.size, 1, none⟩ = some (.int .u32 2) := fun X => (hz X 1).trans rfl
  have z2 : ∀ X : World, (X.alloc (.cells csL 30)).cell? ⟨X.heap.size, 2, none⟩ = some (.int .u32 3) := fun X => (hz X 2).trans rfl
  have z3 : ∀ X : World, (X.alloc (.cells csL 30)).cell? ⟨X.heap.size, 3, none⟩ = some (.int .u32 1) := fun X => (hz X 3).trans rfl
  clear hr0 hT hc hz
  rcases hk with ⟨rfl, rfl⟩ | ⟨rfl, rfl⟩
  all_goals (
    go_enter Try.func5, Try.ntmps5
    go_upto_region 1 with (fail)
    have hb0 := Below.refl w.heap.size w
    go_wp2_with (first | (go_at_call 12; refine (hform _ hb0).mono ?_; rintro e w1 ⟨rfl, ⟨m1, rfl⟩⟩; have hb1 := pw_below_drewN hb0 m1) | (go_at_call 13; refine (hsel _).mono ?_; rintro e w2 ⟨rfl, ⟨m2, rfl⟩⟩) | (go_at_call 9; refine (hpar _ (pw_below_drewN hb0 _)).mono ?_; rintro e W5 ⟨rfl, hb5⟩; have hB5 := below_then (pw_below_drewN hb0 (m1 + m2)) (Nat.le_refl _) hb5) | (refine wpList_store_run rfl rfl 30 (.tmp 10) (.tmp 38) rfl ⟨_, 0, none⟩ (.agg csL) _ rfl rfl (store_lab _) ?_)))
  all_goals (
    go_region
    all_goals go_wp2
    all_goals (
      refine bodyPost_ret (results_tmp3 rfl _ _ _) rfl ?_
      refine ⟨rfl, ?_⟩
      repeat (first | exact hB5 | refine below_drew ?_ | refine below_alloc ?_ _ | refine pw_below_drewN ?_ _ | refine below_set ?_ ?_)))
end Go.Proofs.Ytdobpgomgnaleaa.P
