import Derived.RangeFuncNested
import Derived.RangeFuncBound
import Derived.RangeFuncCalls
import Derived.RangeFuncLeaves
import Derived.Shelf.Abstract
import Derived.Shelf.RegionOpen
import Derived.WalkKit
import Derived.OwnWalkIn
import Derived.TacticsInMore
import Derived.LoopNIn
import Derived.LoopIn
import Derived.RangeFuncBox
import Derived.RangeFuncFrom
import Derived.RangeFuncWrites
import Derived.Maps.AppendAt
import Derived.Stop.RegionWithIn
import Derived.Lib.AppendZeros
import Derived.Deep.WholeRow
import Derived.Test.YtdobpgomgnaleaaN2
import Derived.Test.YtdobpgomgnaleaaN3
import Derived.Test.YtdobpgomgnaleaaN4
import Derived.Test.YtdobpgomgnaleaaN6
import Derived.Test.YtdobpgomgnaleaaN7
import Derived.Test.YtdobpgomgnaleaaN8
import Derived.Test.YtdobpgomgnaleaaN9
import Derived.Test.YtdobpgomgnaleaaN10
import Derived.Test.YtdobpgomgnaleaaN11
import Derived.Test.YtdobpgomgnaleaaN12
import Derived.Test.YtdobpgomgnaleaaN13
import Derived.Shelf.Spec.SlicesInsertGrow
namespace Go.Proofs.Ytdobpgomgnaleaa.P
open Go.RowKit Go.Shelf Go.Proofs.YtdobpgomgnaleaaW.PrintWords
attribute [local go_sem] Oper.semAt_some
set_option linter.unusedVariables false
set_option linter.unusedSimpArgs false
structure WR where
  s : Bool
  at_ : Int
  A : Option Addr
  c : Nat
  data : List Int
/-- The list of what is put, as it lies in memory. -/
def Lies (w : World) (A0 : Option Addr) (l : List WR) : Prop := ∀ (i : Nat) (x : WR), l[i]? = some x → ∃ ad, A0 = some ad ∧ w.cell? (ad.add (i * 3)) = some (.bool x.s) ∧ w.cell? ⟨(ad.add (i * 3)).block, (ad.add (i * 3)).off + 1, none⟩ = some (.int .i64 x.at_) ∧ w.cell? ⟨(ad.add (i * 3)).block, (ad.add (i * 3)).off + 2, none⟩ = some (.slice x.A x.data.length x.c) ∧ Kd.C (Kd.int .u8) w x.A x.data.length x.data ∧ x.data.length ≤ x.c
def dOf (f1 f2 : List Int) : List Int := LAB ++ f1 ++ f2 ++ List.replicate 512 0
def zs1 : List Int := List.replicate 1024 0
def zs2 : List Int := List.replicate 512 0
theorem zs_len1 : zs1.length = 1024 := List.length_replicate
theorem zs_len2 : zs2.length = 512 := List.length_replicate
theorem dOf_len {f1 f2 : List Int} (h1 : f1.length = 1024) (h2 : f2.length = 512) : (dOf f1 f2).length = 2560 := by
  unfold dOf
  rw [List.length_append, List.length_append, List.length_append, LAB_len, h1, h2, List.length_replicate]
theorem dOf_take (f1 f2 : List Int) : (dOf f1 f2).take 512 = LAB := by
  unfold dOf
  rw [List.append_assoc, List.append_assoc, List.take_append_of_le_length (by rw [LAB_len]; exact Nat.le_refl _), List.take_of_length_le (by rw [LAB_len]; exact Nat.le_refl _)]
theorem dOf_zero : LAB ++ List.replicate (2048 : Int).toNat (0 : Int) = dOf zs1 zs2 := by
  unfold dOf zs1 zs2
  rw [List.append_assoc, List.append_assoc, List.replicate_append_replicate, List.replicate_append_replicate]
  rfl
theorem R_lab {W w : World} {g : Nat} (hg : W.heap[g]? = some (.cells (arrM 512) 5 (0, 0))) (hge : w.heap.size ≤ g) : Kd.R (Kd.int .u8) 5 W w.heap.size (fun _ => True) (.slice (some ⟨g, 0, none⟩) 512 512) LAB := by
  have ho := own_lab (base := w.heap.size) hg (Nat.le_refl _) hge
  have e : LAB.take 512 = LAB := List.take_of_length_le (by rw [LAB_len]; exact Nat.le_refl _)
  rw [e] at ho
  exact Kd.R_of_own (by rw [LAB_len]; exact ho) (fun _ _ => trivial)
theorem d_out {W : World} {B : Nat} {v : Value} (h : Kd.R (Kd.int .u8) 5 W B (fun _ => True) v (LAB ++ List.replicate (2048 : Int).toNat (0 : Int))) : ∃ g cap, v = .slice (some ⟨g, 0, none⟩) 2560 cap ∧ 2560 ≤ cap ∧ Kd.R (Kd.int .u8) 5 W B (fun _ => True) (.slice (some ⟨g, 0, none⟩) 2560 cap) (dOf zs1 zs2) ∧ g < W.heap.size := by
  rw [dOf_zero] at h
  have hl := dOf_len zs_len1 zs_len2
  obtain ⟨g, cap, rfl, hcap⟩ := R_out h (by omega)
  have hlt := ((Kd.own_of_R h).lt g rfl).2
  rw [hl] at hcap h ⊢
  exact ⟨g, cap, rfl, hcap, h, hlt⟩
def zM (n : Nat) : Array Value := ((List.replicate n (0 : Int)).map (Value.int .u8)).toArray
theorem made_z (n : Nat) : madeCells (Value.int .u8 0).cells n = zM n := by
  unfold madeCells zM
  apply Array.ext
  · simp
  · intro i h1 h2
    simp [Value.cells, Nat.mod_one]
theorem make_z (n : Nat) (h : n ≤ 5000) (W : World) : (Instr.makeSlice 23 (.int .i64 (n : Int)) (.int .i64 (n : Int))).run Try.prog W = .ok (.slice (some ⟨W.heap.size, 0, none⟩) n n) (W.alloc (.cells (zM n) 5)) := by
  obtain ⟨i0, hi0, hz0, hz1, hz2⟩ := info_parts (show (Try.prog.info? 5).map (fun i => (i.zero, i.size, i.bytes)) = some (some (.int .u8 0), 1, 1) by kernel_rfl)
  have h := run_make (P := Try.prog) W 23 5 i0 (.int .u8 0) Try.underlying23 hi0 hz0 .i64 .i64 (n : Int) (n : Int) (by omega) (by omega) (by rw [hz2]; omega) (by omega)
  rw [hz1, Int.toNat_natCast, Nat.mul_one, made_z] at h
  exact h
theorem R_z {W : World} {g n B : Nat} (hg : W.heap[g]? = some (.cells (zM n) 5 (0, 0))) (hge : B ≤ g) (hn : n ≤ 5000) : Kd.R (Kd.int .u8) 5 W B (fun _ => True) (.slice (some ⟨g, 0, none⟩) n n) (List.replicate n 0) := by
  have hl : (List.replicate n (0 : Int)).length = n := List.length_replicate
  refine Kd.R_of_own ?_ (fun _ _ => trivial)
  rw [hl]
  refine ⟨by unfold encs; rw [List.length_map, hl, Nat.mul_one], .inr ⟨g, n, zM n, rfl, hge, hg, Nat.le_refl _, Nat.le_trans hn (by decide), by unfold zM; rw [List.size_toArray, List.length_map, hl, Nat.mul_one], ?_⟩⟩
  unfold zM encs
  rw [List.take_of_length_le (by rw [List.length_map, hl]; omega)]
theorem two_rows (W3 : World) (n1 n2 B : Nat) (hB : B ≤ W3.heap.size) (h1 : n1 ≤ 5000) (h2 : n2 ≤ 5000) :
    Kd.R (Kd.int .u8) 5 (((W3.alloc (.cells (zM n1) 5)).alloc (.cells (zM n2) 5)).drew) B (fun _ => True) (.slice (some ⟨W3.heap.size, 0, none⟩) n1 n1) (List.replicate n1 0) ∧
    Kd.R (Kd.int .u8) 5 (((W3.alloc (.cells (zM n1) 5)).alloc (.cells (zM n2) 5)).drew) B (fun _ => True) (.slice (some ⟨W3.heap.size + 1, 0, none⟩) n2 n2) (List.replicate n2 0) ∧
    Below W3.heap.size W3 (((W3.alloc (.cells (zM n1) 5)).alloc (.cells (zM n2) 5)).drew) ∧ W3.heap.size + 2 ≤ (((W3.alloc (.cells (zM n1) 5)).alloc (.cells (zM n2) 5)).drew).heap.size := by
  have hb := below_alloc (below_alloc (Below.refl W3.heap.size W3) (.cells (zM n1) 5)) (.cells (zM n2) 5)
  have a1 := blk_alloc (blk_new W3 (.cells (zM n1) 5)) (.cells (zM n2) 5)
  have a2 := blk_new (W3.alloc (.cells (zM n1) 5)) (.cells (zM n2) 5)
  rw [World.size_alloc] at a2
  refine ⟨R_z (W := ((W3.alloc (.cells (zM n1) 5)).alloc (.cells (zM n2) 5)).drew) a1 hB h1, R_z (W := ((W3.alloc (.cells (zM n1) 5)).alloc (.cells (zM n2) 5)).drew) a2 (by omega) h2, below_drew hb, ?_⟩
  show W3.heap.size + 2 ≤ ((W3.alloc (.cells (zM n1) 5)).alloc (.cells (zM n2) 5)).heap.size
  rw [World.size_alloc, World.size_alloc]
  omega
end Go.Proofs.Ytdobpgomgnaleaa.P
