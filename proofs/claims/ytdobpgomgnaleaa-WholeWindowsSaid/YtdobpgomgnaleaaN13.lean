import Derived.RangeFuncNested
import Derived.RangeFuncBound
import Derived.RangeFuncCalls
import Derived.RangeFuncLeaves
import Derived.Shelf.Abstract
import Derived.Shelf.RegionOpen
import Derived.WalkKit
import Derived.OwnWalkIn
import Derived.TacticsInMore
import Derived.LoopNIn
import Derived.LoopIn
import Derived.RangeFuncBox
import Derived.RangeFuncFrom
import Derived.RangeFuncWrites
import Derived.Maps.AppendAt
import Derived.Stop.RegionWithIn
import Derived.Lib.AppendZeros
import Derived.Deep.WholeRow
import Derived.Test.YtdobpgomgnaleaaN2
import Derived.Test.YtdobpgomgnaleaaN3
import Derived.Test.YtdobpgomgnaleaaN4
import Derived.Test.YtdobpgomgnaleaaN6
import Derived.Test.YtdobpgomgnaleaaN7
import Derived.Test.YtdobpgomgnaleaaN8
import Derived.Test.YtdobpgomgnaleaaN9
import Derived.Test.YtdobpgomgnaleaaN10
import Derived.Test.YtdobpgomgnaleaaN11
import Derived.Test.YtdobpgomgnaleaaN12
import Derived.Shelf.Spec.SlicesInsertGrow
namespace Go.Proofs.Ytdobpgomgnaleaa.P
open Go.RowKit Go.Shelf Go.Proofs.YtdobpgomgnaleaaW.PrintWords
attribute [local go_sem] Oper.semAt_some
set_option linter.unusedVariables false
set_option linter.unusedSimpArgs false
theorem arrM_list (n : Nat) : (arrM n).toList = (LAB.take n).map (Value.int .u8) ++ List.replicate (512 - n) (Value.int .u8 0) := rfl
theorem arrM_step (n m : Nat) (h : n + m ≤ 512) : ((arrM n).toList.take n ++ ((LAB.take (n + m)).drop n).map (Value.int .u8) ++ (arrM n).toList.drop (n + m)).toArray = arrM (n + m) := by
  have hl : (LAB.take n).length = n := by rw [List.length_take, LAB_len]; omega
  have hm : ((LAB.take n).map (Value.int .u8)).length = n := by rw [List.length_map, hl]
  rw [arrM_list]
  unfold arrM
  have hd : ((LAB.take n).map (Value.int .u8)).drop (n + m) = [] := List.drop_eq_nil_of_le (by omega)
  rw [List.take_append_of_le_length (by omega), List.take_of_length_le (by omega), List.drop_append, hd, List.nil_append, hm, List.drop_replicate, ← List.map_append]
  have e : LAB.take n ++ (LAB.take (n + m)).drop n = LAB.take (n + m) := by
    rw [show LAB.take n = (LAB.take (n + m)).take n by rw [List.take_take, Nat.min_eq_left (by omega)], List.take_append_drop]
  rw [e, show 512 - n - (n + m - n) = 512 - (n + m) by omega]
theorem app4 (n n' : Nat) (a : Int) (hn : n' = n + 4) (hd : (LAB.take (n + 4)).drop n = [0, 0, 0, a]) (h : n + 4 ≤ 512) : ((arrM n).toList.take n ++ [Value.int .u8 0, .int .u8 0, .int .u8 0, .int .u8 a] ++ (arrM n).toList.drop (n + 4)).toArray = arrM n' := by
  subst hn
  have h2 := arrM_step n 4 h
  rw [hd] at h2
  exact h2
theorem arrM_508 : arrM 64 = arrM 508 := by
  unfold arrM
  have h1 : ∀ k, List.replicate k (Value.int .u8 0) = (List.replicate k (0 : Int)).map (Value.int .u8) := fun k => (List.map_replicate (f := Value.int .u8) (a := (0 : Int)) (n := k)).symm
  rw [h1, h1, ← List.map_append, ← List.map_append, show LAB.take 64 ++ List.replicate (512 - 64) 0 = LAB.take 508 ++ List.replicate (512 - 508) 0 by decide +kernel]
theorem app2 (n n' : Nat) (a c : Int) (hn : n' = n + 2) (hd : (LAB.take (n + 2)).drop n = [a, c]) (h : n + 2 ≤ 512) : ((arrM n).toList.take n ++ [Value.int .u8 a, .int .u8 c] ++ (arrM n).toList.drop (n + 2)).toArray = arrM n' := by
  subst hn
  have h2 := arrM_step n 2 h
  rw [hd] at h2
  exact h2
theorem cross_510 : crossR (LAB.take 510) false 0 0 = (218, 191) := by decide +kernel
theorem lab_508 : (LAB.take (508 + 2)).drop 508 = [218, 190] := by decide +kernel
theorem lab_510 : (LAB.take (510 + 2)).drop 510 = [218, 191] := by decide +kernel
theorem one4 (a b c d : Int) : ∀ u ∈ [Value.int .u8 a, .int .u8 b, .int .u8 c, .int .u8 d], u.oneCell' = true := by
  intro u hu
  simp only [List.mem_cons, List.not_mem_nil, or_false] at hu
  rcases hu with rfl | rfl | rfl | rfl <;> rfl
theorem one2 (a b : Int) : ∀ u ∈ [Value.int .u8 a, .int .u8 b], u.oneCell' = true := by
  intro u hu
  simp only [List.mem_cons, List.not_mem_nil, or_false] at hu
  rcases hu with rfl | rfl <;> rfl
theorem lab_0 : (LAB.take (0 + 4)).drop 0 = [0, 0, 0, 1] := by decide +kernel
theorem lab_4 : (LAB.take (4 + 4)).drop 4 = [0, 0, 0, 2] := by decide +kernel
theorem lab_8 : (LAB.take (8 + 4)).drop 8 = [0, 0, 0, 3] := by decide +kernel
theorem lab_12 : (LAB.take (12 + 4)).drop 12 = [0, 0, 0, 1] := by decide +kernel
theorem lab_16 : (LAB.take (16 + 4)).drop 16 = [0, 0, 0, 0] := by decide +kernel
theorem lab_20 : (LAB.take (20 + 4)).drop 20 = [0, 0, 0, 0] := by decide +kernel
theorem lab_24 : (LAB.take (24 + 4)).drop 24 = [0, 0, 0, 0] := by decide +kernel
theorem lab_28 : (LAB.take (28 + 4)).drop 28 = [0, 0, 0, 0] := by decide +kernel
theorem lab_32 : (LAB.take (32 + 4)).drop 32 = [0, 0, 0, 0] := by decide +kernel
theorem lab_36 : (LAB.take (36 + 4)).drop 36 = [0, 0, 0, 0] := by decide +kernel
theorem lab_40 : (LAB.take (40 + 4)).drop 40 = [0, 0, 0, 0] := by decide +kernel
theorem lab_44 : (LAB.take (44 + 4)).drop 44 = [0, 0, 0, 0] := by decide +kernel
theorem lab_48 : (LAB.take (48 + 4)).drop 48 = [0, 0, 0, 0] := by decide +kernel
theorem lab_52 : (LAB.take (52 + 4)).drop 52 = [0, 0, 0, 0] := by decide +kernel
theorem lab_56 : (LAB.take (56 + 4)).drop 56 = [0, 0, 0, 0] := by decide +kernel
theorem lab_60 : (LAB.take (60 + 4)).drop 60 = [0, 0, 0, 0] := by decide +kernel
theorem cells_of {W : World} {g : Nat} {t : TypeId} {cs : Array Value} (h : W.heap[g]? = some (.cells cs t (0, 0))) : ∀ (j : Nat) (u : Value), cs.toList[j]? = some u → W.cell? ((⟨g, 0, none⟩ : Addr).add j) = some u := fun j u hj => by
  rw [addr_add, Nat.zero_add, blk_cell h j, ← Array.getElem?_toList]
  exact hj
theorem C_lab {W : World} {g n : Nat} (hg : W.heap[g]? = some (.cells (arrM n) 5 (0, 0))) (hn : n ≤ 512) : Kd.C (Kd.int .u8) W (some ⟨g, 0, none⟩) (LAB.take n).length (LAB.take n) := by
  have ho := own_lab (base := 0) hg hn (Nat.zero_le _)
  have hl : (LAB.take n).length = n := by rw [List.length_take, LAB_len]; omega
  have hR : Kd.R (Kd.int .u8) 5 W 0 (fun _ => True) (.slice (some ⟨g, 0, none⟩) n 512) (LAB.take n) := Kd.R_of_own (by rw [hl]; exact ho) (fun _ _ => trivial)
  exact (Kd.R_reads' hR).2.2
set_option maxHeartbeats 4000000 in
set_option maxRecDepth 100000 in
theorem make_calls (w : World) : Calls Try.prog 4 #[.agg csL] w fun e w' => ∃ g, e = .returned (.tuple #[.slice (some ⟨g, 0, none⟩) 512 512, .int .i64 0]) ∧ w.heap.size ≤ g ∧ w'.heap[g]? = some (.cells (arrM 512) 5 (0, 0)) ∧ Below w.heap.size w w' := by
  go_enter Try.func4, Try.ntmps4
  go_upto_region 2 with ((at_make; refine wpList_make_run rfl _ _ 23 rfl _ _ rfl rfl (make_lab _) ?_))
  have hk0 := blk_alloc (blk_new w (.cells csL 30)) (.cells (arrM 0) 5)
  have hM := blk_new (w.alloc (.cells csL 30)) (.cells (arrM 0) 5)
  rw [World.size_alloc] at hM
  have hB := below_alloc (below_alloc (Below.refl w.heap.size w) (.cells csL 30)) (.cells (arrM 0) 5)
  obtain ⟨gb, hgb⟩ : ∃ gb, gb = w.heap.size + 1 := ⟨_, rfl⟩
  obtain ⟨W1, hW1⟩ : ∃ W1, W1 = (w.alloc (.cells csL 30)).alloc (.cells (arrM 0) 5) := ⟨_, rfl⟩
  rw [← hgb] at hM ⊢
  rw [← hW1] at hM hB hk0 ⊢
  have hge : w.heap.size ≤ gb := by omega
  have HK0 := Aside0.mk hk0
  have HM := Aside0.mk hM
  have HB := Aside0.mk hB
  have HGE := Aside0.mk hge
  clear hk0 hM hB hge hgb hW1
  go_upto_region 3 with (first | ((with_reducible refine gate_dst (N := 9) rfl ?_); refine wpList_load_row rfl 30 (.tmp 1) rfl w.heap.size rfl 30 csL (0, 0) _ HK0.out Try.underlying30 rfl (by kernel_rfl) ?_))
  go_loopg [10, 4] 8 (fun kq v10 v4 w' => ∃ (j : Nat) (jz : Int) (n : Nat), v10 = .int .i64 jz ∧ v4 = .slice (some ⟨gb, 0, none⟩) n 512 ∧ Aside0 (jz = j) ∧ Aside0 (n = 8 * j) ∧ Aside0 (j + kq = 8) ∧ Aside0 (w'.heap[gb]? = some (.cells (arrM n) 5 (0, 0))) ∧ Aside0 (Below w.heap.size w w'))
  case atStart => exact ⟨0, 0, 0, rfl, rfl, ⟨rfl⟩, ⟨rfl⟩, ⟨rfl⟩, HM, HB⟩
  case round =>
    clear HM HB HK0
    obtain ⟨j, jz, n, rfl, rfl, HZ, HN, HJ, HM, HB⟩ := hrel
    cases gk with
    | zero =>
      obtain rfl : j = 8 := by have := HJ.out; omega
      obtain rfl : jz = 8 := HZ.out
      obtain rfl : n = 64 := HN.out
      clear HZ HN HJ
      have hM := HM.out
      rw [arrM_508] at hM
      have hM1 := blk_alloc hM (.cells #[.int .u8 218, .int .u8 190] 5)
      have hN1 := blk_new wr (.cells #[.int .u8 218, .int .u8 190] 5)
      have hB1 := below_alloc HB.out (.cells #[.int .u8 218, .int .u8 190] 5)
      obtain ⟨W1, hW1⟩ : ∃ W1, W1 = wr.alloc (.cells #[.int .u8 218, .int .u8 190] 5) := ⟨_, rfl⟩
      rw [← hW1] at hM1 hN1 hB1
      have hM2 := setRow_heap W1 gb (arrM 508) (arrM 510) 5 (0, 0) hM1
      have hB2 := below_setRow hB1 (arrM 510) HGE.out
      have hC2 := C_lab hM2 (by decide)
      have hlen : (LAB.take 510).length = 510 := by decide +kernel
      have hcr := label_cross.calls (some ⟨gb, 0, none⟩) 512 (LAB.take 510) 218 191 (W1.setRow gb (arrM 510)) hC2 (by rw [hlen]; decide) (by unfold label_cross.f; rw [cross_510])
      rw [hlen] at hcr
      have HM1 := Aside0.mk hM1
      have HN1 := Aside0.mk hN1
      have HM2 := Aside0.mk hM2
      have HB2 := Aside0.mk hB2
      have HCR := Aside0.mk hcr
      have HW1 := Aside0.mk hW1
      clear hM hM1 hN1 hB1 hW1 hM2 hB2 hC2 hcr hlen HM HB
      go_upto_region 11 with (at_builtin; refine Lib.wpList_append_run _ rfl _ _ _ _ rfl _ _ rfl rfl _ _ (by rw [← HW1.out]; exact app_lab W1 gb 508 2 508 510 HM1.out (by decide) ⟨wr.heap.size, 0, none⟩ 2 [.int .u8 218, .int .u8 190] rfl (cells_of HN1.out) (one2 _ _) (by decide) (app2 508 510 218 190 rfl lab_508 (by decide))) ?_)
      go_upto_region 12 with (first | (go_at_call 11; refine HCR.out.mono ?_; rintro e W3 ⟨rfl, hb3⟩) | (refine wpList_store_run rfl rfl 42 (.tmp 7) (.tmp 37) rfl ⟨W3.heap.size, 0, none⟩ (.agg #[.int .u8 218, .int .u8 191]) _ rfl rfl (store42 W3 218 191) ?_))
      have hM3 := blk_alloc (blk_below HM2.out hb3) (.cells #[.int .u8 218, .int .u8 191] 42)
      have hN3 := blk_new W3 (.cells #[.int .u8 218, .int .u8 191] 42)
      have hB3 := below_alloc (below_then HB2.out HB2.out.size hb3) (.cells #[.int .u8 218, .int .u8 191] 42)
      have HM3 := Aside0.mk hM3
      have HN3 := Aside0.mk hN3
      have HB3 := Aside0.mk hB3
      clear hM3 hN3 hB3 hb3
      go_wp2_with (at_builtin; refine Lib.wpList_append_run _ rfl _ _ _ _ rfl _ _ rfl rfl _ _ (app_lab _ gb 510 2 510 512 HM3.out (by decide) ⟨W3.heap.size, 0, none⟩ 2 [.int .u8 218, .int .u8 191] rfl (cells_of HN3.out) (one2 _ _) (by decide) (app2 510 512 218 191 rfl lab_510 (by decide))) ?_)
      refine bodyPost_ret (results_tmp2 rfl _ _ _) rfl ?_
      exact ⟨gb, rfl, HGE.out, setRow_heap _ gb (arrM 510) (arrM 512) 5 (0, 0) HM3.out, below_setRow HB3.out (arrM 512) HGE.out⟩
    | succ kk =>
      have hj8 : j < 8 := by have := HJ.out; omega
      have hgw : gb < wr.heap.size := blk_lt HM.out
      rcases (show j = 0 ∨ j = 1 ∨ j = 2 ∨ j = 3 ∨ j = 4 ∨ j = 5 ∨ j = 6 ∨ j = 7 by omega) with rfl | rfl | rfl | rfl | rfl | rfl | rfl | rfl
      · obtain rfl : jz = 0 := HZ.out
        obtain rfl : n = 0 := HN.out
        have hM := blk_alloc HM.out (.cells #[.int .u32 1, .int .u32 2] 29)
        have hk := blk_new wr (.cells #[.int .u32 1, .int .u32 2] 29)
        have hB := below_alloc HB.out (.cells #[.int .u32 1, .int .u32 2] 29)
        have x0 : (wr.alloc (.cells #[.int .u32 1, .int .u32 2] 29)).cell? ⟨wr.heap.size, 0, none⟩ = some (.int .u32 1) := (blk_cell hk 0).trans rfl
        have x1 : (wr.alloc (.cells #[.int .u32 1, .int .u32 2] 29)).cell? ⟨wr.heap.size, 1, none⟩ = some (.int .u32 2) := (blk_cell hk 1).trans rfl
        have HM0 := Aside0.mk hM
        have HK := Aside0.mk hk
        have HB0 := Aside0.mk hB
        clear hM hk hB HM HB
        have hidx : ∀ X, (Instr.index 30 (.agg csL) (.int .i64 0)).run Try.prog X = .ok (.agg #[.int .u32 1, .int .u32 2]) X := fun X => by kernel_rfl
        go_upto_region 8 with (first
          | (refine wpList_store_run rfl rfl 29 (.tmp 6) (.tmp 12) rfl ⟨wr.heap.size, 0, none⟩ (.agg #[.int .u32 1, .int .u32 2]) _ rfl rfl (store29 wr 1 2) ?_)
          | (go_at_call 10; refine (enc_calls 1 (by decide) (by decide) _).mono ?_; rintro e W3 ⟨ge, ce, rfl, hE, hbE⟩; have HM1 := Aside0.mk (blk_below HM0.out hbE); have HB1 := Aside0.mk (below_then HB0.out HB0.out.size hbE); have HK1 := Aside0.mk (blk_below HK.out hbE); have HE := Aside0.mk hE; clear HM0 HB0 HK hE hbE x0 x1)
          | (at_builtin; refine Lib.wpList_append_run _ rfl _ _ _ _ rfl _ _ rfl rfl _ _ (app_lab _ gb 0 4 0 4 HM1.out (by decide) ⟨ge, 0, none⟩ ce _ rfl (HE.out.cells rfl) (one4 _ _ _ _) (by decide) (app4 0 4 1 rfl lab_0 (by decide))) ?_; have HM2 := Aside0.mk (setRow_heap W3 gb (arrM 0) (arrM 4) 5 (0, 0) HM1.out); have HK2 := Aside0.mk ((setRow_other W3 gb wr.heap.size (arrM 4) (by omega)).trans HK1.out); have HB2 := Aside0.mk (below_setRow HB1.out (arrM 4) HGE.out); have x1 := (blk_cell HK2.out 1).trans (show _ = some (Value.int .u32 2) from rfl); clear HM1 HB1 HK1 HE))
        go_wp2_with (first
          | (go_at_call 10; refine (enc_calls 2 (by decide) (by decide) _).mono ?_; rintro e W5 ⟨ge, ce, rfl, hE, hbE⟩; have HM3 := Aside0.mk (blk_below HM2.out hbE); have HB3 := Aside0.mk (below_then HB2.out HB2.out.size hbE); have HE := Aside0.mk hE; clear HM2 HB2 HK2 hE hbE x1)
          | (at_builtin; refine Lib.wpList_append_run _ rfl _ _ _ _ rfl _ _ rfl rfl _ _ (app_lab _ gb 4 4 4 8 HM3.out (by decide) ⟨ge, 0, none⟩ ce _ rfl (HE.out.cells rfl) (one4 _ _ _ _) (by decide) (app4 4 8 2 rfl lab_4 (by decide))) ?_; have HM4 := Aside0.mk (setRow_heap W5 gb (arrM 4) (arrM 8) 5 (0, 0) HM3.out); have HB4 := Aside0.mk (below_setRow HB3.out (arrM 8) HGE.out); clear HM3 HB3 HE))
        go_roundg kk
        case measure => omega
        case rel => exact ⟨1, 1, 8, rfl, rfl, ⟨rfl⟩, ⟨rfl⟩, ⟨by have := HJ.out; omega⟩, HM4, HB4⟩
      · obtain rfl : jz = 1 := HZ.out
        obtain rfl : n = 8 := HN.out
        have hM := blk_alloc HM.out (.cells #[.int .u32 3, .int .u32 1] 29)
        have hk := blk_new wr (.cells #[.int .u32 3, .int .u32 1] 29)
        have hB := below_alloc HB.out (.cells #[.int .u32 3, .int .u32 1] 29)
        have x0 : (wr.alloc (.cells #[.int .u32 3, .int .u32 1] 29)).cell? ⟨wr.heap.size, 0, none⟩ = some (.int .u32 3) := (blk_cell hk 0).trans rfl
        have x1 : (wr.alloc (.cells #[.int .u32 3, .int .u32 1] 29)).cell? ⟨wr.heap.size, 1, none⟩ = some (.int .u32 1) := (blk_cell hk 1).trans rfl
        have HM0 := Aside0.mk hM
        have HK := Aside0.mk hk
        have HB0 := Aside0.mk hB
        clear hM hk hB HM HB
        have hidx : ∀ X, (Instr.index 30 (.agg csL) (.int .i64 1)).run Try.prog X = .ok (.agg #[.int .u32 3, .int .u32 1]) X := fun X => by kernel_rfl
        go_upto_region 8 with (first
          | (refine wpList_store_run rfl rfl 29 (.tmp 6) (.tmp 12) rfl ⟨wr.heap.size, 0, none⟩ (.agg #[.int .u32 3, .int .u32 1]) _ rfl rfl (store29 wr 3 1) ?_)
          | (go_at_call 10; refine (enc_calls 3 (by decide) (by decide) _).mono ?_; rintro e W3 ⟨ge, ce, rfl, hE, hbE⟩; have HM1 := Aside0.mk (blk_below HM0.out hbE); have HB1 := Aside0.mk (below_then HB0.out HB0.out.size hbE); have HK1 := Aside0.mk (blk_below HK.out hbE); have HE := Aside0.mk hE; clear HM0 HB0 HK hE hbE x0 x1)
          | (at_builtin; refine Lib.wpList_append_run _ rfl _ _ _ _ rfl _ _ rfl rfl _ _ (app_lab _ gb 8 4 8 12 HM1.out (by decide) ⟨ge, 0, none⟩ ce _ rfl (HE.out.cells rfl) (one4 _ _ _ _) (by decide) (app4 8 12 3 rfl lab_8 (by decide))) ?_; have HM2 := Aside0.mk (setRow_heap W3 gb (arrM 8) (arrM 12) 5 (0, 0) HM1.out); have HK2 := Aside0.mk ((setRow_other W3 gb wr.heap.size (arrM 12) (by omega)).trans HK1.out); have HB2 := Aside0.mk (below_setRow HB1.out (arrM 12) HGE.out); have x1 := (blk_cell HK2.out 1).trans (show _ = some (Value.int .u32 1) from rfl); clear HM1 HB1 HK1 HE))
        go_wp2_with (first
          | (go_at_call 10; refine (enc_calls 1 (by decide) (by decide) _).mono ?_; rintro e W5 ⟨ge, ce, rfl, hE, hbE⟩; have HM3 := Aside0.mk (blk_below HM2.out hbE); have HB3 := Aside0.mk (below_then HB2.out HB2.out.size hbE); have HE := Aside0.mk hE; clear HM2 HB2 HK2 hE hbE x1)
          | (at_builtin; refine Lib.wpList_append_run _ rfl _ _ _ _ rfl _ _ rfl rfl _ _ (app_lab _ gb 12 4 12 16 HM3.out (by decide) ⟨ge, 0, none⟩ ce _ rfl (HE.out.cells rfl) (one4 _ _ _ _) (by decide) (app4 12 16 1 rfl lab_12 (by decide))) ?_; have HM4 := Aside0.mk (setRow_heap W5 gb (arrM 12) (arrM 16) 5 (0, 0) HM3.out); have HB4 := Aside0.mk (below_setRow HB3.out (arrM 16) HGE.out); clear HM3 HB3 HE))
        go_roundg kk
        case measure => omega
        case rel => exact ⟨2, 2, 16, rfl, rfl, ⟨rfl⟩, ⟨rfl⟩, ⟨by have := HJ.out; omega⟩, HM4, HB4⟩
      · obtain rfl : jz = 2 := HZ.out
        obtain rfl : n = 16 := HN.out
        have hM := blk_alloc HM.out (.cells #[.int .u32 0, .int .u32 0] 29)
        have hk := blk_new wr (.cells #[.int .u32 0, .int .u32 0] 29)
        have hB := below_alloc HB.out (.cells #[.int .u32 0, .int .u32 0] 29)
        have x0 : (wr.alloc (.cells #[.int .u32 0, .int .u32 0] 29)).cell? ⟨wr.heap.size, 0, none⟩ = some (.int .u32 0) := (blk_cell hk 0).trans rfl
        have x1 : (wr.alloc (.cells #[.int .u32 0, .int .u32 0] 29)).cell? ⟨wr.heap.size, 1, none⟩ = some (.int .u32 0) := (blk_cell hk 1).trans rfl
        have HM0 := Aside0.mk hM
        have HK := Aside0.mk hk
        have HB0 := Aside0.mk hB
        clear hM hk hB HM HB
        have hidx : ∀ X, (Instr.index 30 (.agg csL) (.int .i64 2)).run Try.prog X = .ok (.agg #[.int .u32 0, .int .u32 0]) X := fun X => by kernel_rfl
        go_upto_region 8 with (first
          | (refine wpList_store_run rfl rfl 29 (.tmp 6) (.tmp 12) rfl ⟨wr.heap.size, 0, none⟩ (.agg #[.int .u32 0, .int .u32 0]) _ rfl rfl (store29 wr 0 0) ?_)
          | (go_at_call 10; refine (enc_calls 0 (by decide) (by decide) _).mono ?_; rintro e W3 ⟨ge, ce, rfl, hE, hbE⟩; have HM1 := Aside0.mk (blk_below HM0.out hbE); have HB1 := Aside0.mk (below_then HB0.out HB0.out.size hbE); have HK1 := Aside0.mk (blk_below HK.out hbE); have HE := Aside0.mk hE; clear HM0 HB0 HK hE hbE x0 x1)
          | (at_builtin; refine Lib.wpList_append_run _ rfl _ _ _ _ rfl _ _ rfl rfl _ _ (app_lab _ gb 16 4 16 20 HM1.out (by decide) ⟨ge, 0, none⟩ ce _ rfl (HE.out.cells rfl) (one4 _ _ _ _) (by decide) (app4 16 20 0 rfl lab_16 (by decide))) ?_; have HM2 := Aside0.mk (setRow_heap W3 gb (arrM 16) (arrM 20) 5 (0, 0) HM1.out); have HK2 := Aside0.mk ((setRow_other W3 gb wr.heap.size (arrM 20) (by omega)).trans HK1.out); have HB2 := Aside0.mk (below_setRow HB1.out (arrM 20) HGE.out); have x1 := (blk_cell HK2.out 1).trans (show _ = some (Value.int .u32 0) from rfl); clear HM1 HB1 HK1 HE))
        go_wp2_with (first
          | (go_at_call 10; refine (enc_calls 0 (by decide) (by decide) _).mono ?_; rintro e W5 ⟨ge, ce, rfl, hE, hbE⟩; have HM3 := Aside0.mk (blk_below HM2.out hbE); have HB3 := Aside0.mk (below_then HB2.out HB2.out.size hbE); have HE := Aside0.mk hE; clear HM2 HB2 HK2 hE hbE x1)
          | (at_builtin; refine Lib.wpList_append_run _ rfl _ _ _ _ rfl _ _ rfl rfl _ _ (app_lab _ gb 20 4 20 24 HM3.out (by decide) ⟨ge, 0, none⟩ ce _ rfl (HE.out.cells rfl) (one4 _ _ _ _) (by decide) (app4 20 24 0 rfl lab_20 (by decide))) ?_; have HM4 := Aside0.mk (setRow_heap W5 gb (arrM 20) (arrM 24) 5 (0, 0) HM3.out); have HB4 := Aside0.mk (below_setRow HB3.out (arrM 24) HGE.out); clear HM3 HB3 HE))
        go_roundg kk
        case measure => omega
        case rel => exact ⟨3, 3, 24, rfl, rfl, ⟨rfl⟩, ⟨rfl⟩, ⟨by have := HJ.out; omega⟩, HM4, HB4⟩
      · obtain rfl : jz = 3 := HZ.out
        obtain rfl : n = 24 := HN.out
        have hM := blk_alloc HM.out (.cells #[.int .u32 0, .int .u32 0] 29)
        have hk := blk_new wr (.cells #[.int .u32 0, .int .u32 0] 29)
        have hB := below_alloc HB.out (.cells #[.int .u32 0, .int .u32 0] 29)
        have x0 : (wr.alloc (.cells #[.int .u32 0, .int .u32 0] 29)).cell? ⟨wr.heap.size, 0, none⟩ = some (.int .u32 0) := (blk_cell hk 0).trans rfl
        have x1 : (wr.alloc (.cells #[.int .u32 0, .int .u32 0] 29)).cell? ⟨wr.heap.size, 1, none⟩ = some (.int .u32 0) := (blk_cell hk 1).trans rfl
        have HM0 := Aside0.mk hM
        have HK := Aside0.mk hk
        have HB0 := Aside0.mk hB
        clear hM hk hB HM HB
        have hidx : ∀ X, (Instr.index 30 (.agg csL) (.int .i64 3)).run Try.prog X = .ok (.agg #[.int .u32 0, .int .u32 0]) X := fun X => by kernel_rfl
        go_upto_region 8 with (first
          | (refine wpList_store_run rfl rfl 29 (.tmp 6) (.tmp 12) rfl ⟨wr.heap.size, 0, none⟩ (.agg #[.int .u32 0, .int .u32 0]) _ rfl rfl (store29 wr 0 0) ?_)
          | (go_at_call 10; refine (enc_calls 0 (by decide) (by decide) _).mono ?_; rintro e W3 ⟨ge, ce, rfl, hE, hbE⟩; have HM1 := Aside0.mk (blk_below HM0.out hbE); have HB1 := Aside0.mk (below_then HB0.out HB0.out.size hbE); have HK1 := Aside0.mk (blk_below HK.out hbE); have HE := Aside0.mk hE; clear HM0 HB0 HK hE hbE x0 x1)
          | (at_builtin; refine Lib.wpList_append_run _ rfl _ _ _ _ rfl _ _ rfl rfl _ _ (app_lab _ gb 24 4 24 28 HM1.out (by decide) ⟨ge, 0, none⟩ ce _ rfl (HE.out.cells rfl) (one4 _ _ _ _) (by decide) (app4 24 28 0 rfl lab_24 (by decide))) ?_; have HM2 := Aside0.mk (setRow_heap W3 gb (arrM 24) (arrM 28) 5 (0, 0) HM1.out); have HK2 := Aside0.mk ((setRow_other W3 gb wr.heap.size (arrM 28) (by omega)).trans HK1.out); have HB2 := Aside0.mk (below_setRow HB1.out (arrM 28) HGE.out); have x1 := (blk_cell HK2.out 1).trans (show _ = some (Value.int .u32 0) from rfl); clear HM1 HB1 HK1 HE))
        go_wp2_with (first
          | (go_at_call 10; refine (enc_calls 0 (by decide) (by decide) _).mono ?_; rintro e W5 ⟨ge, ce, rfl, hE, hbE⟩; have HM3 := Aside0.mk (blk_below HM2.out hbE); have HB3 := Aside0.mk (below_then HB2.out HB2.out.size hbE); have HE := Aside0.mk hE; clear HM2 HB2 HK2 hE hbE x1)
          | (at_builtin; refine Lib.wpList_append_run _ rfl _ _ _ _ rfl _ _ rfl rfl _ _ (app_lab _ gb 28 4 28 32 HM3.out (by decide) ⟨ge, 0, none⟩ ce _ rfl (HE.out.cells rfl) (one4 _ _ _ _) (by decide) (app4 28 32 0 rfl lab_28 (by decide))) ?_; have HM4 := Aside0.mk (setRow_heap W5 gb (arrM 28) (arrM 32) 5 (0, 0) HM3.out); have HB4 := Aside0.mk (below_setRow HB3.out (arrM 32) HGE.out); clear HM3 HB3 HE))
        go_roundg kk
        case measure => omega
        case rel => exact ⟨4, 4, 32, rfl, rfl, ⟨rfl⟩, ⟨rfl⟩, ⟨by have := HJ.out; omega⟩, HM4, HB4⟩
      · obtain rfl : jz = 4 := HZ.out
        obtain rfl : n = 32 := HN.out
        have hM := blk_alloc HM.out (.cells #[.int .u32 0, .int .u32 0] 29)
        have hk := blk_new wr (.cells #[.int .u32 0, .int .u32 0] 29)
        have hB := below_alloc HB.out (.cells #[.int .u32 0, .int .u32 0] 29)
        have x0 : (wr.alloc (.cells #[.int .u32 0, .int .u32 0] 29)).cell? ⟨wr.heap.size, 0, none⟩ = some (.int .u32 0) := (blk_cell hk 0).trans rfl
        have x1 : (wr.alloc (.cells #[.int .u32 0, .int .u32 0] 29)).cell? ⟨wr.heap.size, 1, none⟩ = some (.int .u32 0) := (blk_cell hk 1).trans rfl
        have HM0 := Aside0.mk hM
        have HK := Aside0.mk hk
        have HB0 := Aside0.mk hB
        clear hM hk hB HM HB
        have hidx : ∀ X, (Instr.index 30 (.agg csL) (.int .i64 4)).run Try.prog X = .ok (.agg #[.int .u32 0, .int .u32 0]) X := fun X => by kernel_rfl
        go_upto_region 8 with (first
          | (refine wpList_store_run rfl rfl 29 (.tmp 6) (.tmp 12) rfl ⟨wr.heap.size, 0, none⟩ (.agg #[.int .u32 0, .int .u32 0]) _ rfl rfl (store29 wr 0 0) ?_)
          | (go_at_call 10; refine (enc_calls 0 (by decide) (by decide) _).mono ?_; rintro e W3 ⟨ge, ce, rfl, hE, hbE⟩; have HM1 := Aside0.mk (blk_below HM0.out hbE); have HB1 := Aside0.mk (below_then HB0.out HB0.out.size hbE); have HK1 := Aside0.mk (blk_below HK.out hbE); have HE := Aside0.mk hE; clear HM0 HB0 HK hE hbE x0 x1)
          | (at_builtin; refine Lib.wpList_append_run _ rfl _ _ _ _ rfl _ _ rfl rfl _ _ (app_lab _ gb 32 4 32 36 HM1.out (by decide) ⟨ge, 0, none⟩ ce _ rfl (HE.out.cells rfl) (one4 _ _ _ _) (by decide) (app4 32 36 0 rfl lab_32 (by decide))) ?_; have HM2 := Aside0.mk (setRow_heap W3 gb (arrM 32) (arrM 36) 5 (0, 0) HM1.out); have HK2 := Aside0.mk ((setRow_other W3 gb wr.heap.size (arrM 36) (by omega)).trans HK1.out); have HB2 := Aside0.mk (below_setRow HB1.out (arrM 36) HGE.out); have x1 := (blk_cell HK2.out 1).trans (show _ = some (Value.int .u32 0) from rfl); clear HM1 HB1 HK1 HE))
        go_wp2_with (first
          | (go_at_call 10; refine (enc_calls 0 (by decide) (by decide) _).mono ?_; rintro e W5 ⟨ge, ce, rfl, hE, hbE⟩; have HM3 := Aside0.mk (blk_below HM2.out hbE); have HB3 := Aside0.mk (below_then HB2.out HB2.out.size hbE); have HE := Aside0.mk hE; clear HM2 HB2 HK2 hE hbE x1)
          | (at_builtin; refine Lib.wpList_append_run _ rfl _ _ _ _ rfl _ _ rfl rfl _ _ (app_lab _ gb 36 4 36 40 HM3.out (by decide) ⟨ge, 0, none⟩ ce _ rfl (HE.out.cells rfl) (one4 _ _ _ _) (by decide) (app4 36 40 0 rfl lab_36 (by decide))) ?_; have HM4 := Aside0.mk (setRow_heap W5 gb (arrM 36) (arrM 40) 5 (0, 0) HM3.out); have HB4 := Aside0.mk (below_setRow HB3.out (arrM 40) HGE.out); clear HM3 HB3 HE))
        go_roundg kk
        case measure => omega
        case rel => exact ⟨5, 5, 40, rfl, rfl, ⟨rfl⟩, ⟨rfl⟩, ⟨by have := HJ.out; omega⟩, HM4, HB4⟩
      · obtain rfl : jz = 5 := HZ.out
        obtain rfl : n = 40 := HN.out
        have hM := blk_alloc HM.out (.cells #[.int .u32 0, .int .u32 0] 29)
        have hk := blk_new wr (.cells #[.int .u32 0, .int .u32 0] 29)
        have hB := below_alloc HB.out (.cells #[.int .u32 0, .int .u32 0] 29)
        have x0 : (wr.alloc (.cells #[.int .u32 0, .int .u32 0] 29)).cell? ⟨wr.heap.size, 0, none⟩ = some (.int .u32 0) := (blk_cell hk 0).trans rfl
        have x1 : (wr.alloc (.cells #[.int .u32 0, .int .u32 0] 29)).cell? ⟨wr.heap.size, 1, none⟩ = some (.int .u32 0) := (blk_cell hk 1).trans rfl
        have HM0 := Aside0.mk hM
        have HK := Aside0.mk hk
        have HB0 := Aside0.mk hB
        clear hM hk hB HM HB
        have hidx : ∀ X, (Instr.index 30 (.agg csL) (.int .i64 5)).run Try.prog X = .ok (.agg #[.int .u32 0, .int .u32 0]) X := fun X => by kernel_rfl
        go_upto_region 8 with (first
          | (refine wpList_store_run rfl rfl 29 (.tmp 6) (.tmp 12) rfl ⟨wr.heap.size, 0, none⟩ (.agg #[.int .u32 0, .int .u32 0]) _ rfl rfl (store29 wr 0 0) ?_)
          | (go_at_call 10; refine (enc_calls 0 (by decide) (by decide) _).mono ?_; rintro e W3 ⟨ge, ce, rfl, hE, hbE⟩; have HM1 := Aside0.mk (blk_below HM0.out hbE); have HB1 := Aside0.mk (below_then HB0.out HB0.out.size hbE); have HK1 := Aside0.mk (blk_below HK.out hbE); have HE := Aside0.mk hE; clear HM0 HB0 HK hE hbE x0 x1)
          | (at_builtin; refine Lib.wpList_append_run _ rfl _ _ _ _ rfl _ _ rfl rfl _ _ (app_lab _ gb 40 4 40 44 HM1.out (by decide) ⟨ge, 0, none⟩ ce _ rfl (HE.out.cells rfl) (one4 _ _ _ _) (by decide) (app4 40 44 0 rfl lab_40 (by decide))) ?_; have HM2 := Aside0.mk (setRow_heap W3 gb (arrM 40) (arrM 44) 5 (0, 0) HM1.out); have HK2 := Aside0.mk ((setRow_other W3 gb wr.heap.size (arrM 44) (by omega)).trans HK1.out); have HB2 := Aside0.mk (below_setRow HB1.out (arrM 44) HGE.out); have x1 := (blk_cell HK2.out 1).trans (show _ = some (Value.int .u32 0) from rfl); clear HM1 HB1 HK1 HE))
        go_wp2_with (first
          | (go_at_call 10; refine (enc_calls 0 (by decide) (by decide) _).mono ?_; rintro e W5 ⟨ge, ce, rfl, hE, hbE⟩; have HM3 := Aside0.mk (blk_below HM2.out hbE); have HB3 := Aside0.mk (below_then HB2.out HB2.out.size hbE); have HE := Aside0.mk hE; clear HM2 HB2 HK2 hE hbE x1)
          | (at_builtin; refine Lib.wpList_append_run _ rfl _ _ _ _ rfl _ _ rfl rfl _ _ (app_lab _ gb 44 4 44 48 HM3.out (by decide) ⟨ge, 0, none⟩ ce _ rfl (HE.out.cells rfl) (one4 _ _ _ _) (by decide) (app4 44 48 0 rfl lab_44 (by decide))) ?_; have HM4 := Aside0.mk (setRow_heap W5 gb (arrM 44) (arrM 48) 5 (0, 0) HM3.out); have HB4 := Aside0.mk (below_setRow HB3.out (arrM 48) HGE.out); clear HM3 HB3 HE))
        go_roundg kk
        case measure => omega
        case rel => exact ⟨6, 6, 48, rfl, rfl, ⟨rfl⟩, ⟨rfl⟩, ⟨by have := HJ.out; omega⟩, HM4, HB4⟩
      · obtain rfl : jz = 6 := HZ.out
        obtain rfl : n = 48 := HN.out
        have hM := blk_alloc HM.out (.cells #[.int .u32 0, .int .u32 0] 29)
        have hk := blk_new wr (.cells #[.int .u32 0, .int .u32 0] 29)
        have hB := below_alloc HB.out (.cells #[.int .u32 0, .int .u32 0] 29)
        have x0 : (wr.alloc (.cells #[.int .u32 0, .int .u32 0] 29)).cell? ⟨wr.heap.size, 0, none⟩ = some (.int .u32 0) := (blk_cell hk 0).trans rfl
        have x1 : (wr.alloc (.cells #[.int .u32 0, .int .u32 0] 29)).cell? ⟨wr.heap.size, 1, none⟩ = some (.int .u32 0) := (blk_cell hk 1).trans rfl
        have HM0 := Aside0.mk hM
        have HK := Aside0.mk hk
        have HB0 := Aside0.mk hB
        clear hM hk hB HM HB
        have hidx : ∀ X, (Instr.index 30 (.agg csL) (.int .i64 6)).run Try.prog X = .ok (.agg #[.int .u32 0, .int .u32 0]) X := fun X => by kernel_rfl
        go_upto_region 8 with (first
          | (refine wpList_store_run rfl rfl 29 (.tmp 6) (.tmp 12) rfl ⟨wr.heap.size, 0, none⟩ (.agg #[.int .u32 0, .int .u32 0]) _ rfl rfl (store29 wr 0 0) ?_)
          | (go_at_call 10; refine (enc_calls 0 (by decide) (by decide) _).mono ?_; rintro e W3 ⟨ge, ce, rfl, hE, hbE⟩; have HM1 := Aside0.mk (blk_below HM0.out hbE); have HB1 := Aside0.mk (below_then HB0.out HB0.out.size hbE); have HK1 := Aside0.mk (blk_below HK.out hbE); have HE := Aside0.mk hE; clear HM0 HB0 HK hE hbE x0 x1)
          | (at_builtin; refine Lib.wpList_append_run _ rfl _ _ _ _ rfl _ _ rfl rfl _ _ (app_lab _ gb 48 4 48 52 HM1.out (by decide) ⟨ge, 0, none⟩ ce _ rfl (HE.out.cells rfl) (one4 _ _ _ _) (by decide) (app4 48 52 0 rfl lab_48 (by decide))) ?_; have HM2 := Aside0.mk (setRow_heap W3 gb (arrM 48) (arrM 52) 5 (0, 0) HM1.out); have HK2 := Aside0.mk ((setRow_other W3 gb wr.heap.size (arrM 52) (by omega)).trans HK1.out); have HB2 := Aside0.mk (below_setRow HB1.out (arrM 52) HGE.out); have x1 := (blk_cell HK2.out 1).trans (show _ = some (Value.int .u32 0) from rfl); clear HM1 HB1 HK1 HE))
        go_wp2_with (first
          | (go_at_call 10; refine (enc_calls 0 (by decide) (by decide) _).mono ?_; rintro e W5 ⟨ge, ce, rfl, hE, hbE⟩; have HM3 := Aside0.mk (blk_below HM2.out hbE); have HB3 := Aside0.mk (below_then HB2.out HB2.out.size hbE); have HE := Aside0.mk hE; clear HM2 HB2 HK2 hE hbE x1)
          | (at_builtin; refine Lib.wpList_append_run _ rfl _ _ _ _ rfl _ _ rfl rfl _ _ (app_lab _ gb 52 4 52 56 HM3.out (by decide) ⟨ge, 0, none⟩ ce _ rfl (HE.out.cells rfl) (one4 _ _ _ _) (by decide) (app4 52 56 0 rfl lab_52 (by decide))) ?_; have HM4 := Aside0.mk (setRow_heap W5 gb (arrM 52) (arrM 56) 5 (0, 0) HM3.out); have HB4 := Aside0.mk (below_setRow HB3.out (arrM 56) HGE.out); clear HM3 HB3 HE))
        go_roundg kk
        case measure => omega
        case rel => exact ⟨7, 7, 56, rfl, rfl, ⟨rfl⟩, ⟨rfl⟩, ⟨by have := HJ.out; omega⟩, HM4, HB4⟩
      · obtain rfl : jz = 7 := HZ.out
        obtain rfl : n = 56 := HN.out
        have hM := blk_alloc HM.out (.cells #[.int .u32 0, .int .u32 0] 29)
        have hk := blk_new wr (.cells #[.int .u32 0, .int .u32 0] 29)
        have hB := below_alloc HB.out (.cells #[.int .u32 0, .int .u32 0] 29)
        have x0 : (wr.alloc (.cells #[.int .u32 0, .int .u32 0] 29)).cell? ⟨wr.heap.size, 0, none⟩ = some (.int .u32 0) := (blk_cell hk 0).trans rfl
        have x1 : (wr.alloc (.cells #[.int .u32 0, .int .u32 0] 29)).cell? ⟨wr.heap.size, 1, none⟩ = some (.int .u32 0) := (blk_cell hk 1).trans rfl
        have HM0 := Aside0.mk hM
        have HK := Aside0.mk hk
        have HB0 := Aside0.mk hB
        clear hM hk hB HM HB
        have hidx : ∀ X, (Instr.index 30 (.agg csL) (.int .i64 7)).run Try.prog X = .ok (.agg #[.int .u32 0, .int .u32 0]) X := fun X => by kernel_rfl
        go_upto_region 8 with (first
          | (refine wpList_store_run rfl rfl 29 (.tmp 6) (.tmp 12) rfl ⟨wr.heap.size, 0, none⟩ (.agg #[.int .u32 0, .int .u32 0]) _ rfl rfl (store29 wr 0 0) ?_)
          | (go_at_call 10; refine (enc_calls 0 (by decide) (by decide) _).mono ?_; rintro e W3 ⟨ge, ce, rfl, hE, hbE⟩; have HM1 := Aside0.mk (blk_below HM0.out hbE); have HB1 := Aside0.mk (below_then HB0.out HB0.out.size hbE); have HK1 := Aside0.mk (blk_below HK.out hbE); have HE := Aside0.mk hE; clear HM0 HB0 HK hE hbE x0 x1)
          | (at_builtin; refine Lib.wpList_append_run _ rfl _ _ _ _ rfl _ _ rfl rfl _ _ (app_lab _ gb 56 4 56 60 HM1.out (by decide) ⟨ge, 0, none⟩ ce _ rfl (HE.out.cells rfl) (one4 _ _ _ _) (by decide) (app4 56 60 0 rfl lab_56 (by decide))) ?_; have HM2 := Aside0.mk (setRow_heap W3 gb (arrM 56) (arrM 60) 5 (0, 0) HM1.out); have HK2 := Aside0.mk ((setRow_other W3 gb wr.heap.size (arrM 60) (by omega)).trans HK1.out); have HB2 := Aside0.mk (below_setRow HB1.out (arrM 60) HGE.out); have x1 := (blk_cell HK2.out 1).trans (show _ = some (Value.int .u32 0) from rfl); clear HM1 HB1 HK1 HE))
        go_wp2_with (first
          | (go_at_call 10; refine (enc_calls 0 (by decide) (by decide) _).mono ?_; rintro e W5 ⟨ge, ce, rfl, hE, hbE⟩; have HM3 := Aside0.mk (blk_below HM2.out hbE); have HB3 := Aside0.mk (below_then HB2.out HB2.out.size hbE); have HE := Aside0.mk hE; clear HM2 HB2 HK2 hE hbE x1)
          | (at_builtin; refine Lib.wpList_append_run _ rfl _ _ _ _ rfl _ _ rfl rfl _ _ (app_lab _ gb 60 4 60 64 HM3.out (by decide) ⟨ge, 0, none⟩ ce _ rfl (HE.out.cells rfl) (one4 _ _ _ _) (by decide) (app4 60 64 0 rfl lab_60 (by decide))) ?_; have HM4 := Aside0.mk (setRow_heap W5 gb (arrM 60) (arrM 64) 5 (0, 0) HM3.out); have HB4 := Aside0.mk (below_setRow HB3.out (arrM 64) HGE.out); clear HM3 HB3 HE))
        go_roundg kk
        case measure => omega
        case rel => exact ⟨8, 8, 64, rfl, rfl, ⟨rfl⟩, ⟨rfl⟩, ⟨by have := HJ.out; omega⟩, HM4, HB4⟩
end Go.Proofs.Ytdobpgomgnaleaa.P
