import Derived.RangeFuncNested
import Derived.RangeFuncBound
import Derived.RangeFuncCalls
import Derived.RangeFuncLeaves
import Derived.Shelf.Abstract
import Derived.Shelf.RegionOpen
import Derived.WalkKit
import Derived.OwnWalkIn
import Derived.TacticsInMore
import Derived.LoopNIn
import Derived.LoopIn
import Derived.RangeFuncBox
import Derived.RangeFuncFrom
import Derived.RangeFuncWrites
import Derived.Maps.AppendAt
import Derived.Stop.RegionWithIn
import Derived.Test.YtdobpgomgnaleaaN2
import Derived.Test.YtdobpgomgnaleaaN3
import Derived.Test.YtdobpgomgnaleaaN4
namespace Go.Proofs.Ytdobpgomgnaleaa.P
open Go.RowKit Go.Shelf Go.Proofs.YtdobpgomgnaleaaW.PrintWords
attribute [local go_sem] Oper.semAt_some
set_option linter.unusedVariables false
set_option linter.unusedSimpArgs false
theorem wpList_store_run {P : Program} {ops : Array Oper} {rest : List Oper} {o : Oper} {a : Act} {Q : Exit → Act → World → Prop} {W : World} (hN : o.dst = none) (hgd : o.guard = none) (t : TypeId) (p x : Operand) (ho : o.op = .store t p x) (A : Addr) (u : Value) (Wd : World)
    (haddr : a.eval p = .pointer (some A)) (hx : a.eval x = u) (hrun : (Instr.storeAt t (.pointer (some A)) u).run P W = .ok () Wd) (h : wpList P ops Q rest a Wd) : wpList P ops Q (o :: rest) a W := by
  refine wpList_plain hgd fun K hK => ?_
  unfold Oper.wp execOp
  simp only [ho, haddr, hx, Sem.run_bind, Sem.run_pure, Result.andThen_ok, hrun]
  show K (a.put o.dst undef) _
  rw [hN]
  exact hK a _ h
theorem eq42 (X : World) : (Op.equalIn 10000 42 (Value.agg #[Value.int IntKind.u8 0, Value.int IntKind.u8 0]) (Value.agg #[Value.int IntKind.u8 0, Value.int IntKind.u8 0])).run Try.prog X = .ok true X := by kernel_rfl
/-- The cells of the eight windows, as far as k of them are told. -/
def arrP (nb : Nat → Int) : Nat → Array Value
  | 0 => Array.replicate 16 (.int .u32 0)
  | k + 1 => ((arrP nb k).setIfInBounds (2 * k) (.int .u32 (nb (2 * k)))).setIfInBounds (2 * k + 1) (.int .u32 (nb (2 * k + 1)))
theorem arrP8 (nb : Nat → Int) : arrP nb 8 = #[.int .u32 (nb 0), .int .u32 (nb 1), .int .u32 (nb 2), .int .u32 (nb 3), .int .u32 (nb 4), .int .u32 (nb 5), .int .u32 (nb 6), .int .u32 (nb 7), .int .u32 (nb 8), .int .u32 (nb 9), .int .u32 (nb 10), .int .u32 (nb 11), .int .u32 (nb 12), .int .u32 (nb 13), .int .u32 (nb 14), .int .u32 (nb 15)] := by kernel_rfl
theorem e1_ (X : World) (l0 : List Int) (g cap base j : Nat) (hj : j < 16) (nb : Nat → Int) (hnb : nb = fun i => numR (partR (l0.take 64) i)) (h : X.ownsRow base 27 1 (.slice (some ⟨g, 0, none⟩) 16 cap) 16 ((List.finRange 16).map fun x => Value.int .u32 (numR (partR (l0.take 64) x.val)))) : X.cell? ⟨g, j, none⟩ = some (.int .u32 (nb j)) := by
  rw [h.cellAt j (by omega), List.getElem?_map, List.getElem?_eq_getElem (by rw [List.length_finRange]; omega), Option.map_some, List.getElem_finRange, hnb]
  simp only [Fin.val_cast]
set_option maxHeartbeats 4000000 in
set_option maxRecDepth 100000 in
theorem parse_calls (b off c0 : Nat) (l0 : List Int) (w : World) (hr0 : Kd.C (Kd.int .u8) w (some ⟨b, off, none⟩) l0.length l0) (hl : l0.length = 512) (hc : 512 ≤ c0) (hx : crossR l0 false 0 0 = (0, 0)) (h8 : rd l0 508 = 218) (h9 : rd l0 509 = 190) (hz : ∀ x ∈ (l0.take 508).drop 64, x = 0) :
    Calls Try.prog 9 #[.slice (some ⟨b, off, none⟩) 512 c0] w fun e w' => e = .returned (.tuple #[.agg (arrP (fun i => numR (partR (l0.take 64) i)) 8), .int .i64 0]) ∧ Below w.heap.size w w' := by
  have hblt : b < w.heap.size := by
    obtain ⟨ad, e, hx⟩ := Kd.at_int hr0 0 (by omega) (by omega)
    cases e
    exact World.block_lt_of_cell? w _ hx
  have hadd : ∀ k, (⟨b, off, none⟩ : Addr).add k = ⟨b, off + k, none⟩ := fun k => by unfold Addr.add; split <;> simp_all
  have hcross : ∀ X, Below w.heap.size w X → Calls Try.prog 11 #[.slice (some ⟨b, off, none⟩) 512 c0] X fun e w' => e = .returned (.agg #[.int .u8 0, .int .u8 0]) ∧ Below X.heap.size X w' := fun X hX => by
    have h := label_cross.calls (some ⟨b, off, none⟩) c0 l0 0 0 X (Kd.C_below hr0 hX) (by omega) (by unfold label_cross.f; rw [hx])
    rw [hl] at h
    exact h
  have hdark : ∀ X, Below w.heap.size w X → Calls Try.prog 20 #[.slice (some ⟨b, off + 64, none⟩) 444 (c0 - 64), .func (.func 19) #[] #[]] X fun e w' => e = .returned (.bool false) ∧ w' = X := fun X hX => by
    have hC2 := Kd.C_mid (lo := 64) (hi := 508) (c := l0.length + 1) (Kd.C_below hr0 hX) (by omega) (by omega) (by omega)
    rw [if_neg (by omega)] at hC2
    have h := contains_dark _ (c0 - 64) _ X hC2 hz
    rw [show ((l0.take 508).drop 64).length = 444 by rw [List.length_drop, List.length_take]; omega] at h
    have e : (some (⟨b, off, none⟩ : Addr)).map (·.add (64 * (Kd.int .u8).sz)) = some ⟨b, off + 64, none⟩ := by show some ((⟨b, off, none⟩ : Addr).add (64 * 1)) = _; rw [hadd]
    rw [e] at h
    exact h
  have hints : ∀ X, Below w.heap.size w X → Calls Try.prog 21 #[.slice (some ⟨b, off, none⟩) 64 c0] X fun e w' => ∃ g cap, e = .returned (.tuple #[.slice (some ⟨g, 0, none⟩) 16 cap, .int .i64 0]) ∧ w'.ownsRow X.heap.size 27 1 (.slice (some ⟨g, 0, none⟩) 16 cap) 16 ((List.finRange 16).map fun x => Value.int .u32 (numR (partR (l0.take 64) x.val))) ∧ Below X.heap.size X w' := fun X hX => by
    have hC3 := Kd.C_mid (lo := 0) (hi := 64) (c := l0.length + 1) (Kd.C_below hr0 hX) (by omega) (by omega) (by omega)
    rw [if_neg (by omega)] at hC3
    have e : (some (⟨b, off, none⟩ : Addr)).map (·.add (0 * (Kd.int .u8).sz)) = some ⟨b, off, none⟩ := by show some ((⟨b, off, none⟩ : Addr).add (0 * 1)) = _; rw [hadd]; rfl
    rw [e] at hC3
    rw [List.drop_zero] at hC3
    have hlen : (l0.take 64).length = 64 := by rw [List.length_take]; omega
    have h := ints_calls b off c0 (l0.take 64) hlen (by omega) X hC3
    rw [hlen] at h
    refine h.mono ?_
    rintro e w' ⟨v, rfl, hrow, hb⟩
    obtain ⟨g, cap, rfl⟩ := ownsRow_succ hrow
    exact ⟨g, cap, rfl, hrow, hb⟩
  have hcells : ∀ X, Below w.heap.size w X → X.cell? ⟨b, off + 508, none⟩ = some (.int .u8 218) ∧ X.cell? ⟨b, off + 509, none⟩ = some (.int .u8 190) := fun X hX => by
    obtain ⟨ad, e, h1⟩ := Kd.at_int hr0 508 (by omega) (by omega)
    cases e
    obtain ⟨ad, e, h2⟩ := Kd.at_int hr0 509 (by omega) (by omega)
    cases e
    rw [h8, hadd] at h1
    rw [h9, hadd] at h2
    exact ⟨(hX.cell (p := ⟨b, off + 508, none⟩) hblt).trans h1, (hX.cell (p := ⟨b, off + 509, none⟩) hblt).trans h2⟩
  clear hr0 hx h8 h9 hz
  go_enter Try.func9, Try.ntmps9
  go_upto_region 1 with (fail)
  obtain ⟨nb, hnb⟩ : ∃ nb : Nat → Int, nb = fun i => numR (partR (l0.take 64) i) := ⟨_, rfl⟩
  obtain ⟨W1, hW1⟩ : ∃ W1, W1 = w.alloc (Obj.cells (arrP nb 0) 30) := ⟨_, rfl⟩
  have hk1 := blk_new w (Obj.cells (arrP nb 0) 30)
  have hb1 := below_alloc (Below.refl w.heap.size w) (Obj.cells (arrP nb 0) 30)
  have hs1 : W1.heap.size = w.heap.size + 1 := by rw [hW1, World.size_alloc]
  change Code.wp Try.prog _ _ _ (w.alloc (Obj.cells (arrP nb 0) 30))
  rw [← hW1] at hk1 hb1 ⊢
  clear hW1
  have heq := eq42
  go_wp2_with (first | (go_at_call 11; refine (hcross _ hb1).mono ?_; rintro e W2 ⟨rfl, hb12⟩; have hb2 := below_then hb1 hb1.size hb12; obtain ⟨q8, q9⟩ := hcells _ hb2) | (go_at_call 20; refine (hdark _ hb2).mono ?_; rintro e W3 ⟨rfl, hw3⟩; subst hw3) | (go_at_call 21; refine (hints _ hb2).mono ?_; rintro e W4 ⟨g, cap, rfl, hrow, hb4⟩))
  have hB4 : Below w.heap.size w W4 := below_then hb2 hb2.size hb4
  have hlt1 : w.heap.size < W3.heap.size := Nat.lt_of_lt_of_le (by omega) (hb12.size)
  have K4 : W4.heap[w.heap.size]? = some (.cells (arrP nb 0) 30 (0, 0)) := blk_below (blk_below hk1 hb12) hb4
  have HROW := Aside0.mk hrow
  have HB4 := Aside0.mk hB4
  have HK4 := Aside0.mk K4
  have HLT := Aside0.mk hlt1
  clear hrow hB4 K4 hb2 hb4 hk1 hb1 q8 q9 hcross hdark hints hcells hb12 heq
  go_loopg [41] 8 (fun kq v w' => ∃ (j : Nat) (jz : Int), v = .int .i64 jz ∧ Aside0 (jz = j) ∧ Aside0 (j + kq = 8) ∧ Aside0 (w'.heap[w.heap.size]? = some (.cells (arrP nb j) 30 (0, 0))) ∧ Aside0 (w'.ownsRow W3.heap.size 27 1 (.slice (some ⟨g, 0, none⟩) 16 cap) 16 ((List.finRange 16).map fun x => Value.int .u32 (numR (partR (l0.take 64) x.val)))) ∧ Aside0 (Below w.heap.size w w'))
  case atStart => exact ⟨0, 0, rfl, ⟨rfl⟩, ⟨rfl⟩, HK4, HROW, HB4⟩
  case round =>
    clear HK4 HROW HB4
    obtain ⟨j, jz, rfl, HZ, HJ, HK, HROW, HB⟩ := hrel
    cases gk with
    | zero =>
      obtain rfl : j = 8 := by have := HJ.out; omega
      obtain rfl : jz = 8 := HZ.out
      have hsz : (arrP nb 8).size = 16 := by rw [arrP8]; rfl
      have hone : (arrP nb 8).all (·.oneCell') = true := by rw [arrP8]; kernel_rfl
      have hres : Value.agg (arrP nb 8) = Value.agg (arrP (fun i => numR (partR (l0.take 64) i)) 8) := by rw [hnb]
      have HKo := HK.out
      clear HK
      revert hsz hone hres HKo
      generalize arrP nb 8 = cs
      intro hsz hone hres HKo
      have hi16 : (Try.prog.info? 30).map (·.size) = some cs.size := by rw [hsz]; kernel_rfl
      have hst : (Instr.storeAt 30 (.pointer (some ⟨w.heap.size, 0, none⟩)) (.agg cs)).run Try.prog wr = .ok () wr := by
        have h := run_storeVar_row (P := Try.prog) wr w.heap.size 30 30 cs cs HKo hi16 rfl hone
        rw [setRow_self wr _ _ 30 (0, 0) HKo] at h
        simp only [Instr.storeAt, Instr.sureAddr, Sem.run_bind, Sem.run_pure, Result.andThen_ok, h]
      have HI := Aside0.mk hi16
      have HST := Aside0.mk hst
      have HRES := Aside0.mk hres
      have HKO := Aside0.mk HKo
      clear hi16 hst hres hone hsz HKo
      go_wp2_with (first | ((with_reducible refine gate_dst (N := 59) rfl ?_); refine wpList_load_row rfl 30 (.tmp 2) rfl w.heap.size rfl 30 cs (0, 0) _ HKO.out Try.underlying30 rfl HI.out ?_) | (refine wpList_store_run rfl rfl 30 (.tmp 2) (.tmp 59) rfl ⟨w.heap.size, 0, none⟩ (.agg cs) wr rfl rfl HST.out ?_))
      refine bodyPost_ret (results_ct rfl _ _ w.heap.size 30 cs (0, 0) _ rfl HKO.out Try.underlying30 rfl HI.out) rfl ?_
      exact ⟨by rw [← HRES.out]; rfl, HB.out⟩
    | succ kk =>
      have hj8 : j < 8 := by have := HJ.out; omega
      have e1 := e1_ wr l0 g cap _ (2 * j) (by omega) nb hnb HROW.out
      have e2 := e1_ wr l0 g cap _ (2 * j + 1) (by omega) nb hnb HROW.out
      have y1 := blk_frozen HK.out (2 * j)
      have y2 := blk_frozen HK.out (2 * j + 1)
      rcases (show j = 0 ∨ j = 1 ∨ j = 2 ∨ j = 3 ∨ j = 4 ∨ j = 5 ∨ j = 6 ∨ j = 7 by omega) with rfl | rfl | rfl | rfl | rfl | rfl | rfl | rfl
      · obtain rfl : jz = 0 := HZ.out
        have z1 : wr.cell? ⟨w.heap.size, 0, none⟩ = some (.int .u32 0) := (blk_cell HK.out _).trans (by kernel_rfl)
        have z2 : wr.cell? ⟨w.heap.size, 1, none⟩ = some (.int .u32 0) := (blk_cell HK.out _).trans (by kernel_rfl)
        simp only [Nat.mul_zero, Nat.zero_add, Nat.mul_one, Nat.reduceMul, Nat.reduceAdd] at e1 e2 y1 y2 z1 z2
        have HNB := Aside0.mk hnb
        clear hnb
        go_wp2
        go_region
        go_wp2
        go_roundg kk
        case measure => omega
        case rel => exact ⟨1, 1, rfl, ⟨rfl⟩, ⟨by have := HJ.out; omega⟩, ⟨blk_put (blk_put HK.out 0 (.int .u32 (nb 0)) rfl) 1 (.int .u32 (nb 1)) (by kernel_rfl)⟩, ⟨ownsRow_setCell_below (ownsRow_setCell_below HROW.out HLT.out _) HLT.out _⟩, ⟨below_drew (below_set (below_set HB.out (Nat.le_refl _)) (Nat.le_refl _))⟩⟩
      · obtain rfl : jz = 1 := HZ.out
        have z1 : wr.cell? ⟨w.heap.size, 2, none⟩ = some (.int .u32 0) := (blk_cell HK.out _).trans (by kernel_rfl)
        have z2 : wr.cell? ⟨w.heap.size, 3, none⟩ = some (.int .u32 0) := (blk_cell HK.out _).trans (by kernel_rfl)
        simp only [Nat.mul_zero, Nat.zero_add, Nat.mul_one, Nat.reduceMul, Nat.reduceAdd] at e1 e2 y1 y2 z1 z2
        have HNB := Aside0.mk hnb
        clear hnb
        go_wp2
        go_region
        go_wp2
        go_roundg kk
        case measure => omega
        case rel => exact ⟨2, 2, rfl, ⟨rfl⟩, ⟨by have := HJ.out; omega⟩, ⟨blk_put (blk_put HK.out 2 (.int .u32 (nb 2)) rfl) 3 (.int .u32 (nb 3)) (by kernel_rfl)⟩, ⟨ownsRow_setCell_below (ownsRow_setCell_below HROW.out HLT.out _) HLT.out _⟩, ⟨below_drew (below_set (below_set HB.out (Nat.le_refl _)) (Nat.le_refl _))⟩⟩
      · obtain rfl : jz = 2 := HZ.out
        have z1 : wr.cell? ⟨w.heap.size, 4, none⟩ = some (.int .u32 0) := (blk_cell HK.out _).trans (by kernel_rfl)
        have z2 : wr.cell? ⟨w.heap.size, 5, none⟩ = some (.int .u32 0) := (blk_cell HK.out _).trans (by kernel_rfl)
        simp only [Nat.mul_zero, Nat.zero_add, Nat.mul_one, Nat.reduceMul, Nat.reduceAdd] at e1 e2 y1 y2 z1 z2
        have HNB := Aside0.mk hnb
        clear hnb
        go_wp2
        go_region
        go_wp2
        go_roundg kk
        case measure => omega
        case rel => exact ⟨3, 3, rfl, ⟨rfl⟩, ⟨by have := HJ.out; omega⟩, ⟨blk_put (blk_put HK.out 4 (.int .u32 (nb 4)) rfl) 5 (.int .u32 (nb 5)) (by kernel_rfl)⟩, ⟨ownsRow_setCell_below (ownsRow_setCell_below HROW.out HLT.out _) HLT.out _⟩, ⟨below_drew (below_set (below_set HB.out (Nat.le_refl _)) (Nat.le_refl _))⟩⟩
      · obtain rfl : jz = 3 := HZ.out
        have z1 : wr.cell? ⟨w.heap.size, 6, none⟩ = some (.int .u32 0) := (blk_cell HK.out _).trans (by kernel_rfl)
        have z2 : wr.cell? ⟨w.heap.size, 7, none⟩ = some (.int .u32 0) := (blk_cell HK.out _).trans (by kernel_rfl)
        simp only [Nat.mul_zero, Nat.zero_add, Nat.mul_one, Nat.reduceMul, Nat.reduceAdd] at e1 e2 y1 y2 z1 z2
        have HNB := Aside0.mk hnb
        clear hnb
        go_wp2
        go_region
        go_wp2
        go_roundg kk
        case measure => omega
        case rel => exact ⟨4, 4, rfl, ⟨rfl⟩, ⟨by have := HJ.out; omega⟩, ⟨blk_put (blk_put HK.out 6 (.int .u32 (nb 6)) rfl) 7 (.int .u32 (nb 7)) (by kernel_rfl)⟩, ⟨ownsRow_setCell_below (ownsRow_setCell_below HROW.out HLT.out _) HLT.out _⟩, ⟨below_drew (below_set (below_set HB.out (Nat.le_refl _)) (Nat.le_refl _))⟩⟩
      · obtain rfl : jz = 4 := HZ.out
        have z1 : wr.cell? ⟨w.heap.size, 8, none⟩ = some (.int .u32 0) := (blk_cell HK.out _).trans (by kernel_rfl)
        have z2 : wr.cell? ⟨w.heap.size, 9, none⟩ = some (.int .u32 0) := (blk_cell HK.out _).trans (by kernel_rfl)
        simp only [Nat.mul_zero, Nat.zero_add, Nat.mul_one, Nat.reduceMul, Nat.reduceAdd] at e1 e2 y1 y2 z1 z2
        have HNB := Aside0.mk hnb
        clear hnb
        go_wp2
        go_region
        go_wp2
        go_roundg kk
        case measure => omega
        case rel => exact ⟨5, 5, rfl, ⟨rfl⟩, ⟨by have := HJ.out; omega⟩, ⟨blk_put (blk_put HK.out 8 (.int .u32 (nb 8)) rfl) 9 (.int .u32 (nb 9)) (by kernel_rfl)⟩, ⟨ownsRow_setCell_below (ownsRow_setCell_below HROW.out HLT.out _) HLT.out _⟩, ⟨below_drew (below_set (below_set HB.out (Nat.le_refl _)) (Nat.le_refl _))⟩⟩
      · obtain rfl : jz = 5 := HZ.out
        have z1 : wr.cell? ⟨w.heap.size, 10, none⟩ = some (.int .u32 0) := (blk_cell HK.out _).trans (by kernel_rfl)
        have z2 : wr.cell? ⟨w.heap.size, 11, none⟩ = some (.int .u32 0) := (blk_cell HK.out _).trans (by kernel_rfl)
        simp only [Nat.mul_zero, Nat.zero_add, Nat.mul_one, Nat.reduceMul, Nat.reduceAdd] at e1 e2 y1 y2 z1 z2
        have HNB := Aside0.mk hnb
        clear hnb
        go_wp2
        go_region
        go_wp2
        go_roundg kk
        case measure => omega
        case rel => exact ⟨6, 6, rfl, ⟨rfl⟩, ⟨by have := HJ.out; omega⟩, ⟨blk_put (blk_put HK.out 10 (.int .u32 (nb 10)) rfl) 11 (.int .u32 (nb 11)) (by kernel_rfl)⟩, ⟨ownsRow_setCell_below (ownsRow_setCell_below HROW.out HLT.out _) HLT.out _⟩, ⟨below_drew (below_set (below_set HB.out (Nat.le_refl _)) (Nat.le_refl _))⟩⟩
      · obtain rfl : jz = 6 := HZ.out
        have z1 : wr.cell? ⟨w.heap.size, 12, none⟩ = some (.int .u32 0) := (blk_cell HK.out _).trans (by kernel_rfl)
        have z2 : wr.cell? ⟨w.heap.size, 13, none⟩ = some (.int .u32 0) := (blk_cell HK.out _).trans (by kernel_rfl)
        simp only [Nat.mul_zero, Nat.zero_add, Nat.mul_one, Nat.reduceMul, Nat.reduceAdd] at e1 e2 y1 y2 z1 z2
        have HNB := Aside0.mk hnb
        clear hnb
        go_wp2
        go_region
        go_wp2
        go_roundg kk
        case measure => omega
        case rel => exact ⟨7, 7, rfl, ⟨rfl⟩, ⟨by have := HJ.out; omega⟩, ⟨blk_put (blk_put HK.out 12 (.int .u32 (nb 12)) rfl) 13 (.int .u32 (nb 13)) (by kernel_rfl)⟩, ⟨ownsRow_setCell_below (ownsRow_setCell_below HROW.out HLT.out _) HLT.out _⟩, ⟨below_drew (below_set (below_set HB.out (Nat.le_refl _)) (Nat.le_refl _))⟩⟩
      · obtain rfl : jz = 7 := HZ.out
        have z1 : wr.cell? ⟨w.heap.size, 14, none⟩ = some (.int .u32 0) := (blk_cell HK.out _).trans (by kernel_rfl)
        have z2 : wr.cell? ⟨w.heap.size, 15, none⟩ = some (.int .u32 0) := (blk_cell HK.out _).trans (by kernel_rfl)
        simp only [Nat.mul_zero, Nat.zero_add, Nat.mul_one, Nat.reduceMul, Nat.reduceAdd] at e1 e2 y1 y2 z1 z2
        have HNB := Aside0.mk hnb
        clear hnb
        go_wp2
        go_region
        go_wp2
        go_roundg kk
        case measure => omega
        case rel => exact ⟨8, 8, rfl, ⟨rfl⟩, ⟨by have := HJ.out; omega⟩, ⟨blk_put (blk_put HK.out 14 (.int .u32 (nb 14)) rfl) 15 (.int .u32 (nb 15)) (by kernel_rfl)⟩, ⟨ownsRow_setCell_below (ownsRow_setCell_below HROW.out HLT.out _) HLT.out _⟩, ⟨below_drew (below_set (below_set HB.out (Nat.le_refl _)) (Nat.le_refl _))⟩⟩
end Go.Proofs.Ytdobpgomgnaleaa.P
