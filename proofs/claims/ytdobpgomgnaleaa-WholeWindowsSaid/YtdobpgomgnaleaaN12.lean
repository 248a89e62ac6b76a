import Derived.RangeFuncNested
import Derived.RangeFuncBound
import Derived.RangeFuncCalls
import Derived.RangeFuncLeaves
import Derived.Shelf.Abstract
import Derived.Shelf.RegionOpen
import Derived.WalkKit
import Derived.OwnWalkIn
import Derived.TacticsInMore
import Derived.LoopNIn
import Derived.LoopIn
import Derived.RangeFuncBox
import Derived.RangeFuncFrom
import Derived.RangeFuncWrites
import Derived.Maps.AppendAt
import Derived.Stop.RegionWithIn
import Derived.Lib.AppendZeros
import Derived.Deep.WholeRow
import Derived.Test.YtdobpgomgnaleaaN2
import Derived.Test.YtdobpgomgnaleaaN3
import Derived.Test.YtdobpgomgnaleaaN4
import Derived.Test.YtdobpgomgnaleaaN6
import Derived.Test.YtdobpgomgnaleaaN7
import Derived.Test.YtdobpgomgnaleaaN8
import Derived.Test.YtdobpgomgnaleaaN9
import Derived.Test.YtdobpgomgnaleaaN10
import Derived.Test.YtdobpgomgnaleaaN11
import Derived.Shelf.Spec.SlicesInsertGrow
namespace Go.Proofs.Ytdobpgomgnaleaa.P
open Go.RowKit Go.Shelf Go.Proofs.YtdobpgomgnaleaaW.PrintWords
attribute [local go_sem] Oper.semAt_some
set_option linter.unusedVariables false
set_option linter.unusedSimpArgs false
def arrM (n : Nat) : Array Value := ((LAB.take n).map (Value.int .u8) ++ List.replicate (512 - n) (Value.int .u8 0)).toArray
theorem store29 (X : World) (a c : Int) : (Instr.storeAt 29 (.pointer (some ⟨X.heap.size, 0, none⟩)) (.agg #[.int .u32 a, .int .u32 c])).run Try.prog (X.alloc (.cells #[.int .u32 0, .int .u32 0] 29)) = .ok () (X.alloc (.cells #[.int .u32 a, .int .u32 c] 29)) := by
  have h := run_storeVar_new (P := Try.prog) X 29 #[.int .u32 0, .int .u32 0] #[.int .u32 a, .int .u32 c] (by kernel_rfl) rfl (by kernel_rfl)
  simp only [Instr.storeAt, Instr.sureAddr, Sem.run_bind, Sem.run_pure, Result.andThen_ok, h]
theorem store42 (X : World) (a c : Int) : (Instr.storeAt 42 (.pointer (some ⟨X.heap.size, 0, none⟩)) (.agg #[.int .u8 a, .int .u8 c])).run Try.prog (X.alloc (.cells #[.int .u8 0, .int .u8 0] 42)) = .ok () (X.alloc (.cells #[.int .u8 a, .int .u8 c] 42)) := by
  have h := run_storeVar_new (P := Try.prog) X 42 #[.int .u8 0, .int .u8 0] #[.int .u8 a, .int .u8 c] (by kernel_rfl) rfl (by kernel_rfl)
  simp only [Instr.storeAt, Instr.sureAddr, Sem.run_bind, Sem.run_pure, Result.andThen_ok, h]
theorem enc_calls (a : Int) (h0 : 0 ≤ a) (h1 : a < 256) (w : World) : Calls Try.prog 10 #[.int .u32 a] w fun e w' => ∃ g cap, e = .returned (.slice (some ⟨g, 0, none⟩) 4 cap) ∧ w'.ownsRow w.heap.size 5 1 (.slice (some ⟨g, 0, none⟩) 4 cap) 4 [.int .u8 0, .int .u8 0, .int .u8 0, .int .u8 a] ∧ Below w.heap.size w w' := by
  refine (prop_EncodeInt.calls a [0, 0, 0, a] w (by unfold prop_EncodeInt.f; rw [show a / 16777216 % 256 = 0 by omega, show a / 65536 % 256 = 0 by omega, show a / 256 % 256 = 0 by omega, show a % 256 = a by omega])).mono ?_
  rintro e w' ⟨v, rfl, hR, hB⟩
  obtain ⟨g, cap, rfl, _⟩ := R_out hR (by simp)
  exact ⟨g, cap, rfl, Kd.own_of_R hR, hB⟩
theorem own_lab {W : World} {g base n : Nat} (hg : W.heap[g]? = some (.cells (arrM n) 5 (0, 0))) (hn : n ≤ 512) (hb : base ≤ g) : W.ownsRow base 5 1 (.slice (some ⟨g, 0, none⟩) n 512) n ((LAB.take n).map (Value.int .u8)) := by
  have hl : (LAB.take n).length = n := by rw [List.length_take, LAB_len]; omega
  refine ⟨by rw [List.length_map, hl, Nat.mul_one], .inr ⟨g, 512, arrM n, rfl, hb, hg, hn, by decide, ?_, ?_⟩⟩
  · unfold arrM
    rw [List.size_toArray, List.length_append, List.length_map, hl, List.length_replicate]
    omega
  · unfold arrM
    rw [Nat.mul_one, List.take_append_of_le_length (by rw [List.length_map, hl]; exact Nat.le_refl _), List.take_of_length_le (by rw [List.length_map, hl]; exact Nat.le_refl _)]
/-- Four bytes behind those that are there. -/
theorem app_lab (W : World) (g len m n n' : Nat) (hg : W.heap[g]? = some (.cells (arrM n) 5 (0, 0))) (hn : n ≤ 512) (a2 : Addr) (c : Nat) (news : List Value) (hl : news.length = m) (hnews : ∀ j u, news[j]? = some u → W.cell? (a2.add j) = some u) (h1 : ∀ u ∈ news, u.oneCell' = true) (hroom : len + m ≤ 512)
    (hres : ((arrM n).toList.take len ++ news ++ (arrM n).toList.drop (len + m)).toArray = arrM n') :
    (Builtin.append_ #[23, 23] 23 #[.slice (some ⟨g, 0, none⟩) len 512, .slice (some a2) m c]).run Try.prog W = .ok (.slice (some ⟨g, 0, none⟩) (len + m) 512) (W.setRow g (arrM n')) := by
  obtain ⟨i0, hi0, hs⟩ := info5b
  have hsz : (arrM n).size = 512 := by
    unfold arrM
    rw [List.size_toArray, List.length_append, List.length_map, List.length_take, LAB_len, List.length_replicate]
    omega
  have h := run_append_room (P := Try.prog) W 23 23 5 i0 Try.underlying23 hi0 g len 512 (arrM n) hg a2 m c news (by rw [hs, hl, Nat.mul_one]) hnews h1 hroom (by rw [hs, hl]; omega)
  rw [hs, Nat.mul_one, hl] at h
  rw [h, hres]
theorem wpList_make_run {P : Program} {ops : Array Oper} {rest : List Oper} {o : Oper} {a : Act} {Q : Exit → Act → World → Prop} {w : World} (hg : o.guard = none) (l c : Operand) (t : TypeId) (hop : o.op = Op.makeSlice t l c) (vl vc : Value) (hl : a.eval l = vl) (hc : a.eval c = vc) {v : Value} {w1 : World}
    (hrun : (Instr.makeSlice t vl vc).run P w = .ok v w1) (h : wpList P ops Q rest (a.put o.dst v) w1) : wpList P ops Q (o :: rest) a w := by
  refine wpList_plain hg fun K hK' => ?_
  unfold Oper.wp
  simp [execOp, hop, hl, hc, hrun, Result.andThen]
  exact hK' _ _ h
theorem make_lab (W : World) : (Instr.makeSlice 23 (.int .i64 0) (.int .i64 512)).run Try.prog W = .ok (.slice (some ⟨W.heap.size, 0, none⟩) 0 512) (W.alloc (.cells (arrM 0) 5)) := by
  obtain ⟨i0, hi0, hz0, hz1, hz2⟩ := info_parts (show (Try.prog.info? 5).map (fun i => (i.zero, i.size, i.bytes)) = some (some (.int .u8 0), 1, 1) by kernel_rfl)
  have h := run_make (P := Try.prog) W 23 5 i0 (.int .u8 0) Try.underlying23 hi0 hz0 .i64 .i64 0 512 (by decide) (by decide) (by rw [hz2]; decide) (by decide)
  rw [hz1] at h
  rw [show arrM 0 = madeCells (Value.int .u8 0).cells ((512 : Int).toNat * 1) by kernel_rfl]
  exact h
theorem below_setRow {w W : World} {g : Nat} (h : Below w.heap.size w W) (cs : Array Value) (hg : w.heap.size ≤ g) : Below w.heap.size w (W.setRow g cs) :=
  pw_below_grown h (some g) h.size ⟨rfl, rfl, rfl, by simp, fun k _ hk => setRow_other W g k _ (fun e => hk (by rw [e]))⟩ (fun k hk => by cases hk; exact hg)
end Go.Proofs.Ytdobpgomgnaleaa.P
