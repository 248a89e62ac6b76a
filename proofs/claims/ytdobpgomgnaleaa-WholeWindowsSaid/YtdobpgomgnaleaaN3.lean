import Derived.RangeFuncNested
import Derived.RangeFuncBound
import Derived.RangeFuncCalls
import Derived.RangeFuncLeaves
import Derived.Shelf.Abstract
import Derived.Shelf.RegionOpen
import Derived.WalkKit
import Derived.OwnWalkIn
import Derived.TacticsInMore
import Derived.LoopNIn
import Derived.LoopIn
import Derived.RangeFuncBox
import Derived.RangeFuncFrom
import Derived.RangeFuncWrites
import Derived.Maps.AppendAt
import Derived.Stop.RegionWithIn
import Derived.Test.YtdobpgomgnaleaaN1
namespace Go.Proofs.Ytdobpgomgnaleaa.P
open Go.RowKit Go.Shelf Go.Proofs.YtdobpgomgnaleaaW.PrintWords
attribute [local go_sem] Oper.semAt_some
set_option linter.unusedVariables false
set_option linter.unusedSimpArgs false
/-- The two boxes that the closure reads stay as they are. -/
def KeepsTwo (Bs Bn : Nat) (W W' : World) : Prop := ∀ o : Obj, o.isCells = true → (W.heap[Bs]? = some o → W'.heap[Bs]? = some o) ∧ (W.heap[Bn]? = some o → W'.heap[Bn]? = some o)
theorem KeepsTwo.trans_ {Bs Bn : Nat} {A B C : World} (h : KeepsTwo Bs Bn A B) (k : KeepsTwo Bs Bn B C) : KeepsTwo Bs Bn A C := fun o ho => ⟨fun e => (k o ho).1 ((h o ho).1 e), fun e => (k o ho).2 ((h o ho).2 e)⟩
theorem KeepsTwo.put (Bs Bn : Nat) (W : World) (l : Nat) (o o' : Obj) (h : W.heap[l]? = some o) (hc : o.isCells = false) : KeepsTwo Bs Bn W (W.putObj l o') := by
  have key : ∀ (B : Nat) (x : Obj), x.isCells = true → W.heap[B]? = some x → (W.putObj l o').heap[B]? = some x := by
    intro B x hx hB
    have hne : B ≠ l := by
      rintro rfl
      rw [hB] at h
      cases h
      rw [hx] at hc
      cases hc
    exact ((grownBy_putObj' W l o').block B (blk_lt hB) (by simpa using hne)).trans hB
  exact fun x hx => ⟨key Bs x hx, key Bn x hx⟩
theorem KeepsTwo.of_grown {Bs Bn : Nat} {W W' : World} {row : Option Nat} (h : W.grownBy W' row) (h1 : some Bs ≠ row) (h2 : some Bn ≠ row) : KeepsTwo Bs Bn W W' := fun o _ => ⟨fun e => (h.block Bs (blk_lt e) h1).trans e, fun e => (h.block Bn (blk_lt e) h2).trans e⟩
set_option maxRecDepth 100000 in
set_option maxHeartbeats 2000000 in
theorem chunk1_in (F : Fence) (n : Nat) (h29 : F.fn 29) (hro : F.round = none) (hn : 1 ≤ n) (l Bs Bn b off cap q : Nat) (hq : q ≤ 1000) (hcap : 4 * q ≤ cap) (J Jx : List (Fin q) → World → Prop)
    (hY : ∀ pre x W, J pre W → pre.length < q → YieldAt F (n - 1) Try.prog l #[.slice (some ⟨b, off + 4 * x.val, none⟩) 4 4] W fun e W' =>
      (e = .returned (.bool true) ∧ J (pre ++ [x]) W' ∧ KeepsTwo Bs Bn W W') ∨ (e = .returned (.bool false) ∧ Jx (pre ++ [x]) W'))
    (W : World) (hBs : W.heap[Bs]? = some (.cells #[.slice (some ⟨b, off, none⟩) (4 * q) cap] 23 (0, 0))) (hBn : W.heap[Bn]? = some (.cells #[.int .i64 4] 3 (0, 0))) (hJ : AbidesFrom W.heap.size J) (h0 : J [] W) :
    CallsIn F n Try.prog 29 #[.func (.yield l) #[] #[], .pointer (some ⟨Bs, 0, none⟩), .pointer (some ⟨Bn, 0, none⟩)] W fun e W' => (∃ v, e = .returned v) ∧
      (J (List.finRange q) W' ∨ (∃ k, k ≤ q ∧ Jx ((List.finRange q).take k) W')) := by
  refine callsIn_of_wp Try.func29 rfl h29 ?_ hro
  simp only [Try.ntmps29, List.size_toArray, List.length_cons, List.length_nil, Nat.reduceAdd, Nat.reduceSub, Array.replicate_succ, Array.replicate_zero, List.push_toArray, List.append_toArray, List.nil_append, List.cons_append]
  gi_wp2
  gi_loopw [4] (fun i wr => ∃ k : Nat, k ≤ q ∧ i = .int .i64 ((4 * k : Nat) : Int) ∧ J ((List.finRange q).take k) wr ∧ wr.heap[Bs]? = some (.cells #[.slice (some ⟨b, off, none⟩) (4 * q) cap] 23 (0, 0)) ∧ wr.heap[Bn]? = some (.cells #[.int .i64 4] 3 (0, 0)))
    (fun i _ => 4 * q - (intOf i).toNat)
  case atStart => exact ⟨0, Nat.zero_le _, rfl, h0, hBs, hBn⟩
  case round =>
    obtain ⟨k, hk, rfl, hJs, hbs, hbn⟩ := hrel
    have hcs : wr.cell? ⟨Bs, 0, none⟩ = some (.slice (some ⟨b, off, none⟩) (4 * q) cap) := (blk_cell hbs 0).trans rfl
    have hcn : wr.cell? ⟨Bn, 0, none⟩ = some (.int .i64 4) := (blk_cell hbn 0).trans rfl
    have HBS := Aside0.mk hbs
    have HBN := Aside0.mk hbn
    clear hbs hbn
    by_cases hlt : k < q
    · have hJd : J ((List.finRange q).take k) wr.drew := hJ _ wr wr.drew none hJs ⟨rfl, rfl, rfl, Nat.le_refl _, fun _ _ _ => rfl⟩ (fun r e => by cases e)
      obtain ⟨fn, tmps, assign, body, hy, hR⟩ := hY _ ⟨k, hlt⟩ wr.drew hJd (by rw [List.length_take, List.length_finRange]; omega)
      have htk : (List.finRange q).take (k + 1) = (List.finRange q).take k ++ [⟨k, hlt⟩] := by
        rw [List.take_succ_eq_append_getElem (by rw [List.length_finRange]; exact hlt)]
        simp
      dsimp only at hy
      have c : decide (((4 * k : Nat) : Int) < ((4 * q : Nat) : Int)) = true := decide_eq_true (by omega)
      have c' : (4 * k < 4 * q) = True := eq_true (by omega)
      have hsl1 : ∀ W, (Instr.slice 23 (.slice (some ⟨b, off, none⟩) (4 * q) cap) (some (.int .i64 ((4 * k : Nat) : Int))) none none).run Try.prog W = .ok (.slice (some ⟨b, off + 4 * k, none⟩) (4 * q - 4 * k) (cap - 4 * k)) W := fun W => by
        obtain ⟨i0_, hi0_, _, hs_, _⟩ := info_parts (show (Try.prog.info? 5).map (fun i => (i.zero, i.size, i.bytes)) = some (some (.int .u8 0), 1, 1) by kernel_rfl)
        have h := cut_from 23 5 .i64 Try.underlying23 hi0_ 1 hs_ (some ⟨b, off, none⟩) (4 * q) cap ((4 * k : Nat) : Int) (by omega) (by omega) W
        rw [Int.toNat_natCast, if_neg (by omega), Nat.mul_one] at h
        rw [h, Option.map_some, show (⟨b, off, none⟩ : Addr).add (4 * k) = ⟨b, off + 4 * k, none⟩ by unfold Addr.add; split <;> simp_all]
      have hmin : min ((4 : Int)) ((4 * q - 4 * k : Nat) : Int) = 4 := by omega
      gi_wp2
      gi_region
      all_goals gi_wp2
      all_goals (
        refine hR.mono ?_
        rintro e W3 (⟨rfl, hJ3, hk3⟩ | ⟨rfl, hJx3⟩)
        · have hbs3 := (hk3 _ rfl).1 (show wr.drew.heap[Bs]? = _ from HBS.out)
          have hbn3 := (hk3 _ rfl).2 (show wr.drew.heap[Bn]? = _ from HBN.out)
          have hcn3 : W3.cell? ⟨Bn, 0, none⟩ = some (.int .i64 4) := (blk_cell hbn3 0).trans rfl
          have HBS3 := Aside0.mk hbs3
          have HBN3 := Aside0.mk hbn3
          clear hbs3 hbn3
          gi_wp2
          go_roundw
          case rel => exact ⟨k + 1, by omega, by simp; omega, by rw [htk]; exact hJ3, HBS3.out, HBN3.out⟩
          case measure => simp [intOf]; omega
        · gi_wp2
          refine bodyPost_ret (results_none rfl _ _ _) rfl ?_
          exact ⟨⟨_, rfl⟩, .inr ⟨k + 1, by omega, by rw [htk]; exact hJx3⟩⟩)
    · obtain rfl : k = q := by omega
      gi_wp2
      go_end0
      rw [List.take_of_length_le (by rw [List.length_finRange]; exact Nat.le_refl _)] at hJs
      exact ⟨⟨_, rfl⟩, .inl hJs⟩
set_option maxHeartbeats 1000000 in
theorem chunk_in (F : Fence) (n : Nat) (h26 : F.fn 26) (hro : F.round = none) (a : Option Addr) (len cap : Nat) (w : World) :
    CallsIn F n Try.prog 26 #[.slice a len cap, .int .i64 4] w fun e w' => e = .returned (.func (.func 29) #[] #[.pointer (some ⟨w.heap.size, 0, none⟩), .pointer (some ⟨w.heap.size + 1, 0, none⟩)]) ∧ w' = (w.alloc (.cells #[.slice a len cap] 23)).alloc (.cells #[.int .i64 4] 3) := by
  refine callsIn_of_wp Try.func26 rfl h26 ?_ hro
  simp only [Try.ntmps26, List.size_toArray, List.length_cons, List.length_nil, Nat.reduceAdd, Nat.reduceSub, Array.replicate_succ, Array.replicate_zero, List.push_toArray, List.append_toArray, List.nil_append, List.cons_append]
  have hmf : ∀ (fn : Fn) (first cap : Array Value) (w : World), (Instr.makeFunc fn first cap).run Try.prog w = .ok (.func fn first cap) w := fun _ _ _ _ => rfl
  gi_wp2
  go_ret
  exact ⟨rfl, rfl⟩
theorem chunk_stops (F : Fence) (n : Nat) (h29 : F.fn 29) (hro : F.round = none) (hn : 1 ≤ n) (Bs Bn b off cap q : Nat) (hq : q ≤ 1000) (hcap : 4 * q ≤ cap) (w : World)
    (hBs : w.heap[Bs]? = some (.cells #[.slice (some ⟨b, off, none⟩) (4 * q) cap] 23 (0, 0))) (hBn : w.heap[Bn]? = some (.cells #[.int .i64 4] 3 (0, 0))) :
    SeqStopsK F n Try.prog 29 #[.pointer (some ⟨Bs, 0, none⟩), .pointer (some ⟨Bn, 0, none⟩)] (fun x : Fin q => #[Value.slice (some ⟨b, off + 4 * x.val, none⟩) 4 4]) (KeepsTwo Bs Bn) (fun ys => ys = List.finRange q) (fun _ => True) q w := fun l J Jx W hW hJ hJx hY h0 => by
  have hBs' := blk_below hBs hW
  have hBn' := blk_below hBn hW
  refine (chunk1_in F n h29 hro hn l Bs Bn b off cap q hq hcap J Jx hY W hBs' hBn' hJ h0).mono ?_
  rintro e W' ⟨he, hj | ⟨k, _, hj⟩⟩
  · exact ⟨he, .inl ⟨_, rfl, hj⟩⟩
  · exact ⟨he, .inr ⟨_, trivial, hj⟩⟩
end Go.Proofs.Ytdobpgomgnaleaa.P
