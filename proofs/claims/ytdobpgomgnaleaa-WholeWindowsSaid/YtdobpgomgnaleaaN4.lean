import Derived.RangeFuncNested
import Derived.RangeFuncBound
import Derived.RangeFuncCalls
import Derived.RangeFuncLeaves
import Derived.Shelf.Abstract
import Derived.Shelf.RegionOpen
import Derived.WalkKit
import Derived.OwnWalkIn
import Derived.TacticsInMore
import Derived.LoopNIn
import Derived.LoopIn
import Derived.RangeFuncBox
import Derived.RangeFuncFrom
import Derived.RangeFuncWrites
import Derived.Maps.AppendAt
import Derived.Stop.RegionWithIn
import Derived.Test.YtdobpgomgnaleaaN2
import Derived.Test.YtdobpgomgnaleaaN3
namespace Go.Proofs.Ytdobpgomgnaleaa.P
open Go.RowKit Go.Shelf Go.Proofs.YtdobpgomgnaleaaW.PrintWords
attribute [local go_sem] Oper.semAt_some
set_option linter.unusedVariables false
set_option linter.unusedSimpArgs false
def numR (l : List Int) : Int := Go.bits .or .u32 (Go.bits .or .u32 (Go.bits .or .u32 ((((rd l 0) % 4294967296) * 16777216) % 4294967296) ((((rd l 1) % 4294967296) * 65536) % 4294967296)) ((((rd l 2) % 4294967296) * 256) % 4294967296)) ((rd l 3) % 4294967296)
def partR (l : List Int) (i : Nat) : List Int := (l.take (4 * i + 4)).drop (4 * i)
theorem step_append_ownIn {F : Fence} {n : Nat} {P : Program} {ops : Array Oper} {o : Oper} {a : Act} {w : World} {K : Act → World → Prop} {Q : Exit → Act → World → Prop} {E : Prop}
    (hg : o.guard = none) (s x : Operand) (t : TypeId) (hop : o.op = Op.call { callee := Callee.builtin Builtin.append, args := #[s, x], argTypes := #[t, t] })
    (v u : Value) (hs : a.eval s = v) (hx : a.eval x = u) {v' : Value} {w' : World} (hr : (Builtin.append_ #[t, t] o.type #[v, u]).run P w = .ok v' w') (hK : K (a.put o.dst v') w') :
    if Region.wanted o (yielded ops a.tmps) = true then Oper.wpIn F n P o a w K Q else E := by
  have hw : Region.wanted o (yielded ops a.tmps) = true := by simp [Region.wanted, hg]
  rw [if_pos hw]
  unfold Oper.wpIn
  refine ⟨?_, ?_⟩
  · simp [Oper.about, hop, resolve, Target.leads, Sem.run_pure]
  · rw [Oper.semAt_plain F _ _ (by rw [hop]; intro c hc'; cases hc')]
    simp [execOp, hop, resolve, invoke, builtin, hs, hx, hr, Result.andThen]
    exact hK
theorem infoU32 : (Try.prog.info? 27).map (fun i => (i.zero, i.size, i.bytes)) = some (some (.int .u32 0), 1, 4) := by kernel_rfl
set_option maxRecDepth 100000 in
set_option maxHeartbeats 4000000 in
theorem ints_in (F : Fence) (n : Nat) (h21 : F.fn 21) (h26 : F.fn 26) (h29 : F.fn 29) (h27 : F.fn 27) (hro : F.round = none) (hn : 3 ≤ n) (b off c q : Nat) (l0 : List Int) (hl : l0.length = 4 * q) (hq : q ≤ 1000) (hq0 : 0 < q) (hc : 4 * q ≤ c) (w : World) (hr : Kd.C (Kd.int .u8) w (some ⟨b, off, none⟩) l0.length l0)
    (hnum : ∀ (m : Nat) (X : World) (A : Option Addr) (l1 : List Int), Kd.C (Kd.int .u8) X A l1.length l1 → l1.length = 4 → CallsIn F m Try.prog 27 #[.slice A l1.length 4] X fun e w' => e = .returned (.int .u32 (numR l1)) ∧ Drawn0 X w') :
    CallsIn F n Try.prog 21 #[.slice (some ⟨b, off, none⟩) l0.length c] w fun e w' => ∃ v, e = .returned (.tuple #[v, .int .i64 0]) ∧ w'.ownsRow w.heap.size 27 1 v q ((List.finRange q).map fun x => Value.int .u32 (numR (partR l0 x.val))) ∧ Below w.heap.size w w' := by
  have h1 : 1 ≤ n := by omega
  rw [hl] at hr ⊢
  refine callsIn_of_wp_marks Try.func21 rfl h21 ?_ hro
  simp only [Try.ntmps21, List.size_toArray, List.length_cons, List.length_nil, Nat.reduceAdd, Nat.reduceSub, Array.replicate_succ, Array.replicate_zero, List.push_toArray, List.append_toArray, List.nil_append, List.cons_append]
  gi_wp2_with (gi_at_call 26; refine (chunk_in F (n - 1) h26 hro _ _ _ _).mono ?_; rintro e w' ⟨rfl, rfl⟩)
  have hB0 := blk_alloc (blk_alloc (blk_new w (Obj.cells #[Value.slice none 0 0] 56)) (Obj.cells #[Value.slice (some ⟨b, off, none⟩) (4 * q) c] 23)) (Obj.cells #[Value.int IntKind.i64 4] 3)
  have hB1 := blk_alloc (blk_new (w.alloc (Obj.cells #[Value.slice none 0 0] 56)) (Obj.cells #[Value.slice (some ⟨b, off, none⟩) (4 * q) c] 23)) (Obj.cells #[Value.int IntKind.i64 4] 3)
  have hB2 := blk_new ((w.alloc (Obj.cells #[Value.slice none 0 0] 56)).alloc (Obj.cells #[Value.slice (some ⟨b, off, none⟩) (4 * q) c] 23)) (Obj.cells #[Value.int IntKind.i64 4] 3)
  rw [World.size_alloc] at hB1
  rw [World.size_alloc, World.size_alloc] at hB2
  have hbel := below_alloc (below_alloc (below_alloc (Below.refl w.heap.size w) (Obj.cells #[Value.slice none 0 0] 56)) (Obj.cells #[Value.slice (some ⟨b, off, none⟩) (4 * q) c] 23)) (Obj.cells #[Value.int IntKind.i64 4] 3)
  obtain ⟨W0, hW0⟩ : ∃ W0, W0 = (((w.alloc (Obj.cells #[Value.slice none 0 0] 56)).alloc (Obj.cells #[Value.slice (some ⟨b, off, none⟩) (4 * q) c] 23)).alloc (Obj.cells #[Value.int IntKind.i64 4] 3)) := ⟨_, rfl⟩
  have hsz : W0.heap.size = w.heap.size + 3 := by rw [hW0, World.size_alloc, World.size_alloc, World.size_alloc]
  rw [← hW0] at hB0 hB1 hB2 hbel ⊢
  refine wpIn_rangeFunc_ownF hro h1 (gf := 29) (lb := #[.pointer (some ⟨w.heap.size + 1, 0, none⟩), .pointer (some ⟨w.heap.size + 1 + 1, 0, none⟩)]) rfl h29 (enters_of Try.func29 (by kernel_rfl) rfl)
    (chunk_stops F (n - 1) h29 hro (by omega) (w.heap.size + 1) (w.heap.size + 1 + 1) b off c q hq hc W0 hB1 hB2)
    KeepsTwo.trans_ (fun W l o o' _ h1 h2 _ => KeepsTwo.put _ _ W l o o' h1 h2) (Below.refl _ _) (fun _ => rfl)
    (fun pre W => (∃ v, Boxed W w.heap.size 56 v ∧ W.ownsRow w.heap.size 27 1 v pre.length (pre.map fun x => Value.int .u32 (numR (partR l0 x.val))) ∧ True) ∧ Below w.heap.size w W ∧ Boxed W (w.heap.size + 1) 23 (Value.slice (some ⟨b, off, none⟩) (4 * q) c) ∧ Boxed W (w.heap.size + 1 + 1) 3 (Value.int .i64 4))
    (fun _ _ _ => False) ?hI (fun _ _ _ _ _ hs _ _ => hs) ?h0
    (fun x => { tmps := #[.slice (some ⟨b, off, none⟩) (4 * q) c, undef, .slice none 0 0, .int .i64 0, .pointer (some ⟨w.heap.size, 0, none⟩), .slice (some ⟨b, off + 4 * x.val, none⟩) 4 4, .slice (some ⟨b, off, none⟩) (4 * q) c, .int .i64 (4 * (q : Int)), .int .i64 0, .bool false, .slice (some ⟨b, off, none⟩) (4 * q) c, .func (.func 29) #[] #[.pointer (some ⟨w.heap.size + 1, 0, none⟩), .pointer (some ⟨w.heap.size + 1 + 1, 0, none⟩)], .slice (some ⟨b, off + 4 * x.val, none⟩) 4 4, undef, undef, undef, undef, undef, undef], defers := [] }) ?assign ?body ?done ?stop
  case hI =>
    refine OwnFrom.and ?_ (OwnFrom.and (ownFrom_below (Nat.le_refl _) (by omega)) (OwnFrom.and (Own.from (boxed_own (β := List (Fin q)) (w.heap.size + 1) 23 (fun _ => Value.slice (some ⟨b, off, none⟩) (4 * q) c)) _) (Own.from (boxed_own (β := List (Fin q)) (w.heap.size + 1 + 1) 3 (fun _ => Value.int .i64 4)) _)))
    have h := Own.from (holdsRow_own (β := List (Fin q)) w.heap.size w.heap.size 56 27 1 (fun pre => pre.length) (fun pre => pre.map fun x => Value.int .u32 (numR (partR l0 x.val))) (fun _ _ => True)) W0.heap.size
    exact h
  case h0 =>
    exact ⟨⟨.slice none 0 0, hB0, World.ownsRow_nil _ _ _ _, trivial⟩, hbel, hB1, hB2⟩
  case assign =>
    intro l x W K hK
    gi_wp2
    exact hK
  case stop =>
    rintro D cc pre W _ _ h _
    exact h.elim
  case done =>
    rintro D ys W hD rfl ⟨⟨v, hv, hrow, _⟩, hB, _, _⟩ hK
    have c1 := hv.cell
    gi_wp2
    refine ⟨by simp, .inl ⟨_, _, rfl, run_takeDeferred hK, ?_⟩⟩
    rw [List.length_finRange] at hrow
    exact ⟨_, results_tmp2 rfl _ _ _, v, rfl, ownsRow_putObj hrow _ hK rfl, hB.trans (belowK_b (w := w) (Nat.le_refl _) W D _ _ (by omega) hK rfl rfl)⟩
  case body =>
    rintro l pre x W ⟨⟨v, hv, hrow, _⟩, hB, hX1, hX2⟩ hlen
    have c1 := hv.cell
    have f1 := hv.frozen
    have hd : 1 ≤ n - 1 - 1 := by omega
    have hmx : Try.prog.follows .mixedOrders = true := by kernel_rfl
    obtain ⟨i0, hi, hz0, hz1, hz2⟩ := info_parts infoU32
    have hx := x.isLt
    have hcn : (partR l0 x.val).length = 4 := by unfold partR; rw [List.length_drop, List.length_take]; omega
    have hru : (Kd.int .u8).C W (some ⟨b, off + 4 * x.val, none⟩) (partR l0 x.val).length (partR l0 x.val) := by
      have h := Kd.C_mid (lo := 4 * x.val) (hi := 4 * x.val + 4) (c := l0.length + 4 * x.val + 1) (Kd.C_below (hl.symm ▸ hr) hB) (by omega) (by omega) (by omega)
      rw [if_neg (by omega)] at h
      rw [show (some ⟨b, off + 4 * x.val, none⟩ : Option Addr) = (some (⟨b, off, none⟩ : Addr)).map (·.add (4 * x.val * (Kd.int .u8).sz)) by show _ = some ((⟨b, off, none⟩ : Addr).add (4 * x.val * 1)); unfold Addr.add; rw [Nat.mul_one]; split <;> simp_all]
      exact h
    have hclA : CallsIn (F.inRound l) (n - 1 - 1 - 1) Try.prog 27 #[.slice (some ⟨b, off + 4 * x.val, none⟩) 4 4] W.drew (fun e w' => e = .returned (.int .u32 (numR (partR l0 x.val))) ∧ ∃ m, w' = W.drewN m) := by
      have h := hnum (n - 1 - 1 - 1) W.drew (some ⟨b, off + 4 * x.val, none⟩) (partR l0 x.val) (Kd.C_drew hru) hcn
      rw [hcn] at h
      refine (CallsIn.inRound l h).mono ?_
      rintro e w' ⟨rfl, ⟨m, rfl⟩⟩
      exact ⟨rfl, m + 1, by rw [World.drewN_drew, Nat.add_comm]⟩
    gi_wp2
    refine wpIn_region_any (by assumption) ?_
    change wpAnyIn _ _ _ _ _ _ _ _ _ (World.drew _)
    refine wpAnyIn_ready (rs := [0, 1]) (by kernel_rfl) (by simp) ?_
    refine AllReadyIn.cons rfl (fun K hK => ?_) (AllReadyIn.cons rfl (fun K hK => ?_) AllReadyIn.nil)
    · go_simp
      refine hK _ _ ?_
      clear hK K
      refine wpAnyIn_ready (rs := [1]) (by kernel_rfl) (by simp) ?_
      refine AllReadyIn.cons rfl (fun K hK => ?_) AllReadyIn.nil
      go_simp
      refine hK _ _ ?_
      clear hK K
      refine wpAnyIn_ready (rs := [2]) (by kernel_rfl) (by simp) ?_
      refine AllReadyIn.cons rfl (fun K hK => ?_) AllReadyIn.nil
      go_simp
      gi_wp2_with (gi_at_call 27; refine CallsIn.mono hclA ?_; rintro e w' ⟨rfl, m, rfl⟩)
      refine wpAnyIn_ready (rs := [3]) (by kernel_rfl) (by simp) ?_
      refine AllReadyIn.cons rfl (fun K hK => ?_) AllReadyIn.nil
      go_simp
      refine hK _ _ ?_
      clear hK K
      refine wpAnyIn_ready (rs := [4]) (by kernel_rfl) (by simp) ?_
      refine AllReadyIn.cons rfl (fun K hK => ?_) AllReadyIn.nil
      obtain ⟨v', w1, hrun, hown', hgrow, _⟩ := run_append_own (P := Try.prog) (w := (W.drewN m).alloc (.cells #[.int .u32 (numR (partR l0 x.val))] 27)) w.heap.size 56 56 27 i0 (.int .u32 0) 1 4 Try.underlying56 hi hz0 hz1 hz2 rfl (by decide) v pre.length _ ((pw_own_drewN hrow m).alloc _) ⟨W.heap.size, 0, none⟩ 1 1 [.int .u32 (numR (partR l0 x.val))] rfl (cell_one_new (W.drewN m) _ _) (by simp [Value.oneCell']) (Nat.le_trans (show pre.length + 1 ≤ 1001 by omega) (by decide)) (by omega) (by have := hB.size; rw [World.size_alloc]; show _ ≤ W.heap.size + 1; omega)
      obtain ⟨g', cap', rfl⟩ := ownsRow_succ hown'
      obtain ⟨hv1, hv2, hr2, hk2, hb2⟩ := Boxed.appended (W := W.drewN m) (n₀ := w.heap.size) hv (by decide) hrow hB.size (Nat.le_refl _) hown' hgrow
      have hc1 := hv1.cell
      have hf1 := hv1.frozen
      refine step_append_ownIn rfl _ _ 56 rfl _ _ rfl rfl hrun ?_
      refine hK _ _ ?_
      clear hK K
      refine wpAnyIn_ready (rs := [5]) (by kernel_rfl) (by simp) ?_
      refine AllReadyIn.cons rfl (fun K hK => ?_) AllReadyIn.nil
      go_simp
      refine hK _ _ ?_
      clear hK K
      refine wpAnyIn_done (by kernel_rfl) ?_ _
      gi_wp2
      have Y1 := ((Boxed.alloc (W := W.drewN m) hX1 _).kept hgrow (Boxed.not_row (W := W.drewN m) hX1 (by decide) hrow)).other (B' := w.heap.size) (by omega) (.slice (some ⟨g', 0, none⟩) (pre.length + 1) cap')
      have Y2 := ((Boxed.alloc (W := W.drewN m) hX2 _).kept hgrow (Boxed.not_row (W := W.drewN m) hX2 (by decide) hrow)).other (B' := w.heap.size) (by omega) (.slice (some ⟨g', 0, none⟩) (pre.length + 1) cap')
      exact ⟨KeepsOthers.trans (show KeepsOthers W (W.drewN m) from ⟨Nat.le_refl _, fun _ _ h _ => h⟩) hk2, fun o _ => ⟨fun e => Y1.trans (hX1.symm.trans e), fun e => Y2.trans (hX2.symm.trans e)⟩, ⟨_, hv2, by simpa using hr2, trivial⟩, hB.trans ((pw_below_drewN (Below.refl _ W) m).trans hb2), Y1, Y2⟩
    · go_simp
      refine hK _ _ ?_
      clear hK K
      refine wpAnyIn_ready (rs := [0, 2]) (by kernel_rfl) (by simp) ?_
      refine AllReadyIn.cons rfl (fun K hK => ?_) (AllReadyIn.cons rfl (fun K hK => ?_) AllReadyIn.nil)
      · go_simp
        refine hK _ _ ?_
        clear hK K
        refine wpAnyIn_ready (rs := [2]) (by kernel_rfl) (by simp) ?_
        refine AllReadyIn.cons rfl (fun K hK => ?_) AllReadyIn.nil
        go_simp
        gi_wp2_with (gi_at_call 27; refine CallsIn.mono hclA ?_; rintro e w' ⟨rfl, m, rfl⟩)
        refine wpAnyIn_ready (rs := [3]) (by kernel_rfl) (by simp) ?_
        refine AllReadyIn.cons rfl (fun K hK => ?_) AllReadyIn.nil
        go_simp
        refine hK _ _ ?_
        clear hK K
        refine wpAnyIn_ready (rs := [4]) (by kernel_rfl) (by simp) ?_
        refine AllReadyIn.cons rfl (fun K hK => ?_) AllReadyIn.nil
        obtain ⟨v', w1, hrun, hown', hgrow, _⟩ := run_append_own (P := Try.prog) (w := (W.drewN m).alloc (.cells #[.int .u32 (numR (partR l0 x.val))] 27)) w.heap.size 56 56 27 i0 (.int .u32 0) 1 4 Try.underlying56 hi hz0 hz1 hz2 rfl (by decide) v pre.length _ ((pw_own_drewN hrow m).alloc _) ⟨W.heap.size, 0, none⟩ 1 1 [.int .u32 (numR (partR l0 x.val))] rfl (cell_one_new (W.drewN m) _ _) (by simp [Value.oneCell']) (Nat.le_trans (show pre.length + 1 ≤ 1001 by omega) (by decide)) (by omega) (by have := hB.size; rw [World.size_alloc]; show _ ≤ W.heap.size + 1; omega)
        obtain ⟨g', cap', rfl⟩ := ownsRow_succ hown'
        obtain ⟨hv1, hv2, hr2, hk2, hb2⟩ := Boxed.appended (W := W.drewN m) (n₀ := w.heap.size) hv (by decide) hrow hB.size (Nat.le_refl _) hown' hgrow
        have hc1 := hv1.cell
        have hf1 := hv1.frozen
        refine step_append_ownIn rfl _ _ 56 rfl _ _ rfl rfl hrun ?_
        refine hK _ _ ?_
        clear hK K
        refine wpAnyIn_ready (rs := [5]) (by kernel_rfl) (by simp) ?_
        refine AllReadyIn.cons rfl (fun K hK => ?_) AllReadyIn.nil
        go_simp
        refine hK _ _ ?_
        clear hK K
        refine wpAnyIn_done (by kernel_rfl) ?_ _
        gi_wp2
        have Y1 := ((Boxed.alloc (W := W.drewN m) hX1 _).kept hgrow (Boxed.not_row (W := W.drewN m) hX1 (by decide) hrow)).other (B' := w.heap.size) (by omega) (.slice (some ⟨g', 0, none⟩) (pre.length + 1) cap')
        have Y2 := ((Boxed.alloc (W := W.drewN m) hX2 _).kept hgrow (Boxed.not_row (W := W.drewN m) hX2 (by decide) hrow)).other (B' := w.heap.size) (by omega) (.slice (some ⟨g', 0, none⟩) (pre.length + 1) cap')
        exact ⟨KeepsOthers.trans (show KeepsOthers W (W.drewN m) from ⟨Nat.le_refl _, fun _ _ h _ => h⟩) hk2, fun o _ => ⟨fun e => Y1.trans (hX1.symm.trans e), fun e => Y2.trans (hX2.symm.trans e)⟩, ⟨_, hv2, by simpa using hr2, trivial⟩, hB.trans ((pw_below_drewN (Below.refl _ W) m).trans hb2), Y1, Y2⟩
      · go_simp
        gi_wp2_with (gi_at_call 27; refine CallsIn.mono hclA ?_; rintro e w' ⟨rfl, m, rfl⟩)
        refine wpAnyIn_ready (rs := [0, 3]) (by kernel_rfl) (by simp) ?_
        refine AllReadyIn.cons rfl (fun K hK => ?_) (AllReadyIn.cons rfl (fun K hK => ?_) AllReadyIn.nil)
        · go_simp
          refine hK _ _ ?_
          clear hK K
          refine wpAnyIn_ready (rs := [3]) (by kernel_rfl) (by simp) ?_
          refine AllReadyIn.cons rfl (fun K hK => ?_) AllReadyIn.nil
          go_simp
          refine hK _ _ ?_
          clear hK K
          refine wpAnyIn_ready (rs := [4]) (by kernel_rfl) (by simp) ?_
          refine AllReadyIn.cons rfl (fun K hK => ?_) AllReadyIn.nil
          obtain ⟨v', w1, hrun, hown', hgrow, _⟩ := run_append_own (P := Try.prog) (w := (W.drewN m).alloc (.cells #[.int .u32 (numR (partR l0 x.val))] 27)) w.heap.size 56 56 27 i0 (.int .u32 0) 1 4 Try.underlying56 hi hz0 hz1 hz2 rfl (by decide) v pre.length _ ((pw_own_drewN hrow m).alloc _) ⟨W.heap.size, 0, none⟩ 1 1 [.int .u32 (numR (partR l0 x.val))] rfl (cell_one_new (W.drewN m) _ _) (by simp [Value.oneCell']) (Nat.le_trans (show pre.length + 1 ≤ 1001 by omega) (by decide)) (by omega) (by have := hB.size; rw [World.size_alloc]; show _ ≤ W.heap.size + 1; omega)
          obtain ⟨g', cap', rfl⟩ := ownsRow_succ hown'
          obtain ⟨hv1, hv2, hr2, hk2, hb2⟩ := Boxed.appended (W := W.drewN m) (n₀ := w.heap.size) hv (by decide) hrow hB.size (Nat.le_refl _) hown' hgrow
          have hc1 := hv1.cell
          have hf1 := hv1.frozen
          refine step_append_ownIn rfl _ _ 56 rfl _ _ rfl rfl hrun ?_
          refine hK _ _ ?_
          clear hK K
          refine wpAnyIn_ready (rs := [5]) (by kernel_rfl) (by simp) ?_
          refine AllReadyIn.cons rfl (fun K hK => ?_) AllReadyIn.nil
          go_simp
          refine hK _ _ ?_
          clear hK K
          refine wpAnyIn_done (by kernel_rfl) ?_ _
          gi_wp2
          have Y1 := ((Boxed.alloc (W := W.drewN m) hX1 _).kept hgrow (Boxed.not_row (W := W.drewN m) hX1 (by decide) hrow)).other (B' := w.heap.size) (by omega) (.slice (some ⟨g', 0, none⟩) (pre.length + 1) cap')
          have Y2 := ((Boxed.alloc (W := W.drewN m) hX2 _).kept hgrow (Boxed.not_row (W := W.drewN m) hX2 (by decide) hrow)).other (B' := w.heap.size) (by omega) (.slice (some ⟨g', 0, none⟩) (pre.length + 1) cap')
          exact ⟨KeepsOthers.trans (show KeepsOthers W (W.drewN m) from ⟨Nat.le_refl _, fun _ _ h _ => h⟩) hk2, fun o _ => ⟨fun e => Y1.trans (hX1.symm.trans e), fun e => Y2.trans (hX2.symm.trans e)⟩, ⟨_, hv2, by simpa using hr2, trivial⟩, hB.trans ((pw_below_drewN (Below.refl _ W) m).trans hb2), Y1, Y2⟩
        · go_simp
          refine hK _ _ ?_
          clear hK K
          refine wpAnyIn_ready (rs := [0]) (by kernel_rfl) (by simp) ?_
          refine AllReadyIn.cons rfl (fun K hK => ?_) AllReadyIn.nil
          have c2 := (Boxed.alloc (W := W.drewN m) hv (.cells #[.int .u32 (numR (partR l0 x.val))] 27)).cell
          go_simp
          refine hK _ _ ?_
          clear hK K
          refine wpAnyIn_ready (rs := [4]) (by kernel_rfl) (by simp) ?_
          refine AllReadyIn.cons rfl (fun K hK => ?_) AllReadyIn.nil
          obtain ⟨v', w1, hrun, hown', hgrow, _⟩ := run_append_own (P := Try.prog) (w := (W.drewN m).alloc (.cells #[.int .u32 (numR (partR l0 x.val))] 27)) w.heap.size 56 56 27 i0 (.int .u32 0) 1 4 Try.underlying56 hi hz0 hz1 hz2 rfl (by decide) v pre.length _ ((pw_own_drewN hrow m).alloc _) ⟨W.heap.size, 0, none⟩ 1 1 [.int .u32 (numR (partR l0 x.val))] rfl (cell_one_new (W.drewN m) _ _) (by simp [Value.oneCell']) (Nat.le_trans (show pre.length + 1 ≤ 1001 by omega) (by decide)) (by omega) (by have := hB.size; rw [World.size_alloc]; show _ ≤ W.heap.size + 1; omega)
          obtain ⟨g', cap', rfl⟩ := ownsRow_succ hown'
          obtain ⟨hv1, hv2, hr2, hk2, hb2⟩ := Boxed.appended (W := W.drewN m) (n₀ := w.heap.size) hv (by decide) hrow hB.size (Nat.le_refl _) hown' hgrow
          have hc1 := hv1.cell
          have hf1 := hv1.frozen
          refine step_append_ownIn rfl _ _ 56 rfl _ _ rfl rfl hrun ?_
          refine hK _ _ ?_
          clear hK K
          refine wpAnyIn_ready (rs := [5]) (by kernel_rfl) (by simp) ?_
          refine AllReadyIn.cons rfl (fun K hK => ?_) AllReadyIn.nil
          go_simp
          refine hK _ _ ?_
          clear hK K
          refine wpAnyIn_done (by kernel_rfl) ?_ _
          gi_wp2
          have Y1 := ((Boxed.alloc (W := W.drewN m) hX1 _).kept hgrow (Boxed.not_row (W := W.drewN m) hX1 (by decide) hrow)).other (B' := w.heap.size) (by omega) (.slice (some ⟨g', 0, none⟩) (pre.length + 1) cap')
          have Y2 := ((Boxed.alloc (W := W.drewN m) hX2 _).kept hgrow (Boxed.not_row (W := W.drewN m) hX2 (by decide) hrow)).other (B' := w.heap.size) (by omega) (.slice (some ⟨g', 0, none⟩) (pre.length + 1) cap')
          exact ⟨KeepsOthers.trans (show KeepsOthers W (W.drewN m) from ⟨Nat.le_refl _, fun _ _ h _ => h⟩) hk2, fun o _ => ⟨fun e => Y1.trans (hX1.symm.trans e), fun e => Y2.trans (hX2.symm.trans e)⟩, ⟨_, hv2, by simpa using hr2, trivial⟩, hB.trans ((pw_below_drewN (Below.refl _ W) m).trans hb2), Y1, Y2⟩
theorem ints_calls (b off c : Nat) (l0 : List Int) (hl : l0.length = 64) (hc : 64 ≤ c) (w : World) (hr : Kd.C (Kd.int .u8) w (some ⟨b, off, none⟩) l0.length l0) :
    Calls Try.prog 21 #[.slice (some ⟨b, off, none⟩) l0.length c] w fun e w' => ∃ v, e = .returned (.tuple #[v, .int .i64 0]) ∧ w'.ownsRow w.heap.size 27 1 v 16 ((List.finRange 16).map fun x => Value.int .u32 (numR (partR l0 x.val))) ∧ Below w.heap.size w w' :=
  callsIn_wide.1 (ints_in Fence.wide 5 trivial trivial trivial trivial rfl (by decide) b off c 16 l0 (by omega) (by decide) (by decide) (by omega) w hr (fun m X A l1 hX h4 => callsIn_wide.2 (by
    have h := prop_number.calls A 4 l1 (numR l1) X hX (by omega) (by
      unfold prop_number.f
      rw [if_pos (by omega), if_pos (by omega), if_pos (by omega), if_pos (by omega)]
      rfl)
    exact h)))
end Go.Proofs.Ytdobpgomgnaleaa.P
