/- The machine's side: functions of the translation as plain Lean functions, and that the machine's calls come to what they say. No condition. Written by a program (wip/tools/pp.py over the kit's printer); Lean checks it. -/
import Derived.Test.YtngfijkageapgaaPx0
import Derived.Test.YtngfijkageapgaaPx1
namespace Go.Proofs.Ytngfijkageapgaa.P
open Go.RowKit Go.Proofs.YtngfijkageapgaaW.PrintWords Go.Proofs.YtngfijkageapgaaW.PrintLast Go.Proofs.YtngfijkageapgaaW.PrintMore
attribute [local go_sem] max2_int min2_int max_two min_two max_three min_three max_four min_four   -- for this text's walks alone
set_option linter.unusedVariables false
set_option linter.unusedSimpArgs false

/-! ### screen_Turn: function 15 -/
section
open Fl
/-- Where the point with number i comes to. -/
def idx4 (n : Nat) (w h : Int) (i : Int) : Int := (place4 n w h (i.tmod w) (i.tdiv w)).2 * (dims4 n w h).1 + (place4 n w h (i.tmod w) (i.tdiv w)).1
def turnTo (n : Nat) (w h : Int) (l : List Int) : Nat → List Int
  | 0 => List.replicate l.length 0
  | j + 1 => (turnTo n w h l j).set (idx4 n w h j).toNat (rd l j)
theorem Spun.drewN {base : Nat} {a0 a1 nw nh : Int} {n : Nat} {b1 b2 b3 : Nat} {W : World} (h : Spun base a0 a1 nw nh n b1 b2 b3 W) (m : Nat) : Spun base a0 a1 nw nh n b1 b2 b3 (W.drewN m) := h
theorem place4_in (n : Nat) (hn : n < 4) (w h x y nw nh : Int) (x0 : 0 ≤ x) (x1 : x < w) (y0 : 0 ≤ y) (y1 : y < h) (hd : dims4 n w h = (nw, nh)) : 0 ≤ (place4 n w h x y).1 ∧ (place4 n w h x y).1 < nw ∧ 0 ≤ (place4 n w h x y).2 ∧ (place4 n w h x y).2 < nh ∧ nw * nh = w * h := by
  rcases (show n = 0 ∨ n = 1 ∨ n = 2 ∨ n = 3 by omega) with rfl | rfl | rfl | rfl <;> simp only [dims4, Prod.mk.injEq] at hd <;> obtain ⟨rfl, rfl⟩ := hd <;> simp only [place4] <;> refine ⟨by omega, by omega, by omega, by omega, by first | rfl | trivial | exact Int.mul_comm _ _⟩
theorem at_in {P Q nw nh : Int} (p0 : 0 ≤ P) (p1 : P < nw) (q0 : 0 ≤ Q) (q1 : Q < nh) : 0 ≤ Q * nw + P ∧ Q * nw + P < nw * nh ∧ 0 ≤ Q * nw := by
  have h1 : 0 ≤ Q * nw := Int.mul_nonneg q0 (by omega)
  have h2 : (Q + 1) * nw ≤ nh * nw := Int.mul_le_mul_of_nonneg_right (by omega) (by omega)
  rw [Int.add_mul, Int.one_mul] at h2
  rw [Int.mul_comm nw nh]
  exact ⟨by omega, by omega, h1⟩
theorem turnTo_len (n : Nat) (w h : Int) (l : List Int) : ∀ j, (turnTo n w h l j).length = l.length
  | 0 => by simp [turnTo]
  | j + 1 => by rw [turnTo, List.length_set, turnTo_len n w h l j]
theorem w64_id {x : Int} (h0 : 0 ≤ x) (h1 : x < 1000000) : wrap64 x = x := by unfold wrap64; omega
theorem w64_succ {j : Nat} (h : j < 900000) : wrap64 ((j : Int) + 1) = ((j + 1 : Nat) : Int) := by rw [w64_id (x := (j : Int) + 1) (by omega) (by omega)]; rfl
def screen_Turn.f (a0_0 a0_1 : Int) (l0_2 : List Int) (a1 : Int) : Option (Int × Int × List Int × Int) :=
  (screen_Formed.f a0_0 a0_1 l0_2).bind fun s => if s = true then (if 0 ≤ a0_0 ∧ a0_0 ≤ 64 ∧ 0 ≤ a0_1 ∧ a0_1 ≤ 64 ∧ (l0_2.length : Int) = a0_0 * a0_1 then (qn a1).bind fun n => some ((dims4 n a0_0 a0_1).1, (dims4 n a0_0 a0_1).2, turnTo n a0_0 a0_1 l0_2 l0_2.length, 0) else none) else some (0, 0, [], 1)
set_option maxHeartbeats 8000000 in
set_option maxRecDepth 100000 in
theorem screen_Turn.calls (a0_0 a0_1 : Int) (A0_2 : Option Addr) (c0_2 : Nat) (l0_2 : List Int) (a1 : Int) (r1 r2 : Int) (r3 : List Int) (r4 : Int) (w : World) (hr0_2 : Kd.C (Kd.int .u8) w A0_2 l0_2.length l0_2) (hc0_2 : l0_2.length ≤ c0_2) (h : screen_Turn.f a0_0 a0_1 l0_2 a1 = some (r1, r2, r3, r4)) :
    Calls Try.prog 15 #[.agg #[.int .i64 a0_0, .int .i64 a0_1, .slice A0_2 l0_2.length c0_2], .int .i64 a1] w fun e w' => ∃ v2_ : Value, e = .returned (.tuple #[.agg #[.int .i64 r1, .int .i64 r2, v2_], .int .i64 r4]) ∧ Kd.R (Kd.int .u8) 5 w' w.heap.size (fun _ => True) v2_ r3 ∧ Below w.heap.size w w' := by
  have hu28 := Try.underlying28
  have HR0_2 := Aside0.mk hr0_2
  have HC0_2 := Aside0.mk hc0_2
  clear hr0_2 hc0_2
  have HB := Aside0.mk (Below.refl w.heap.size w)
  unfold screen_Turn.f at h
  obtain ⟨s, A30, H⟩ := Option.bind_eq_some_iff.mp h
  clear h
  have A3 := Aside0.mk A30
  clear A30
  cases s with
  | false =>
    simp only [Bool.false_eq_true, if_false, Option.some.injEq, Prod.mk.injEq] at H
    obtain ⟨rfl, rfl, rfl, rfl⟩ := H
    go_enter Try.func15, Try.ntmps15
    go_wp2_with (first | ((with_reducible refine gate_dst (N := 2) rfl ?_); (try (refine gate_guard (by rfl) ?_; dsimp only)); refine box_event ?hg (N := 2) ?hd (cs := #[.int .i64 a0_0, .int .i64 a0_1, .slice A0_2 l0_2.length c0_2]) (t := 28) ?hr ?_; (case hd => rfl); (case hg => rfl); (case hr => first | (go_simp; done) | (go_simp; rfl)); intro gb1 hg w2 hbox hb; have n0_ := Aside0.mk (below_step (by repeat (first | (with_reducible first | exact HB.out | apply below_alloc | apply pw_below_drewN | apply below_drew1) | exact HB.out)) hb); have g_ := Aside0.mk ((by rw [hg]; exact (below_size (by repeat (first | (with_reducible first | exact HB.out | apply below_alloc | apply pw_below_drewN | apply below_drew1) | exact HB.out)))) : w.heap.size ≤ gb1); have b_ := Aside0.mk hbox; clear HB; have HB := n0_; clear n0_; have BK1 := b_; have GE1 := g_; clear b_ g_; clear hg hbox hb; have z1_0 : w2.cell? ⟨gb1, 0, none⟩ = some (.int .i64 a0_0) := (blk_cell BK1.out 0).trans rfl; have z1_1 : w2.cell? ⟨gb1, 1, none⟩ = some (.int .i64 a0_1) := (blk_cell BK1.out 1).trans rfl; have z1_2 : w2.cell? ⟨gb1, 2, none⟩ = some (.slice A0_2 l0_2.length c0_2) := (blk_cell BK1.out 2).trans rfl; have y1_0 := blk_frozen BK1.out 0; have y1_1 := blk_frozen BK1.out 1; have y1_2 := blk_frozen BK1.out 2) | ((with_reducible refine gate_dst (N := 4) rfl ?_); (try (refine gate_guard (by rfl) ?_; dsimp only)); refine box_event ?hg (N := 4) ?hd (cs := #[.int .i64 0, .int .i64 0, .slice none 0 0]) (t := 28) ?hr ?_; (case hd => rfl); (case hg => rfl); (case hr => first | (go_simp; done) | (go_simp; rfl)); intro gb2 hg w4 hbox hb; have m1_ : Aside0 (w4.heap[gb1]? = some (.cells #[.int .i64 a0_0, .int .i64 a0_1, .slice A0_2 l0_2.length c0_2] 28 (0, 0))) := ⟨blk_below (by (with_reducible repeat (first | refine blk_drewN ?_ _ | refine blk_drew ?_ | refine blk_alloc ?_ _)); exact BK1.out) hb⟩; have n0_ := Aside0.mk (below_step (by repeat (first | (with_reducible first | exact HB.out | apply below_alloc | apply pw_below_drewN | apply below_drew1 | refine below_set ?_ GE1.out) | exact HB.out)) hb); have o1_ := Aside0.mk ((by rw [hg]; exact Nat.ne_of_lt (blk_lt (o := .cells #[.int .i64 a0_0, .int .i64 a0_1, .slice A0_2 l0_2.length c0_2] 28 (0, 0)) (by (with_reducible repeat (first | refine blk_drewN ?_ _ | refine blk_drew ?_ | refine blk_alloc ?_ _)); exact BK1.out))) : gb1 ≠ gb2); have g_ := Aside0.mk ((by rw [hg]; exact (below_size (by repeat (first | (with_reducible first | exact HB.out | apply below_alloc | apply pw_below_drewN | apply below_drew1 | refine below_set ?_ GE1.out) | exact HB.out)))) : w.heap.size ≤ gb2); have b_ := Aside0.mk hbox; clear HB; have HB := n0_; clear n0_; clear BK1; have BK1 := m1_; clear m1_; have NB1_2 := o1_; clear o1_; have hnb1_2 := NB1_2.out; have hnc1_2 := fun e_ : gb2 = gb1 => NB1_2.out e_.symm; have BK2 := b_; have GE2 := g_; clear b_ g_; clear hg hbox hb; clear z1_0 z1_1 z1_2 y1_0 y1_1 y1_2; have z1_0 : w4.cell? ⟨gb1, 0, none⟩ = some (.int .i64 a0_0) := (blk_cell BK1.out 0).trans rfl; have z1_1 : w4.cell? ⟨gb1, 1, none⟩ = some (.int .i64 a0_1) := (blk_cell BK1.out 1).trans rfl; have z1_2 : w4.cell? ⟨gb1, 2, none⟩ = some (.slice A0_2 l0_2.length c0_2) := (blk_cell BK1.out 2).trans rfl; have y1_0 := blk_frozen BK1.out 0; have y1_1 := blk_frozen BK1.out 1; have y1_2 := blk_frozen BK1.out 2; have z2_0 : w4.cell? ⟨gb2, 0, none⟩ = some (.int .i64 0) := (blk_cell BK2.out 0).trans rfl; have z2_1 : w4.cell? ⟨gb2, 1, none⟩ = some (.int .i64 0) := (blk_cell BK2.out 1).trans rfl; have z2_2 : w4.cell? ⟨gb2, 2, none⟩ = some (.slice none 0 0) := (blk_cell BK2.out 2).trans rfl; have y2_0 := blk_frozen BK2.out 0; have y2_1 := blk_frozen BK2.out 1; have y2_2 := blk_frozen BK2.out 2) | (go_at_call 24; (with_reducible refine (screen_Formed.calls a0_0 a0_1 A0_2 c0_2 l0_2 false _ (Kd.C_below HR0_2.out (by repeat (first | (with_reducible first | exact HB.out | apply below_alloc | apply pw_below_drewN | apply below_drew1 | refine below_set ?_ GE1.out | refine below_set ?_ GE2.out) | exact HB.out))) HC0_2.out A3.out).mono ?_); rintro e w5 ⟨rfl, hb⟩; have m1_ : Aside0 (w5.heap[gb1]? = some (.cells #[.int .i64 a0_0, .int .i64 a0_1, .slice A0_2 l0_2.length c0_2] 28 (0, 0))) := ⟨blk_below (by (with_reducible repeat (first | refine blk_drewN ?_ _ | refine blk_drew ?_ | refine blk_alloc ?_ _)); exact BK1.out) hb⟩; have m2_ : Aside0 (w5.heap[gb2]? = some (.cells #[.int .i64 0, .int .i64 0, .slice none 0 0] 28 (0, 0))) := ⟨blk_below (by (with_reducible repeat (first | refine blk_drewN ?_ _ | refine blk_drew ?_ | refine blk_alloc ?_ _)); exact BK2.out) hb⟩; have n0_ := Aside0.mk (below_step (by repeat (first | (with_reducible first | exact HB.out | apply below_alloc | apply pw_below_drewN | apply below_drew1 | refine below_set ?_ GE1.out | refine below_set ?_ GE2.out) | exact HB.out)) hb); clear HB; have HB := n0_; clear n0_; clear BK1; have BK1 := m1_; clear m1_; clear BK2; have BK2 := m2_; clear m2_; clear hb; clear z1_0 z1_1 z1_2 y1_0 y1_1 y1_2; clear z2_0 z2_1 z2_2 y2_0 y2_1 y2_2; have z1_0 : w5.cell? ⟨gb1, 0, none⟩ = some (.int .i64 a0_0) := (blk_cell BK1.out 0).trans rfl; have z1_1 : w5.cell? ⟨gb1, 1, none⟩ = some (.int .i64 a0_1) := (blk_cell BK1.out 1).trans rfl; have z1_2 : w5.cell? ⟨gb1, 2, none⟩ = some (.slice A0_2 l0_2.length c0_2) := (blk_cell BK1.out 2).trans rfl; have y1_0 := blk_frozen BK1.out 0; have y1_1 := blk_frozen BK1.out 1; have y1_2 := blk_frozen BK1.out 2; have z2_0 : w5.cell? ⟨gb2, 0, none⟩ = some (.int .i64 0) := (blk_cell BK2.out 0).trans rfl; have z2_1 : w5.cell? ⟨gb2, 1, none⟩ = some (.int .i64 0) := (blk_cell BK2.out 1).trans rfl; have z2_2 : w5.cell? ⟨gb2, 2, none⟩ = some (.slice none 0 0) := (blk_cell BK2.out 2).trans rfl; have y2_0 := blk_frozen BK2.out 0; have y2_1 := blk_frozen BK2.out 1; have y2_2 := blk_frozen BK2.out 2))
    refine bodyPost_ret (results_ct rfl _ _ gb2 28 #[.int .i64 0, .int .i64 0, .slice none 0 0] (0, 0) _ rfl (by (with_reducible repeat (first | refine blk_drewN ?_ _ | refine blk_drew ?_ | refine blk_alloc ?_ _)); refine blk_put (cs := #[.int .i64 0, .int .i64 0, .slice none 0 0]) ?_ 2 _ rfl; (with_reducible repeat (first | refine blk_drewN ?_ _ | refine blk_drew ?_ | refine blk_alloc ?_ _)); refine blk_put (cs := #[.int .i64 0, .int .i64 0, .slice none 0 0]) ?_ 1 _ rfl; (with_reducible repeat (first | refine blk_drewN ?_ _ | refine blk_drew ?_ | refine blk_alloc ?_ _)); refine blk_put (cs := #[.int .i64 0, .int .i64 0, .slice none 0 0]) ?_ 0 _ rfl; (with_reducible repeat (first | refine blk_drewN ?_ _ | refine blk_drew ?_ | refine blk_alloc ?_ _)); exact BK2.out) Try.underlying28 rfl (by kernel_rfl)) rfl ?_
    exact ⟨_, rfl, Kd.R_nil _ _ _ _ _, (by repeat (first | (with_reducible first | exact HB.out | apply below_alloc | apply pw_below_drewN | apply below_drew1 | refine below_set ?_ GE1.out | refine below_set ?_ GE2.out) | exact HB.out))⟩
  | true =>
    rw [if_pos rfl] at H
    by_cases c5 : 0 ≤ a0_0 ∧ a0_0 ≤ 64 ∧ 0 ≤ a0_1 ∧ a0_1 ≤ 64 ∧ (l0_2.length : Int) = a0_0 * a0_1
    rotate_left
    · rw [if_neg c5] at H; cases H
    rw [if_pos c5] at H
    obtain ⟨n, A40, H⟩ := Option.bind_eq_some_iff.mp H
    simp only [Option.some.injEq, Prod.mk.injEq] at H
    obtain ⟨e1, e2, rfl, rfl⟩ := H
    obtain ⟨k1, k2, k3⟩ := qn_spec A40
    obtain ⟨h0, h1, h2, h3, hl⟩ := c5
    have hd := dims4_le (n := n) h0 h1 h2 h3
    obtain ⟨nw, nh, hD⟩ : ∃ nw nh, dims4 n a0_0 a0_1 = (nw, nh) := ⟨_, _, rfl⟩
    have hS := k3 a0_0 a0_1
    rw [hD] at hd hS e1 e2
    subst e1 e2
    have HX := Aside0.mk (fun W => screen_spin.calls a0_0 a0_1 a1 n nw nh W h0 h1 h2 h3 k1 k2 hS hd)
    have HY := Aside0.mk (fun b W b1 b2 b3 x y x0 x1 y0 y1 hs => screen_spin1.calls n a0_0 a0_1 nw nh x y b b1 b2 b3 W k1 h1 h3 x0 x1 y0 y1 hD hs)
    have HL := Aside0.mk (show l0_2.length ≤ 4096 by have : a0_0 * a0_1 ≤ 64 * 64 := Int.mul_le_mul h1 h3 h2 (by decide); omega)
    have HS := Aside0.mk hS
    have HD := Aside0.mk hD
    have HG := Aside0.mk (And.intro h0 (And.intro h1 (And.intro h2 (And.intro h3 hl))))
    have HN := Aside0.mk k1
    clear h0 h1 h2 h3 hl k1 k2 k3 hS hd hD A40
    go_enter Try.func15, Try.ntmps15
    go_upto_region 4 with (first | ((with_reducible refine gate_dst (N := 2) rfl ?_); (try (refine gate_guard (by rfl) ?_; dsimp only)); refine box_event ?hg (N := 2) ?hd (cs := #[.int .i64 a0_0, .int .i64 a0_1, .slice A0_2 l0_2.length c0_2]) (t := 28) ?hr ?_; (case hd => rfl); (case hg => rfl); (case hr => first | (go_simp; done) | (go_simp; rfl)); intro gb1 hg w2 hbox hb; have n0_ := Aside0.mk (below_step (by repeat (first | (with_reducible first | exact HB.out | apply below_alloc | apply pw_below_drewN | apply below_drew1) | exact HB.out)) hb); have g_ := Aside0.mk ((by rw [hg]; exact (below_size (by repeat (first | (with_reducible first | exact HB.out | apply below_alloc | apply pw_below_drewN | apply below_drew1) | exact HB.out)))) : w.heap.size ≤ gb1); have b_ := Aside0.mk hbox; clear HB; have HB := n0_; clear n0_; have BK1 := b_; have GE1 := g_; clear b_ g_; clear hg hbox hb; have z1_0 : w2.cell? ⟨gb1, 0, none⟩ = some (.int .i64 a0_0) := (blk_cell BK1.out 0).trans rfl; have z1_1 : w2.cell? ⟨gb1, 1, none⟩ = some (.int .i64 a0_1) := (blk_cell BK1.out 1).trans rfl; have z1_2 : w2.cell? ⟨gb1, 2, none⟩ = some (.slice A0_2 l0_2.length c0_2) := (blk_cell BK1.out 2).trans rfl; have y1_0 := blk_frozen BK1.out 0; have y1_1 := blk_frozen BK1.out 1; have y1_2 := blk_frozen BK1.out 2) | ((with_reducible refine gate_dst (N := 4) rfl ?_); (try (refine gate_guard (by rfl) ?_; dsimp only)); refine box_event ?hg (N := 4) ?hd (cs := #[.int .i64 0, .int .i64 0, .slice none 0 0]) (t := 28) ?hr ?_; (case hd => rfl); (case hg => rfl); (case hr => first | (go_simp; done) | (go_simp; rfl)); intro gb2 hg w4 hbox hb; have m1_ : Aside0 (w4.heap[gb1]? = some (.cells #[.int .i64 a0_0, .int .i64 a0_1, .slice A0_2 l0_2.length c0_2] 28 (0, 0))) := ⟨blk_below (by (with_reducible repeat (first | refine blk_drewN ?_ _ | refine blk_drew ?_ | refine blk_alloc ?_ _)); exact BK1.out) hb⟩; have n0_ := Aside0.mk (below_step (by repeat (first | (with_reducible first | exact HB.out | apply below_alloc | apply pw_below_drewN | apply below_drew1 | refine below_set ?_ GE1.out) | exact HB.out)) hb); have o1_ := Aside0.mk ((by rw [hg]; exact Nat.ne_of_lt (blk_lt (o := .cells #[.int .i64 a0_0, .int .i64 a0_1, .slice A0_2 l0_2.length c0_2] 28 (0, 0)) (by (with_reducible repeat (first | refine blk_drewN ?_ _ | refine blk_drew ?_ | refine blk_alloc ?_ _)); exact BK1.out))) : gb1 ≠ gb2); have g_ := Aside0.mk ((by rw [hg]; exact (below_size (by repeat (first | (with_reducible first | exact HB.out | apply below_alloc | apply pw_below_drewN | apply below_drew1 | refine below_set ?_ GE1.out) | exact HB.out)))) : w.heap.size ≤ gb2); have b_ := Aside0.mk hbox; clear HB; have HB := n0_; clear n0_; clear BK1; have BK1 := m1_; clear m1_; have NB1_2 := o1_; clear o1_; have hnb1_2 := NB1_2.out; have hnc1_2 := fun e_ : gb2 = gb1 => NB1_2.out e_.symm; have BK2 := b_; have GE2 := g_; clear b_ g_; clear hg hbox hb; clear z1_0 z1_1 z1_2 y1_0 y1_1 y1_2; have z1_0 : w4.cell? ⟨gb1, 0, none⟩ = some (.int .i64 a0_0) := (blk_cell BK1.out 0).trans rfl; have z1_1 : w4.cell? ⟨gb1, 1, none⟩ = some (.int .i64 a0_1) := (blk_cell BK1.out 1).trans rfl; have z1_2 : w4.cell? ⟨gb1, 2, none⟩ = some (.slice A0_2 l0_2.length c0_2) := (blk_cell BK1.out 2).trans rfl; have y1_0 := blk_frozen BK1.out 0; have y1_1 := blk_frozen BK1.out 1; have y1_2 := blk_frozen BK1.out 2; have z2_0 : w4.cell? ⟨gb2, 0, none⟩ = some (.int .i64 0) := (blk_cell BK2.out 0).trans rfl; have z2_1 : w4.cell? ⟨gb2, 1, none⟩ = some (.int .i64 0) := (blk_cell BK2.out 1).trans rfl; have z2_2 : w4.cell? ⟨gb2, 2, none⟩ = some (.slice none 0 0) := (blk_cell BK2.out 2).trans rfl; have y2_0 := blk_frozen BK2.out 0; have y2_1 := blk_frozen BK2.out 1; have y2_2 := blk_frozen BK2.out 2) | (go_at_call 24; (with_reducible refine (screen_Formed.calls a0_0 a0_1 A0_2 c0_2 l0_2 true _ (Kd.C_below HR0_2.out (by repeat (first | (with_reducible first | exact HB.out | apply below_alloc | apply pw_below_drewN | apply below_drew1 | refine below_set ?_ GE1.out | refine below_set ?_ GE2.out) | exact HB.out))) HC0_2.out A3.out).mono ?_); rintro e w5 ⟨rfl, hb⟩; have m1_ : Aside0 (w5.heap[gb1]? = some (.cells #[.int .i64 a0_0, .int .i64 a0_1, .slice A0_2 l0_2.length c0_2] 28 (0, 0))) := ⟨blk_below (by (with_reducible repeat (first | refine blk_drewN ?_ _ | refine blk_drew ?_ | refine blk_alloc ?_ _)); exact BK1.out) hb⟩; have m2_ : Aside0 (w5.heap[gb2]? = some (.cells #[.int .i64 0, .int .i64 0, .slice none 0 0] 28 (0, 0))) := ⟨blk_below (by (with_reducible repeat (first | refine blk_drewN ?_ _ | refine blk_drew ?_ | refine blk_alloc ?_ _)); exact BK2.out) hb⟩; have n0_ := Aside0.mk (below_step (by repeat (first | (with_reducible first | exact HB.out | apply below_alloc | apply pw_below_drewN | apply below_drew1 | refine below_set ?_ GE1.out | refine below_set ?_ GE2.out) | exact HB.out)) hb); clear HB; have HB := n0_; clear n0_; clear BK1; have BK1 := m1_; clear m1_; clear BK2; have BK2 := m2_; clear m2_; clear hb; clear z1_0 z1_1 z1_2 y1_0 y1_1 y1_2; clear z2_0 z2_1 z2_2 y2_0 y2_1 y2_2; have z1_0 : w5.cell? ⟨gb1, 0, none⟩ = some (.int .i64 a0_0) := (blk_cell BK1.out 0).trans rfl; have z1_1 : w5.cell? ⟨gb1, 1, none⟩ = some (.int .i64 a0_1) := (blk_cell BK1.out 1).trans rfl; have z1_2 : w5.cell? ⟨gb1, 2, none⟩ = some (.slice A0_2 l0_2.length c0_2) := (blk_cell BK1.out 2).trans rfl; have y1_0 := blk_frozen BK1.out 0; have y1_1 := blk_frozen BK1.out 1; have y1_2 := blk_frozen BK1.out 2; have z2_0 : w5.cell? ⟨gb2, 0, none⟩ = some (.int .i64 0) := (blk_cell BK2.out 0).trans rfl; have z2_1 : w5.cell? ⟨gb2, 1, none⟩ = some (.int .i64 0) := (blk_cell BK2.out 1).trans rfl; have z2_2 : w5.cell? ⟨gb2, 2, none⟩ = some (.slice none 0 0) := (blk_cell BK2.out 2).trans rfl; have y2_0 := blk_frozen BK2.out 0; have y2_1 := blk_frozen BK2.out 1; have y2_2 := blk_frozen BK2.out 2) | (go_at_call 31; (with_reducible refine (screen_size.calls _ _ _ nw nh _ HS.out).mono ?_); rintro e w6 ⟨rfl, ⟨nd, rfl⟩⟩; have m1_ := Aside0.mk (blk_drewN BK1.out nd); have m2_ := Aside0.mk (blk_drewN BK2.out nd); have n0_ : Aside0 (Below w.heap.size w (w5.drewN nd)) := ⟨pw_below_drewN HB.out _⟩; generalize World.drewN w5 nd = w6 at m1_ m2_ n0_ ⊢; clear HB; have HB := n0_; clear n0_; clear BK1; have BK1 := m1_; clear m1_; clear BK2; have BK2 := m2_; clear m2_; clear z1_0 z1_1 z1_2 y1_0 y1_1 y1_2; clear z2_0 z2_1 z2_2 y2_0 y2_1 y2_2; have z1_0 : w6.cell? ⟨gb1, 0, none⟩ = some (.int .i64 a0_0) := (blk_cell BK1.out 0).trans rfl; have z1_1 : w6.cell? ⟨gb1, 1, none⟩ = some (.int .i64 a0_1) := (blk_cell BK1.out 1).trans rfl; have z1_2 : w6.cell? ⟨gb1, 2, none⟩ = some (.slice A0_2 l0_2.length c0_2) := (blk_cell BK1.out 2).trans rfl; have y1_0 := blk_frozen BK1.out 0; have y1_1 := blk_frozen BK1.out 1; have y1_2 := blk_frozen BK1.out 2; have z2_0 : w6.cell? ⟨gb2, 0, none⟩ = some (.int .i64 0) := (blk_cell BK2.out 0).trans rfl; have z2_1 : w6.cell? ⟨gb2, 1, none⟩ = some (.int .i64 0) := (blk_cell BK2.out 1).trans rfl; have z2_2 : w6.cell? ⟨gb2, 2, none⟩ = some (.slice none 0 0) := (blk_cell BK2.out 2).trans rfl; have y2_0 := blk_frozen BK2.out 0; have y2_1 := blk_frozen BK2.out 1; have y2_2 := blk_frozen BK2.out 2))
    have HT0 := Aside0.mk (show turnTo n a0_0 a0_1 l0_2 0 = List.replicate (l0_2.length : Int).toNat 0 by simp [turnTo])
    obtain ⟨y0, hy0⟩ : ∃ y0, y0 = turnTo n a0_0 a0_1 l0_2 0 := ⟨_, rfl⟩
    rw [← hy0] at HT0
    have HY0 := Aside0.mk hy0
    clear hy0
    go_upto_region 5 with (first | ((with_reducible refine gate_dst (N := 32) rfl ?_); refine Kd.R_make (Kd.int .u8) _ 5 rfl (N := 32) rfl 26 _ _ rfl (l0_2.length : Int) rfl rfl Try.underlying26 (.int .u8 0) 1 info5 rfl (by decide) (by omega) 0 (ok := fun _ => True) (okp := fun _ => True) rfl (fun _ hk => hk) trivial (by omega) (by have := HL.out; omega) (Below.refl _ _) (Nat.le_refl _) ?_; intro v9 w9 ho hb hg_ hnew_; clear hg_ hnew_; rw [← HT0.out] at ho; have r_ := Aside0.mk (Kd.R_lower ho (below_size (by repeat (first | (with_reducible first | exact HB.out | apply below_alloc | apply pw_below_drewN | apply below_drew1 | refine below_set ?_ GE1.out | refine below_set ?_ GE2.out) | exact HB.out)))); have m1_ : Aside0 (w9.heap[gb1]? = some (.cells #[.int .i64 a0_0, .int .i64 a0_1, .slice A0_2 l0_2.length c0_2] 28 (0, 0))) := ⟨blk_below (by (with_reducible repeat (first | refine blk_drewN ?_ _ | refine blk_drew ?_ | refine blk_alloc ?_ _)); exact BK1.out) hb⟩; have m2_ : Aside0 (w9.heap[gb2]? = some (.cells #[.int .i64 0, .int .i64 0, .slice none 0 0] 28 (0, 0))) := ⟨blk_below (by (with_reducible repeat (first | refine blk_drewN ?_ _ | refine blk_drew ?_ | refine blk_alloc ?_ _)); exact BK2.out) hb⟩; have n0_ := Aside0.mk (below_step (by repeat (first | (with_reducible first | exact HB.out | apply below_alloc | apply pw_below_drewN | apply below_drew1 | refine below_set ?_ GE1.out | refine below_set ?_ GE2.out) | exact HB.out)) hb); clear HB; have HB := n0_; clear n0_; clear BK1; have BK1 := m1_; clear m1_; clear BK2; have BK2 := m2_; clear m2_; have HO := r_; clear r_ ho hb; obtain ⟨Ao, co, eo⟩ := Kd.R_slice HO.out; subst eo; clear z1_0 z1_1 z1_2 y1_0 y1_1 y1_2; clear z2_0 z2_1 z2_2 y2_0 y2_1 y2_2; have z1_0 : w9.cell? ⟨gb1, 0, none⟩ = some (.int .i64 a0_0) := (blk_cell BK1.out 0).trans rfl; have z1_1 : w9.cell? ⟨gb1, 1, none⟩ = some (.int .i64 a0_1) := (blk_cell BK1.out 1).trans rfl; have z1_2 : w9.cell? ⟨gb1, 2, none⟩ = some (.slice A0_2 l0_2.length c0_2) := (blk_cell BK1.out 2).trans rfl; have y1_0 := blk_frozen BK1.out 0; have y1_1 := blk_frozen BK1.out 1; have y1_2 := blk_frozen BK1.out 2; have z2_0 : w9.cell? ⟨gb2, 0, none⟩ = some (.int .i64 0) := (blk_cell BK2.out 0).trans rfl; have z2_1 : w9.cell? ⟨gb2, 1, none⟩ = some (.int .i64 0) := (blk_cell BK2.out 1).trans rfl; have z2_2 : w9.cell? ⟨gb2, 2, none⟩ = some (.slice none 0 0) := (blk_cell BK2.out 2).trans rfl; have y2_0 := blk_frozen BK2.out 0; have y2_1 := blk_frozen BK2.out 1; have y2_2 := blk_frozen BK2.out 2) | ((with_reducible refine gate_dst (N := 8) rfl ?_); (try (refine gate_guard (by rfl) ?_; dsimp only)); refine box_event ?hg (N := 8) ?hd (cs := #[.int .i64 0, .int .i64 0, .slice none 0 0]) (t := 28) ?hr ?_; (case hd => rfl); (case hg => rfl); (case hr => first | (go_simp; done) | (go_simp; rfl)); intro gb3 hg w10 hbox hb; have m1_ : Aside0 (w10.heap[gb1]? = some (.cells #[.int .i64 a0_0, .int .i64 a0_1, .slice A0_2 l0_2.length c0_2] 28 (0, 0))) := ⟨blk_below (by (with_reducible repeat (first | refine blk_drewN ?_ _ | refine blk_drew ?_ | refine blk_alloc ?_ _)); exact BK1.out) hb⟩; have m2_ : Aside0 (w10.heap[gb2]? = some (.cells #[.int .i64 0, .int .i64 0, .slice none 0 0] 28 (0, 0))) := ⟨blk_below (by (with_reducible repeat (first | refine blk_drewN ?_ _ | refine blk_drew ?_ | refine blk_alloc ?_ _)); exact BK2.out) hb⟩; have n0_ := Aside0.mk (below_step (by repeat (first | (with_reducible first | exact HB.out | apply below_alloc | apply pw_below_drewN | apply below_drew1 | refine below_set ?_ GE1.out | refine below_set ?_ GE2.out) | exact HB.out)) hb); have o1_ := Aside0.mk ((by rw [hg]; exact Nat.ne_of_lt (blk_lt (o := .cells #[.int .i64 a0_0, .int .i64 a0_1, .slice A0_2 l0_2.length c0_2] 28 (0, 0)) (by (with_reducible repeat (first | refine blk_drewN ?_ _ | refine blk_drew ?_ | refine blk_alloc ?_ _)); exact BK1.out))) : gb1 ≠ gb3); have o2_ := Aside0.mk ((by rw [hg]; exact Nat.ne_of_lt (blk_lt (o := .cells #[.int .i64 0, .int .i64 0, .slice none 0 0] 28 (0, 0)) (by (with_reducible repeat (first | refine blk_drewN ?_ _ | refine blk_drew ?_ | refine blk_alloc ?_ _)); exact BK2.out))) : gb2 ≠ gb3); have r_ := Aside0.mk (Kd.R_below (by (with_reducible repeat (first | apply Kd.R_alloc | apply Kd.R_drewN | apply Kd.R_drew)); exact HO.out) hb); clear HO; have HO := r_; clear r_; have g_ := Aside0.mk ((by rw [hg]; exact (below_size (by repeat (first | (with_reducible first | exact HB.out | apply below_alloc | apply pw_below_drewN | apply below_drew1 | refine below_set ?_ GE1.out | refine below_set ?_ GE2.out) | exact HB.out)))) : w.heap.size ≤ gb3); have b_ := Aside0.mk hbox; clear HB; have HB := n0_; clear n0_; clear BK1; have BK1 := m1_; clear m1_; clear BK2; have BK2 := m2_; clear m2_; have NB1_3 := o1_; clear o1_; have hnb1_3 := NB1_3.out; have hnc1_3 := fun e_ : gb3 = gb1 => NB1_3.out e_.symm; have NB2_3 := o2_; clear o2_; have hnb2_3 := NB2_3.out; have hnc2_3 := fun e_ : gb3 = gb2 => NB2_3.out e_.symm; have BK3 := b_; have GE3 := g_; clear b_ g_; clear hg hbox hb; clear z1_0 z1_1 z1_2 y1_0 y1_1 y1_2; have z1_0 : w10.cell? ⟨gb1, 0, none⟩ = some (.int .i64 a0_0) := (blk_cell BK1.out 0).trans rfl; have z1_1 : w10.cell? ⟨gb1, 1, none⟩ = some (.int .i64 a0_1) := (blk_cell BK1.out 1).trans rfl; have z1_2 : w10.cell? ⟨gb1, 2, none⟩ = some (.slice A0_2 l0_2.length c0_2) := (blk_cell BK1.out 2).trans rfl; have y1_0 := blk_frozen BK1.out 0; have y1_1 := blk_frozen BK1.out 1; have y1_2 := blk_frozen BK1.out 2; clear z2_0 z2_1 z2_2 y2_0 y2_1 y2_2; have z2_0 : w10.cell? ⟨gb2, 0, none⟩ = some (.int .i64 0) := (blk_cell BK2.out 0).trans rfl; have z2_1 : w10.cell? ⟨gb2, 1, none⟩ = some (.int .i64 0) := (blk_cell BK2.out 1).trans rfl; have z2_2 : w10.cell? ⟨gb2, 2, none⟩ = some (.slice none 0 0) := (blk_cell BK2.out 2).trans rfl; have y2_0 := blk_frozen BK2.out 0; have y2_1 := blk_frozen BK2.out 1; have y2_2 := blk_frozen BK2.out 2; have z3_0 : w10.cell? ⟨gb3, 0, none⟩ = some (.int .i64 0) := (blk_cell BK3.out 0).trans rfl; have z3_1 : w10.cell? ⟨gb3, 1, none⟩ = some (.int .i64 0) := (blk_cell BK3.out 1).trans rfl; have z3_2 : w10.cell? ⟨gb3, 2, none⟩ = some (.slice none 0 0) := (blk_cell BK3.out 2).trans rfl; have y3_0 := blk_frozen BK3.out 0; have y3_1 := blk_frozen BK3.out 1; have y3_2 := blk_frozen BK3.out 2))
    go_upto_region 6 with (first | (go_at_call 27; (with_reducible refine (HX.out _).mono ?_); rintro e w11 ⟨b1, b2, b3, rfl, hsp, hb⟩; have SP : Aside0 (Spun 0 a0_0 a0_1 nw nh n b1 b2 b3 w11) := ⟨⟨Nat.zero_le _, Nat.zero_le _, Nat.zero_le _, hsp.2.2.2⟩⟩; have m1_ := Aside0.mk (blk_below (blk_far (blk_far (blk_far BK1.out NB1_3.out _) NB1_3.out _) NB1_3.out _) hb); have m2_ := Aside0.mk (blk_below (blk_far (blk_far (blk_far BK2.out NB2_3.out _) NB2_3.out _) NB2_3.out _) hb); have m3_ := Aside0.mk (blk_below (blk_put (cs' := #[.int .i64 nw, .int .i64 nh, .slice Ao y0.length co]) (blk_put (cs' := #[.int .i64 nw, .int .i64 nh, .slice none 0 0]) (blk_put (cs' := #[.int .i64 nw, .int .i64 0, .slice none 0 0]) BK3.out 0 _ rfl) 1 _ rfl) 2 _ rfl) hb); have r_ := Aside0.mk (Kd.R_below (Kd.R_mono (Kd.R_far (p := ⟨gb3, 2, none⟩) (Kd.R_far (p := ⟨gb3, 1, none⟩) (Kd.R_far (p := ⟨gb3, 0, none⟩) (Kd.R_types HO.out BK3.out (by decide)) (fun _ hk => hk.2) _) (fun _ hk => hk.2) _) (fun _ hk => hk.2) _) (fun _ hk => trivial)) hb); have n0_ := Aside0.mk (below_step (by repeat (first | (with_reducible first | exact HB.out | apply below_alloc | apply pw_below_drewN | apply below_drew1 | refine below_set ?_ GE1.out | refine below_set ?_ GE2.out | refine below_set ?_ GE3.out) | exact HB.out)) hb); clear HO hsp hb; have HO := r_; clear r_; clear HB; have HB := n0_; clear n0_; clear BK1; have BK1 := m1_; clear m1_; clear BK2; have BK2 := m2_; clear m2_; clear BK3; have BK3 := m3_; clear m3_; clear z1_0 z1_1 z1_2 y1_0 y1_1 y1_2; clear z2_0 z2_1 z2_2 y2_0 y2_1 y2_2; clear z3_0 z3_1 z3_2 y3_0 y3_1 y3_2; have z1_0 : w11.cell? ⟨gb1, 0, none⟩ = some (.int .i64 a0_0) := (blk_cell BK1.out 0).trans rfl; have z1_1 : w11.cell? ⟨gb1, 1, none⟩ = some (.int .i64 a0_1) := (blk_cell BK1.out 1).trans rfl; have z1_2 : w11.cell? ⟨gb1, 2, none⟩ = some (.slice A0_2 l0_2.length c0_2) := (blk_cell BK1.out 2).trans rfl; have y1_0 := blk_frozen BK1.out 0; have y1_1 := blk_frozen BK1.out 1; have y1_2 := blk_frozen BK1.out 2))
    go_wp2
    go_loopg [43] l0_2.length (fun kq v43 w' => ∃ (j : Nat), v43 = .int .i64 j ∧ Aside0 (j + kq = l0_2.length) ∧ Aside0 (Kd.R (Kd.int .u8) 5 w' w.heap.size (fun _ => True) (.slice Ao y0.length co) (turnTo n a0_0 a0_1 l0_2 j)) ∧ Aside0 (w'.heap[gb1]? = some (.cells #[.int .i64 a0_0, .int .i64 a0_1, .slice A0_2 l0_2.length c0_2] 28 (0, 0))) ∧ Aside0 (w'.heap[gb2]? = some (.cells #[.int .i64 0, .int .i64 0, .slice none 0 0] 28 (0, 0))) ∧ Aside0 (w'.heap[gb3]? = some (.cells #[.int .i64 nw, .int .i64 nh, .slice Ao y0.length co] 28 (0, 0))) ∧ Aside0 (Spun 0 a0_0 a0_1 nw nh n b1 b2 b3 w') ∧ Aside0 (Below w.heap.size w w'))
    case atStart =>
      refine ⟨0, rfl, ⟨by omega⟩, ?_, BK1, BK2, BK3, ?_, HB⟩
      · rw [← HY0.out]; exact HO
      · exact SP
    case round =>
      clear HO BK1 BK2 BK3 SP HB z1_0 z1_1 z1_2 y1_0 y1_1 y1_2
      obtain ⟨j, rfl, HJ, HO, BK1, BK2, BK3, SP, HB⟩ := hrel
      cases gk with
      | zero =>
        have c : decide ((j : Int) < (l0_2.length : Int)) = false := decide_eq_false (by have := HJ.out; omega)
        have c' : (j < l0_2.length) = False := eq_false (by have := HJ.out; omega)
        have z3_0 : wr.cell? ⟨gb3, 0, none⟩ = some ((.int .i64 nw)) := (blk_cell BK3.out 0).trans rfl
        have z3_1 : wr.cell? ⟨gb3, 1, none⟩ = some ((.int .i64 nh)) := (blk_cell BK3.out 1).trans rfl
        have z3_2 : wr.cell? ⟨gb3, 2, none⟩ = some ((.slice Ao y0.length co)) := (blk_cell BK3.out 2).trans rfl
        have y3_0 := blk_frozen BK3.out 0
        have y3_1 := blk_frozen BK3.out 1
        have y3_2 := blk_frozen BK3.out 2
        have z2_0 : wr.cell? ⟨gb2, 0, none⟩ = some (.int .i64 0) := (blk_cell BK2.out 0).trans rfl
        have z2_1 : wr.cell? ⟨gb2, 1, none⟩ = some (.int .i64 0) := (blk_cell BK2.out 1).trans rfl
        have z2_2 : wr.cell? ⟨gb2, 2, none⟩ = some (.slice none 0 0) := (blk_cell BK2.out 2).trans rfl
        have y2_0 := blk_frozen BK2.out 0
        have y2_1 := blk_frozen BK2.out 1
        have y2_2 := blk_frozen BK2.out 2
        have hnb2_3 := NB2_3.out
        have hnc2_3 := fun e_ : gb3 = gb2 => NB2_3.out e_.symm
        go_wp2
        have hj : j = l0_2.length := by have := HJ.out; omega
        subst hj
        refine bodyPost_ret (results_ct rfl _ _ gb2 28 #[.int .i64 nw, .int .i64 nh, .slice Ao y0.length co] (0, 0) _ rfl (by (with_reducible repeat (first | refine blk_drewN ?_ _ | refine blk_drew ?_ | refine blk_alloc ?_ _)); refine blk_put (cs := #[.int .i64 nw, .int .i64 nh, .slice none 0 0]) ?_ 2 _ rfl; (with_reducible repeat (first | refine blk_drewN ?_ _ | refine blk_drew ?_ | refine blk_alloc ?_ _)); refine blk_put (cs := #[.int .i64 nw, .int .i64 0, .slice none 0 0]) ?_ 1 _ rfl; (with_reducible repeat (first | refine blk_drewN ?_ _ | refine blk_drew ?_ | refine blk_alloc ?_ _)); refine blk_put (cs := #[.int .i64 0, .int .i64 0, .slice none 0 0]) ?_ 0 _ rfl; (with_reducible repeat (first | refine blk_drewN ?_ _ | refine blk_drew ?_ | refine blk_alloc ?_ _)); exact BK2.out) Try.underlying28 rfl (by kernel_rfl)) rfl ?_
        exact ⟨_, rfl, Kd.R_mono (Kd.R_far (p := ⟨gb2, 2, none⟩) (Kd.R_far (p := ⟨gb2, 1, none⟩) (Kd.R_far (p := ⟨gb2, 0, none⟩) (Kd.R_types HO.out BK2.out (by decide)) (fun _ hk => hk.2) _) (fun _ hk => hk.2) _) (fun _ hk => hk.2) _) (fun _ hk => trivial), (by repeat (first | (with_reducible first | exact HB.out | apply below_alloc | apply pw_below_drewN | apply below_drew1 | refine below_set ?_ GE1.out | refine below_set ?_ GE2.out | refine below_set ?_ GE3.out) | exact HB.out))⟩
      | succ k1 =>
        have cj : j < l0_2.length := by have := HJ.out; omega
        have c : decide ((j : Int) < (l0_2.length : Int)) = true := decide_eq_true (by omega)
        have c' : (j < l0_2.length) = True := eq_true cj
        have q1 : (j : Int) < (l0_2.length : Int) := by omega
        obtain ⟨ad, e, hx⟩ := Kd.at_int HR0_2.out (j : Int) (by omega) q1
        cases e
        replace hx := (HB.out.cell (World.block_lt_of_cell? w _ hx)).trans hx
        rw [Int.toNat_natCast] at hx
        have z1_0 : wr.cell? ⟨gb1, 0, none⟩ = some (.int .i64 a0_0) := (blk_cell BK1.out 0).trans rfl
        have z1_1 : wr.cell? ⟨gb1, 1, none⟩ = some (.int .i64 a0_1) := (blk_cell BK1.out 1).trans rfl
        have z1_2 : wr.cell? ⟨gb1, 2, none⟩ = some ((.slice (some ad) l0_2.length c0_2)) := (blk_cell BK1.out 2).trans rfl
        have y1_0 := blk_frozen BK1.out 0
        have y1_1 := blk_frozen BK1.out 1
        have y1_2 := blk_frozen BK1.out 2
        obtain ⟨g0, g1, g2, g3, gl⟩ := HG.out
        have hp : 0 < a0_0 := by
          rcases Int.lt_or_le 0 a0_0 with h_ | h_
          · exact h_
          · have : a0_0 = 0 := by omega
            rw [this] at gl; omega
        have hlen := HL.out
        have x0 : 0 ≤ (j : Int).tmod a0_0 := Int.tmod_nonneg _ (by omega)
        have x1 : (j : Int).tmod a0_0 < a0_0 := Int.tmod_lt_of_pos _ hp
        have y_0 : 0 ≤ (j : Int).tdiv a0_0 := Int.tdiv_nonneg (by omega) (by omega)
        have y1 : (j : Int).tdiv a0_0 < a0_1 := by
          rw [Int.tdiv_eq_ediv_of_nonneg (Int.natCast_nonneg j)]
          exact Int.ediv_lt_of_lt_mul hp (by rw [Int.mul_comm]; omega)
        have yl : y0.length = l0_2.length := by have := HY0.out; rw [this, turnTo_len]
        have HZ := Aside0.mk (fun W hs => HY.out 0 W b1 b2 b3 ((j : Int).tmod a0_0) ((j : Int).tdiv a0_0) x0 x1 y_0 y1 hs)
        obtain ⟨p0, p1, q0, q1, ar⟩ := place4_in n HN.out a0_0 a0_1 ((j : Int).tmod a0_0) ((j : Int).tdiv a0_0) nw nh x0 x1 y_0 y1 HD.out
        obtain ⟨i0, i1, i2⟩ := at_in p0 p1 q0 q1
        have il : (place4 n a0_0 a0_1 ((j : Int).tmod a0_0) ((j : Int).tdiv a0_0)).2 * nw + (place4 n a0_0 a0_1 ((j : Int).tmod a0_0) ((j : Int).tdiv a0_0)).1 < (y0.length : Int) := by rw [yl, gl, ← ar]; exact i1
        have il2 : (y0.length : Int) ≤ 4096 := by omega
        have hm := w64_id i2 (by omega)
        have ha := w64_id i0 (by omega)
        have hy2 := w64_id y_0 (by omega)
        have hN : wrap64 ((j : Int) + 1) = ((j + 1 : Nat) : Int) := by exact w64_succ (by omega)
        have hz : ¬ a0_0 = 0 := by omega
        have hz2 : (a0_0 == 0) = false := beq_eq_false_iff_ne.mpr hz
        have hte : (j : Int).tdiv a0_0 = (j : Int) / a0_0 := Int.tdiv_eq_ediv_of_nonneg (Int.natCast_nonneg j)
        have HYL := Aside0.mk yl
        have HI := Aside0.mk (show idx4 n a0_0 a0_1 j = (place4 n a0_0 a0_1 ((j : Int).tmod a0_0) ((j : Int).tdiv a0_0)).2 * nw + (place4 n a0_0 a0_1 ((j : Int).tmod a0_0) ((j : Int).tdiv a0_0)).1 by unfold idx4; rw [HD.out])
        clear g0 g1 g2 g3 gl hp x0 x1 y_0 y1 p0 p1 q0 q1 ar i1 i2 yl il2 hlen
        generalize (place4 n a0_0 a0_1 ((j : Int).tmod a0_0) ((j : Int).tdiv a0_0)).1 = P at HZ i0 il ha HI
        generalize (place4 n a0_0 a0_1 ((j : Int).tmod a0_0) ((j : Int).tdiv a0_0)).2 = Q at HZ i0 il hm ha HI
        generalize hM : Q * nw = M at i0 il hm ha HI
        rw [← hM] at hm
        replace hm : wrap64 (Q * nw) = M := hm.trans hM
        generalize hI : M + P = I at i0 il ha HI
        rw [← hI] at ha
        replace ha : wrap64 (M + P) = I := ha.trans hI
        generalize hX : (j : Int).tmod a0_0 = X at HZ
        have hY5 : wrap64 ((j : Int) / a0_0) = (j : Int).tdiv a0_0 := by rw [← hte]; exact hy2
        generalize hY : (j : Int).tdiv a0_0 = Y at HZ hy2 hY5
        have hY2 : wrap64 ((j : Int).tdiv a0_0) = Y := by rw [hY]; exact hy2
        have hY3 : IntKind.i64.wrap ((j : Int).tdiv a0_0) = Y := (i64_w _).trans hY2
        have hY4 : IntKind.i64.wrap ((j : Int) / a0_0) = Y := (i64_w _).trans hY5
        have hm3 : IntKind.i64.wrap (Q * nw) = M := (i64_w _).trans hm
        have ha3 : IntKind.i64.wrap (M + P) = I := (i64_w _).trans ha
        have hN2 : IntKind.i64.wrap ((j : Int) + 1) = ((j + 1 : Nat) : Int) := (i64_w _).trans hN
        have HI0 := Aside0.mk i0
        have HIL := Aside0.mk il
        clear i0 il hM hI hY hte hy2
        go_wp2
        go_quiet ((go_at_call 37; exact Calls.quiet_of_same (HZ.out _ (Spun.drewN SP.out _))))
        have r_ := Aside0.mk (Kd.R_drewN HO.out nq)
        have m1_ := Aside0.mk (blk_drewN BK1.out nq)
        have m2_ := Aside0.mk (blk_drewN BK2.out nq)
        have m3_ := Aside0.mk (blk_drewN BK3.out nq)
        have s_ := Aside0.mk (Spun.drewN SP.out nq)
        have n0_ : Aside0 (Below w.heap.size w (wr.drewN nq)) := ⟨pw_below_drewN HB.out _⟩
        generalize World.drewN wr nq = w12 at r_ m1_ m2_ m3_ s_ n0_ ⊢
        clear HO BK1 BK2 BK3 SP HB hx z1_0 z1_1 z1_2 y1_0 y1_1 y1_2
        have HO := r_
        have BK1 := m1_
        have BK2 := m2_
        have BK3 := m3_
        have SP := s_
        have HB := n0_
        clear r_ m1_ m2_ m3_ s_ n0_
        have yl := HYL.out
        have p27 := HI0.out
        have q27 := HIL.out
        obtain ⟨go, co2, eo, gb, gl, cl, HGn⟩ := Kd.R_form HO.out (by rw [turnTo_len]; omega)
        (first | cases eo | (injection eo with ea_ en_ ec_; (first | subst ea_ | (injection ea_ with ea_; subst ea_)); subst ec_; clear en_))
        have GB := Aside0.mk gb
        clear gb gl HGn
        obtain ⟨hx0, hf0⟩ := Kd.R_celln 0 HO.out I p27 q27
        replace p27 := eq_true p27
        replace q27 := eq_true q27
        have HP := Aside0.mk (Kd.R_putn HO.out I (rd l0_2 (j : Int)))
        clear yl
        have z3_0 : w12.cell? ⟨gb3, 0, none⟩ = some ((.int .i64 nw)) := (blk_cell BK3.out 0).trans rfl
        have z3_1 : w12.cell? ⟨gb3, 1, none⟩ = some ((.int .i64 nh)) := (blk_cell BK3.out 1).trans rfl
        have z3_2 : w12.cell? ⟨gb3, 2, none⟩ = some ((.slice (some ⟨go, 0, none⟩) y0.length co)) := (blk_cell BK3.out 2).trans rfl
        have y3_0 := blk_frozen BK3.out 0
        have y3_1 := blk_frozen BK3.out 1
        have y3_2 := blk_frozen BK3.out 2
        go_wp2
        go_roundg k1
        case measure => have := HJ.out; omega
        case rel =>
          refine ⟨j + 1, by first | rfl | (simp [hN2]; done), ⟨by have := HJ.out; omega⟩, ?_, ?_, ?_, ?_, ?_, ?_⟩
          · exact ⟨by rw [turnTo, HI.out]; exact HP.out⟩
          · exact ⟨blk_far BK1.out (by have h_ := Kd.R_ne HO.out BK1.out (by decide); intro e_; exact h_ (by rw [e_]; rfl)) _⟩
          · exact ⟨blk_far BK2.out (by have h_ := Kd.R_ne HO.out BK2.out (by decide); intro e_; exact h_ (by rw [e_]; rfl)) _⟩
          · exact ⟨blk_far BK3.out (by have h_ := Kd.R_ne HO.out BK3.out (by decide); intro e_; exact h_ (by rw [e_]; rfl)) _⟩
          · exact ⟨⟨Nat.zero_le _, Nat.zero_le _, Nat.zero_le _, blk_far SP.out.2.2.2.1 (by have h_ := Kd.R_ne HO.out SP.out.2.2.2.1 (by decide); intro e_; exact h_ (by rw [e_]; rfl)) _, blk_far SP.out.2.2.2.2.1 (by have h_ := Kd.R_ne HO.out SP.out.2.2.2.2.1 (by decide); intro e_; exact h_ (by rw [e_]; rfl)) _, blk_far SP.out.2.2.2.2.2 (by have h_ := Kd.R_ne HO.out SP.out.2.2.2.2.2 (by decide); intro e_; exact h_ (by rw [e_]; rfl)) _⟩⟩
          · exact ⟨below_set HB.out GB.out⟩
end

end Go.Proofs.Ytngfijkageapgaa.P
