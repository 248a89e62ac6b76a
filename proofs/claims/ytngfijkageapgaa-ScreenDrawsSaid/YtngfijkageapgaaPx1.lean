/- The machine's side: functions of the translation as plain Lean functions, and that the machine's calls come to what they say. No condition. Written by a program (wip/tools/pp.py over the kit's printer); Lean checks it. -/
import Derived.Test.YtngfijkageapgaaPx0
namespace Go.Proofs.Ytngfijkageapgaa.P
open Go.RowKit Go.Proofs.YtngfijkageapgaaW.PrintWords Go.Proofs.YtngfijkageapgaaW.PrintLast Go.Proofs.YtngfijkageapgaaW.PrintMore
attribute [local go_sem] max2_int min2_int max_two min_two max_three min_three max_four min_four   -- for this text's walks alone
set_option linter.unusedVariables false
set_option linter.unusedSimpArgs false

/-! ### screen_sized: function 26 -/
def screen_sized.f (a0 : Int) (a1 : Int) : Option (Bool) := if a0 ≥ 0 then (if a0 ≤ 64 then (if a1 ≥ 0 then (some (decide (a1 ≤ 64))) else (some false)) else (some false)) else (some false)
set_option maxHeartbeats 8000000 in
set_option maxRecDepth 100000 in
theorem screen_sized.calls (a0 : Int) (a1 : Int) (r : Bool) (w : World) (h : screen_sized.f a0 a1 = some r) :
    Calls Try.prog 26 #[.int .i64 a0, .int .i64 a1] w fun e w' => e = .returned (.bool r) ∧ Drawn0 w w' := by
  have H : (if a0 ≥ 0 then (if a0 ≤ 64 then (if a1 ≥ 0 then (some (decide (a1 ≤ 64))) else (some false)) else (some false)) else (some false)) = some r := h
  clear h
  by_cases c3 : a0 ≥ 0
  · rw [if_pos c3] at H
    have c3b0 : decide (0 ≤ a0) = true := decide_eq_true c3
    clear c3
    by_cases c4 : a0 ≤ 64
    · rw [if_pos c4] at H
      have c4b0 : decide (a0 ≤ 64) = true := decide_eq_true c4
      clear c4
      by_cases c5 : a1 ≥ 0
      · rw [if_pos c5] at H
        have c5b0 : decide (0 ≤ a1) = true := decide_eq_true c5
        clear c5
        obtain rfl := Option.some.inj H
        go_enter Try.func26, Try.ntmps26
        go_wp2
        go_ret
        exact ⟨by first | rfl | (simp; done) | (simp [*]; done), by repeat (first | exact Drawn0.refl _ | apply Drawn0.step)⟩
      · rw [if_neg c5] at H
        have c5b0 : decide (0 ≤ a1) = false := decide_eq_false c5
        clear c5
        obtain rfl := Option.some.inj H
        go_enter Try.func26, Try.ntmps26
        go_wp2
        go_ret
        exact ⟨by first | rfl | (simp; done) | (simp [*]; done), by repeat (first | exact Drawn0.refl _ | apply Drawn0.step)⟩
    · rw [if_neg c4] at H
      have c4b0 : decide (a0 ≤ 64) = false := decide_eq_false c4
      clear c4
      obtain rfl := Option.some.inj H
      go_enter Try.func26, Try.ntmps26
      go_wp2
      go_ret
      exact ⟨by first | rfl | (simp; done) | (simp [*]; done), by repeat (first | exact Drawn0.refl _ | apply Drawn0.step)⟩
  · rw [if_neg c3] at H
    have c3b0 : decide (0 ≤ a0) = false := decide_eq_false c3
    clear c3
    obtain rfl := Option.some.inj H
    go_enter Try.func26, Try.ntmps26
    go_wp2
    go_ret
    exact ⟨by first | rfl | (simp; done) | (simp [*]; done), by repeat (first | exact Drawn0.refl _ | apply Drawn0.step)⟩

/-! ### screen_size: function 31 -/
def screen_size.f (a0 : Int) (a1 : Int) (a2 : Int) : Option (Int × Int) := if (Go.bits .and .i64 a2 1) = 1 then (some (a1, a0)) else (some (a0, a1))
set_option maxHeartbeats 8000000 in
set_option maxRecDepth 100000 in
theorem screen_size.calls (a0 : Int) (a1 : Int) (a2 : Int) (r1 : Int) (r2 : Int) (w : World) (h : screen_size.f a0 a1 a2 = some (r1, r2)) :
    Calls Try.prog 31 #[.int .i64 a0, .int .i64 a1, .int .i64 a2] w fun e w' => e = .returned (.tuple #[.int .i64 r1, .int .i64 r2]) ∧ Drawn0 w w' := by
  have H : (if (Go.bits .and .i64 a2 1) = 1 then (some (a1, a0)) else (some (a0, a1))) = some (r1, r2) := h
  clear h
  by_cases c4 : (Go.bits .and .i64 a2 1) = 1
  · rw [if_pos c4] at H
    have c4b0 : ((Go.bits .and .i64 a2 1) == 1) = true := beq_iff_eq.mpr c4
    have c4b1 : ((Go.bits .and .i64 a2 1) != 1) = false := bne_eq_false_iff_eq.mpr c4
    clear c4
    simp only [Option.some.injEq, Prod.mk.injEq] at H
    obtain ⟨rfl, rfl⟩ := H
    go_enter Try.func31, Try.ntmps31
    go_wp2
    go_ret2
    exact ⟨by first | rfl | (simp; done) | (simp [*]; done), by repeat (first | exact Drawn0.refl _ | apply Drawn0.step)⟩
  · rw [if_neg c4] at H
    have c4b0 : ((Go.bits .and .i64 a2 1) == 1) = false := beq_eq_false_iff_ne.mpr c4
    have c4b1 : ((Go.bits .and .i64 a2 1) != 1) = true := bne_iff_ne.mpr c4
    simp only [Option.some.injEq, Prod.mk.injEq] at H
    obtain ⟨rfl, rfl⟩ := H
    go_enter Try.func31, Try.ntmps31
    go_wp2
    go_ret2
    exact ⟨by first | rfl | (simp; done) | (simp [*]; done), by repeat (first | exact Drawn0.refl _ | apply Drawn0.step)⟩

/-! ### screen_unit: function 36 -/

/-! ### screen_spin: function 27 -/

/-! ### screen_Place: function 10 -/
section
open Fl
theorem run_store_complex (P : Program) (w : World) (a : Addr) (m : Mode) (k : FloatKind) (x y : Nat) : (store a (.complex k x y) m).run P w = stored P w a (.complex k x y) m := run_store P w a _ m rfl
attribute [local go_sem] run_store_complex
set_option maxHeartbeats 8000000 in
set_option maxRecDepth 100000 in
theorem screen_unit.calls (q : Int) (n : Nat) (hn : n < 4) (w : World) (h : Go.bits .and .i64 q 3 = n) :
    Calls Try.prog 36 #[.int .i64 q] w fun e w' => e = .returned (.complex .f64 (uR n) (uI n)) ∧ w' = w := by
  have hop := fun (k : Nat) (hk : k < 3) t w => run_complex_mul (P := Try.prog) w t _ _ _ _ _ _ (unit_next k hk)
  have h0 : (uR 0 : Nat) = 4607182418800017408 := unit_first.1
  have h00 : (uI 0 : Nat) = 0 := unit_first.2
  have H := Aside0.mk h
  go_enter Try.func36, Try.ntmps36
  go_wp2
  go_loopg [3, 6] n (fun kq v3 v6 w' => ∃ j : Nat, v3 = .complex .f64 (uR j) (uI j) ∧ v6 = .int .i64 j ∧ w' = w ∧ Aside0 (j + kq = n))
  case atStart => exact ⟨0, by rw [h0, h00], rfl, rfl, ⟨by omega⟩⟩
  case round =>
    obtain ⟨j, rfl, rfl, rfl, HJ⟩ := hrel
    have hj := HJ.out
    have hw : wrap64 ((j : Int) + 1) = ((j + 1 : Nat) : Int) := by unfold wrap64; omega
    have hw2 : IntKind.i64.wrap ((j : Int) + 1) = ((j + 1 : Nat) : Int) := (i64_w _).trans hw
    cases gk with
    | zero =>
      have c : decide ((j : Int) < (n : Int)) = false := decide_eq_false (by omega)
      clear hop hw hw2
      have hjn : n = j := by omega
      clear hj
      subst hjn
      go_wp2
      go_ret
      exact ⟨rfl, rfl⟩
    | succ k1 =>
      have hop1 := hop j (by omega)
      clear hop hw
      have c : decide ((j : Int) < (n : Int)) = true := decide_eq_true (by omega)
      go_wp2_with (simp only [hop1])
      go_roundg k1
      case measure => omega
      case rel => exact ⟨j + 1, rfl, by first | rfl | (simp [hw2]; done), rfl, ⟨by omega⟩⟩
/-- What 'spin' hands back: a closure and its three variables, each in a block of its own. -/
def Spun (base : Nat) (a0 a1 nw nh : Int) (n : Nat) (b1 b2 b3 : Nat) (W : World) : Prop :=
  base ≤ b1 ∧ base ≤ b2 ∧ base ≤ b3 ∧ W.heap[b1]? = some (.cells #[.complex .f64 (uR n) (uI n)] 56 (0, 0)) ∧ W.heap[b2]? = some (.cells #[.complex .f64 (F (a0 - 1)) (F (a1 - 1))] 56 (0, 0)) ∧ W.heap[b3]? = some (.cells #[.complex .f64 (F (nw - 1)) (F (nh - 1))] 56 (0, 0))
set_option maxHeartbeats 8000000 in
set_option maxRecDepth 100000 in
theorem screen_spin.calls (a0 a1 q : Int) (n : Nat) (nw nh : Int) (w : World) (h0 : 0 ≤ a0) (h1 : a0 ≤ 64) (h2 : 0 ≤ a1) (h3 : a1 ≤ 64) (hn : n < 4) (h : Go.bits .and .i64 q 3 = n) (hs : screen_size.f a0 a1 q = some (nw, nh)) (hnw : 0 ≤ nw ∧ nw ≤ 64 ∧ 0 ≤ nh ∧ nh ≤ 64) :
    Calls Try.prog 27 #[.int .i64 a0, .int .i64 a1, .int .i64 q] w fun e w' => ∃ (b1 b2 b3 : Nat), e = .returned (.func (Fn.func 37) #[] #[.pointer (some ⟨b2, 0, none⟩), .pointer (some ⟨b1, 0, none⟩), .pointer (some ⟨b3, 0, none⟩)]) ∧ Spun w.heap.size a0 a1 nw nh n b1 b2 b3 w' ∧ Below w.heap.size w w' := by
  have hF : ∀ m : Int, floatOfInt .f64 m = F m := fun _ => rfl
  have HU := Aside0.mk h
  have HN := Aside0.mk hn
  have HS := Aside0.mk hs
  have HB := Aside0.mk (Below.refl w.heap.size w)
  have hmf : ∀ (fn : Fn) (first cap : Array Value) (w : World), (Instr.makeFunc fn first cap).run Try.prog w = .ok (.func fn first cap) w := fun _ _ _ _ => rfl
  have x1 : wrap64 (a0 - 1) = a0 - 1 := by unfold wrap64; omega
  have x2 : wrap64 (a1 - 1) = a1 - 1 := by unfold wrap64; omega
  have x3 : wrap64 (nw - 1) = nw - 1 := by unfold wrap64; omega
  have x4 : wrap64 (nh - 1) = nh - 1 := by unfold wrap64; omega
  clear h0 h1 h2 h3 hn h hs hnw
  go_enter Try.func27, Try.ntmps27
  go_wp2_with (first | (go_at_call 36; (with_reducible refine (screen_unit.calls q n HN.out _ HU.out).mono ?_); rintro e w' ⟨rfl, rfl⟩) | (go_at_call 31; (with_reducible refine (screen_size.calls a0 a1 q nw nh _ HS.out).mono ?_); rintro e w' ⟨rfl, ⟨nd, rfl⟩⟩))
  go_ret
  refine ⟨_, _, _, rfl, ⟨Nat.le_refl _, by omega, by omega, ?_, ?_, ?_⟩, ?_⟩
  · exact blk_alloc (blk_drewN (blk_alloc (blk_new _ _) _) _) _
  · have := blk_alloc (blk_drewN (blk_new (w'.alloc (.cells #[.complex .f64 (uR n) (uI n)] 56)) (.cells #[.complex .f64 (F (a0 - 1)) (F (a1 - 1))] 56)) nd) (.cells #[.complex .f64 (F (nw - 1)) (F (nh - 1))] 56)
    simpa using this
  · have := blk_new (((w'.alloc (.cells #[.complex .f64 (uR n) (uI n)] 56)).alloc (.cells #[.complex .f64 (F (a0 - 1)) (F (a1 - 1))] 56)).drewN nd) (.cells #[.complex .f64 (F (nw - 1)) (F (nh - 1))] 56)
    simpa using this
  · exact below_alloc (pw_below_drewN (below_alloc (below_alloc (Below.refl _ _) _) _) _) _
/-- Where a point comes to. -/
def place4 : Nat → Int → Int → Int → Int → Int × Int
  | 0, _, _, x, y => (x, y)
  | 1, _, h, x, y => (h - 1 - y, x)
  | 2, w, h, x, y => (w - 1 - x, h - 1 - y)
  | _, w, _, x, y => (y, w - 1 - x)
def dims4 : Nat → Int → Int → Int × Int
  | 0, w, h => (w, h)
  | 1, w, h => (h, w)
  | 2, w, h => (w, h)
  | _, w, h => (h, w)
theorem spin_num (n : Nat) (hn : n < 4) (w h x y nw nh : Int) (hw : w ≤ 64) (hh : h ≤ 64) (x0 : 0 ≤ x) (x1 : x < w) (y0 : 0 ≤ y) (y1 : y < h) (hd : dims4 n w h = (nw, nh)) :
    ∃ A B re im, cSumBits .sub .f64 (F (2 * x)) (F (2 * y)) (F (w - 1)) (F (h - 1)) = some (A, B) ∧ cMulBits A B (uR n) (uI n) = some (re, im) ∧ cSumBits .add .f64 re im (F (nw - 1)) (F (nh - 1)) = some (F (2 * (place4 n w h x y).1), F (2 * (place4 n w h x y).2)) ∧
      0 ≤ (place4 n w h x y).1 ∧ (place4 n w h x y).1 < nw ∧ 0 ≤ (place4 n w h x y).2 ∧ (place4 n w h x y).2 < nh ∧ nw ≤ 64 ∧ nh ≤ 64 := by
  have s1 := sub_small x (w - 1) x0 (by omega) (by omega)
  have s2 := sub_small y (h - 1) y0 (by omega) (by omega)
  obtain ⟨b, c, hm⟩ := mul_unit n hn (2 * x - (w - 1)) (2 * y - (h - 1)) (by omega) (by omega) (by omega) (by omega)
  have hc : 0 ≤ (place4 n w h x y).1 ∧ (place4 n w h x y).1 < nw ∧ 0 ≤ (place4 n w h x y).2 ∧ (place4 n w h x y).2 < nh ∧ nw ≤ 64 ∧ nh ≤ 64 ∧ (2 * x - (w - 1)) * nR n - (2 * y - (h - 1)) * nI n = 2 * (place4 n w h x y).1 - (nw - 1) ∧ (2 * x - (w - 1)) * nI n + (2 * y - (h - 1)) * nR n = 2 * (place4 n w h x y).2 - (nh - 1) := by
    rcases (show n = 0 ∨ n = 1 ∨ n = 2 ∨ n = 3 by omega) with rfl | rfl | rfl | rfl <;> simp only [dims4, Prod.mk.injEq] at hd <;> obtain ⟨rfl, rfl⟩ := hd <;> simp only [place4, nR, nI] <;> omega
  obtain ⟨p0, p1, q0, q1, hn1, hn2, e1, e2⟩ := hc
  refine ⟨_, _, _, _, by simp only [cSumBits, s1, s2, Option.bind_some], hm, ?_, p0, p1, q0, q1, hn1, hn2⟩
  rw [e1, e2]
  simp only [cSumBits, end_all _ _ b p0 (show (place4 n w h x y).1 ≤ nw - 1 by omega) (by omega), end_all _ _ c q0 (show (place4 n w h x y).2 ≤ nh - 1 by omega) (by omega), Option.bind_some]
set_option maxHeartbeats 8000000 in
set_option maxRecDepth 100000 in
theorem screen_spin1.calls (n : Nat) (a0 a1 nw nh x y : Int) (base b1 b2 b3 : Nat) (w : World) (hn : n < 4) (hw : a0 ≤ 64) (hh : a1 ≤ 64) (x0 : 0 ≤ x) (x1 : x < a0) (y0 : 0 ≤ y) (y1 : y < a1) (hd : dims4 n a0 a1 = (nw, nh)) (hsp : Spun base a0 a1 nw nh n b1 b2 b3 w) :
    Calls Try.prog 37 #[.int .i64 x, .int .i64 y, .pointer (some ⟨b2, 0, none⟩), .pointer (some ⟨b1, 0, none⟩), .pointer (some ⟨b3, 0, none⟩)] w fun e w' => e = .returned (.tuple #[.int .i64 (place4 n a0 a1 x y).1, .int .i64 (place4 n a0 a1 x y).2]) ∧ w' = w := by
  obtain ⟨A, B, re, im, h1, h2, h3, p0, p1, q0, q1, m1, m2⟩ := spin_num n hn a0 a1 x y nw nh hw hh x0 x1 y0 y1 hd
  obtain ⟨-, -, -, k1, k2, k3⟩ := hsp
  have c1 : w.cell? ⟨b1, 0, none⟩ = some (.complex .f64 (uR n) (uI n)) := (blk_cell k1 0).trans rfl
  have c2 : w.cell? ⟨b2, 0, none⟩ = some (.complex .f64 (F (a0 - 1)) (F (a1 - 1))) := (blk_cell k2 0).trans rfl
  have c3 : w.cell? ⟨b3, 0, none⟩ = some (.complex .f64 (F (nw - 1)) (F (nh - 1))) := (blk_cell k3 0).trans rfl
  have o1 := fun t w => run_complex_sum (P := Try.prog) w .sub (Or.inr rfl) t .f64 _ _ _ _ _ _ h1
  have o2 := fun t w => run_complex_mul (P := Try.prog) w t _ _ _ _ _ _ h2
  have o3 := fun t w => run_complex_sum (P := Try.prog) w .add (Or.inl rfl) t .f64 _ _ _ _ _ _ h3
  obtain ⟨X, hX⟩ : ∃ X, X = (place4 n a0 a1 x y).1 := ⟨_, rfl⟩
  obtain ⟨Y, hY⟩ : ∃ Y, Y = (place4 n a0 a1 x y).2 := ⟨_, rfl⟩
  rw [← hX, ← hY] at o3
  rw [← hX] at p0 p1 ⊢
  rw [← hY] at q0 q1 ⊢
  have o4 : ∀ w, (convert 58 3 (.float .f64 (F (2 * X)))).run Try.prog w = .ok (.int .i64 (2 * X)) w := fun w => run_convert_float_int w 58 3 .f64 .i64 _ _ (by rw [Try.underlying58]; rfl) Try.underlying3 (int_all (2 * X) (by omega) (by omega))
  have o5 : ∀ w, (convert 58 3 (.float .f64 (F (2 * Y)))).run Try.prog w = .ok (.int .i64 (2 * Y)) w := fun w => run_convert_float_int w 58 3 .f64 .i64 _ _ (by rw [Try.underlying58]; rfl) Try.underlying3 (int_all (2 * Y) (by omega) (by omega))
  have hF : ∀ m : Int, floatOfInt .f64 m = F m := fun _ => rfl
  have x2 : wrap64 (2 * x) = 2 * x := by unfold wrap64; omega
  have x3 : wrap64 (2 * y) = 2 * y := by unfold wrap64; omega
  have d1 : (2 * X).tdiv 2 = X := Int.mul_tdiv_cancel_left X (by decide)
  have d2 : (2 * Y).tdiv 2 = Y := Int.mul_tdiv_cancel_left Y (by decide)
  have e1 : wrap64 X = X := by unfold wrap64; omega
  have e2 : wrap64 Y = Y := by unfold wrap64; omega
  clear h1 h2 h3 p0 p1 q0 q1 m1 m2 k1 k2 k3 hX hY x0 x1 y0 y1 hd hw hh hn
  go_enter Try.func37, Try.ntmps37
  go_wp2_with (first | simp only [o1] | simp only [o2] | simp only [o3] | simp only [o4] | simp only [o5])
  go_ret2
  refine ⟨?_, rfl⟩
  show Ending.returned (.tuple #[.int .i64 (wrap64 X), .int .i64 (wrap64 Y)]) = _
  rw [e1, e2]
/-- The turn's number. -/
def qn (q : Int) : Option Nat := if 0 ≤ Go.bits .and .i64 q 3 ∧ Go.bits .and .i64 q 3 < 4 ∧ (Go.bits .and .i64 q 1 = 1 ↔ (Go.bits .and .i64 q 3).toNat % 2 = 1) then some (Go.bits .and .i64 q 3).toNat else none
theorem qn_spec {q : Int} {n : Nat} (h : qn q = some n) : n < 4 ∧ Go.bits .and .i64 q 3 = n ∧ ∀ w h : Int, screen_size.f w h q = some (dims4 n w h) := by
  unfold qn at h
  split at h
  · rename_i hc
    obtain ⟨h0, h1, h2⟩ := hc
    obtain rfl := Option.some.inj h
    refine ⟨by omega, by omega, fun w hh => ?_⟩
    unfold screen_size.f
    rcases (show (Go.bits .and .i64 q 3).toNat = 0 ∨ (Go.bits .and .i64 q 3).toNat = 1 ∨ (Go.bits .and .i64 q 3).toNat = 2 ∨ (Go.bits .and .i64 q 3).toNat = 3 by omega) with e | e | e | e <;> rw [e] at h2 ⊢
    · rw [if_neg (fun hc => absurd (h2.1 hc) (by decide))]; rfl
    · rw [if_pos (h2.2 (by decide))]; rfl
    · rw [if_neg (fun hc => absurd (h2.1 hc) (by decide))]; rfl
    · rw [if_pos (h2.2 (by decide))]; rfl
  · cases h
def screen_Place.f (a0 a1 a2 a3 a4 : Int) : Option (Int × Int) := (screen_sized.f a0 a1).bind fun s => if s = true then (if a3 < 0 then some (0, 0) else if a3 ≥ a0 then some (0, 0) else if a4 < 0 then some (0, 0) else if a4 ≥ a1 then some (0, 0) else if a0 ≤ 64 ∧ a1 ≤ 64 then (qn a2).bind fun n => some (place4 n a0 a1 a3 a4) else none) else some (0, 0)
theorem dims4_le {n : Nat} {w h : Int} (h0 : 0 ≤ w) (h1 : w ≤ 64) (h2 : 0 ≤ h) (h3 : h ≤ 64) : 0 ≤ (dims4 n w h).1 ∧ (dims4 n w h).1 ≤ 64 ∧ 0 ≤ (dims4 n w h).2 ∧ (dims4 n w h).2 ≤ 64 := by
  unfold dims4
  split <;> exact ⟨by assumption, by assumption, by assumption, by assumption⟩
set_option maxHeartbeats 8000000 in
set_option maxRecDepth 100000 in
theorem screen_Place.calls (a0 a1 a2 a3 a4 : Int) (r1 r2 : Int) (w : World) (h : screen_Place.f a0 a1 a2 a3 a4 = some (r1, r2)) :
    Calls Try.prog 10 #[.int .i64 a0, .int .i64 a1, .int .i64 a2, .int .i64 a3, .int .i64 a4] w fun e w' => e = .returned (.tuple #[.int .i64 r1, .int .i64 r2]) ∧ Below w.heap.size w w' := by
  have HB := Aside0.mk (Below.refl w.heap.size w)
  unfold screen_Place.f at h
  obtain ⟨s, A30, H⟩ := Option.bind_eq_some_iff.mp h
  clear h
  have A3 := Aside0.mk A30
  clear A30
  cases s with
  | false =>
    simp only [Bool.false_eq_true, if_false, Option.some.injEq, Prod.mk.injEq] at H
    obtain ⟨rfl, rfl⟩ := H
    go_enter Try.func10, Try.ntmps10
    go_wp2_with (go_at_call 26; (with_reducible refine (screen_sized.calls a0 a1 _ _ A3.out).mono ?_); rintro e w' ⟨rfl, ⟨nd, rfl⟩⟩)
    go_ret2
    exact ⟨rfl, pw_below_drewN (Below.refl _ _) _⟩
  | true =>
    rw [if_pos rfl] at H
    by_cases c1 : a3 < 0
    · rw [if_pos c1] at H
      simp only [Option.some.injEq, Prod.mk.injEq] at H
      obtain ⟨rfl, rfl⟩ := H
      have d1 : decide (a3 < 0) = true := decide_eq_true c1
      clear c1
      go_enter Try.func10, Try.ntmps10
      go_wp2_with (go_at_call 26; (with_reducible refine (screen_sized.calls a0 a1 _ _ A3.out).mono ?_); rintro e w' ⟨rfl, ⟨nd, rfl⟩⟩)
      go_ret2
      exact ⟨rfl, pw_below_drewN (Below.refl _ _) _⟩
    rw [if_neg c1] at H
    have d1 : decide (a3 < 0) = false := decide_eq_false c1
    by_cases c2 : a3 ≥ a0
    · rw [if_pos c2] at H
      simp only [Option.some.injEq, Prod.mk.injEq] at H
      obtain ⟨rfl, rfl⟩ := H
      have d2 : decide (a0 ≤ a3) = true := decide_eq_true c2
      clear c1 c2
      go_enter Try.func10, Try.ntmps10
      go_wp2_with (go_at_call 26; (with_reducible refine (screen_sized.calls a0 a1 _ _ A3.out).mono ?_); rintro e w' ⟨rfl, ⟨nd, rfl⟩⟩)
      go_ret2
      exact ⟨rfl, pw_below_drewN (Below.refl _ _) _⟩
    rw [if_neg c2] at H
    have d2 : decide (a0 ≤ a3) = false := decide_eq_false c2
    by_cases c3 : a4 < 0
    · rw [if_pos c3] at H
      simp only [Option.some.injEq, Prod.mk.injEq] at H
      obtain ⟨rfl, rfl⟩ := H
      have d3 : decide (a4 < 0) = true := decide_eq_true c3
      clear c1 c2 c3
      go_enter Try.func10, Try.ntmps10
      go_wp2_with (go_at_call 26; (with_reducible refine (screen_sized.calls a0 a1 _ _ A3.out).mono ?_); rintro e w' ⟨rfl, ⟨nd, rfl⟩⟩)
      go_ret2
      exact ⟨rfl, pw_below_drewN (Below.refl _ _) _⟩
    rw [if_neg c3] at H
    have d3 : decide (a4 < 0) = false := decide_eq_false c3
    by_cases c4 : a4 ≥ a1
    · rw [if_pos c4] at H
      simp only [Option.some.injEq, Prod.mk.injEq] at H
      obtain ⟨rfl, rfl⟩ := H
      have d4 : decide (a1 ≤ a4) = true := decide_eq_true c4
      clear c1 c2 c3 c4
      go_enter Try.func10, Try.ntmps10
      go_wp2_with (go_at_call 26; (with_reducible refine (screen_sized.calls a0 a1 _ _ A3.out).mono ?_); rintro e w' ⟨rfl, ⟨nd, rfl⟩⟩)
      go_ret2
      exact ⟨rfl, pw_below_drewN (Below.refl _ _) _⟩
    rw [if_neg c4] at H
    have d4 : decide (a1 ≤ a4) = false := decide_eq_false c4
    by_cases c5 : a0 ≤ 64 ∧ a1 ≤ 64
    · rw [if_pos c5] at H
      obtain ⟨n, A40, H⟩ := Option.bind_eq_some_iff.mp H
      obtain ⟨k1, k2, k3⟩ := qn_spec A40
      have hp := Option.some.inj H
      have hd := dims4_le (n := n) (w := a0) (h := a1) (by omega) c5.1 (by omega) c5.2
      obtain ⟨nw, nh, hD⟩ : ∃ nw nh, dims4 n a0 a1 = (nw, nh) := ⟨_, _, rfl⟩
      have hS := k3 a0 a1
      rw [hD] at hd hS
      have HX := fun W => screen_spin.calls a0 a1 a2 n nw nh W (by omega) c5.1 (by omega) c5.2 k1 k2 hS hd
      have HY := fun b W b1 b2 b3 hs => screen_spin1.calls n a0 a1 nw nh a3 a4 b b1 b2 b3 W k1 c5.1 c5.2 (by omega) (by omega) (by omega) (by omega) hD hs
      rw [hp] at HY
      have HX := Aside0.mk HX
      have HY := Aside0.mk HY
      clear c1 c2 c3 c4 c5 A40 k1 k2 k3 hd hD hS
      go_enter Try.func10, Try.ntmps10
      go_wp2_with (first | (go_at_call 26; (with_reducible refine (screen_sized.calls a0 a1 true _ A3.out).mono ?_); rintro e w' ⟨rfl, ⟨nd, rfl⟩⟩) | (go_at_call 27; (with_reducible refine (HX.out _).mono ?_); rintro e w2 ⟨b1, b2, b3, rfl, hsp, hb⟩; have HP := Aside0.mk hsp; have HB2 := Aside0.mk hb; clear hsp hb) | (go_at_call 37; (with_reducible refine (HY.out _ _ _ _ _ HP.out).mono ?_); rintro e w3 ⟨rfl, rfl⟩))
      go_ret2
      exact ⟨rfl, below_step (pw_below_drewN (Below.refl _ _) _) HB2.out⟩
    · rw [if_neg c5] at H
      cases H

end

/-! ### screen_Formed: function 24 -/
def screen_Formed.f (a0_0 : Int) (a0_1 : Int) (l0_2 : List Int) : Option (Bool) := (screen_sized.f a0_0 a0_1).bind fun t102 => (if t102 = true then (some ((l0_2.length : Int) == (wrap64 (a0_0 * a0_1)))) else (some false))
set_option maxHeartbeats 8000000 in
set_option maxRecDepth 100000 in
theorem screen_Formed.calls (a0_0 : Int) (a0_1 : Int) (A0_2 : Option Addr) (c0_2 : Nat) (l0_2 : List Int) (r : Bool) (w : World) (hr0_2 : Kd.C (Kd.int .u8) w A0_2 l0_2.length l0_2) (hc0_2 : l0_2.length ≤ c0_2) (h : screen_Formed.f a0_0 a0_1 l0_2 = some r) :
    Calls Try.prog 24 #[.agg #[.int .i64 a0_0, .int .i64 a0_1, .slice A0_2 l0_2.length c0_2]] w fun e w' => e = .returned (.bool r) ∧ Below w.heap.size w w' := by
  have hu28 := Try.underlying28
  have HR0_2 := Aside0.mk hr0_2
  have HC0_2 := Aside0.mk hc0_2
  clear hr0_2 hc0_2
  have HB := Aside0.mk (Below.refl w.heap.size w)
  have H : ((screen_sized.f a0_0 a0_1).bind fun t102 => (if t102 = true then (some ((l0_2.length : Int) == (wrap64 (a0_0 * a0_1)))) else (some false))) = some r := h
  clear h
  replace H := Option.bind_eq_some_iff.mp H
  obtain ⟨t102, A20, H⟩ := H
  replace H : (if t102 = true then (some ((l0_2.length : Int) == (wrap64 (a0_0 * a0_1)))) else (some false)) = some r := H
  have A2 := Aside0.mk A20
  clear A20
  by_cases c3 : t102 = true
  · subst c3
    have H1 : (some ((l0_2.length : Int) == (wrap64 (a0_0 * a0_1)))) = some r := by rw [if_pos rfl] at H; exact H
    clear H
    have H := H1
    clear H1
    obtain rfl := Option.some.inj H
    go_enter Try.func24, Try.ntmps24
    go_wp2_with (first | ((with_reducible refine gate_dst (N := 1) rfl ?_); (try (refine gate_guard (by rfl) ?_; dsimp only)); refine box_event ?hg (N := 1) ?hd (cs := #[.int .i64 a0_0, .int .i64 a0_1, .slice A0_2 l0_2.length c0_2]) (t := 28) ?hr ?_; (case hd => rfl); (case hg => rfl); (case hr => first | (go_simp; done) | (go_simp; rfl)); intro gb101 hg w4 hbox hb; have n0_ := Aside0.mk (below_step (by repeat (first | (with_reducible first | exact HB.out | apply below_alloc | apply pw_below_drewN | apply below_drew1) | exact HB.out)) hb); have n1_ := Aside0.mk (hbox); have n2_ := Aside0.mk ((by rw [hg]; exact (below_size (by repeat (first | (with_reducible first | exact HB.out | apply below_alloc | apply pw_below_drewN | apply below_drew1) | exact HB.out))) : w.heap.size ≤ gb101)); have n3_ := Aside0.mk ((by rw [hg]; exact (below_size (by repeat (first | (with_reducible first | exact HB.out | apply below_alloc | apply pw_below_drewN | apply below_drew1) | exact HB.out))) : w.heap.size ≤ gb101)); clear HB; have HB := n0_; have BK101 := n1_; have GW101 := n2_; have GE101 := n3_; clear n0_ n1_ n2_ n3_; clear hb hbox hg; have hcz5_0 : w4.cell? ⟨gb101, 0, none⟩ = some (.int .i64 a0_0) := (blk_cell BK101.out 0).trans rfl; have hcz5_1 : w4.cell? ⟨gb101, 1, none⟩ = some (.int .i64 a0_1) := (blk_cell BK101.out 1).trans rfl; have hcz5_2 : w4.cell? ⟨gb101, 2, none⟩ = some (.slice A0_2 l0_2.length c0_2) := (blk_cell BK101.out 2).trans rfl; have hfz5_0 := blk_frozen BK101.out 0; have hfz5_1 := blk_frozen BK101.out 1; have hfz5_2 := blk_frozen BK101.out 2) | ((with_reducible refine gate_callee (f := 26) rfl ?_); refine goesL_ (some 7) rfl rfl Try.func26 (by kernel_rfl) rfl #[.int .i64 a0_0, .int .i64 a0_1] rfl (by (try simp only [List.map_toArray, List.map_cons, List.map_nil]); first | done | rfl | (simp only [List.length_drop, List.length_take]; rfl)) ?_; (with_reducible refine (screen_sized.calls a0_0 a0_1 true _ A2.out).mono ?_); rintro e w' ⟨rfl, ⟨nd, rfl⟩⟩; refine ⟨_, rfl, ?_⟩))
    go_ret
    exact ⟨by first | rfl | (simp [errW_none, errW_some] <;> rfl) | (simp [*, errW_none, errW_some] <;> rfl), by repeat (first | (with_reducible first | exact HB.out | apply below_alloc | apply pw_below_drewN | apply below_drew1 | refine below_set ?_ GE101.out) | exact HB.out)⟩
  · replace c3 := Bool.eq_false_iff.mpr c3
    subst c3
    have H1 : (some false) = some r := by rw [if_neg (show ¬ (false = true) by decide)] at H; exact H
    clear H
    have H := H1
    clear H1
    obtain rfl := Option.some.inj H
    go_enter Try.func24, Try.ntmps24
    go_wp2_with (first | ((with_reducible refine gate_dst (N := 1) rfl ?_); (try (refine gate_guard (by rfl) ?_; dsimp only)); refine box_event ?hg (N := 1) ?hd (cs := #[.int .i64 a0_0, .int .i64 a0_1, .slice A0_2 l0_2.length c0_2]) (t := 28) ?hr ?_; (case hd => rfl); (case hg => rfl); (case hr => first | (go_simp; done) | (go_simp; rfl)); intro gb101 hg w6 hbox hb; have n0_ := Aside0.mk (below_step (by repeat (first | (with_reducible first | exact HB.out | apply below_alloc | apply pw_below_drewN | apply below_drew1) | exact HB.out)) hb); have n1_ := Aside0.mk (hbox); have n2_ := Aside0.mk ((by rw [hg]; exact (below_size (by repeat (first | (with_reducible first | exact HB.out | apply below_alloc | apply pw_below_drewN | apply below_drew1) | exact HB.out))) : w.heap.size ≤ gb101)); have n3_ := Aside0.mk ((by rw [hg]; exact (below_size (by repeat (first | (with_reducible first | exact HB.out | apply below_alloc | apply pw_below_drewN | apply below_drew1) | exact HB.out))) : w.heap.size ≤ gb101)); clear HB; have HB := n0_; have BK101 := n1_; have GW101 := n2_; have GE101 := n3_; clear n0_ n1_ n2_ n3_; clear hb hbox hg; have hcz7_0 : w6.cell? ⟨gb101, 0, none⟩ = some (.int .i64 a0_0) := (blk_cell BK101.out 0).trans rfl; have hcz7_1 : w6.cell? ⟨gb101, 1, none⟩ = some (.int .i64 a0_1) := (blk_cell BK101.out 1).trans rfl; have hcz7_2 : w6.cell? ⟨gb101, 2, none⟩ = some (.slice A0_2 l0_2.length c0_2) := (blk_cell BK101.out 2).trans rfl; have hfz7_0 := blk_frozen BK101.out 0; have hfz7_1 := blk_frozen BK101.out 1; have hfz7_2 := blk_frozen BK101.out 2) | ((with_reducible refine gate_callee (f := 26) rfl ?_); refine goesL_ (some 7) rfl rfl Try.func26 (by kernel_rfl) rfl #[.int .i64 a0_0, .int .i64 a0_1] rfl (by (try simp only [List.map_toArray, List.map_cons, List.map_nil]); first | done | rfl | (simp only [List.length_drop, List.length_take]; rfl)) ?_; (with_reducible refine (screen_sized.calls a0_0 a0_1 false _ A2.out).mono ?_); rintro e w' ⟨rfl, ⟨nd, rfl⟩⟩; refine ⟨_, rfl, ?_⟩))
    go_ret
    exact ⟨by first | rfl | (simp [errW_none, errW_some] <;> rfl) | (simp [*, errW_none, errW_some] <;> rfl), by repeat (first | (with_reducible first | exact HB.out | apply below_alloc | apply pw_below_drewN | apply below_drew1 | refine below_set ?_ GE101.out) | exact HB.out)⟩

end Go.Proofs.Ytngfijkageapgaa.P
