/- The machine's side: functions of the translation as plain Lean functions, and that the machine's calls come to what they say. No condition. Written by a program (wip/tools/pp.py over the kit's printer); Lean checks it. -/
import Derived.Test.YtngfijkageapgaaPx0
namespace Go.Proofs.Ytngfijkageapgaa.P
open Go.RowKit Go.Proofs.YtngfijkageapgaaW.PrintWords Go.Proofs.YtngfijkageapgaaW.PrintLast Go.Proofs.YtngfijkageapgaaW.PrintMore
attribute [local go_sem] max2_int min2_int max_two min_two max_three min_three max_four min_four   -- for this text's walks alone
set_option linter.unusedVariables false
set_option linter.unusedSimpArgs false

/-! ### screen_sized: function 26 -/
def screen_sized.f (a0 : Int) (a1 : Int) : Option (Bool) := if a0 ≥ 0 then (if a0 ≤ 64 then (if a1 ≥ 0 then (some (decide (a1 ≤ 64))) else (some false)) else (some false)) else (some false)
set_option maxHeartbeats 8000000 in
set_option maxRecDepth 100000 in
theorem screen_sized.calls (a0 : Int) (a1 : Int) (r : Bool) (w : World) (h : screen_sized.f a0 a1 = some r) :
    Calls Try.prog 26 #[.int .i64 a0, .int .i64 a1] w fun e w' => e = .returned (.bool r) ∧ Drawn0 w w' := by
  have H : (if a0 ≥ 0 then (if a0 ≤ 64 then (if a1 ≥ 0 then (some (decide (a1 ≤ 64))) else (some false)) else (some false)) else (some false)) = some r := h
  clear h
  by_cases c3 : a0 ≥ 0
  · rw [if_pos c3] at H
    have c3b0 : decide (0 ≤ a0) = true := decide_eq_true c3
    clear c3
    by_cases c4 : a0 ≤ 64
    · rw [if_pos c4] at H
      have c4b0 : decide (a0 ≤ 64) = true := decide_eq_true c4
      clear c4
      by_cases c5 : a1 ≥ 0
      · rw [if_pos c5] at H
        have c5b0 : decide (0 ≤ a1) = true := decide_eq_true c5
        clear c5
        obtain rfl := Option.some.inj H
        go_enter Try.func26, Try.ntmps26
        go_wp2
        go_ret
        exact ⟨by first | rfl | (simp; done) | (simp [*]; done), by repeat (first | exact Drawn0.refl _ | apply Drawn0.step)⟩
      · rw [if_neg c5] at H
        have c5b0 : decide (0 ≤ a1) = false := decide_eq_false c5
        clear c5
        obtain rfl := Option.some.inj H
        go_enter Try.func26, Try.ntmps26
        go_wp2
        go_ret
        exact ⟨by first | rfl | (simp; done) | (simp [*]; done), by repeat (first | exact Drawn0.refl _ | apply Drawn0.step)⟩
    · rw [if_neg c4] at H
      have c4b0 : decide (a0 ≤ 64) = false := decide_eq_false c4
      clear c4
      obtain rfl := Option.some.inj H
      go_enter Try.func26, Try.ntmps26
      go_wp2
      go_ret
      exact ⟨by first | rfl | (simp; done) | (simp [*]; done), by repeat (first | exact Drawn0.refl _ | apply Drawn0.step)⟩
  · rw [if_neg c3] at H
    have c3b0 : decide (0 ≤ a0) = false := decide_eq_false c3
    clear c3
    obtain rfl := Option.some.inj H
    go_enter Try.func26, Try.ntmps26
    go_wp2
    go_ret
    exact ⟨by first | rfl | (simp; done) | (simp [*]; done), by repeat (first | exact Drawn0.refl _ | apply Drawn0.step)⟩

/-! ### screen_size: function 31 -/
def screen_size.f (a0 : Int) (a1 : Int) (a2 : Int) : Option (Int × Int) := if (Go.bits .and .i64 a2 1) = 1 then (some (a1, a0)) else (some (a0, a1))
set_option maxHeartbeats 8000000 in
set_option maxRecDepth 100000 in
theorem screen_size.calls (a0 : Int) (a1 : Int) (a2 : Int) (r1 : Int) (r2 : Int) (w : World) (h : screen_size.f a0 a1 a2 = some (r1, r2)) :
    Calls Try.prog 31 #[.int .i64 a0, .int .i64 a1, .int .i64 a2] w fun e w' => e = .returned (.tuple #[.int .i64 r1, .int .i64 r2]) ∧ Drawn0 w w' := by
  have H : (if (Go.bits .and .i64 a2 1) = 1 then (some (a1, a0)) else (some (a0, a1))) = some (r1, r2) := h
  clear h
  by_cases c4 : (Go.bits .and .i64 a2 1) = 1
  · rw [if_pos c4] at H
    have c4b0 : ((Go.bits .and .i64 a2 1) == 1) = true := beq_iff_eq.mpr c4
    have c4b1 : ((Go.bits .and .i64 a2 1) != 1) = false := bne_eq_false_iff_eq.mpr c4
    clear c4
    simp only [Option.some.injEq, Prod.mk.injEq] at H
    obtain ⟨rfl, rfl⟩ := H
    go_enter Try.func31, Try.ntmps31
    go_wp2
    go_ret2
    exact ⟨by first | rfl | (simp; done) | (simp [*]; done), by repeat (first | exact Drawn0.refl _ | apply Drawn0.step)⟩
  · rw [if_neg c4] at H
    have c4b0 : ((Go.bits .and .i64 a2 1) == 1) = false := beq_eq_false_iff_ne.mpr c4
    have c4b1 : ((Go.bits .and .i64 a2 1) != 1) = true := bne_iff_ne.mpr c4
    simp only [Option.some.injEq, Prod.mk.injEq] at H
    obtain ⟨rfl, rfl⟩ := H
    go_enter Try.func31, Try.ntmps31
    go_wp2
    go_ret2
    exact ⟨by first | rfl | (simp; done) | (simp [*]; done), by repeat (first | exact Drawn0.refl _ | apply Drawn0.step)⟩

/-! ### screen_unit: function 36 -/

/-! ### screen_spin: function 27 -/

/-! ### screen_Place: function 10 -/
section
open Fl
theorem run_store_complex (P : Program) (w : World) (a : Addr) (m : Mode) (k : FloatKind) (x y : Nat) : (store a (.complex k x y) m).run P w = stored P w a (.complex k x y) m := run_store P w a _ m rfl
attribute [local go_sem] run_store_complex
set_option maxHeartbeats 8000000 in
set_option maxRecDepth 100000 in
theorem screen_unit.calls (q : Int) (n : Nat) (hn : n < 4) (w : World) (h : Go.bits .and .i64 q 3 = n) :
    Calls Try.prog 36 #[.int .i64 q] w fun e w' => e = .returned (.complex .f64 (uR n) (uI n)) ∧ w' = w := by
  have hop := fun (k : Nat) (hk : k < 3) t w => run_complex_mul (P := Try.prog) w t _ _ _ _ _ _ (unit_next k hk)
  have h0 : (uR 0 : Nat) = 4607182418800017408 := unit_first.1
  have h00 : (uI 0 : Nat) = 0 := unit_first.2
  have H := Aside0.mk h
  go_enter Try.func36, Try.ntmps36
  go_wp2
  go_loopg [3, 6] n (fun kq v3 v6 w' => ∃ j : Nat, v3 = .complex .f64 (uR j) (uI j) ∧ v6 = .int .i64 j ∧ w' = w ∧ Aside0 (j + kq = n))
  case atStart => exact ⟨0, by rw [h0, h00], rfl, rfl, ⟨by omega⟩⟩
  case round =>
    obtain ⟨j, rfl, rfl, rfl, HJ⟩ := hrel
    have hj := HJ.out
    have hw : wrap64 ((j : Int) + 1) = ((j + 1 : Nat) : Int) := by unfold wrap64; omega
    have hw2 : IntKind.i64.wrap ((j : Int) + 1) = ((j + 1 : Nat) : Int) := (i64_w _).trans hw
    cases gk with
    | zero =>
      have c : decide ((j : Int) < (n : Int)) = false := decide_eq_false (by omega)
      clear hop hw hw2
      have hjn : n = j := by omega
      clear hj
      subst hjn
      go_wp2
      go_ret
      exact ⟨rfl, rfl⟩
    | succ k1 =>
      have hop1 := hop j (by omega)
      clear hop hw
      have c : decide ((j : Int) < (n : Int)) = true := decide_eq_true (by omega)
      go_wp2_with (simp only [hop1])
      go_roundg k1
      case measure => omega
      case rel => exact ⟨j + 1, rfl, by first | rfl | (simp [hw2]; done), rfl, ⟨by omega⟩⟩
/-- What 'spin' hands back: a closure and its three variables, each in a block of its own. -/
def Spun (base : Nat) (a0 a1 nw nh : Int) (n : Nat) (b1 b2 b3 : Nat) (W : World) : Prop :=
  base ≤ b1 ∧ base ≤ b2 ∧ base ≤ b3 ∧ W.heap[b1]? = some (.cells #[.complex .f64 (uR n) (uI n)] 56 (0, 0)) ∧ W.heap[b2]? = some (.cells #[.complex .f64 (F (a0 - 1)) (F (a1 - 1))] 56 (0, 0)) ∧ W.heap[b3]? = some (.cells #[.complex .f64 (F (nw - 1)) (F (nh - 1))] 56 (0, 0))
set_option maxHeartbeats 8000000 in
set_option maxRecDepth 100000 in
theorem screen_spin.calls (a0 a1 q : Int) (n : Nat) (nw nh : Int) (w : World) (h0 : 0 ≤ a0) (h1 : a0 ≤ 64) (h2 : 0 ≤ a1) (h3 : a1 ≤ 64) (hn : n < 4) (h : Go.bits .and .i64 q 3 = n) (hs : screen_size.f a0 a1 q = some (nw, nh)) (hnw : 0 ≤ nw ∧ nw ≤ 64 ∧ 0 ≤ nh ∧ nh ≤ 64) :
    Calls Try.prog 27 #[.int .i64 a0, .int .i64 a1, .int .i64 q] w fun e w' => ∃ (b1 b2 b3 : Nat), e = .returned (.func (Fn.func 37) #[] #[.pointer (some ⟨b2, 0, none⟩), .pointer (some ⟨b1, 0, none⟩), .pointer (some ⟨b3, 0, none⟩)]) ∧ Spun w.heap.size a0 a1 nw nh n b1 b2 b3 w' ∧ Below w.heap.size w w' := by
  have hF : ∀ m : Int, floatOfInt .f64 m = F m := fun _ => rfl
  have HU := Aside0.mk h
  have HN := Aside0.mk hn
  have HS := Aside0.mk hs
  have HB := Aside0.mk (Below.refl w.heap.size w)
  have hmf : ∀ (fn : Fn) (first cap : Array Value) (w : World), (Instr.makeFunc fn first cap).run Try.prog w = .ok (.func fn first cap) w := fun _ _ _ _ => rfl
  have x1 : wrap64 (a0 - 1) = a0 - 1 := by unfold wrap64; omega
  have x2 : wrap64 (a1 - 1) = a1 - 1 := by unfold wrap64; omega
  have x3 : wrap64 (nw - 1) = nw - 1 := by unfold wrap64; omega
  have x4 : wrap64 (nh - 1) = nh - 1 := by unfold wrap64; omega
  clear h0 h1 h2 h3 hn h hs hnw
  go_enter Try.func27, Try.ntmps27
  go_wp2_with (first | (go_at_call 36; (with_reducible refine (screen_unit.calls q n HN.out _ HU.out).mono ?_); rintro e w' ⟨rfl, rfl⟩) | (go_at_call 31; (with_reducible refine (screen_size.calls a0 a1 q nw nh _ HS.out).mono ?_); rintro e w' ⟨rfl, ⟨nd, rfl⟩⟩))
  go_ret
  refine ⟨_, _, _, rfl, ⟨Nat.le_refl _, by omega, by omega, ?_, ?_, ?_⟩, ?_⟩
  · exact blk_alloc (blk_drewN (blk_alloc (blk_new _ _) _) _) _
  · have := blk_alloc (blk_drewN (blk_new (w'.alloc (.cells #[.complex .f64 (uR n) (uI n)] 56)) (.cells #[.complex .f64 (F (a0 - 1)) (F (a1 - 1))] 56)) nd) (.cells #[.complex .f64 (F (nw - 1)) (F (nh - 1))] 56)
    simpa using this
  · have := blk_new (((w'.alloc (.cells #[.complex .f64 (uR n) (uI n)] 56)).alloc (.cells #[.complex .f64 (F (a0 - 1)) (F (a1 - 1))] 56)).drewN nd) (.cells #[.complex .f64 (F (nw - 1)) (F (nh - 1))] 56)
    simpa using this
  · exact below_alloc (pw_below_drewN (below_alloc (below_alloc (Below.refl _ _) _) _) _) _
/-- Where a point comes to. -/
def place4 : Nat → Int → Int → Int → Int → Int × Int
  | 0, _, _, x, y => (x, y)
  | 1, _, h, x, y => (h - 1 - y, x)
  | 2, w, h, x, y => (w - 1 - x, h - 1 - y)
  | _, w, _, x, y => (y, w - 1 - x)
def dims4 : Nat → Int → Int → Int × Int
  | 0, w, h => (w, h)
  | 1, w, h => (h, w)
  | 2, w, h => (w, h)
  | _, w, h => (h, w)
theorem spin_num (n : Nat) (hn : n < 4) (w h x y nw nh : Int) (hw : w ≤ 64) (hh : h ≤ 64) (x0 : 0 ≤ x) (x1 : x < w) (y0 : 0 ≤ y) (y1 : y < h) (hd : dims4 n w h = (nw, nh)) :
    ∃ A B re im, cSumBits .sub .f64 (F (2 * x)) (F (2 * y)) (F (w - 1)) (F (h - 1)) = some (A, B) ∧ cMulBits A B (uR n) (uI n) = some (re, im) ∧ cSumBits .add .f64 re im (F (nw - 1)) (F (nh - 1)) = some (F (2 * (place4 n w h x y).1), F (2 * (place4 n w h x y).2)) ∧
      0 ≤ (place4 n w h x y).1 ∧ (place4 n w h x y).1 < nw ∧ 0 ≤ (place4 n w h x y).2 ∧ (place4 n w h x y).2 < nh ∧ nw ≤ 64 ∧ nh ≤ 64 := by
  have s1 := sub_small x (w - 1) x0 (by omega) (by omega)
  have s2 := sub_small y (h - 1) y0 (by omega) (by omega)
  obtain ⟨b, c, hm⟩ := mul_unit n hn (2 * x - (w - 1)) (2 * y - (h - 1)) (by omega) (by omega) (by omega) (by omega)
  have hc : 0 ≤ (place4 n w h x y).1 ∧ (place4 n w h x y).1 < nw ∧ 0 ≤ (place4 n w h x y).2 ∧ (place4 n w h x y).2 < nh ∧ nw ≤ 64 ∧ nh ≤ 64 ∧ (2 * x - (w - 1)) * nR n - (2 * y - (h - 1)) * nI n = 2 * (place4 n w h x y).1 - (nw - 1) ∧ (2 * x - (w - 1)) * nI n + (2 * y - (h - 1)) * nR n = 2 * (place4 n w h x y).2 - (nh - 1) := by
    rcases (show n = 0 ∨ n = 1 ∨ n = 2 ∨ n = 3 by omega) with rfl | rfl | rfl | rfl <;> simp only [dims4, Prod.mk.injEq] at hd <;> obtain ⟨rfl, rfl⟩ := hd <;> simp only [place4, nR, nI] <;> omega
  obtain ⟨p0, p1, q0, q1, hn1, hn2, e1, e2⟩ := hc
  refine ⟨_, _, _, _, by simp only [cSumBits, s1, s2, Option.bind_some], hm, ?_, p0, p1, q0, q1, hn1, hn2⟩
  rw [e1, e2]
  simp only [cSumBits, end_all _ _ b p0 (show (place4 n w h x y).1 ≤ nw - 1 by omega) (by omega), end_all _ _ c q0 (show (place4 n w h x y).2 ≤ nh - 1 by omega) (by omega), Option.bind_some]
set_option maxHeartbeats 8000000 in
set_option maxRecDepth 100000 in
theorem screen_spin1.calls (n : Nat) (a0 a1 nw nh x y : Int) (base b1 b2 b3 : Nat) (w : World) (hn : n < 4) (hw : a0 ≤ 64) (hh : a1 ≤ 64) (x0 : 0 ≤ x) (x1 : x < a0) (y0 : 0 ≤ y) (y1 : y < a1) (hd : dims4 n a0 a1 = (nw, nh)) (hsp : Spun base a0 a1 nw nh n b1 b2 b3 w) :
    Calls Try.prog 37 #[.int .i64 x, .int .i64 y, .pointer (some ⟨b2, 0, none⟩), .pointer (some ⟨b1, 0, none⟩), .pointer (some ⟨b3, 0, none⟩)] w fun e w' => e = .returned (.tuple #[.int .i64 (place4 n a0 a1 x y).1, .int .i64 (place4 n a0 a1 x y).2]) ∧ w' = w := by
  obtain ⟨A, B, re, im, h1, h2, h3, p0, p1, q0, q1, m1, m2⟩ := spin_num n hn a0 a1 x y nw nh hw hh x0 x1 y0 y1 hd
  obtain ⟨-, -, -, k1, k2, k3⟩ := hsp
  have c1 : w.cell? ⟨b1, 0, none⟩ = some (.complex .f64 (uR n) (uI n)) := (blk_cell k1 0).trans rfl
  have c2 : w.cell? ⟨b2, 0, none⟩ = some (.complex .f64 (F (a0 - 1)) (F (a1 - 1))) := (blk_cell k2 0).trans rfl
  have c3 : w.cell? ⟨b3, 0, none⟩ = some (.complex .f64 (F (nw - 1)) (F (nh - 1))) := (blk_cell k3 0).trans rfl
  have o1 := fun t w => run_complex_sum (P := Try.prog) w .sub (Or.inr rfl) t .f64 _ _ _ _ _ _ h1
  have o2 := fun t w => run_complex_mul (P := Try.prog) w t _ _ _ _ _ _ h2
  have o3 := fun t w => run_complex_sum (P := Try.prog) w .add (Or.inl rfl) t .f64 _ _ _ _ _ _ h3
  obtain ⟨X, hX⟩ : ∃ X, X = (place4 n a0 a1 x y).1 := ⟨_, rfl⟩
  obtain ⟨Y, hY⟩ : ∃ Y, Y = (place4 n a0 a1 x y).2 := ⟨_, rfl⟩
  rw [← hX, ← hY] at o3
  rw [← hX] at p0 p1 ⊢
  rw [← hY] at q0 q1 ⊢
  have o4 : ∀ w, (convert 58 3 (.float .f64 (F (2 * X)))).run Try.prog w = .ok (.int .i64 (2 * X)) w := fun w => run_convert_float_int w 58 3 .f64 .i64 _ _ (by rw [Try.underlying58]; rfl) Try.underlying3 (int_all (2 * X) (by omega) (by omega))
  have o5 : ∀ w, (convert 58 3 (.float .f64 (F (2 * Y)))).run Try.prog w = .ok (.int .i64 (2 * Y)) w := fun w => run_convert_float_int w 58 3 .f64 .i64 _ _ (by rw [Try.underlying58]; rfl) Try.underlying3 (int_all (2 * Y) (by omega) (by omega))
  have hF : ∀ m : Int, floatOfInt .f64 m = F m := fun _ => rfl
  have x2 : wrap64 (2 * x) = 2 * x := by unfold wrap64; omega
  have x3 : wrap64 (2 * y) = 2 * y := by unfold wrap64; omega
  have d1 : (2 * X).tdiv 2 = X := Int.mul_tdiv_cancel_left X (by decide)
  have d2 : (2 * Y).tdiv 2 = Y := Int.mul_tdiv_cancel_left Y (by decide)
  have e1 : wrap64 X = X := by unfold wrap64; omega
  have e2 : wrap64 Y = Y := by unfold wrap64; omega
  clear h1 h2 h3 p0 p1 q0 q1 m1 m2 k1 k2 k3 hX hY x0 x1 y0 y1 hd hw hh hn
  go_enter Try.func37, Try.ntmps37
  go_wp2_with (first | simp only [o1] | simp only [o2] | simp only [o3] | simp only [o4] | simp only [o5])
  go_ret2
  refine ⟨?_, rfl⟩
  show Ending.returned (.tuple #[.int .i64 (wrap64 X), .int .i64 (wrap64 Y)]) = _
  rw [e1, e2]
/-- The turn's number. -/
def qn (q : Int) : Option Nat := if 0 ≤ Go.bits .and .i64 q 3 ∧ Go.bits .and .i64 q 3 < 4 ∧ (Go.bits .and .i64 q 1 = 1 ↔ (Go.bits .and .i64 q 3).toNat % 2 = 1) then some (Go.bits .and .i64 q 3).toNat else none
theorem qn_spec {q : Int} {n : Nat} (h : qn q = some n) : n < 4 ∧ Go.bits .and .i64 q 3 = n ∧ ∀ w h : Int, screen_size.f w h q = some (dims4 n w h) := by
  unfold qn at h
  split at h
  · rename_i hc
    obtain ⟨h0, h1, h2⟩ := hc
    obtain rfl := Option.some.inj h
    refine ⟨by omega, by omega, fun w hh => ?_⟩
    unfold screen_size.f
    rcases (show (Go.bits .and .i64 q 3).toNat = 0 ∨ (Go.bits .and .i64 q 3).toNat = 1 ∨ (Go.bits .and .i64 q 3).toNat = 2 ∨ (Go.bits .and .i64 q 3).toNat = 3 by omega) with e | e | e | e <;> rw [e] at h2 ⊢
    · rw [if_neg (fun hc => absurd (h2.1 hc) (by decide))]; rfl
    · rw [if_pos (h2.2 (by decide))]; rfl
    · rw [if_neg (fun hc => absurd (h2.1 hc) (by decide))]; rfl
    · rw [if_pos (h2.2 (by decide))]; rfl
  · cases h
def screen_Place.f (a0 a1 a2 a3 a4 : Int) : Option (Int × Int) := (screen_sized.f a0 a1).bind fun s => if s = true then (if a3 < 0 then some (0, 0) else if a3 ≥ a0 then some (0, 0) else if a4 < 0 then some (0, 0) else if a4 ≥ a1 then some (0, 0) else if a0 ≤ 64 ∧ a1 ≤ 64 then (qn a2).bind fun n => some (place4 n a0 a1 a3 a4) else none) else some (0, 0)
theorem dims4_le {n : Nat} {w h : Int} (h0 : 0 ≤ w) (h1 : w ≤ 64) (h2 : 0 ≤ h) (h3 : h ≤ 64) : 0 ≤ (dims4 n w h).1 ∧ (dims4 n w h).1 ≤ 64 ∧ 0 ≤ (dims4 n w h).2 ∧ (dims4 n w h).2 ≤ 64 := by
  unfold dims4
  split <;> exact ⟨by assumption, by assumption, by assumption, by assumption⟩
set_option maxHeartbeats 8000000 in
set_option maxRecDepth 100000 in
theorem screen_Place.calls (a0 a1 a2 a3 a4 : Int) (r1 r2 : Int) (w : World) (h : screen_Place.f a0 a1 a2 a3 a4 = some (r1, r2)) :
    Calls Try.prog 10 #[.int .i64 a0, .int .i64 a1, .int .i64 a2, .int .i64 a3, .int .i64 a4] w fun e w' => e = .returned (.tuple #[.int .i64 r1, .int .i64 r2]) ∧ Below w.heap.size w w' := by
  have HB := Aside0.mk (Below.refl w.heap.size w)
  unfold screen_Place.f at h
  obtain ⟨s, A30, H⟩ := Option.bind_eq_some_iff.mp h
  clear h
  have A3 := Aside0.mk A30
  clear A30
  cases s with
  | false =>
    simp only [Bool.false_eq_true, if_false, Option.some.injEq, Prod.mk.injEq] at H
    obtain ⟨rfl, rfl⟩ := H
    go_enter Try.func10, Try.ntmps10
    go_wp2_with (go_at_call 26; (with_reducible refine (screen_sized.calls a0 a1 _ _ A3.out).mono ?_); rintro e w' ⟨rfl, ⟨nd, rfl⟩⟩)
    go_ret2
    exact ⟨rfl, pw_below_drewN (Below.refl _ _) _⟩
  | true =>
    rw [if_pos rfl] at H
    by_cases c1 : a3 < 0
    · rw [if_pos c1] at H
      simp only [Option.some.injEq, Prod.mk.injEq] at H
      obtain ⟨rfl, rfl⟩ := H
      have d1 : decide (a3 < 0) = true := decide_eq_true c1
      clear c1
      go_enter Try.func10, Try.ntmps10
      go_wp2_with (go_at_call 26; (with_reducible refine (screen_sized.calls a0 a1 _ _ A3.out).mono ?_); rintro e w' ⟨rfl, ⟨nd, rfl⟩⟩)
      go_ret2
      exact ⟨rfl, pw_below_drewN (Below.refl _ _) _⟩
    rw [if_neg c1] at H
    have d1 : decide (a3 < 0) = false := decide_eq_false c1
    by_cases c2 : a3 ≥ a0
    · rw [if_pos c2] at H
      simp only [Option.some.injEq, Prod.mk.injEq] at H
      obtain ⟨rfl, rfl⟩ := H
      have d2 : decide (a0 ≤ a3) = true := decide_eq_true c2
      clear c1 c2
      go_enter Try.func10, Try.ntmps10
      go_wp2_with (go_at_call 26; (with_reducible refine (screen_sized.calls a0 a1 _ _ A3.out).mono ?_); rintro e w' ⟨rfl, ⟨nd, rfl⟩⟩)
      go_ret2
      exact ⟨rfl, pw_below_drewN (Below.refl _ _) _⟩
    rw [if_neg c2] at H
    have d2 : decide (a0 ≤ a3) = false := decide_eq_false c2
    by_cases c3 : a4 < 0
    · rw [if_pos c3] at H
      simp only [Option.some.injEq, Prod.mk.injEq] at H
      obtain ⟨rfl, rfl⟩ := H
      have d3 : decide (a4 < 0) = true := decide_eq_true c3
      clear c1 c2 c3
      go_enter Try.func10, Try.ntmps10
      go_wp2_with (go_at_call 26; (with_reducible refine (screen_sized.calls a0 a1 _ _ A3.out).mono ?_); rintro e w' ⟨rfl, ⟨nd, rfl⟩⟩)
      go_ret2
      exact ⟨rfl, pw_below_drewN (Below.refl _ _) _⟩
    rw [if_neg c3] at H
    have d3 : decide (a4 < 0) = false := decide_eq_false c3
    by_cases c4 : a4 ≥ a1
    · rw [if_pos c4] at H
      simp only [Option.some.injEq, Prod.mk.injEq] at H
      obtain ⟨rfl, rfl⟩ := H
      have d4 : decide (a1 ≤ a4) = true := decide_eq_true c4
      clear c1 c2 c3 c4
      go_enter Try.func10, Try.ntmps10
      go_wp2_with (go_at_call 26; (with_reducible refine (screen_sized.calls a0 a1 _ _ A3.out).mono ?_); rintro e w' ⟨rfl, ⟨nd, rfl⟩⟩)
      go_ret2
      exact ⟨rfl, pw_below_drewN (Below.refl _ _) _⟩
    rw [if_neg c4] at H
    have d4 : decide (a1 ≤ a4) = false := decide_eq_false c4
    by_cases c5 : a0 ≤ 64 ∧ a1 ≤ 64
    · rw [if_pos c5] at H
      obtain ⟨n, A40, H⟩ := Option.bind_eq_some_iff.mp H
      obtain ⟨k1, k2, k3⟩ := qn_spec A40
      have hp := Option.some.inj H
      have hd := dims4_le (n := n) (w := a0) (h := a1) (by omega) c5.1 (by omega) c5.2
      obtain ⟨nw, nh, hD⟩ : ∃ nw nh, dims4 n a0 a1 = (nw, nh) := ⟨_, _, rfl⟩
      have hS := k3 a0 a1
      rw [hD] at hd hS
      have HX := fun W => screen_spin.calls a0 a1 a2 n nw nh W (by omega) c5.1 (by omega) c5.2 k1 k2 hS hd
      have HY := fun b W b1 b2 b3 hs => screen_spin1.calls n a0 a1 nw nh a3 a4 b b1 b2 b3 W k1 c5.1 c5.2 (by omega) (by omega) (by omega) (by omega) hD hs
      rw [hp] at HY
      have HX := Aside0.mk HX
      have HY := Aside0.mk HY
      clear c1 c2 c3 c4 c5 A40 k1 k2 k3 hd hD hS
      go_enter Try.func10, Try.ntmps10
      go_wp2_with (first | (go_at_call 26; (with_reducible refine (screen_sized.calls a0 a1 true _ A3.out).mono ?_); rintro e w' ⟨rfl, ⟨nd, rfl⟩⟩) | (go_at_call 27; (with_reducible refine (HX.out _).mono ?_); rintro e w2 ⟨b1, b2, b3, rfl, hsp, hb⟩; have HP := Aside0.mk hsp; have HB2 := Aside0.mk hb; clear hsp hb) | (go_at_call 37; (with_reducible refine (HY.out _ _ _ _ _ HP.out).mono ?_); rintro e w3 ⟨rfl, rfl⟩))
      go_ret2
      exact ⟨rfl, below_step (pw_below_drewN (Below.refl _ _) _) HB2.out⟩
    · rw [if_neg c5] at H
      cases H

end

/-! ### screen_Formed: function 24 -/
def screen_Formed.f (a0_0 : Int) (a0_1 : Int) (l0_2 : List Int) : Option (Bool) := (screen_sized.f a0_0 a0_1).bind fun t102 => (if t102 = true then (some ((l0_2.length : Int) == (wrap64 (a0_0 * a0_1)))) else (some false))
set_option maxHeartbeats 8000000 in
set_option maxRecDepth 100000 in
theorem screen_Formed.calls (a0_0 : Int) (a0_1 : Int) (A0_2 : Option Addr) (c0_2 : Nat) (l0_2 : List Int) (r : Bool) (w : World) (hr0_2 : Kd.C (Kd.int .u8) w A0_2 l0_2.length l0_2) (hc0_2 : l0_2.length ≤ c0_2) (h : screen_Formed.f a0_0 a0_1 l0_2 = some r) :
    Calls Try.prog 24 #[.agg #[.int .i64 a0_0, .int .i64 a0_1, .slice A0_2 l0_2.length c0_2]] w fun e w' => e = .returned (.bool r) ∧ Below w.heap.size w w' := by
  have hu28 := Try.underlying28
  have HR0_2 := Aside0.mk hr0_2
  have HC0_2 := Aside0.mk hc0_2
  clear hr0_2 hc0_2
  have HB := Aside0.mk (Below.refl w.heap.size w)
  have H : ((screen_sized.f a0_0 a0_1).bind fun t102 => (if t102 = true then (some ((l0_2.length : Int) == (wrap64 (a0_0 * a0_1)))) else (some false))) = some r := h
  clear h
  replace H := Option.bind_eq_some_iff.mp H
  obtain ⟨t102, A20, H⟩ := H
  replace H : (if t102 = true then (some ((l0_2.length : Int) == (wrap64 (a0_0 * a0_1)))) else (some false)) = some r := H
  have A2 := Aside0.mk A20
  clear A20
  by_cases c3 : t102 = true
  · subst c3
    have H1 : (some ((l0_2.length : Int) == (wrap64 (a0_0 * a0_1)))) = some r := by rw [if_pos rfl] at H; exact H
    clear H
    have H := H1
    clear H1
    obtain rfl := Option.some.inj H
    go_enter Try.func24, Try.ntmps24
    go_wp2_with (first | ((with_reducible refine gate_dst (N := 1) rfl ?_); (try (refine gate_guard (by rfl) ?_; dsimp only)); refine box_event ?hg (N := 1) ?hd (cs := #[.int .i64 a0_0, .int .i64 a0_1, .slice A0_2 l0_2.length c0_2]) (t := 28) ?hr ?_; (case hd => rfl); (case hg => rfl); (case hr => first | (go_simp; done) | (go_simp; rfl)); intro gb101 hg w4 hbox hb; have n0_ := Aside0.mk (below_step (by repeat (first | (with_reducible first | exact HB.out | apply below_alloc | apply pw_below_drewN | apply below_drew1) | exact HB.out)) hb); have n1_ := Aside0.mk (hbox); have n2_ := Aside0.mk ((by rw [hg]; exact (below_size (by repeat (first | (with_reducible first | exact HB.out | apply below_alloc | apply pw_below_drewN | apply below_drew1) | exact HB.out))) : w.heap.size ≤ gb101)); have n3_ := Aside0.mk ((by rw [hg]; exact (below_size (by repeat (first | (with_reducible first | exact HB.out | apply below_alloc | apply pw_below_drewN | apply below_drew1) | exact HB.out))) : w.heap.size ≤ gb101)); clear HB; have HB := n0_; have BK101 := n1_; have GW101 := n2_; have GE101 := n3_; clear n0_ n1_ n2_ n3_; clear hb hbox hg; have hcz5_0 : w4.cell? ⟨gb101, 0, none⟩ = some (.int .i64 a0_0) := (blk_cell BK101.out 0).trans rfl; have hcz5_1 : w4.cell? ⟨gb101, 1, none⟩ = some (.int .i64 a0_1) := (blk_cell BK101.out 1).trans rfl; have hcz5_2 : w4.cell? ⟨gb101, 2, none⟩ = some (.slice A0_2 l0_2.length c0_2) := (blk_cell BK101.out 2).trans rfl; have hfz5_0 := blk_frozen BK101.out 0; have hfz5_1 := blk_frozen BK101.out 1; have hfz5_2 := blk_frozen BK101.out 2) | ((with_reducible refine gate_callee (f := 26) rfl ?_); refine goesL_ (some 7) rfl rfl Try.func26 (by kernel_rfl) rfl #[.int .i64 a0_0, .int .i64 a0_1] rfl (by (try simp only [List.map_toArray, List.map_cons, List.map_nil]); first | done | rfl | (simp only [List.length_drop, List.length_take]; rfl)) ?_; (with_reducible refine (screen_sized.calls a0_0 a0_1 true _ A2.out).mono ?_); rintro e w' ⟨rfl, ⟨nd, rfl⟩⟩; refine ⟨_, rfl, ?_⟩))
    go_ret
    exact ⟨by first | rfl | (simp [errW_none, errW_some] <;> rfl) | (simp [*, errW_none, errW_some] <;> rfl), by repeat (first | (with_reducible first | exact HB.out | apply below_alloc | apply pw_below_drewN | apply below_drew1 | refine below_set ?_ GE101.out) | exact HB.out)⟩
  · replace c3 := Bool.eq_false_iff.mpr c3
    subst c3
    have H1 : (some false) = some r := by rw [if_neg (show ¬ (false = true) by decide)] at H; exact H
    clear H
    have H := H1
    clear H1
    obtain rfl := Option.some.inj H
    go_enter Try.func24, Try.ntmps24
    go_wp2_with (first | ((with_reducible refine gate_dst (N := 1) rfl ?_); (try (refine gate_guard (by rfl) ?_; dsimp only)); refine box_event ?hg (N := 1) ?hd (cs := #[.int .i64 a0_0, .int .i64 a0_1, .slice A0_2 l0_2.length c0_2]) (t := 28) ?hr ?_; (case hd => rfl); (case hg => rfl); (case hr => first | (go_simp; done) | (go_simp; rfl)); intro gb101 hg w6 hbox hb; have n0_ := Aside0.mk (below_step (by repeat (first | (with_reducible first | exact HB.out | apply below_alloc | apply pw_below_drewN | apply below_drew1) | exact HB.out)) hb); have n1_ := Aside0.mk (hbox); have n2_ := Aside0.mk ((by rw [hg]; exact (below_size (by repeat (first | (with_reducible first | exact HB.out | apply below_alloc | apply pw_below_drewN | apply below_drew1) | exact HB.out))) : w.heap.size ≤ gb101)); have n3_ := Aside0.mk ((by rw [hg]; exact (below_size (by repeat (first | (with_reducible first | exact HB.out | apply below_alloc | apply pw_below_drewN | apply below_drew1) | exact HB.out))) : w.heap.size ≤ gb101)); clear HB; have HB := n0_; have BK101 := n1_; have GW101 := n2_; have GE101 := n3_; clear n0_ n1_ n2_ n3_; clear hb hbox hg; have hcz7_0 : w6.cell? ⟨gb101, 0, none⟩ = some (.int .i64 a0_0) := (blk_cell BK101.out 0).trans rfl; have hcz7_1 : w6.cell? ⟨gb101, 1, none⟩ = some (.int .i64 a0_1) := (blk_cell BK101.out 1).trans rfl; have hcz7_2 : w6.cell? ⟨gb101, 2, none⟩ = some (.slice A0_2 l0_2.length c0_2) := (blk_cell BK101.out 2).trans rfl; have hfz7_0 := blk_frozen BK101.out 0; have hfz7_1 := blk_frozen BK101.out 1; have hfz7_2 := blk_frozen BK101.out 2) | ((with_reducible refine gate_callee (f := 26) rfl ?_); refine goesL_ (some 7) rfl rfl Try.func26 (by kernel_rfl) rfl #[.int .i64 a0_0, .int .i64 a0_1] rfl (by (try simp only [List.map_toArray, List.map_cons, List.map_nil]); first | done | rfl | (simp only [List.length_drop, List.length_take]; rfl)) ?_; (with_reducible refine (screen_sized.calls a0_0 a0_1 false _ A2.out).mono ?_); rintro e w' ⟨rfl, ⟨nd, rfl⟩⟩; refine ⟨_, rfl, ?_⟩))
    go_ret
    exact ⟨by first | rfl | (simp [errW_none, errW_some] <;> rfl) | (simp [*, errW_none, errW_some] <;> rfl), by repeat (first | (with_reducible first | exact HB.out | apply below_alloc | apply pw_below_drewN | apply below_drew1 | refine below_set ?_ GE101.out) | exact HB.out)⟩

/-! ### screen_Turn: function 15 -/
section
open Fl
/-- Where the point with number i comes to. -/
def idx4 (n : Nat) (w h : Int) (i : Int) : Int := (place4 n w h (i.tmod w) (i.tdiv w)).2 * (dims4 n w h).1 + (place4 n w h (i.tmod w) (i.tdiv w)).1
def turnTo (n : Nat) (w h : Int) (l : List Int) : Nat → List Int
  | 0 => List.replicate l.length 0
  | j + 1 => (turnTo n w h l j).set (idx4 n w h j).toNat (rd l j)
theorem Spun.drewN {base : Nat} {a0 a1 nw nh : Int} {n : Nat} {b1 b2 b3 : Nat} {W : World} (h : Spun base a0 a1 nw nh n b1 b2 b3 W) (m : Nat) : Spun base a0 a1 nw nh n b1 b2 b3 (W.drewN m) := h
theorem place4_in (n : Nat) (hn : n < 4) (w h x y nw nh : Int) (x0 : 0 ≤ x) (x1 : x < w) (y0 : 0 ≤ y) (y1 : y < h) (hd : dims4 n w h = (nw, nh)) : 0 ≤ (place4 n w h x y).1 ∧ (place4 n w h x y).1 < nw ∧ 0 ≤ (place4 n w h x y).2 ∧ (place4 n w h x y).2 < nh ∧ nw * nh = w * h := by
  rcases (show n = 0 ∨ n = 1 ∨ n = 2 ∨ n = 3 by omega) with rfl | rfl | rfl | rfl <;> simp only [dims4, Prod.mk.injEq] at hd <;> obtain ⟨rfl, rfl⟩ := hd <;> simp only [place4] <;> refine ⟨by omega, by omega, by omega, by omega, by first | rfl | trivial | exact Int.mul_comm _ _⟩
theorem at_in {P Q nw nh : Int} (p0 : 0 ≤ P) (p1 : P < nw) (q0 : 0 ≤ Q) (q1 : Q < nh) : 0 ≤ Q * nw + P ∧ Q * nw + P < nw * nh ∧ 0 ≤ Q * nw := by
  have h1 : 0 ≤ Q * nw := Int.mul_nonneg q0 (by omega)
  have h2 : (Q + 1) * nw ≤ nh * nw := Int.mul_le_mul_of_nonneg_right (by omega) (by omega)
  rw [Int.add_mul, Int.one_mul] at h2
  rw [Int.mul_comm nw nh]
  exact ⟨by omega, by omega, h1⟩
theorem turnTo_len (n : Nat) (w h : Int) (l : List Int) : ∀ j, (turnTo n w h l j).length = l.length
  | 0 => by simp [turnTo]
  | j + 1 => by rw [turnTo, List.length_set, turnTo_len n w h l j]
theorem w64_id {x : Int} (h0 : 0 ≤ x) (h1 : x < 1000000) : wrap64 x = x := by unfold wrap64; omega
theorem w64_succ {j : Nat} (h : j < 900000) : wrap64 ((j : Int) + 1) = ((j + 1 : Nat) : Int) := by rw [w64_id (x := (j : Int) + 1) (by omega) (by omega)]; rfl
def screen_Turn.f (a0_0 a0_1 : Int) (l0_2 : List Int) (a1 : Int) : Option (Int × Int × List Int × Int) :=
  (screen_Formed.f a0_0 a0_1 l0_2).bind fun s => if s = true then (if 0 ≤ a0_0 ∧ a0_0 ≤ 64 ∧ 0 ≤ a0_1 ∧ a0_1 ≤ 64 ∧ (l0_2.length : Int) = a0_0 * a0_1 then (qn a1).bind fun n => some ((dims4 n a0_0 a0_1).1, (dims4 n a0_0 a0_1).2, turnTo n a0_0 a0_1 l0_2 l0_2.length, 0) else none) else some (0, 0, [], 1)
set_option maxHeartbeats 8000000 in
set_option maxRecDepth 100000 in
theorem screen_Turn.calls (a0_0 a0_1 : Int) (A0_2 : Option Addr) (c0_2 : Nat) (l0_2 : List Int) (a1 : Int) (r1 r2 : Int) (r3 : List Int) (r4 : Int) (w : World) (hr0_2 : Kd.C (Kd.int .u8) w A0_2 l0_2.length l0_2) (hc0_2 : l0_2.length ≤ c0_2) (h : screen_Turn.f a0_0 a0_1 l0_2 a1 = some (r1, r2, r3, r4)) :
    Calls Try.prog 15 #[.agg #[.int .i64 a0_0, .int .i64 a0_1, .slice A0_2 l0_2.length c0_2], .int .i64 a1] w fun e w' => ∃ v2_ : Value, e = .returned (.tuple #[.agg #[.int .i64 r1, .int .i64 r2, v2_], .int .i64 r4]) ∧ Kd.R (Kd.int .u8) 5 w' w.heap.size (fun _ => True) v2_ r3 ∧ Below w.heap.size w w' := by
  have hu28 := Try.underlying28
  have HR0_2 := Aside0.mk hr0_2
  have HC0_2 := Aside0.mk hc0_2
  clear hr0_2 hc0_2
  have HB := Aside0.mk (Below.refl w.heap.size w)
  unfold screen_Turn.f at h
  obtain ⟨s, A30, H⟩ := Option.bind_eq_some_iff.mp h
  clear h
  have A3 := Aside0.mk A30
  clear A30
  cases s with
  | false =>
    simp only [Bool.false_eq_true, if_false, Option.some.injEq, Prod.mk.injEq] at H
    obtain ⟨rfl, rfl, rfl, rfl⟩ := H
    go_enter Try.func15, Try.ntmps15
    go_wp2_with (first | ((with_reducible refine gate_dst (N := 2) rfl ?_); (try (refine gate_guard (by rfl) ?_; dsimp only)); refine box_event ?hg (N := 2) ?hd (cs := #[.int .i64 a0_0, .int .i64 a0_1, .slice A0_2 l0_2.length c0_2]) (t := 28) ?hr ?_; (case hd => rfl); (case hg => rfl); (case hr => first | (go_simp; done) | (go_simp; rfl)); intro gb1 hg w2 hbox hb; have n0_ := Aside0.mk (below_step (by repeat (first | (with_reducible first | exact HB.out | apply below_alloc | apply pw_below_drewN | apply below_drew1) | exact HB.out)) hb); have g_ := Aside0.mk ((by rw [hg]; exact (below_size (by repeat (first | (with_reducible first | exact HB.out | apply below_alloc | apply pw_below_drewN | apply below_drew1) | exact HB.out)))) : w.heap.size ≤ gb1); have b_ := Aside0.mk hbox; clear HB; have HB := n0_; clear n0_; have BK1 := b_; have GE1 := g_; clear b_ g_; clear hg hbox hb; have z1_0 : w2.cell? ⟨gb1, 0, none⟩ = some (.int .i64 a0_0) := (blk_cell BK1.out 0).trans rfl; have z1_1 : w2.cell? ⟨gb1, 1, none⟩ = some (.int .i64 a0_1) := (blk_cell BK1.out 1).trans rfl; have z1_2 : w2.cell? ⟨gb1, 2, none⟩ = some (.slice A0_2 l0_2.length c0_2) := (blk_cell BK1.out 2).trans rfl; have y1_0 := blk_frozen BK1.out 0; have y1_1 := blk_frozen BK1.out 1; have y1_2 := blk_frozen BK1.out 2) | ((with_reducible refine gate_dst (N := 4) rfl ?_); (try (refine gate_guard (by rfl) ?_; dsimp only)); refine box_event ?hg (N := 4) ?hd (cs := #[.int .i64 0, .int .i64 0, .slice none 0 0]) (t := 28) ?hr ?_; (case hd => rfl); (case hg => rfl); (case hr => first | (go_simp; done) | (go_simp; rfl)); intro gb2 hg w4 hbox hb; have m1_ : Aside0 (w4.heap[gb1]? = some (.cells #[.int .i64 a0_0, .int .i64 a0_1, .slice A0_2 l0_2.length c0_2] 28 (0, 0))) := ⟨blk_below (by (with_reducible repeat (first | refine blk_drewN ?_ _ | refine blk_drew ?_ | refine blk_alloc ?_ _)); exact BK1.out) hb⟩; have n0_ := Aside0.mk (below_step (by repeat (first | (with_reducible first | exact HB.out | apply below_alloc | apply pw_below_drewN | apply below_drew1 | refine below_set ?_ GE1.out) | exact HB.out)) hb); have o1_ := Aside0.mk ((by rw [hg]; exact Nat.ne_of_lt (blk_lt (o := .cells #[.int .i64 a0_0, .int .i64 a0_1, .slice A0_2 l0_2.length c0_2] 28 (0, 0)) (by (with_reducible repeat (first | refine blk_drewN ?_ _ | refine blk_drew ?_ | refine blk_alloc ?_ _)); exact BK1.out))) : gb1 ≠ gb2); have g_ := Aside0.mk ((by rw [hg]; exact (below_size (by repeat (first | (with_reducible first | exact HB.out | apply below_alloc | apply pw_below_drewN | apply below_drew1 | refine below_set ?_ GE1.out) | exact HB.out)))) : w.heap.size ≤ gb2); have b_ := Aside0.mk hbox; clear HB; have HB := n0_; clear n0_; clear BK1; have BK1 := m1_; clear m1_; have NB1_2 := o1_; clear o1_; have hnb1_2 := NB1_2.out; have hnc1_2 := fun e_ : gb2 = gb1 => NB1_2.out e_.symm; have BK2 := b_; have GE2 := g_; clear b_ g_; clear hg hbox hb; clear z1_0 z1_1 z1_2 y1_0 y1_1 y1_2; have z1_0 : w4.cell? ⟨gb1, 0, none⟩ = some (.int .i64 a0_0) := (blk_cell BK1.out 0).trans rfl; have z1_1 : w4.cell? ⟨gb1, 1, none⟩ = some (.int .i64 a0_1) := (blk_cell BK1.out 1).trans rfl; have z1_2 : w4.cell? ⟨gb1, 2, none⟩ = some (.slice A0_2 l0_2.length c0_2) := (blk_cell BK1.out 2).trans rfl; have y1_0 := blk_frozen BK1.out 0; have y1_1 := blk_frozen BK1.out 1; have y1_2 := blk_frozen BK1.out 2; have z2_0 : w4.cell? ⟨gb2, 0, none⟩ = some (.int .i64 0) := (blk_cell BK2.out 0).trans rfl; have z2_1 : w4.cell? ⟨gb2, 1, none⟩ = some (.int .i64 0) := (blk_cell BK2.out 1).trans rfl; have z2_2 : w4.cell? ⟨gb2, 2, none⟩ = some (.slice none 0 0) := (blk_cell BK2.out 2).trans rfl; have y2_0 := blk_frozen BK2.out 0; have y2_1 := blk_frozen BK2.out 1; have y2_2 := blk_frozen BK2.out 2) | (go_at_call 24; (with_reducible refine (screen_Formed.calls a0_0 a0_1 A0_2 c0_2 l0_2 false _ (Kd.C_below HR0_2.out (by repeat (first | (with_reducible first | exact HB.out | apply below_alloc | apply pw_below_drewN | apply below_drew1 | refine below_set ?_ GE1.out | refine below_set ?_ GE2.out) | exact HB.out))) HC0_2.out A3.out).mono ?_); rintro e w5 ⟨rfl, hb⟩; have m1_ : Aside0 (w5.heap[gb1]? = some (.cells #[.int .i64 a0_0, .int .i64 a0_1, .slice A0_2 l0_2.length c0_2] 28 (0, 0))) := ⟨blk_below (by (with_reducible repeat (first | refine blk_drewN ?_ _ | refine blk_drew ?_ | refine blk_alloc ?_ _)); exact BK1.out) hb⟩; have m2_ : Aside0 (w5.heap[gb2]? = some (.cells #[.int .i64 0, .int .i64 0, .slice none 0 0] 28 (0, 0))) := ⟨blk_below (by (with_reducible repeat (first | refine blk_drewN ?_ _ | refine blk_drew ?_ | refine blk_alloc ?_ _)); exact BK2.out) hb⟩; have n0_ := Aside0.mk (below_step (by repeat (first | (with_reducible first | exact HB.out | apply below_alloc | apply pw_below_drewN | apply below_drew1 | refine below_set ?_ GE1.out | refine below_set ?_ GE2.out) | exact HB.out)) hb); clear HB; have HB := n0_; clear n0_; clear BK1; have BK1 := m1_; clear m1_; clear BK2; have BK2 := m2_; clear m2_; clear hb; clear z1_0 z1_1 z1_2 y1_0 y1_1 y1_2; clear z2_0 z2_1 z2_2 y2_0 y2_1 y2_2; have z1_0 : w5.cell? ⟨gb1, 0, none⟩ = some (.int .i64 a0_0) := (blk_cell BK1.out 0).trans rfl; have z1_1 : w5.cell? ⟨gb1, 1, none⟩ = some (.int .i64 a0_1) := (blk_cell BK1.out 1).trans rfl; have z1_2 : w5.cell? ⟨gb1, 2, none⟩ = some (.slice A0_2 l0_2.length c0_2) := (blk_cell BK1.out 2).trans rfl; have y1_0 := blk_frozen BK1.out 0; have y1_1 := blk_frozen BK1.out 1; have y1_2 := blk_frozen BK1.out 2; have z2_0 : w5.cell? ⟨gb2, 0, none⟩ = some (.int .i64 0) := (blk_cell BK2.out 0).trans rfl; have z2_1 : w5.cell? ⟨gb2, 1, none⟩ = some (.int .i64 0) := (blk_cell BK2.out 1).trans rfl; have z2_2 : w5.cell? ⟨gb2, 2, none⟩ = some (.slice none 0 0) := (blk_cell BK2.out 2).trans rfl; have y2_0 := blk_frozen BK2.out 0; have y2_1 := blk_frozen BK2.out 1; have y2_2 := blk_frozen BK2.out 2))
    refine bodyPost_ret (results_ct rfl _ _ gb2 28 #[.int .i64 0, .int .i64 0, .slice none 0 0] (0, 0) _ rfl (by (with_reducible repeat (first | refine blk_drewN ?_ _ | refine blk_drew ?_ | refine blk_alloc ?_ _)); refine blk_put (cs := #[.int .i64 0, .int .i64 0, .slice none 0 0]) ?_ 2 _ rfl; (with_reducible repeat (first | refine blk_drewN ?_ _ | refine blk_drew ?_ | refine blk_alloc ?_ _)); refine blk_put (cs := #[.int .i64 0, .int .i64 0, .slice none 0 0]) ?_ 1 _ rfl; (with_reducible repeat (first | refine blk_drewN ?_ _ | refine blk_drew ?_ | refine blk_alloc ?_ _)); refine blk_put (cs := #[.int .i64 0, .int .i64 0, .slice none 0 0]) ?_ 0 _ rfl; (with_reducible repeat (first | refine blk_drewN ?_ _ | refine blk_drew ?_ | refine blk_alloc ?_ _)); exact BK2.out) Try.underlying28 rfl (by kernel_rfl)) rfl ?_
    exact ⟨_, rfl, Kd.R_nil _ _ _ _ _, (by repeat (first | (with_reducible first | exact HB.out | apply below_alloc | apply pw_below_drewN | apply below_drew1 | refine below_set ?_ GE1.out | refine below_set ?_ GE2.out) | exact HB.out))⟩
  | true =>
    rw [if_pos rfl] at H
    by_cases c5 : 0 ≤ a0_0 ∧ a0_0 ≤ 64 ∧ 0 ≤ a0_1 ∧ a0_1 ≤ 64 ∧ (l0_2.length : Int) = a0_0 * a0_1
    rotate_left
    · rw [if_neg c5] at H; cases H
    rw [if_pos c5] at H
    obtain ⟨n, A40, H⟩ := Option.bind_eq_some_iff.mp H
    simp only [Option.some.injEq, Prod.mk.injEq] at H
    obtain ⟨e1, e2, rfl, rfl⟩ := H
    obtain ⟨k1, k2, k3⟩ := qn_spec A40
    obtain ⟨h0, h1, h2, h3, hl⟩ := c5
    have hd := dims4_le (n := n) h0 h1 h2 h3
    obtain ⟨nw, nh, hD⟩ : ∃ nw nh, dims4 n a0_0 a0_1 = (nw, nh) := ⟨_, _, rfl⟩
    have hS := k3 a0_0 a0_1
    rw [hD] at hd hS e1 e2
    subst e1 e2
    have HX := Aside0.mk (fun W => screen_spin.calls a0_0 a0_1 a1 n nw nh W h0 h1 h2 h3 k1 k2 hS hd)
    have HY := Aside0.mk (fun b W b1 b2 b3 x y x0 x1 y0 y1 hs => screen_spin1.calls n a0_0 a0_1 nw nh x y b b1 b2 b3 W k1 h1 h3 x0 x1 y0 y1 hD hs)
    have HL := Aside0.mk (show l0_2.length ≤ 4096 by have : a0_0 * a0_1 ≤ 64 * 64 := Int.mul_le_mul h1 h3 h2 (by decide); omega)
    have HS := Aside0.mk hS
    have HD := Aside0.mk hD
    have HG := Aside0.mk (And.intro h0 (And.intro h1 (And.intro h2 (And.intro h3 hl))))
    have HN := Aside0.mk k1
    clear h0 h1 h2 h3 hl k1 k2 k3 hS hd hD A40
    go_enter Try.func15, Try.ntmps15
    go_upto_region 4 with (first | ((with_reducible refine gate_dst (N := 2) rfl ?_); (try (refine gate_guard (by rfl) ?_; dsimp only)); refine box_event ?hg (N := 2) ?hd (cs := #[.int .i64 a0_0, .int .i64 a0_1, .slice A0_2 l0_2.length c0_2]) (t := 28) ?hr ?_; (case hd => rfl); (case hg => rfl); (case hr => first | (go_simp; done) | (go_simp; rfl)); intro gb1 hg w2 hbox hb; have n0_ := Aside0.mk (below_step (by repeat (first | (with_reducible first | exact HB.out | apply below_alloc | apply pw_below_drewN | apply below_drew1) | exact HB.out)) hb); have g_ := Aside0.mk ((by rw [hg]; exact (below_size (by repeat (first | (with_reducible first | exact HB.out | apply below_alloc | apply pw_below_drewN | apply below_drew1) | exact HB.out)))) : w.heap.size ≤ gb1); have b_ := Aside0.mk hbox; clear HB; have HB := n0_; clear n0_; have BK1 := b_; have GE1 := g_; clear b_ g_; clear hg hbox hb; have z1_0 : w2.cell? ⟨gb1, 0, none⟩ = some (.int .i64 a0_0) := (blk_cell BK1.out 0).trans rfl; have z1_1 : w2.cell? ⟨gb1, 1, none⟩ = some (.int .i64 a0_1) := (blk_cell BK1.out 1).trans rfl; have z1_2 : w2.cell? ⟨gb1, 2, none⟩ = some (.slice A0_2 l0_2.length c0_2) := (blk_cell BK1.out 2).trans rfl; have y1_0 := blk_frozen BK1.out 0; have y1_1 := blk_frozen BK1.out 1; have y1_2 := blk_frozen BK1.out 2) | ((with_reducible refine gate_dst (N := 4) rfl ?_); (try (refine gate_guard (by rfl) ?_; dsimp only)); refine box_event ?hg (N := 4) ?hd (cs := #[.int .i64 0, .int .i64 0, .slice none 0 0]) (t := 28) ?hr ?_; (case hd => rfl); (case hg => rfl); (case hr => first | (go_simp; done) | (go_simp; rfl)); intro gb2 hg w4 hbox hb; have m1_ : Aside0 (w4.heap[gb1]? = some (.cells #[.int .i64 a0_0, .int .i64 a0_1, .slice A0_2 l0_2.length c0_2] 28 (0, 0))) := ⟨blk_below (by (with_reducible repeat (first | refine blk_drewN ?_ _ | refine blk_drew ?_ | refine blk_alloc ?_ _)); exact BK1.out) hb⟩; have n0_ := Aside0.mk (below_step (by repeat (first | (with_reducible first | exact HB.out | apply below_alloc | apply pw_below_drewN | apply below_drew1 | refine below_set ?_ GE1.out) | exact HB.out)) hb); have o1_ := Aside0.mk ((by rw [hg]; exact Nat.ne_of_lt (blk_lt (o := .cells #[.int .i64 a0_0, .int .i64 a0_1, .slice A0_2 l0_2.length c0_2] 28 (0, 0)) (by (with_reducible repeat (first | refine blk_drewN ?_ _ | refine blk_drew ?_ | refine blk_alloc ?_ _)); exact BK1.out))) : gb1 ≠ gb2); have g_ := Aside0.mk ((by rw [hg]; exact (below_size (by repeat (first | (with_reducible first | exact HB.out | apply below_alloc | apply pw_below_drewN | apply below_drew1 | refine below_set ?_ GE1.out) | exact HB.out)))) : w.heap.size ≤ gb2); have b_ := Aside0.mk hbox; clear HB; have HB := n0_; clear n0_; clear BK1; have BK1 := m1_; clear m1_; have NB1_2 := o1_; clear o1_; have hnb1_2 := NB1_2.out; have hnc1_2 := fun e_ : gb2 = gb1 => NB1_2.out e_.symm; have BK2 := b_; have GE2 := g_; clear b_ g_; clear hg hbox hb; clear z1_0 z1_1 z1_2 y1_0 y1_1 y1_2; have z1_0 : w4.cell? ⟨gb1, 0, none⟩ = some (.int .i64 a0_0) := (blk_cell BK1.out 0).trans rfl; have z1_1 : w4.cell? ⟨gb1, 1, none⟩ = some (.int .i64 a0_1) := (blk_cell BK1.out 1).trans rfl; have z1_2 : w4.cell? ⟨gb1, 2, none⟩ = some (.slice A0_2 l0_2.length c0_2) := (blk_cell BK1.out 2).trans rfl; have y1_0 := blk_frozen BK1.out 0; have y1_1 := blk_frozen BK1.out 1; have y1_2 := blk_frozen BK1.out 2; have z2_0 : w4.cell? ⟨gb2, 0, none⟩ = some (.int .i64 0) := (blk_cell BK2.out 0).trans rfl; have z2_1 : w4.cell? ⟨gb2, 1, none⟩ = some (.int .i64 0) := (blk_cell BK2.out 1).trans rfl; have z2_2 : w4.cell? ⟨gb2, 2, none⟩ = some (.slice none 0 0) := (blk_cell BK2.out 2).trans rfl; have y2_0 := blk_frozen BK2.out 0; have y2_1 := blk_frozen BK2.out 1; have y2_2 := blk_frozen BK2.out 2) | (go_at_call 24; (with_reducible refine (screen_Formed.calls a0_0 a0_1 A0_2 c0_2 l0_2 true _ (Kd.C_below HR0_2.out (by repeat (first | (with_reducible first | exact HB.out | apply below_alloc | apply pw_below_drewN | apply below_drew1 | refine below_set ?_ GE1.out | refine below_set ?_ GE2.out) | exact HB.out))) HC0_2.out A3.out).mono ?_); rintro e w5 ⟨rfl, hb⟩; have m1_ : Aside0 (w5.heap[gb1]? = some (.cells #[.int .i64 a0_0, .int .i64 a0_1, .slice A0_2 l0_2.length c0_2] 28 (0, 0))) := ⟨blk_below (by (with_reducible repeat (first | refine blk_drewN ?_ _ | refine blk_drew ?_ | refine blk_alloc ?_ _)); exact BK1.out) hb⟩; have m2_ : Aside0 (w5.heap[gb2]? = some (.cells #[.int .i64 0, .int .i64 0, .slice none 0 0] 28 (0, 0))) := ⟨blk_below (by (with_reducible repeat (first | refine blk_drewN ?_ _ | refine blk_drew ?_ | refine blk_alloc ?_ _)); exact BK2.out) hb⟩; have n0_ := Aside0.mk (below_step (by repeat (first | (with_reducible first | exact HB.out | apply below_alloc | apply pw_below_drewN | apply below_drew1 | refine below_set ?_ GE1.out | refine below_set ?_ GE2.out) | exact HB.out)) hb); clear HB; have HB := n0_; clear n0_; clear BK1; have BK1 := m1_; clear m1_; clear BK2; have BK2 := m2_; clear m2_; clear hb; clear z1_0 z1_1 z1_2 y1_0 y1_1 y1_2; clear z2_0 z2_1 z2_2 y2_0 y2_1 y2_2; have z1_0 : w5.cell? ⟨gb1, 0, none⟩ = some (.int .i64 a0_0) := (blk_cell BK1.out 0).trans rfl; have z1_1 : w5.cell? ⟨gb1, 1, none⟩ = some (.int .i64 a0_1) := (blk_cell BK1.out 1).trans rfl; have z1_2 : w5.cell? ⟨gb1, 2, none⟩ = some (.slice A0_2 l0_2.length c0_2) := (blk_cell BK1.out 2).trans rfl; have y1_0 := blk_frozen BK1.out 0; have y1_1 := blk_frozen BK1.out 1; have y1_2 := blk_frozen BK1.out 2; have z2_0 : w5.cell? ⟨gb2, 0, none⟩ = some (.int .i64 0) := (blk_cell BK2.out 0).trans rfl; have z2_1 : w5.cell? ⟨gb2, 1, none⟩ = some (.int .i64 0) := (blk_cell BK2.out 1).trans rfl; have z2_2 : w5.cell? ⟨gb2, 2, none⟩ = some (.slice none 0 0) := (blk_cell BK2.out 2).trans rfl; have y2_0 := blk_frozen BK2.out 0; have y2_1 := blk_frozen BK2.out 1; have y2_2 := blk_frozen BK2.out 2) | (go_at_call 31; (with_reducible refine (screen_size.calls _ _ _ nw nh _ HS.out).mono ?_); rintro e w6 ⟨rfl, ⟨nd, rfl⟩⟩; have m1_ := Aside0.mk (blk_drewN BK1.out nd); have m2_ := Aside0.mk (blk_drewN BK2.out nd); have n0_ : Aside0 (Below w.heap.size w (w5.drewN nd)) := ⟨pw_below_drewN HB.out _⟩; generalize World.drewN w5 nd = w6 at m1_ m2_ n0_ ⊢; clear HB; have HB := n0_; clear n0_; clear BK1; have BK1 := m1_; clear m1_; clear BK2; have BK2 := m2_; clear m2_; clear z1_0 z1_1 z1_2 y1_0 y1_1 y1_2; clear z2_0 z2_1 z2_2 y2_0 y2_1 y2_2; have z1_0 : w6.cell? ⟨gb1, 0, none⟩ = some (.int .i64 a0_0) := (blk_cell BK1.out 0).trans rfl; have z1_1 : w6.cell? ⟨gb1, 1, none⟩ = some (.int .i64 a0_1) := (blk_cell BK1.out 1).trans rfl; have z1_2 : w6.cell? ⟨gb1, 2, none⟩ = some (.slice A0_2 l0_2.length c0_2) := (blk_cell BK1.out 2).trans rfl; have y1_0 := blk_frozen BK1.out 0; have y1_1 := blk_frozen BK1.out 1; have y1_2 := blk_frozen BK1.out 2; have z2_0 : w6.cell? ⟨gb2, 0, none⟩ = some (.int .i64 0) := (blk_cell BK2.out 0).trans rfl; have z2_1 : w6.cell? ⟨gb2, 1, none⟩ = some (.int .i64 0) := (blk_cell BK2.out 1).trans rfl; have z2_2 : w6.cell? ⟨gb2, 2, none⟩ = some (.slice none 0 0) := (blk_cell BK2.out 2).trans rfl; have y2_0 := blk_frozen BK2.out 0; have y2_1 := blk_frozen BK2.out 1; have y2_2 := blk_frozen BK2.out 2))
    have HT0 := Aside0.mk (show turnTo n a0_0 a0_1 l0_2 0 = List.replicate (l0_2.length : Int).toNat 0 by simp [turnTo])
    obtain ⟨y0, hy0⟩ : ∃ y0, y0 = turnTo n a0_0 a0_1 l0_2 0 := ⟨_, rfl⟩
    rw [← hy0] at HT0
    have HY0 := Aside0.mk hy0
    clear hy0
    go_upto_region 5 with (first | ((with_reducible refine gate_dst (N := 32) rfl ?_); refine Kd.R_make (Kd.int .u8) _ 5 rfl (N := 32) rfl 26 _ _ rfl (l0_2.length : Int) rfl rfl Try.underlying26 (.int .u8 0) 1 info5 rfl (by decide) (by omega) 0 (ok := fun _ => True) (okp := fun _ => True) rfl (fun _ hk => hk) trivial (by omega) (by have := HL.out; omega) (Below.refl _ _) (Nat.le_refl _) ?_; intro v9 w9 ho hb hg_ hnew_; clear hg_ hnew_; rw [← HT0.out] at ho; have r_ := Aside0.mk (Kd.R_lower ho (below_size (by repeat (first | (with_reducible first | exact HB.out | apply below_alloc | apply pw_below_drewN | apply below_drew1 | refine below_set ?_ GE1.out | refine below_set ?_ GE2.out) | exact HB.out)))); have m1_ : Aside0 (w9.heap[gb1]? = some (.cells #[.int .i64 a0_0, .int .i64 a0_1, .slice A0_2 l0_2.length c0_2] 28 (0, 0))) := ⟨blk_below (by (with_reducible repeat (first | refine blk_drewN ?_ _ | refine blk_drew ?_ | refine blk_alloc ?_ _)); exact BK1.out) hb⟩; have m2_ : Aside0 (w9.heap[gb2]? = some (.cells #[.int .i64 0, .int .i64 0, .slice none 0 0] 28 (0, 0))) := ⟨blk_below (by (with_reducible repeat (first | refine blk_drewN ?_ _ | refine blk_drew ?_ | refine blk_alloc ?_ _)); exact BK2.out) hb⟩; have n0_ := Aside0.mk (below_step (by repeat (first | (with_reducible first | exact HB.out | apply below_alloc | apply pw_below_drewN | apply below_drew1 | refine below_set ?_ GE1.out | refine below_set ?_ GE2.out) | exact HB.out)) hb); clear HB; have HB := n0_; clear n0_; clear BK1; have BK1 := m1_; clear m1_; clear BK2; have BK2 := m2_; clear m2_; have HO := r_; clear r_ ho hb; obtain ⟨Ao, co, eo⟩ := Kd.R_slice HO.out; subst eo; clear z1_0 z1_1 z1_2 y1_0 y1_1 y1_2; clear z2_0 z2_1 z2_2 y2_0 y2_1 y2_2; have z1_0 : w9.cell? ⟨gb1, 0, none⟩ = some (.int .i64 a0_0) := (blk_cell BK1.out 0).trans rfl; have z1_1 : w9.cell? ⟨gb1, 1, none⟩ = some (.int .i64 a0_1) := (blk_cell BK1.out 1).trans rfl; have z1_2 : w9.cell? ⟨gb1, 2, none⟩ = some (.slice A0_2 l0_2.length c0_2) := (blk_cell BK1.out 2).trans rfl; have y1_0 := blk_frozen BK1.out 0; have y1_1 := blk_frozen BK1.out 1; have y1_2 := blk_frozen BK1.out 2; have z2_0 : w9.cell? ⟨gb2, 0, none⟩ = some (.int .i64 0) := (blk_cell BK2.out 0).trans rfl; have z2_1 : w9.cell? ⟨gb2, 1, none⟩ = some (.int .i64 0) := (blk_cell BK2.out 1).trans rfl; have z2_2 : w9.cell? ⟨gb2, 2, none⟩ = some (.slice none 0 0) := (blk_cell BK2.out 2).trans rfl; have y2_0 := blk_frozen BK2.out 0; have y2_1 := blk_frozen BK2.out 1; have y2_2 := blk_frozen BK2.out 2) | ((with_reducible refine gate_dst (N := 8) rfl ?_); (try (refine gate_guard (by rfl) ?_; dsimp only)); refine box_event ?hg (N := 8) ?hd (cs := #[.int .i64 0, .int .i64 0, .slice none 0 0]) (t := 28) ?hr ?_; (case hd => rfl); (case hg => rfl); (case hr => first | (go_simp; done) | (go_simp; rfl)); intro gb3 hg w10 hbox hb; have m1_ : Aside0 (w10.heap[gb1]? = some (.cells #[.int .i64 a0_0, .int .i64 a0_1, .slice A0_2 l0_2.length c0_2] 28 (0, 0))) := ⟨blk_below (by (with_reducible repeat (first | refine blk_drewN ?_ _ | refine blk_drew ?_ | refine blk_alloc ?_ _)); exact BK1.out) hb⟩; have m2_ : Aside0 (w10.heap[gb2]? = some (.cells #[.int .i64 0, .int .i64 0, .slice none 0 0] 28 (0, 0))) := ⟨blk_below (by (with_reducible repeat (first | refine blk_drewN ?_ _ | refine blk_drew ?_ | refine blk_alloc ?_ _)); exact BK2.out) hb⟩; have n0_ := Aside0.mk (below_step (by repeat (first | (with_reducible first | exact HB.out | apply below_alloc | apply pw_below_drewN | apply below_drew1 | refine below_set ?_ GE1.out | refine below_set ?_ GE2.out) | exact HB.out)) hb); have o1_ := Aside0.mk ((by rw [hg]; exact Nat.ne_of_lt (blk_lt (o := .cells #[.int .i64 a0_0, .int .i64 a0_1, .slice A0_2 l0_2.length c0_2] 28 (0, 0)) (by (with_reducible repeat (first | refine blk_drewN ?_ _ | refine blk_drew ?_ | refine blk_alloc ?_ _)); exact BK1.out))) : gb1 ≠ gb3); have o2_ := Aside0.mk ((by rw [hg]; exact Nat.ne_of_lt (blk_lt (o := .cells #[.int .i64 0, .int .i64 0, .slice none 0 0] 28 (0, 0)) (by (with_reducible repeat (first | refine blk_drewN ?_ _ | refine blk_drew ?_ | refine blk_alloc ?_ _)); exact BK2.out))) : gb2 ≠ gb3); have r_ := Aside0.mk (Kd.R_below (by (with_reducible repeat (first | apply Kd.R_alloc | apply Kd.R_drewN | apply Kd.R_drew)); exact HO.out) hb); clear HO; have HO := r_; clear r_; have g_ := Aside0.mk ((by rw [hg]; exact (below_size (by repeat (first | (with_reducible first | exact HB.out | apply below_alloc | apply pw_below_drewN | apply below_drew1 | refine below_set ?_ GE1.out | refine below_set ?_ GE2.out) | exact HB.out)))) : w.heap.size ≤ gb3); have b_ := Aside0.mk hbox; clear HB; have HB := n0_; clear n0_; clear BK1; have BK1 := m1_; clear m1_; clear BK2; have BK2 := m2_; clear m2_; have NB1_3 := o1_; clear o1_; have hnb1_3 := NB1_3.out; have hnc1_3 := fun e_ : gb3 = gb1 => NB1_3.out e_.symm; have NB2_3 := o2_; clear o2_; have hnb2_3 := NB2_3.out; have hnc2_3 := fun e_ : gb3 = gb2 => NB2_3.out e_.symm; have BK3 := b_; have GE3 := g_; clear b_ g_; clear hg hbox hb; clear z1_0 z1_1 z1_2 y1_0 y1_1 y1_2; have z1_0 : w10.cell? ⟨gb1, 0, none⟩ = some (.int .i64 a0_0) := (blk_cell BK1.out 0).trans rfl; have z1_1 : w10.cell? ⟨gb1, 1, none⟩ = some (.int .i64 a0_1) := (blk_cell BK1.out 1).trans rfl; have z1_2 : w10.cell? ⟨gb1, 2, none⟩ = some (.slice A0_2 l0_2.length c0_2) := (blk_cell BK1.out 2).trans rfl; have y1_0 := blk_frozen BK1.out 0; have y1_1 := blk_frozen BK1.out 1; have y1_2 := blk_frozen BK1.out 2; clear z2_0 z2_1 z2_2 y2_0 y2_1 y2_2; have z2_0 : w10.cell? ⟨gb2, 0, none⟩ = some (.int .i64 0) := (blk_cell BK2.out 0).trans rfl; have z2_1 : w10.cell? ⟨gb2, 1, none⟩ = some (.int .i64 0) := (blk_cell BK2.out 1).trans rfl; have z2_2 : w10.cell? ⟨gb2, 2, none⟩ = some (.slice none 0 0) := (blk_cell BK2.out 2).trans rfl; have y2_0 := blk_frozen BK2.out 0; have y2_1 := blk_frozen BK2.out 1; have y2_2 := blk_frozen BK2.out 2; have z3_0 : w10.cell? ⟨gb3, 0, none⟩ = some (.int .i64 0) := (blk_cell BK3.out 0).trans rfl; have z3_1 : w10.cell? ⟨gb3, 1, none⟩ = some (.int .i64 0) := (blk_cell BK3.out 1).trans rfl; have z3_2 : w10.cell? ⟨gb3, 2, none⟩ = some (.slice none 0 0) := (blk_cell BK3.out 2).trans rfl; have y3_0 := blk_frozen BK3.out 0; have y3_1 := blk_frozen BK3.out 1; have y3_2 := blk_frozen BK3.out 2))
    go_upto_region 6 with (first | (go_at_call 27; (with_reducible refine (HX.out _).mono ?_); rintro e w11 ⟨b1, b2, b3, rfl, hsp, hb⟩; have SP : Aside0 (Spun 0 a0_0 a0_1 nw nh n b1 b2 b3 w11) := ⟨⟨Nat.zero_le _, Nat.zero_le _, Nat.zero_le _, hsp.2.2.2⟩⟩; have m1_ := Aside0.mk (blk_below (blk_far (blk_far (blk_far BK1.out NB1_3.out _) NB1_3.out _) NB1_3.out _) hb); have m2_ := Aside0.mk (blk_below (blk_far (blk_far (blk_far BK2.out NB2_3.out _) NB2_3.out _) NB2_3.out _) hb); have m3_ := Aside0.mk (blk_below (blk_put (cs' := #[.int .i64 nw, .int .i64 nh, .slice Ao y0.length co]) (blk_put (cs' := #[.int .i64 nw, .int .i64 nh, .slice none 0 0]) (blk_put (cs' := #[.int .i64 nw, .int .i64 0, .slice none 0 0]) BK3.out 0 _ rfl) 1 _ rfl) 2 _ rfl) hb); have r_ := Aside0.mk (Kd.R_below (Kd.R_mono (Kd.R_far (p := ⟨gb3, 2, none⟩) (Kd.R_far (p := ⟨gb3, 1, none⟩) (Kd.R_far (p := ⟨gb3, 0, none⟩) (Kd.R_types HO.out BK3.out (by decide)) (fun _ hk => hk.2) _) (fun _ hk => hk.2) _) (fun _ hk => hk.2) _) (fun _ hk => trivial)) hb); have n0_ := Aside0.mk (below_step (by repeat (first | (with_reducible first | exact HB.out | apply below_alloc | apply pw_below_drewN | apply below_drew1 | refine below_set ?_ GE1.out | refine below_set ?_ GE2.out | refine below_set ?_ GE3.out) | exact HB.out)) hb); clear HO hsp hb; have HO := r_; clear r_; clear HB; have HB := n0_; clear n0_; clear BK1; have BK1 := m1_; clear m1_; clear BK2; have BK2 := m2_; clear m2_; clear BK3; have BK3 := m3_; clear m3_; clear z1_0 z1_1 z1_2 y1_0 y1_1 y1_2; clear z2_0 z2_1 z2_2 y2_0 y2_1 y2_2; clear z3_0 z3_1 z3_2 y3_0 y3_1 y3_2; have z1_0 : w11.cell? ⟨gb1, 0, none⟩ = some (.int .i64 a0_0) := (blk_cell BK1.out 0).trans rfl; have z1_1 : w11.cell? ⟨gb1, 1, none⟩ = some (.int .i64 a0_1) := (blk_cell BK1.out 1).trans rfl; have z1_2 : w11.cell? ⟨gb1, 2, none⟩ = some (.slice A0_2 l0_2.length c0_2) := (blk_cell BK1.out 2).trans rfl; have y1_0 := blk_frozen BK1.out 0; have y1_1 := blk_frozen BK1.out 1; have y1_2 := blk_frozen BK1.out 2))
    go_wp2
    go_loopg [43] l0_2.length (fun kq v43 w' => ∃ (j : Nat), v43 = .int .i64 j ∧ Aside0 (j + kq = l0_2.length) ∧ Aside0 (Kd.R (Kd.int .u8) 5 w' w.heap.size (fun _ => True) (.slice Ao y0.length co) (turnTo n a0_0 a0_1 l0_2 j)) ∧ Aside0 (w'.heap[gb1]? = some (.cells #[.int .i64 a0_0, .int .i64 a0_1, .slice A0_2 l0_2.length c0_2] 28 (0, 0))) ∧ Aside0 (w'.heap[gb2]? = some (.cells #[.int .i64 0, .int .i64 0, .slice none 0 0] 28 (0, 0))) ∧ Aside0 (w'.heap[gb3]? = some (.cells #[.int .i64 nw, .int .i64 nh, .slice Ao y0.length co] 28 (0, 0))) ∧ Aside0 (Spun 0 a0_0 a0_1 nw nh n b1 b2 b3 w') ∧ Aside0 (Below w.heap.size w w'))
    case atStart =>
      refine ⟨0, rfl, ⟨by omega⟩, ?_, BK1, BK2, BK3, ?_, HB⟩
      · rw [← HY0.out]; exact HO
      · exact SP
    case round =>
      clear HO BK1 BK2 BK3 SP HB z1_0 z1_1 z1_2 y1_0 y1_1 y1_2
      obtain ⟨j, rfl, HJ, HO, BK1, BK2, BK3, SP, HB⟩ := hrel
      cases gk with
      | zero =>
        have c : decide ((j : Int) < (l0_2.length : Int)) = false := decide_eq_false (by have := HJ.out; omega)
        have c' : (j < l0_2.length) = False := eq_false (by have := HJ.out; omega)
        have z3_0 : wr.cell? ⟨gb3, 0, none⟩ = some ((.int .i64 nw)) := (blk_cell BK3.out 0).trans rfl
        have z3_1 : wr.cell? ⟨gb3, 1, none⟩ = some ((.int .i64 nh)) := (blk_cell BK3.out 1).trans rfl
        have z3_2 : wr.cell? ⟨gb3, 2, none⟩ = some ((.slice Ao y0.length co)) := (blk_cell BK3.out 2).trans rfl
        have y3_0 := blk_frozen BK3.out 0
        have y3_1 := blk_frozen BK3.out 1
        have y3_2 := blk_frozen BK3.out 2
        have z2_0 : wr.cell? ⟨gb2, 0, none⟩ = some (.int .i64 0) := (blk_cell BK2.out 0).trans rfl
        have z2_1 : wr.cell? ⟨gb2, 1, none⟩ = some (.int .i64 0) := (blk_cell BK2.out 1).trans rfl
        have z2_2 : wr.cell? ⟨gb2, 2, none⟩ = some (.slice none 0 0) := (blk_cell BK2.out 2).trans rfl
        have y2_0 := blk_frozen BK2.out 0
        have y2_1 := blk_frozen BK2.out 1
        have y2_2 := blk_frozen BK2.out 2
        have hnb2_3 := NB2_3.out
        have hnc2_3 := fun e_ : gb3 = gb2 => NB2_3.out e_.symm
        go_wp2
        have hj : j = l0_2.length := by have := HJ.out; omega
        subst hj
        refine bodyPost_ret (results_ct rfl _ _ gb2 28 #[.int .i64 nw, .int .i64 nh, .slice Ao y0.length co] (0, 0) _ rfl (by (with_reducible repeat (first | refine blk_drewN ?_ _ | refine blk_drew ?_ | refine blk_alloc ?_ _)); refine blk_put (cs := #[.int .i64 nw, .int .i64 nh, .slice none 0 0]) ?_ 2 _ rfl; (with_reducible repeat (first | refine blk_drewN ?_ _ | refine blk_drew ?_ | refine blk_alloc ?_ _)); refine blk_put (cs := #[.int .i64 nw, .int .i64 0, .slice none 0 0]) ?_ 1 _ rfl; (with_reducible repeat (first | refine blk_drewN ?_ _ | refine blk_drew ?_ | refine blk_alloc ?_ _)); refine blk_put (cs := #[.int .i64 0, .int .i64 0, .slice none 0 0]) ?_ 0 _ rfl; (with_reducible repeat (first | refine blk_drewN ?_ _ | refine blk_drew ?_ | refine blk_alloc ?_ _)); exact BK2.out) Try.underlying28 rfl (by kernel_rfl)) rfl ?_
        exact ⟨_, rfl, Kd.R_mono (Kd.R_far (p := ⟨gb2, 2, none⟩) (Kd.R_far (p := ⟨gb2, 1, none⟩) (Kd.R_far (p := ⟨gb2, 0, none⟩) (Kd.R_types HO.out BK2.out (by decide)) (fun _ hk => hk.2) _) (fun _ hk => hk.2) _) (fun _ hk => hk.2) _) (fun _ hk => trivial), (by repeat (first | (with_reducible first | exact HB.out | apply below_alloc | apply pw_below_drewN | apply below_drew1 | refine below_set ?_ GE1.out | refine below_set ?_ GE2.out | refine below_set ?_ GE3.out) | exact HB.out))⟩
      | succ k1 =>
        have cj : j < l0_2.length := by have := HJ.out; omega
        have c : decide ((j : Int) < (l0_2.length : Int)) = true := decide_eq_true (by omega)
        have c' : (j < l0_2.length) = True := eq_true cj
        have q1 : (j : Int) < (l0_2.length : Int) := by omega
        obtain ⟨ad, e, hx⟩ := Kd.at_int HR0_2.out (j : Int) (by omega) q1
        cases e
        replace hx := (HB.out.cell (World.block_lt_of_cell? w _ hx)).trans hx
        rw [Int.toNat_natCast] at hx
        have z1_0 : wr.cell? ⟨gb1, 0, none⟩ = some (.int .i64 a0_0) := (blk_cell BK1.out 0).trans rfl
        have z1_1 : wr.cell? ⟨gb1, 1, none⟩ = some (.int .i64 a0_1) := (blk_cell BK1.out 1).trans rfl
        have z1_2 : wr.cell? ⟨gb1, 2, none⟩ = some ((.slice (some ad) l0_2.length c0_2)) := (blk_cell BK1.out 2).trans rfl
        have y1_0 := blk_frozen BK1.out 0
        have y1_1 := blk_frozen BK1.out 1
        have y1_2 := blk_frozen BK1.out 2
        obtain ⟨g0, g1, g2, g3, gl⟩ := HG.out
        have hp : 0 < a0_0 := by
          rcases Int.lt_or_le 0 a0_0 with h_ | h_
          · exact h_
          · have : a0_0 = 0 := by omega
            rw [this] at gl; omega
        have hlen := HL.out
        have x0 : 0 ≤ (j : Int).tmod a0_0 := Int.tmod_nonneg _ (by omega)
        have x1 : (j : Int).tmod a0_0 < a0_0 := Int.tmod_lt_of_pos _ hp
        have y_0 : 0 ≤ (j : Int).tdiv a0_0 := Int.tdiv_nonneg (by omega) (by omega)
        have y1 : (j : Int).tdiv a0_0 < a0_1 := by
          rw [Int.tdiv_eq_ediv_of_nonneg (Int.natCast_nonneg j)]
          exact Int.ediv_lt_of_lt_mul hp (by rw [Int.mul_comm]; omega)
        have yl : y0.length = l0_2.length := by have := HY0.out; rw [this, turnTo_len]
        have HZ := Aside0.mk (fun W hs => HY.out 0 W b1 b2 b3 ((j : Int).tmod a0_0) ((j : Int).tdiv a0_0) x0 x1 y_0 y1 hs)
        obtain ⟨p0, p1, q0, q1, ar⟩ := place4_in n HN.out a0_0 a0_1 ((j : Int).tmod a0_0) ((j : Int).tdiv a0_0) nw nh x0 x1 y_0 y1 HD.out
        obtain ⟨i0, i1, i2⟩ := at_in p0 p1 q0 q1
        have il : (place4 n a0_0 a0_1 ((j : Int).tmod a0_0) ((j : Int).tdiv a0_0)).2 * nw + (place4 n a0_0 a0_1 ((j : Int).tmod a0_0) ((j : Int).tdiv a0_0)).1 < (y0.length : Int) := by rw [yl, gl, ← ar]; exact i1
        have il2 : (y0.length : Int) ≤ 4096 := by omega
        have hm := w64_id i2 (by omega)
        have ha := w64_id i0 (by omega)
        have hy2 := w64_id y_0 (by omega)
        have hN : wrap64 ((j : Int) + 1) = ((j + 1 : Nat) : Int) := by exact w64_succ (by omega)
        have hz : ¬ a0_0 = 0 := by omega
        have hz2 : (a0_0 == 0) = false := beq_eq_false_iff_ne.mpr hz
        have hte : (j : Int).tdiv a0_0 = (j : Int) / a0_0 := Int.tdiv_eq_ediv_of_nonneg (Int.natCast_nonneg j)
        have HYL := Aside0.mk yl
        have HI := Aside0.mk (show idx4 n a0_0 a0_1 j = (place4 n a0_0 a0_1 ((j : Int).tmod a0_0) ((j : Int).tdiv a0_0)).2 * nw + (place4 n a0_0 a0_1 ((j : Int).tmod a0_0) ((j : Int).tdiv a0_0)).1 by unfold idx4; rw [HD.out])
        clear g0 g1 g2 g3 gl hp x0 x1 y_0 y1 p0 p1 q0 q1 ar i1 i2 yl il2 hlen
        generalize (place4 n a0_0 a0_1 ((j : Int).tmod a0_0) ((j : Int).tdiv a0_0)).1 = P at HZ i0 il ha HI
        generalize (place4 n a0_0 a0_1 ((j : Int).tmod a0_0) ((j : Int).tdiv a0_0)).2 = Q at HZ i0 il hm ha HI
        generalize hM : Q * nw = M at i0 il hm ha HI
        rw [← hM] at hm
        replace hm : wrap64 (Q * nw) = M := hm.trans hM
        generalize hI : M + P = I at i0 il ha HI
        rw [← hI] at ha
        replace ha : wrap64 (M + P) = I := ha.trans hI
        generalize hX : (j : Int).tmod a0_0 = X at HZ
        have hY5 : wrap64 ((j : Int) / a0_0) = (j : Int).tdiv a0_0 := by rw [← hte]; exact hy2
        generalize hY : (j : Int).tdiv a0_0 = Y at HZ hy2 hY5
        have hY2 : wrap64 ((j : Int).tdiv a0_0) = Y := by rw [hY]; exact hy2
        have hY3 : IntKind.i64.wrap ((j : Int).tdiv a0_0) = Y := (i64_w _).trans hY2
        have hY4 : IntKind.i64.wrap ((j : Int) / a0_0) = Y := (i64_w _).trans hY5
        have hm3 : IntKind.i64.wrap (Q * nw) = M := (i64_w _).trans hm
        have ha3 : IntKind.i64.wrap (M + P) = I := (i64_w _).trans ha
        have hN2 : IntKind.i64.wrap ((j : Int) + 1) = ((j + 1 : Nat) : Int) := (i64_w _).trans hN
        have HI0 := Aside0.mk i0
        have HIL := Aside0.mk il
        clear i0 il hM hI hY hte hy2
        go_wp2
        go_quiet ((go_at_call 37; exact Calls.quiet_of_same (HZ.out _ (Spun.drewN SP.out _))))
        have r_ := Aside0.mk (Kd.R_drewN HO.out nq)
        have m1_ := Aside0.mk (blk_drewN BK1.out nq)
        have m2_ := Aside0.mk (blk_drewN BK2.out nq)
        have m3_ := Aside0.mk (blk_drewN BK3.out nq)
        have s_ := Aside0.mk (Spun.drewN SP.out nq)
        have n0_ : Aside0 (Below w.heap.size w (wr.drewN nq)) := ⟨pw_below_drewN HB.out _⟩
        generalize World.drewN wr nq = w12 at r_ m1_ m2_ m3_ s_ n0_ ⊢
        clear HO BK1 BK2 BK3 SP HB hx z1_0 z1_1 z1_2 y1_0 y1_1 y1_2
        have HO := r_
        have BK1 := m1_
        have BK2 := m2_
        have BK3 := m3_
        have SP := s_
        have HB := n0_
        clear r_ m1_ m2_ m3_ s_ n0_
        have yl := HYL.out
        have p27 := HI0.out
        have q27 := HIL.out
        obtain ⟨go, co2, eo, gb, gl, cl, HGn⟩ := Kd.R_form HO.out (by rw [turnTo_len]; omega)
        (first | cases eo | (injection eo with ea_ en_ ec_; (first | subst ea_ | (injection ea_ with ea_; subst ea_)); subst ec_; clear en_))
        have GB := Aside0.mk gb
        clear gb gl HGn
        obtain ⟨hx0, hf0⟩ := Kd.R_celln 0 HO.out I p27 q27
        replace p27 := eq_true p27
        replace q27 := eq_true q27
        have HP := Aside0.mk (Kd.R_putn HO.out I (rd l0_2 (j : Int)))
        clear yl
        have z3_0 : w12.cell? ⟨gb3, 0, none⟩ = some ((.int .i64 nw)) := (blk_cell BK3.out 0).trans rfl
        have z3_1 : w12.cell? ⟨gb3, 1, none⟩ = some ((.int .i64 nh)) := (blk_cell BK3.out 1).trans rfl
        have z3_2 : w12.cell? ⟨gb3, 2, none⟩ = some ((.slice (some ⟨go, 0, none⟩) y0.length co)) := (blk_cell BK3.out 2).trans rfl
        have y3_0 := blk_frozen BK3.out 0
        have y3_1 := blk_frozen BK3.out 1
        have y3_2 := blk_frozen BK3.out 2
        go_wp2
        go_roundg k1
        case measure => have := HJ.out; omega
        case rel =>
          refine ⟨j + 1, by first | rfl | (simp [hN2]; done), ⟨by have := HJ.out; omega⟩, ?_, ?_, ?_, ?_, ?_, ?_⟩
          · exact ⟨by rw [turnTo, HI.out]; exact HP.out⟩
          · exact ⟨blk_far BK1.out (by have h_ := Kd.R_ne HO.out BK1.out (by decide); intro e_; exact h_ (by rw [e_]; rfl)) _⟩
          · exact ⟨blk_far BK2.out (by have h_ := Kd.R_ne HO.out BK2.out (by decide); intro e_; exact h_ (by rw [e_]; rfl)) _⟩
          · exact ⟨blk_far BK3.out (by have h_ := Kd.R_ne HO.out BK3.out (by decide); intro e_; exact h_ (by rw [e_]; rfl)) _⟩
          · exact ⟨⟨Nat.zero_le _, Nat.zero_le _, Nat.zero_le _, blk_far SP.out.2.2.2.1 (by have h_ := Kd.R_ne HO.out SP.out.2.2.2.1 (by decide); intro e_; exact h_ (by rw [e_]; rfl)) _, blk_far SP.out.2.2.2.2.1 (by have h_ := Kd.R_ne HO.out SP.out.2.2.2.2.1 (by decide); intro e_; exact h_ (by rw [e_]; rfl)) _, blk_far SP.out.2.2.2.2.2 (by have h_ := Kd.R_ne HO.out SP.out.2.2.2.2.2 (by decide); intro e_; exact h_ (by rw [e_]; rfl)) _⟩⟩
          · exact ⟨below_set HB.out GB.out⟩
end

/-! ### tinderlaw22_alive: function 9 -/
def tinderlaw22_alive.f  : Option (Bool) := (screen_Turn.f 2 1 (([5, 6] : List Int)) 2).bind fun bt106 => ((screen_Place.f 2 1 1 1 0).bind fun bt113 => (if bt106.2.2.2 = 0 then (if bt106.1 = 2 then (if (bt106.2.2.1.length : Int) = 2 then (if 0 < (bt106.2.2.1.length : Int) then (if (rd bt106.2.2.1 0) = 6 then (if bt113.1 = 0 then (some (bt113.2 == 1)) else (some false)) else (some false)) else (none)) else (some false)) else (some false)) else (some false)))
set_option maxHeartbeats 8000000 in
set_option maxRecDepth 100000 in
theorem tinderlaw22_alive.calls  (r : Bool) (w : World) (h : tinderlaw22_alive.f  = some r) :
    Calls Try.prog 9 #[] w fun e w' => e = .returned (.bool r) ∧ Below w.heap.size w w' := by
  have hu28 := Try.underlying28
  have HB := Aside0.mk (Below.refl w.heap.size w)
  have H : ((screen_Turn.f 2 1 (([5, 6] : List Int)) 2).bind fun bt106 => ((screen_Place.f 2 1 1 1 0).bind fun bt113 => (if bt106.2.2.2 = 0 then (if bt106.1 = 2 then (if (bt106.2.2.1.length : Int) = 2 then (if 0 < (bt106.2.2.1.length : Int) then (if (rd bt106.2.2.1 0) = 6 then (if bt113.1 = 0 then (some (bt113.2 == 1)) else (some false)) else (some false)) else (none)) else (some false)) else (some false)) else (some false)))) = some r := h
  clear h
  obtain ⟨y103, hy103⟩ : ∃ y_ : List Int, y_ = (([5, 6] : List Int)) := ⟨_, rfl⟩
  replace H : ((screen_Turn.f 2 1 y103 2).bind fun bt106 => ((screen_Place.f 2 1 1 1 0).bind fun bt113 => (if bt106.2.2.2 = 0 then (if bt106.1 = 2 then (if (bt106.2.2.1.length : Int) = 2 then (if 0 < (bt106.2.2.1.length : Int) then (if (rd bt106.2.2.1 0) = 6 then (if bt113.1 = 0 then (some (bt113.2 == 1)) else (some false)) else (some false)) else (none)) else (some false)) else (some false)) else (some false)))) = some r := by first | (rw [hy103]; with_reducible exact H) | (have H2_ := (Option.bind_some _ _).symm.trans H; rw [hy103]; with_reducible exact H2_) | (have H2_ := (Option.bind_some _ _).symm.trans H; with_reducible exact H2_) | with_reducible exact H | (rw [hy103]; exact H) | exact H
  have Ny103 := Aside0.mk hy103
  clear hy103
  replace H := Option.bind_eq_some_iff.mp H
  obtain ⟨⟨t106, t107, t108, t111⟩, A10, H⟩ := H
  replace H : ((screen_Place.f 2 1 1 1 0).bind fun bt113 => (if t111 = 0 then (if t106 = 2 then (if (t108.length : Int) = 2 then (if 0 < (t108.length : Int) then (if (rd t108 0) = 6 then (if bt113.1 = 0 then (some (bt113.2 == 1)) else (some false)) else (some false)) else (none)) else (some false)) else (some false)) else (some false))) = some r := H
  have A1 := Aside0.mk A10
  clear A10
  replace H := Option.bind_eq_some_iff.mp H
  obtain ⟨⟨t113, t114⟩, A20, H⟩ := H
  replace H : (if t111 = 0 then (if t106 = 2 then (if (t108.length : Int) = 2 then (if 0 < (t108.length : Int) then (if (rd t108 0) = 6 then (if t113 = 0 then (some (t114 == 1)) else (some false)) else (some false)) else (none)) else (some false)) else (some false)) else (some false)) = some r := H
  have A2 := Aside0.mk A20
  clear A20
  by_cases c3 : t111 = 0
  · rw [if_pos c3] at H
    have c3b0 : (t111 == 0) = true := beq_iff_eq.mpr c3
    have c3b1 : (t111 != 0) = false := bne_eq_false_iff_eq.mpr c3
    clear c3
    by_cases c4 : t106 = 2
    · rw [if_pos c4] at H
      have c4b0 : (t106 == 2) = true := beq_iff_eq.mpr c4
      have c4b1 : (t106 != 2) = false := bne_eq_false_iff_eq.mpr c4
      clear c4
      by_cases c5 : (t108.length : Int) = 2
      · rw [if_pos c5] at H
        have c5b0 : ((t108.length : Int) == 2) = true := beq_iff_eq.mpr c5
        have c5b1 : ((t108.length : Int) != 2) = false := bne_eq_false_iff_eq.mpr c5
        clear c5
        by_cases c6 : 0 < (t108.length : Int)
        · rw [if_pos c6] at H
          have c6b0 : decide (0 < (t108.length : Int)) = true := decide_eq_true c6
          have c6b1 : decide (0 < t108.length) = true := decide_eq_true (by omega)
          clear c6
          by_cases c7 : (rd t108 0) = 6
          · rw [if_pos c7] at H
            have c7b0 : ((rd t108 0) == 6) = true := beq_iff_eq.mpr c7
            have c7b1 : ((rd t108 0) != 6) = false := bne_eq_false_iff_eq.mpr c7
            clear c7
            by_cases c8 : t113 = 0
            · rw [if_pos c8] at H
              have c8b0 : (t113 == 0) = true := beq_iff_eq.mpr c8
              have c8b1 : (t113 != 0) = false := bne_eq_false_iff_eq.mpr c8
              clear c8
              obtain rfl := Option.some.inj H
              go_enter Try.func9, Try.ntmps9
              go_wp2_with (first | ((with_reducible refine gate_dst (N := 6) rfl ?_); (try (refine gate_guard (by rfl) ?_; dsimp only)); refine Kd.R_lit (Kd.int .u8) _ 5 ?hg (N := 6) ?hd (xs := ([5, 6] : List Int)) (inner := [.int .u8 5, .int .u8 6]) (ok := fun _ => True) (okp := fun _ => True) ?hr ?hp (fun _ hk => hk) trivial (Below.refl _ _) (Nat.le_refl _) (by simp) ?_; (case hd => rfl); (case hg => rfl); (case hr => first | (go_simp; done) | (go_simp; rfl)); (case hp => exact (Reps.one (show Kd.M (Kd.int .u8) _ _ _ 5 [.int .u8 5] from rfl) (Reps.one (show Kd.M (Kd.int .u8) _ _ _ 6 [.int .u8 6] from rfl) (Reps.none _ _)))); intro v104 w9 ho10 hb hg_ hnew_; clear hg_ hnew_; (first | rw [← Ny103.out] at ho10 | (simp only [Int.reduceToNat] at ho10; rw [← Ny103.out] at ho10)); have n0_ := Aside0.mk (Kd.R_lower ho10 (below_size (by repeat (first | (with_reducible first | exact HB.out | apply below_alloc | apply pw_below_drewN | apply below_drew1) | exact HB.out)))); have n1_ := Aside0.mk (below_step (by repeat (first | (with_reducible first | exact HB.out | apply below_alloc | apply pw_below_drewN | apply below_drew1) | exact HB.out)) hb); clear HB; have HO105 := n0_; have HB := n1_; clear n0_ n1_; clear hb ho10; obtain ⟨Ao11, co11, eo11⟩ := Kd.R_slice HO105.out; subst eo11) | ((with_reducible refine gate_callee (f := 15) rfl ?_); refine goesL_ (some 8) rfl rfl Try.func15 (by kernel_rfl) rfl #[.agg #[.int .i64 2, .int .i64 1, .slice Ao11 y103.length co11], .int .i64 2] rfl (by (try simp only [List.map_toArray, List.map_cons, List.map_nil]); first | done | rfl | (simp only [List.length_drop, List.length_take]; rfl)) ?_; (with_reducible refine (screen_Turn.calls 2 1 _ _ y103 2 t106 t107 t108 t111 _ ?side1 ?side2 A1.out).mono ?_); (case side1 => repeat (first | exact (Kd.R_reads' HO105.out).2.2 | (with_reducible refine Kd.C_alloc ?_ _) | (with_reducible refine Kd.C_drewN ?_ _) | (with_reducible refine Kd.C_drew ?_))); (case side2 => exact (Kd.R_reads' HO105.out).2.1); rintro e w12 ⟨v109, rfl, ho0, hb⟩; refine ⟨_, rfl, ?_⟩; have n0_ := Aside0.mk (Kd.R_elder' (by (with_reducible repeat (first | apply Kd.R_alloc | apply Kd.R_drewN | apply Kd.R_drew)); exact HO105.out) (Kd.R_base ho0) hb); have n1_ := Aside0.mk (Kd.R_lower (Kd.R_new' ho0 (Kd.R_lt (by (with_reducible repeat (first | apply Kd.R_alloc | apply Kd.R_drewN | apply Kd.R_drew)); exact HO105.out))) (below_size (by repeat (first | (with_reducible first | exact HB.out | apply below_alloc | apply pw_below_drewN | apply below_drew1) | exact HB.out)))); have n2_ := Aside0.mk (below_step (by repeat (first | (with_reducible first | exact HB.out | apply below_alloc | apply pw_below_drewN | apply below_drew1) | exact HB.out)) hb); clear HO105; clear HB; have HO105 := n0_; have HO110 := n1_; have HB := n2_; clear n0_ n1_ n2_; (try clear hb); (try clear hb2); (try clear hk); (try clear hi); (try clear ho0)) | ((with_reducible refine gate_dst (N := 1) rfl ?_); (try (refine gate_guard (by rfl) ?_; dsimp only)); refine box_event ?hg (N := 1) ?hd (cs := #[.int .i64 0, .int .i64 0, .slice none 0 0]) (t := 28) ?hr ?_; (case hd => rfl); (case hg => rfl); (case hr => first | (go_simp; done) | (go_simp; rfl)); intro gb112 hg w13 hbox hb; have n0_ := Aside0.mk (Kd.R_below (by (with_reducible repeat (first | apply Kd.R_alloc | apply Kd.R_drewN | apply Kd.R_drew)); exact HO105.out) hb); have n1_ := Aside0.mk (Kd.R_below (by (with_reducible repeat (first | apply Kd.R_alloc | apply Kd.R_drewN | apply Kd.R_drew)); exact HO110.out) hb); have n2_ := Aside0.mk (below_step (by repeat (first | (with_reducible first | exact HB.out | apply below_alloc | apply pw_below_drewN | apply below_drew1) | exact HB.out)) hb); have n3_ := Aside0.mk (hbox); have n4_ := Aside0.mk ((by rw [hg]; exact (below_size (by repeat (first | (with_reducible first | exact HB.out | apply below_alloc | apply pw_below_drewN | apply below_drew1) | exact HB.out))) : w.heap.size ≤ gb112)); have n5_ := Aside0.mk ((by rw [hg]; exact (below_size (by repeat (first | (with_reducible first | exact HB.out | apply below_alloc | apply pw_below_drewN | apply below_drew1) | exact HB.out))) : w.heap.size ≤ gb112)); clear HO105; clear HO110; clear HB; have HO105 := n0_; have HO110 := n1_; have HB := n2_; have BK112 := n3_; have GW112 := n4_; have GE112 := n5_; clear n0_ n1_ n2_ n3_ n4_ n5_; clear hb hbox hg; have hcz14_0 : w13.cell? ⟨gb112, 0, none⟩ = some (.int .i64 0) := (blk_cell BK112.out 0).trans rfl; have hcz14_1 : w13.cell? ⟨gb112, 1, none⟩ = some (.int .i64 0) := (blk_cell BK112.out 1).trans rfl; have hcz14_2 : w13.cell? ⟨gb112, 2, none⟩ = some (.slice none 0 0) := (blk_cell BK112.out 2).trans rfl; have hfz14_0 := blk_frozen BK112.out 0; have hfz14_1 := blk_frozen BK112.out 1; have hfz14_2 := blk_frozen BK112.out 2; obtain ⟨Ao15, co15, eo15⟩ := Kd.R_slice HO110.out; subst eo15) | ((with_reducible refine gate_callee (f := 10) rfl ?_); refine goesL_ (some 12) rfl rfl Try.func10 (by kernel_rfl) rfl #[.int .i64 2, .int .i64 1, .int .i64 1, .int .i64 1, .int .i64 0] rfl (by (try simp only [List.map_toArray, List.map_cons, List.map_nil]); first | done | rfl | (simp only [List.length_drop, List.length_take]; rfl)) ?_; (with_reducible refine (screen_Place.calls 2 1 1 1 0 t113 t114 _ A2.out).mono ?_); rintro e w16 ⟨rfl, hb⟩; refine ⟨_, rfl, ?_⟩; have n0_ := Aside0.mk (Kd.R_below (by (with_reducible repeat (first | apply Kd.R_alloc | apply Kd.R_drewN | apply Kd.R_drew)); exact (Kd.R_mono (Kd.R_far (p := ⟨gb112, 2, none⟩) (Kd.R_far (p := ⟨gb112, 1, none⟩) (Kd.R_far (p := ⟨gb112, 0, none⟩) (Kd.R_types HO105.out BK112.out (by decide)) (fun _ hk => hk.2) (.int .i64 t106)) (fun _ hk => hk.2) (.int .i64 t107)) (fun _ hk => hk.2) (.slice Ao15 t108.length co15)) (fun _ h_ => h_.1))) hb); have n1_ := Aside0.mk (Kd.R_below (by (with_reducible repeat (first | apply Kd.R_alloc | apply Kd.R_drewN | apply Kd.R_drew)); exact (Kd.R_mono (Kd.R_far (p := ⟨gb112, 2, none⟩) (Kd.R_far (p := ⟨gb112, 1, none⟩) (Kd.R_far (p := ⟨gb112, 0, none⟩) (Kd.R_types HO110.out BK112.out (by decide)) (fun _ hk => hk.2) (.int .i64 t106)) (fun _ hk => hk.2) (.int .i64 t107)) (fun _ hk => hk.2) (.slice Ao15 t108.length co15)) (fun _ h_ => h_.1))) hb); have n2_ := Aside0.mk (blk_below (g := gb112) (o := .cells #[.int .i64 t106, .int .i64 t107, .slice Ao15 t108.length co15] 28 (0, 0)) (by (with_reducible repeat (first | refine blk_drewN ?_ _ | refine blk_drew ?_ | refine blk_alloc ?_ _)); refine blk_put (cs := #[.int .i64 t106, .int .i64 t107, .slice none 0 0]) ?_ 2 _ rfl; (with_reducible repeat (first | refine blk_drewN ?_ _ | refine blk_drew ?_ | refine blk_alloc ?_ _)); refine blk_put (cs := #[.int .i64 t106, .int .i64 0, .slice none 0 0]) ?_ 1 _ rfl; (with_reducible repeat (first | refine blk_drewN ?_ _ | refine blk_drew ?_ | refine blk_alloc ?_ _)); refine blk_put (cs := #[.int .i64 0, .int .i64 0, .slice none 0 0]) ?_ 0 _ rfl; (with_reducible repeat (first | refine blk_drewN ?_ _ | refine blk_drew ?_ | refine blk_alloc ?_ _)); exact BK112.out) hb); have n3_ := Aside0.mk (below_step (by repeat (first | (with_reducible first | exact HB.out | apply below_alloc | apply pw_below_drewN | apply below_drew1 | refine below_set ?_ GE112.out) | exact HB.out)) hb); clear HO105; clear HO110; clear BK112; clear HB; have HO105 := n0_; have HO110 := n1_; have BK112 := n2_; have HB := n3_; clear n0_ n1_ n2_ n3_; (try clear hb); (try clear hb2); (try clear hk); (try clear hi); have hcz17_0 : w16.cell? ⟨gb112, 0, none⟩ = some (.int .i64 t106) := (blk_cell BK112.out 0).trans rfl; have hcz17_1 : w16.cell? ⟨gb112, 1, none⟩ = some (.int .i64 t107) := (blk_cell BK112.out 1).trans rfl; have hcz17_2 : w16.cell? ⟨gb112, 2, none⟩ = some (.slice Ao15 t108.length co15) := (blk_cell BK112.out 2).trans rfl; have hfz17_0 := blk_frozen BK112.out 0; have hfz17_1 := blk_frozen BK112.out 1; have hfz17_2 := blk_frozen BK112.out 2; have p115 : 0 ≤ (0 : Int) := (by omega); have q115 : 0 < (t108.length : Int) := of_decide_eq_true (by first | (with_reducible assumption) | assumption); obtain ⟨ad115, e115, hx115_0⟩ := Kd.at_int (Kd.R_reads' HO110.out).2.2 0 p115 q115; cases e115; have qi115 : (0 < t108.length) = True := eq_true (by omega); (try rw [show ((0 : Int)).toNat = 0 from rfl] at hx115_0); (try rw [Addr.add_zero'] at hx115_0); replace p115 := eq_true p115; replace q115 := eq_true q115))
              go_ret
              exact ⟨by first | rfl | (simp [errW_none, errW_some] <;> rfl) | (simp [*, errW_none, errW_some] <;> rfl), by repeat (first | (with_reducible first | exact HB.out | apply below_alloc | apply pw_below_drewN | apply below_drew1 | refine below_set ?_ GE112.out) | exact HB.out)⟩
            · rw [if_neg c8] at H
              have c8b0 : (t113 == 0) = false := beq_eq_false_iff_ne.mpr c8
              have c8b1 : (t113 != 0) = true := bne_iff_ne.mpr c8
              obtain rfl := Option.some.inj H
              go_enter Try.func9, Try.ntmps9
              go_wp2_with (first | ((with_reducible refine gate_dst (N := 6) rfl ?_); (try (refine gate_guard (by rfl) ?_; dsimp only)); refine Kd.R_lit (Kd.int .u8) _ 5 ?hg (N := 6) ?hd (xs := ([5, 6] : List Int)) (inner := [.int .u8 5, .int .u8 6]) (ok := fun _ => True) (okp := fun _ => True) ?hr ?hp (fun _ hk => hk) trivial (Below.refl _ _) (Nat.le_refl _) (by simp) ?_; (case hd => rfl); (case hg => rfl); (case hr => first | (go_simp; done) | (go_simp; rfl)); (case hp => exact (Reps.one (show Kd.M (Kd.int .u8) _ _ _ 5 [.int .u8 5] from rfl) (Reps.one (show Kd.M (Kd.int .u8) _ _ _ 6 [.int .u8 6] from rfl) (Reps.none _ _)))); intro v104 w18 ho19 hb hg_ hnew_; clear hg_ hnew_; (first | rw [← Ny103.out] at ho19 | (simp only [Int.reduceToNat] at ho19; rw [← Ny103.out] at ho19)); have n0_ := Aside0.mk (Kd.R_lower ho19 (below_size (by repeat (first | (with_reducible first | exact HB.out | apply below_alloc | apply pw_below_drewN | apply below_drew1) | exact HB.out)))); have n1_ := Aside0.mk (below_step (by repeat (first | (with_reducible first | exact HB.out | apply below_alloc | apply pw_below_drewN | apply below_drew1) | exact HB.out)) hb); clear HB; have HO105 := n0_; have HB := n1_; clear n0_ n1_; clear hb ho19; obtain ⟨Ao20, co20, eo20⟩ := Kd.R_slice HO105.out; subst eo20) | ((with_reducible refine gate_callee (f := 15) rfl ?_); refine goesL_ (some 8) rfl rfl Try.func15 (by kernel_rfl) rfl #[.agg #[.int .i64 2, .int .i64 1, .slice Ao20 y103.length co20], .int .i64 2] rfl (by (try simp only [List.map_toArray, List.map_cons, List.map_nil]); first | done | rfl | (simp only [List.length_drop, List.length_take]; rfl)) ?_; (with_reducible refine (screen_Turn.calls 2 1 _ _ y103 2 t106 t107 t108 t111 _ ?side1 ?side2 A1.out).mono ?_); (case side1 => repeat (first | exact (Kd.R_reads' HO105.out).2.2 | (with_reducible refine Kd.C_alloc ?_ _) | (with_reducible refine Kd.C_drewN ?_ _) | (with_reducible refine Kd.C_drew ?_))); (case side2 => exact (Kd.R_reads' HO105.out).2.1); rintro e w21 ⟨v109, rfl, ho0, hb⟩; refine ⟨_, rfl, ?_⟩; have n0_ := Aside0.mk (Kd.R_elder' (by (with_reducible repeat (first | apply Kd.R_alloc | apply Kd.R_drewN | apply Kd.R_drew)); exact HO105.out) (Kd.R_base ho0) hb); have n1_ := Aside0.mk (Kd.R_lower (Kd.R_new' ho0 (Kd.R_lt (by (with_reducible repeat (first | apply Kd.R_alloc | apply Kd.R_drewN | apply Kd.R_drew)); exact HO105.out))) (below_size (by repeat (first | (with_reducible first | exact HB.out | apply below_alloc | apply pw_below_drewN | apply below_drew1) | exact HB.out)))); have n2_ := Aside0.mk (below_step (by repeat (first | (with_reducible first | exact HB.out | apply below_alloc | apply pw_below_drewN | apply below_drew1) | exact HB.out)) hb); clear HO105; clear HB; have HO105 := n0_; have HO110 := n1_; have HB := n2_; clear n0_ n1_ n2_; (try clear hb); (try clear hb2); (try clear hk); (try clear hi); (try clear ho0)) | ((with_reducible refine gate_dst (N := 1) rfl ?_); (try (refine gate_guard (by rfl) ?_; dsimp only)); refine box_event ?hg (N := 1) ?hd (cs := #[.int .i64 0, .int .i64 0, .slice none 0 0]) (t := 28) ?hr ?_; (case hd => rfl); (case hg => rfl); (case hr => first | (go_simp; done) | (go_simp; rfl)); intro gb112 hg w22 hbox hb; have n0_ := Aside0.mk (Kd.R_below (by (with_reducible repeat (first | apply Kd.R_alloc | apply Kd.R_drewN | apply Kd.R_drew)); exact HO105.out) hb); have n1_ := Aside0.mk (Kd.R_below (by (with_reducible repeat (first | apply Kd.R_alloc | apply Kd.R_drewN | apply Kd.R_drew)); exact HO110.out) hb); have n2_ := Aside0.mk (below_step (by repeat (first | (with_reducible first | exact HB.out | apply below_alloc | apply pw_below_drewN | apply below_drew1) | exact HB.out)) hb); have n3_ := Aside0.mk (hbox); have n4_ := Aside0.mk ((by rw [hg]; exact (below_size (by repeat (first | (with_reducible first | exact HB.out | apply below_alloc | apply pw_below_drewN | apply below_drew1) | exact HB.out))) : w.heap.size ≤ gb112)); have n5_ := Aside0.mk ((by rw [hg]; exact (below_size (by repeat (first | (with_reducible first | exact HB.out | apply below_alloc | apply pw_below_drewN | apply below_drew1) | exact HB.out))) : w.heap.size ≤ gb112)); clear HO105; clear HO110; clear HB; have HO105 := n0_; have HO110 := n1_; have HB := n2_; have BK112 := n3_; have GW112 := n4_; have GE112 := n5_; clear n0_ n1_ n2_ n3_ n4_ n5_; clear hb hbox hg; have hcz23_0 : w22.cell? ⟨gb112, 0, none⟩ = some (.int .i64 0) := (blk_cell BK112.out 0).trans rfl; have hcz23_1 : w22.cell? ⟨gb112, 1, none⟩ = some (.int .i64 0) := (blk_cell BK112.out 1).trans rfl; have hcz23_2 : w22.cell? ⟨gb112, 2, none⟩ = some (.slice none 0 0) := (blk_cell BK112.out 2).trans rfl; have hfz23_0 := blk_frozen BK112.out 0; have hfz23_1 := blk_frozen BK112.out 1; have hfz23_2 := blk_frozen BK112.out 2; obtain ⟨Ao24, co24, eo24⟩ := Kd.R_slice HO110.out; subst eo24) | ((with_reducible refine gate_callee (f := 10) rfl ?_); refine goesL_ (some 12) rfl rfl Try.func10 (by kernel_rfl) rfl #[.int .i64 2, .int .i64 1, .int .i64 1, .int .i64 1, .int .i64 0] rfl (by (try simp only [List.map_toArray, List.map_cons, List.map_nil]); first | done | rfl | (simp only [List.length_drop, List.length_take]; rfl)) ?_; (with_reducible refine (screen_Place.calls 2 1 1 1 0 t113 t114 _ A2.out).mono ?_); rintro e w25 ⟨rfl, hb⟩; refine ⟨_, rfl, ?_⟩; have n0_ := Aside0.mk (Kd.R_below (by (with_reducible repeat (first | apply Kd.R_alloc | apply Kd.R_drewN | apply Kd.R_drew)); exact (Kd.R_mono (Kd.R_far (p := ⟨gb112, 2, none⟩) (Kd.R_far (p := ⟨gb112, 1, none⟩) (Kd.R_far (p := ⟨gb112, 0, none⟩) (Kd.R_types HO105.out BK112.out (by decide)) (fun _ hk => hk.2) (.int .i64 t106)) (fun _ hk => hk.2) (.int .i64 t107)) (fun _ hk => hk.2) (.slice Ao24 t108.length co24)) (fun _ h_ => h_.1))) hb); have n1_ := Aside0.mk (Kd.R_below (by (with_reducible repeat (first | apply Kd.R_alloc | apply Kd.R_drewN | apply Kd.R_drew)); exact (Kd.R_mono (Kd.R_far (p := ⟨gb112, 2, none⟩) (Kd.R_far (p := ⟨gb112, 1, none⟩) (Kd.R_far (p := ⟨gb112, 0, none⟩) (Kd.R_types HO110.out BK112.out (by decide)) (fun _ hk => hk.2) (.int .i64 t106)) (fun _ hk => hk.2) (.int .i64 t107)) (fun _ hk => hk.2) (.slice Ao24 t108.length co24)) (fun _ h_ => h_.1))) hb); have n2_ := Aside0.mk (blk_below (g := gb112) (o := .cells #[.int .i64 t106, .int .i64 t107, .slice Ao24 t108.length co24] 28 (0, 0)) (by (with_reducible repeat (first | refine blk_drewN ?_ _ | refine blk_drew ?_ | refine blk_alloc ?_ _)); refine blk_put (cs := #[.int .i64 t106, .int .i64 t107, .slice none 0 0]) ?_ 2 _ rfl; (with_reducible repeat (first | refine blk_drewN ?_ _ | refine blk_drew ?_ | refine blk_alloc ?_ _)); refine blk_put (cs := #[.int .i64 t106, .int .i64 0, .slice none 0 0]) ?_ 1 _ rfl; (with_reducible repeat (first | refine blk_drewN ?_ _ | refine blk_drew ?_ | refine blk_alloc ?_ _)); refine blk_put (cs := #[.int .i64 0, .int .i64 0, .slice none 0 0]) ?_ 0 _ rfl; (with_reducible repeat (first | refine blk_drewN ?_ _ | refine blk_drew ?_ | refine blk_alloc ?_ _)); exact BK112.out) hb); have n3_ := Aside0.mk (below_step (by repeat (first | (with_reducible first | exact HB.out | apply below_alloc | apply pw_below_drewN | apply below_drew1 | refine below_set ?_ GE112.out) | exact HB.out)) hb); clear HO105; clear HO110; clear BK112; clear HB; have HO105 := n0_; have HO110 := n1_; have BK112 := n2_; have HB := n3_; clear n0_ n1_ n2_ n3_; (try clear hb); (try clear hb2); (try clear hk); (try clear hi); have hcz26_0 : w25.cell? ⟨gb112, 0, none⟩ = some (.int .i64 t106) := (blk_cell BK112.out 0).trans rfl; have hcz26_1 : w25.cell? ⟨gb112, 1, none⟩ = some (.int .i64 t107) := (blk_cell BK112.out 1).trans rfl; have hcz26_2 : w25.cell? ⟨gb112, 2, none⟩ = some (.slice Ao24 t108.length co24) := (blk_cell BK112.out 2).trans rfl; have hfz26_0 := blk_frozen BK112.out 0; have hfz26_1 := blk_frozen BK112.out 1; have hfz26_2 := blk_frozen BK112.out 2; have p115 : 0 ≤ (0 : Int) := (by omega); have q115 : 0 < (t108.length : Int) := of_decide_eq_true (by first | (with_reducible assumption) | assumption); obtain ⟨ad115, e115, hx115_0⟩ := Kd.at_int (Kd.R_reads' HO110.out).2.2 0 p115 q115; cases e115; have qi115 : (0 < t108.length) = True := eq_true (by omega); (try rw [show ((0 : Int)).toNat = 0 from rfl] at hx115_0); (try rw [Addr.add_zero'] at hx115_0); replace p115 := eq_true p115; replace q115 := eq_true q115))
              go_ret
              exact ⟨by first | rfl | (simp [errW_none, errW_some] <;> rfl) | (simp [*, errW_none, errW_some] <;> rfl), by repeat (first | (with_reducible first | exact HB.out | apply below_alloc | apply pw_below_drewN | apply below_drew1 | refine below_set ?_ GE112.out) | exact HB.out)⟩
          · rw [if_neg c7] at H
            have c7b0 : ((rd t108 0) == 6) = false := beq_eq_false_iff_ne.mpr c7
            have c7b1 : ((rd t108 0) != 6) = true := bne_iff_ne.mpr c7
            obtain rfl := Option.some.inj H
            go_enter Try.func9, Try.ntmps9
            go_wp2_with (first | ((with_reducible refine gate_dst (N := 6) rfl ?_); (try (refine gate_guard (by rfl) ?_; dsimp only)); refine Kd.R_lit (Kd.int .u8) _ 5 ?hg (N := 6) ?hd (xs := ([5, 6] : List Int)) (inner := [.int .u8 5, .int .u8 6]) (ok := fun _ => True) (okp := fun _ => True) ?hr ?hp (fun _ hk => hk) trivial (Below.refl _ _) (Nat.le_refl _) (by simp) ?_; (case hd => rfl); (case hg => rfl); (case hr => first | (go_simp; done) | (go_simp; rfl)); (case hp => exact (Reps.one (show Kd.M (Kd.int .u8) _ _ _ 5 [.int .u8 5] from rfl) (Reps.one (show Kd.M (Kd.int .u8) _ _ _ 6 [.int .u8 6] from rfl) (Reps.none _ _)))); intro v104 w27 ho28 hb hg_ hnew_; clear hg_ hnew_; (first | rw [← Ny103.out] at ho28 | (simp only [Int.reduceToNat] at ho28; rw [← Ny103.out] at ho28)); have n0_ := Aside0.mk (Kd.R_lower ho28 (below_size (by repeat (first | (with_reducible first | exact HB.out | apply below_alloc | apply pw_below_drewN | apply below_drew1) | exact HB.out)))); have n1_ := Aside0.mk (below_step (by repeat (first | (with_reducible first | exact HB.out | apply below_alloc | apply pw_below_drewN | apply below_drew1) | exact HB.out)) hb); clear HB; have HO105 := n0_; have HB := n1_; clear n0_ n1_; clear hb ho28; obtain ⟨Ao29, co29, eo29⟩ := Kd.R_slice HO105.out; subst eo29) | ((with_reducible refine gate_callee (f := 15) rfl ?_); refine goesL_ (some 8) rfl rfl Try.func15 (by kernel_rfl) rfl #[.agg #[.int .i64 2, .int .i64 1, .slice Ao29 y103.length co29], .int .i64 2] rfl (by (try simp only [List.map_toArray, List.map_cons, List.map_nil]); first | done | rfl | (simp only [List.length_drop, List.length_take]; rfl)) ?_; (with_reducible refine (screen_Turn.calls 2 1 _ _ y103 2 t106 t107 t108 t111 _ ?side1 ?side2 A1.out).mono ?_); (case side1 => repeat (first | exact (Kd.R_reads' HO105.out).2.2 | (with_reducible refine Kd.C_alloc ?_ _) | (with_reducible refine Kd.C_drewN ?_ _) | (with_reducible refine Kd.C_drew ?_))); (case side2 => exact (Kd.R_reads' HO105.out).2.1); rintro e w30 ⟨v109, rfl, ho0, hb⟩; refine ⟨_, rfl, ?_⟩; have n0_ := Aside0.mk (Kd.R_elder' (by (with_reducible repeat (first | apply Kd.R_alloc | apply Kd.R_drewN | apply Kd.R_drew)); exact HO105.out) (Kd.R_base ho0) hb); have n1_ := Aside0.mk (Kd.R_lower (Kd.R_new' ho0 (Kd.R_lt (by (with_reducible repeat (first | apply Kd.R_alloc | apply Kd.R_drewN | apply Kd.R_drew)); exact HO105.out))) (below_size (by repeat (first | (with_reducible first | exact HB.out | apply below_alloc | apply pw_below_drewN | apply below_drew1) | exact HB.out)))); have n2_ := Aside0.mk (below_step (by repeat (first | (with_reducible first | exact HB.out | apply below_alloc | apply pw_below_drewN | apply below_drew1) | exact HB.out)) hb); clear HO105; clear HB; have HO105 := n0_; have HO110 := n1_; have HB := n2_; clear n0_ n1_ n2_; (try clear hb); (try clear hb2); (try clear hk); (try clear hi); (try clear ho0)) | ((with_reducible refine gate_dst (N := 1) rfl ?_); (try (refine gate_guard (by rfl) ?_; dsimp only)); refine box_event ?hg (N := 1) ?hd (cs := #[.int .i64 0, .int .i64 0, .slice none 0 0]) (t := 28) ?hr ?_; (case hd => rfl); (case hg => rfl); (case hr => first | (go_simp; done) | (go_simp; rfl)); intro gb112 hg w31 hbox hb; have n0_ := Aside0.mk (Kd.R_below (by (with_reducible repeat (first | apply Kd.R_alloc | apply Kd.R_drewN | apply Kd.R_drew)); exact HO105.out) hb); have n1_ := Aside0.mk (Kd.R_below (by (with_reducible repeat (first | apply Kd.R_alloc | apply Kd.R_drewN | apply Kd.R_drew)); exact HO110.out) hb); have n2_ := Aside0.mk (below_step (by repeat (first | (with_reducible first | exact HB.out | apply below_alloc | apply pw_below_drewN | apply below_drew1) | exact HB.out)) hb); have n3_ := Aside0.mk (hbox); have n4_ := Aside0.mk ((by rw [hg]; exact (below_size (by repeat (first | (with_reducible first | exact HB.out | apply below_alloc | apply pw_below_drewN | apply below_drew1) | exact HB.out))) : w.heap.size ≤ gb112)); have n5_ := Aside0.mk ((by rw [hg]; exact (below_size (by repeat (first | (with_reducible first | exact HB.out | apply below_alloc | apply pw_below_drewN | apply below_drew1) | exact HB.out))) : w.heap.size ≤ gb112)); clear HO105; clear HO110; clear HB; have HO105 := n0_; have HO110 := n1_; have HB := n2_; have BK112 := n3_; have GW112 := n4_; have GE112 := n5_; clear n0_ n1_ n2_ n3_ n4_ n5_; clear hb hbox hg; have hcz32_0 : w31.cell? ⟨gb112, 0, none⟩ = some (.int .i64 0) := (blk_cell BK112.out 0).trans rfl; have hcz32_1 : w31.cell? ⟨gb112, 1, none⟩ = some (.int .i64 0) := (blk_cell BK112.out 1).trans rfl; have hcz32_2 : w31.cell? ⟨gb112, 2, none⟩ = some (.slice none 0 0) := (blk_cell BK112.out 2).trans rfl; have hfz32_0 := blk_frozen BK112.out 0; have hfz32_1 := blk_frozen BK112.out 1; have hfz32_2 := blk_frozen BK112.out 2; obtain ⟨Ao33, co33, eo33⟩ := Kd.R_slice HO110.out; subst eo33) | ((with_reducible refine gate_callee (f := 10) rfl ?_); refine goesL_ (some 12) rfl rfl Try.func10 (by kernel_rfl) rfl #[.int .i64 2, .int .i64 1, .int .i64 1, .int .i64 1, .int .i64 0] rfl (by (try simp only [List.map_toArray, List.map_cons, List.map_nil]); first | done | rfl | (simp only [List.length_drop, List.length_take]; rfl)) ?_; (with_reducible refine (screen_Place.calls 2 1 1 1 0 t113 t114 _ A2.out).mono ?_); rintro e w34 ⟨rfl, hb⟩; refine ⟨_, rfl, ?_⟩; have n0_ := Aside0.mk (Kd.R_below (by (with_reducible repeat (first | apply Kd.R_alloc | apply Kd.R_drewN | apply Kd.R_drew)); exact (Kd.R_mono (Kd.R_far (p := ⟨gb112, 2, none⟩) (Kd.R_far (p := ⟨gb112, 1, none⟩) (Kd.R_far (p := ⟨gb112, 0, none⟩) (Kd.R_types HO105.out BK112.out (by decide)) (fun _ hk => hk.2) (.int .i64 t106)) (fun _ hk => hk.2) (.int .i64 t107)) (fun _ hk => hk.2) (.slice Ao33 t108.length co33)) (fun _ h_ => h_.1))) hb); have n1_ := Aside0.mk (Kd.R_below (by (with_reducible repeat (first | apply Kd.R_alloc | apply Kd.R_drewN | apply Kd.R_drew)); exact (Kd.R_mono (Kd.R_far (p := ⟨gb112, 2, none⟩) (Kd.R_far (p := ⟨gb112, 1, none⟩) (Kd.R_far (p := ⟨gb112, 0, none⟩) (Kd.R_types HO110.out BK112.out (by decide)) (fun _ hk => hk.2) (.int .i64 t106)) (fun _ hk => hk.2) (.int .i64 t107)) (fun _ hk => hk.2) (.slice Ao33 t108.length co33)) (fun _ h_ => h_.1))) hb); have n2_ := Aside0.mk (blk_below (g := gb112) (o := .cells #[.int .i64 t106, .int .i64 t107, .slice Ao33 t108.length co33] 28 (0, 0)) (by (with_reducible repeat (first | refine blk_drewN ?_ _ | refine blk_drew ?_ | refine blk_alloc ?_ _)); refine blk_put (cs := #[.int .i64 t106, .int .i64 t107, .slice none 0 0]) ?_ 2 _ rfl; (with_reducible repeat (first | refine blk_drewN ?_ _ | refine blk_drew ?_ | refine blk_alloc ?_ _)); refine blk_put (cs := #[.int .i64 t106, .int .i64 0, .slice none 0 0]) ?_ 1 _ rfl; (with_reducible repeat (first | refine blk_drewN ?_ _ | refine blk_drew ?_ | refine blk_alloc ?_ _)); refine blk_put (cs := #[.int .i64 0, .int .i64 0, .slice none 0 0]) ?_ 0 _ rfl; (with_reducible repeat (first | refine blk_drewN ?_ _ | refine blk_drew ?_ | refine blk_alloc ?_ _)); exact BK112.out) hb); have n3_ := Aside0.mk (below_step (by repeat (first | (with_reducible first | exact HB.out | apply below_alloc | apply pw_below_drewN | apply below_drew1 | refine below_set ?_ GE112.out) | exact HB.out)) hb); clear HO105; clear HO110; clear BK112; clear HB; have HO105 := n0_; have HO110 := n1_; have BK112 := n2_; have HB := n3_; clear n0_ n1_ n2_ n3_; (try clear hb); (try clear hb2); (try clear hk); (try clear hi); have hcz35_0 : w34.cell? ⟨gb112, 0, none⟩ = some (.int .i64 t106) := (blk_cell BK112.out 0).trans rfl; have hcz35_1 : w34.cell? ⟨gb112, 1, none⟩ = some (.int .i64 t107) := (blk_cell BK112.out 1).trans rfl; have hcz35_2 : w34.cell? ⟨gb112, 2, none⟩ = some (.slice Ao33 t108.length co33) := (blk_cell BK112.out 2).trans rfl; have hfz35_0 := blk_frozen BK112.out 0; have hfz35_1 := blk_frozen BK112.out 1; have hfz35_2 := blk_frozen BK112.out 2; have p115 : 0 ≤ (0 : Int) := (by omega); have q115 : 0 < (t108.length : Int) := of_decide_eq_true (by first | (with_reducible assumption) | assumption); obtain ⟨ad115, e115, hx115_0⟩ := Kd.at_int (Kd.R_reads' HO110.out).2.2 0 p115 q115; cases e115; have qi115 : (0 < t108.length) = True := eq_true (by omega); (try rw [show ((0 : Int)).toNat = 0 from rfl] at hx115_0); (try rw [Addr.add_zero'] at hx115_0); replace p115 := eq_true p115; replace q115 := eq_true q115))
            go_ret
            exact ⟨by first | rfl | (simp [errW_none, errW_some] <;> rfl) | (simp [*, errW_none, errW_some] <;> rfl), by repeat (first | (with_reducible first | exact HB.out | apply below_alloc | apply pw_below_drewN | apply below_drew1 | refine below_set ?_ GE112.out) | exact HB.out)⟩
        · rw [if_neg c6] at H
          exact absurd H (by simp)
      · rw [if_neg c5] at H
        have c5b0 : ((t108.length : Int) == 2) = false := beq_eq_false_iff_ne.mpr c5
        have c5b1 : ((t108.length : Int) != 2) = true := bne_iff_ne.mpr c5
        obtain rfl := Option.some.inj H
        go_enter Try.func9, Try.ntmps9
        go_wp2_with (first | ((with_reducible refine gate_dst (N := 6) rfl ?_); (try (refine gate_guard (by rfl) ?_; dsimp only)); refine Kd.R_lit (Kd.int .u8) _ 5 ?hg (N := 6) ?hd (xs := ([5, 6] : List Int)) (inner := [.int .u8 5, .int .u8 6]) (ok := fun _ => True) (okp := fun _ => True) ?hr ?hp (fun _ hk => hk) trivial (Below.refl _ _) (Nat.le_refl _) (by simp) ?_; (case hd => rfl); (case hg => rfl); (case hr => first | (go_simp; done) | (go_simp; rfl)); (case hp => exact (Reps.one (show Kd.M (Kd.int .u8) _ _ _ 5 [.int .u8 5] from rfl) (Reps.one (show Kd.M (Kd.int .u8) _ _ _ 6 [.int .u8 6] from rfl) (Reps.none _ _)))); intro v104 w36 ho37 hb hg_ hnew_; clear hg_ hnew_; (first | rw [← Ny103.out] at ho37 | (simp only [Int.reduceToNat] at ho37; rw [← Ny103.out] at ho37)); have n0_ := Aside0.mk (Kd.R_lower ho37 (below_size (by repeat (first | (with_reducible first | exact HB.out | apply below_alloc | apply pw_below_drewN | apply below_drew1) | exact HB.out)))); have n1_ := Aside0.mk (below_step (by repeat (first | (with_reducible first | exact HB.out | apply below_alloc | apply pw_below_drewN | apply below_drew1) | exact HB.out)) hb); clear HB; have HO105 := n0_; have HB := n1_; clear n0_ n1_; clear hb ho37; obtain ⟨Ao38, co38, eo38⟩ := Kd.R_slice HO105.out; subst eo38) | ((with_reducible refine gate_callee (f := 15) rfl ?_); refine goesL_ (some 8) rfl rfl Try.func15 (by kernel_rfl) rfl #[.agg #[.int .i64 2, .int .i64 1, .slice Ao38 y103.length co38], .int .i64 2] rfl (by (try simp only [List.map_toArray, List.map_cons, List.map_nil]); first | done | rfl | (simp only [List.length_drop, List.length_take]; rfl)) ?_; (with_reducible refine (screen_Turn.calls 2 1 _ _ y103 2 t106 t107 t108 t111 _ ?side1 ?side2 A1.out).mono ?_); (case side1 => repeat (first | exact (Kd.R_reads' HO105.out).2.2 | (with_reducible refine Kd.C_alloc ?_ _) | (with_reducible refine Kd.C_drewN ?_ _) | (with_reducible refine Kd.C_drew ?_))); (case side2 => exact (Kd.R_reads' HO105.out).2.1); rintro e w39 ⟨v109, rfl, ho0, hb⟩; refine ⟨_, rfl, ?_⟩; have n0_ := Aside0.mk (Kd.R_elder' (by (with_reducible repeat (first | apply Kd.R_alloc | apply Kd.R_drewN | apply Kd.R_drew)); exact HO105.out) (Kd.R_base ho0) hb); have n1_ := Aside0.mk (Kd.R_lower (Kd.R_new' ho0 (Kd.R_lt (by (with_reducible repeat (first | apply Kd.R_alloc | apply Kd.R_drewN | apply Kd.R_drew)); exact HO105.out))) (below_size (by repeat (first | (with_reducible first | exact HB.out | apply below_alloc | apply pw_below_drewN | apply below_drew1) | exact HB.out)))); have n2_ := Aside0.mk (below_step (by repeat (first | (with_reducible first | exact HB.out | apply below_alloc | apply pw_below_drewN | apply below_drew1) | exact HB.out)) hb); clear HO105; clear HB; have HO105 := n0_; have HO110 := n1_; have HB := n2_; clear n0_ n1_ n2_; (try clear hb); (try clear hb2); (try clear hk); (try clear hi); (try clear ho0)) | ((with_reducible refine gate_dst (N := 1) rfl ?_); (try (refine gate_guard (by rfl) ?_; dsimp only)); refine box_event ?hg (N := 1) ?hd (cs := #[.int .i64 0, .int .i64 0, .slice none 0 0]) (t := 28) ?hr ?_; (case hd => rfl); (case hg => rfl); (case hr => first | (go_simp; done) | (go_simp; rfl)); intro gb112 hg w40 hbox hb; have n0_ := Aside0.mk (Kd.R_below (by (with_reducible repeat (first | apply Kd.R_alloc | apply Kd.R_drewN | apply Kd.R_drew)); exact HO105.out) hb); have n1_ := Aside0.mk (Kd.R_below (by (with_reducible repeat (first | apply Kd.R_alloc | apply Kd.R_drewN | apply Kd.R_drew)); exact HO110.out) hb); have n2_ := Aside0.mk (below_step (by repeat (first | (with_reducible first | exact HB.out | apply below_alloc | apply pw_below_drewN | apply below_drew1) | exact HB.out)) hb); have n3_ := Aside0.mk (hbox); have n4_ := Aside0.mk ((by rw [hg]; exact (below_size (by repeat (first | (with_reducible first | exact HB.out | apply below_alloc | apply pw_below_drewN | apply below_drew1) | exact HB.out))) : w.heap.size ≤ gb112)); have n5_ := Aside0.mk ((by rw [hg]; exact (below_size (by repeat (first | (with_reducible first | exact HB.out | apply below_alloc | apply pw_below_drewN | apply below_drew1) | exact HB.out))) : w.heap.size ≤ gb112)); clear HO105; clear HO110; clear HB; have HO105 := n0_; have HO110 := n1_; have HB := n2_; have BK112 := n3_; have GW112 := n4_; have GE112 := n5_; clear n0_ n1_ n2_ n3_ n4_ n5_; clear hb hbox hg; have hcz41_0 : w40.cell? ⟨gb112, 0, none⟩ = some (.int .i64 0) := (blk_cell BK112.out 0).trans rfl; have hcz41_1 : w40.cell? ⟨gb112, 1, none⟩ = some (.int .i64 0) := (blk_cell BK112.out 1).trans rfl; have hcz41_2 : w40.cell? ⟨gb112, 2, none⟩ = some (.slice none 0 0) := (blk_cell BK112.out 2).trans rfl; have hfz41_0 := blk_frozen BK112.out 0; have hfz41_1 := blk_frozen BK112.out 1; have hfz41_2 := blk_frozen BK112.out 2; obtain ⟨Ao42, co42, eo42⟩ := Kd.R_slice HO110.out; subst eo42) | ((with_reducible refine gate_callee (f := 10) rfl ?_); refine goesL_ (some 12) rfl rfl Try.func10 (by kernel_rfl) rfl #[.int .i64 2, .int .i64 1, .int .i64 1, .int .i64 1, .int .i64 0] rfl (by (try simp only [List.map_toArray, List.map_cons, List.map_nil]); first | done | rfl | (simp only [List.length_drop, List.length_take]; rfl)) ?_; (with_reducible refine (screen_Place.calls 2 1 1 1 0 t113 t114 _ A2.out).mono ?_); rintro e w43 ⟨rfl, hb⟩; refine ⟨_, rfl, ?_⟩; have n0_ := Aside0.mk (Kd.R_below (by (with_reducible repeat (first | apply Kd.R_alloc | apply Kd.R_drewN | apply Kd.R_drew)); exact (Kd.R_mono (Kd.R_far (p := ⟨gb112, 2, none⟩) (Kd.R_far (p := ⟨gb112, 1, none⟩) (Kd.R_far (p := ⟨gb112, 0, none⟩) (Kd.R_types HO105.out BK112.out (by decide)) (fun _ hk => hk.2) (.int .i64 t106)) (fun _ hk => hk.2) (.int .i64 t107)) (fun _ hk => hk.2) (.slice Ao42 t108.length co42)) (fun _ h_ => h_.1))) hb); have n1_ := Aside0.mk (Kd.R_below (by (with_reducible repeat (first | apply Kd.R_alloc | apply Kd.R_drewN | apply Kd.R_drew)); exact (Kd.R_mono (Kd.R_far (p := ⟨gb112, 2, none⟩) (Kd.R_far (p := ⟨gb112, 1, none⟩) (Kd.R_far (p := ⟨gb112, 0, none⟩) (Kd.R_types HO110.out BK112.out (by decide)) (fun _ hk => hk.2) (.int .i64 t106)) (fun _ hk => hk.2) (.int .i64 t107)) (fun _ hk => hk.2) (.slice Ao42 t108.length co42)) (fun _ h_ => h_.1))) hb); have n2_ := Aside0.mk (blk_below (g := gb112) (o := .cells #[.int .i64 t106, .int .i64 t107, .slice Ao42 t108.length co42] 28 (0, 0)) (by (with_reducible repeat (first | refine blk_drewN ?_ _ | refine blk_drew ?_ | refine blk_alloc ?_ _)); refine blk_put (cs := #[.int .i64 t106, .int .i64 t107, .slice none 0 0]) ?_ 2 _ rfl; (with_reducible repeat (first | refine blk_drewN ?_ _ | refine blk_drew ?_ | refine blk_alloc ?_ _)); refine blk_put (cs := #[.int .i64 t106, .int .i64 0, .slice none 0 0]) ?_ 1 _ rfl; (with_reducible repeat (first | refine blk_drewN ?_ _ | refine blk_drew ?_ | refine blk_alloc ?_ _)); refine blk_put (cs := #[.int .i64 0, .int .i64 0, .slice none 0 0]) ?_ 0 _ rfl; (with_reducible repeat (first | refine blk_drewN ?_ _ | refine blk_drew ?_ | refine blk_alloc ?_ _)); exact BK112.out) hb); have n3_ := Aside0.mk (below_step (by repeat (first | (with_reducible first | exact HB.out | apply below_alloc | apply pw_below_drewN | apply below_drew1 | refine below_set ?_ GE112.out) | exact HB.out)) hb); clear HO105; clear HO110; clear BK112; clear HB; have HO105 := n0_; have HO110 := n1_; have BK112 := n2_; have HB := n3_; clear n0_ n1_ n2_ n3_; (try clear hb); (try clear hb2); (try clear hk); (try clear hi); have hcz44_0 : w43.cell? ⟨gb112, 0, none⟩ = some (.int .i64 t106) := (blk_cell BK112.out 0).trans rfl; have hcz44_1 : w43.cell? ⟨gb112, 1, none⟩ = some (.int .i64 t107) := (blk_cell BK112.out 1).trans rfl; have hcz44_2 : w43.cell? ⟨gb112, 2, none⟩ = some (.slice Ao42 t108.length co42) := (blk_cell BK112.out 2).trans rfl; have hfz44_0 := blk_frozen BK112.out 0; have hfz44_1 := blk_frozen BK112.out 1; have hfz44_2 := blk_frozen BK112.out 2))
        go_ret
        exact ⟨by first | rfl | (simp [errW_none, errW_some] <;> rfl) | (simp [*, errW_none, errW_some] <;> rfl), by repeat (first | (with_reducible first | exact HB.out | apply below_alloc | apply pw_below_drewN | apply below_drew1 | refine below_set ?_ GE112.out) | exact HB.out)⟩
    · rw [if_neg c4] at H
      have c4b0 : (t106 == 2) = false := beq_eq_false_iff_ne.mpr c4
      have c4b1 : (t106 != 2) = true := bne_iff_ne.mpr c4
      obtain rfl := Option.some.inj H
      go_enter Try.func9, Try.ntmps9
      go_wp2_with (first | ((with_reducible refine gate_dst (N := 6) rfl ?_); (try (refine gate_guard (by rfl) ?_; dsimp only)); refine Kd.R_lit (Kd.int .u8) _ 5 ?hg (N := 6) ?hd (xs := ([5, 6] : List Int)) (inner := [.int .u8 5, .int .u8 6]) (ok := fun _ => True) (okp := fun _ => True) ?hr ?hp (fun _ hk => hk) trivial (Below.refl _ _) (Nat.le_refl _) (by simp) ?_; (case hd => rfl); (case hg => rfl); (case hr => first | (go_simp; done) | (go_simp; rfl)); (case hp => exact (Reps.one (show Kd.M (Kd.int .u8) _ _ _ 5 [.int .u8 5] from rfl) (Reps.one (show Kd.M (Kd.int .u8) _ _ _ 6 [.int .u8 6] from rfl) (Reps.none _ _)))); intro v104 w45 ho46 hb hg_ hnew_; clear hg_ hnew_; (first | rw [← Ny103.out] at ho46 | (simp only [Int.reduceToNat] at ho46; rw [← Ny103.out] at ho46)); have n0_ := Aside0.mk (Kd.R_lower ho46 (below_size (by repeat (first | (with_reducible first | exact HB.out | apply below_alloc | apply pw_below_drewN | apply below_drew1) | exact HB.out)))); have n1_ := Aside0.mk (below_step (by repeat (first | (with_reducible first | exact HB.out | apply below_alloc | apply pw_below_drewN | apply below_drew1) | exact HB.out)) hb); clear HB; have HO105 := n0_; have HB := n1_; clear n0_ n1_; clear hb ho46; obtain ⟨Ao47, co47, eo47⟩ := Kd.R_slice HO105.out; subst eo47) | ((with_reducible refine gate_callee (f := 15) rfl ?_); refine goesL_ (some 8) rfl rfl Try.func15 (by kernel_rfl) rfl #[.agg #[.int .i64 2, .int .i64 1, .slice Ao47 y103.length co47], .int .i64 2] rfl (by (try simp only [List.map_toArray, List.map_cons, List.map_nil]); first | done | rfl | (simp only [List.length_drop, List.length_take]; rfl)) ?_; (with_reducible refine (screen_Turn.calls 2 1 _ _ y103 2 t106 t107 t108 t111 _ ?side1 ?side2 A1.out).mono ?_); (case side1 => repeat (first | exact (Kd.R_reads' HO105.out).2.2 | (with_reducible refine Kd.C_alloc ?_ _) | (with_reducible refine Kd.C_drewN ?_ _) | (with_reducible refine Kd.C_drew ?_))); (case side2 => exact (Kd.R_reads' HO105.out).2.1); rintro e w48 ⟨v109, rfl, ho0, hb⟩; refine ⟨_, rfl, ?_⟩; have n0_ := Aside0.mk (Kd.R_elder' (by (with_reducible repeat (first | apply Kd.R_alloc | apply Kd.R_drewN | apply Kd.R_drew)); exact HO105.out) (Kd.R_base ho0) hb); have n1_ := Aside0.mk (Kd.R_lower (Kd.R_new' ho0 (Kd.R_lt (by (with_reducible repeat (first | apply Kd.R_alloc | apply Kd.R_drewN | apply Kd.R_drew)); exact HO105.out))) (below_size (by repeat (first | (with_reducible first | exact HB.out | apply below_alloc | apply pw_below_drewN | apply below_drew1) | exact HB.out)))); have n2_ := Aside0.mk (below_step (by repeat (first | (with_reducible first | exact HB.out | apply below_alloc | apply pw_below_drewN | apply below_drew1) | exact HB.out)) hb); clear HO105; clear HB; have HO105 := n0_; have HO110 := n1_; have HB := n2_; clear n0_ n1_ n2_; (try clear hb); (try clear hb2); (try clear hk); (try clear hi); (try clear ho0)) | ((with_reducible refine gate_dst (N := 1) rfl ?_); (try (refine gate_guard (by rfl) ?_; dsimp only)); refine box_event ?hg (N := 1) ?hd (cs := #[.int .i64 0, .int .i64 0, .slice none 0 0]) (t := 28) ?hr ?_; (case hd => rfl); (case hg => rfl); (case hr => first | (go_simp; done) | (go_simp; rfl)); intro gb112 hg w49 hbox hb; have n0_ := Aside0.mk (Kd.R_below (by (with_reducible repeat (first | apply Kd.R_alloc | apply Kd.R_drewN | apply Kd.R_drew)); exact HO105.out) hb); have n1_ := Aside0.mk (Kd.R_below (by (with_reducible repeat (first | apply Kd.R_alloc | apply Kd.R_drewN | apply Kd.R_drew)); exact HO110.out) hb); have n2_ := Aside0.mk (below_step (by repeat (first | (with_reducible first | exact HB.out | apply below_alloc | apply pw_below_drewN | apply below_drew1) | exact HB.out)) hb); have n3_ := Aside0.mk (hbox); have n4_ := Aside0.mk ((by rw [hg]; exact (below_size (by repeat (first | (with_reducible first | exact HB.out | apply below_alloc | apply pw_below_drewN | apply below_drew1) | exact HB.out))) : w.heap.size ≤ gb112)); have n5_ := Aside0.mk ((by rw [hg]; exact (below_size (by repeat (first | (with_reducible first | exact HB.out | apply below_alloc | apply pw_below_drewN | apply below_drew1) | exact HB.out))) : w.heap.size ≤ gb112)); clear HO105; clear HO110; clear HB; have HO105 := n0_; have HO110 := n1_; have HB := n2_; have BK112 := n3_; have GW112 := n4_; have GE112 := n5_; clear n0_ n1_ n2_ n3_ n4_ n5_; clear hb hbox hg; have hcz50_0 : w49.cell? ⟨gb112, 0, none⟩ = some (.int .i64 0) := (blk_cell BK112.out 0).trans rfl; have hcz50_1 : w49.cell? ⟨gb112, 1, none⟩ = some (.int .i64 0) := (blk_cell BK112.out 1).trans rfl; have hcz50_2 : w49.cell? ⟨gb112, 2, none⟩ = some (.slice none 0 0) := (blk_cell BK112.out 2).trans rfl; have hfz50_0 := blk_frozen BK112.out 0; have hfz50_1 := blk_frozen BK112.out 1; have hfz50_2 := blk_frozen BK112.out 2; obtain ⟨Ao51, co51, eo51⟩ := Kd.R_slice HO110.out; subst eo51) | ((with_reducible refine gate_callee (f := 10) rfl ?_); refine goesL_ (some 12) rfl rfl Try.func10 (by kernel_rfl) rfl #[.int .i64 2, .int .i64 1, .int .i64 1, .int .i64 1, .int .i64 0] rfl (by (try simp only [List.map_toArray, List.map_cons, List.map_nil]); first | done | rfl | (simp only [List.length_drop, List.length_take]; rfl)) ?_; (with_reducible refine (screen_Place.calls 2 1 1 1 0 t113 t114 _ A2.out).mono ?_); rintro e w52 ⟨rfl, hb⟩; refine ⟨_, rfl, ?_⟩; have n0_ := Aside0.mk (Kd.R_below (by (with_reducible repeat (first | apply Kd.R_alloc | apply Kd.R_drewN | apply Kd.R_drew)); exact (Kd.R_mono (Kd.R_far (p := ⟨gb112, 2, none⟩) (Kd.R_far (p := ⟨gb112, 1, none⟩) (Kd.R_far (p := ⟨gb112, 0, none⟩) (Kd.R_types HO105.out BK112.out (by decide)) (fun _ hk => hk.2) (.int .i64 t106)) (fun _ hk => hk.2) (.int .i64 t107)) (fun _ hk => hk.2) (.slice Ao51 t108.length co51)) (fun _ h_ => h_.1))) hb); have n1_ := Aside0.mk (Kd.R_below (by (with_reducible repeat (first | apply Kd.R_alloc | apply Kd.R_drewN | apply Kd.R_drew)); exact (Kd.R_mono (Kd.R_far (p := ⟨gb112, 2, none⟩) (Kd.R_far (p := ⟨gb112, 1, none⟩) (Kd.R_far (p := ⟨gb112, 0, none⟩) (Kd.R_types HO110.out BK112.out (by decide)) (fun _ hk => hk.2) (.int .i64 t106)) (fun _ hk => hk.2) (.int .i64 t107)) (fun _ hk => hk.2) (.slice Ao51 t108.length co51)) (fun _ h_ => h_.1))) hb); have n2_ := Aside0.mk (blk_below (g := gb112) (o := .cells #[.int .i64 t106, .int .i64 t107, .slice Ao51 t108.length co51] 28 (0, 0)) (by (with_reducible repeat (first | refine blk_drewN ?_ _ | refine blk_drew ?_ | refine blk_alloc ?_ _)); refine blk_put (cs := #[.int .i64 t106, .int .i64 t107, .slice none 0 0]) ?_ 2 _ rfl; (with_reducible repeat (first | refine blk_drewN ?_ _ | refine blk_drew ?_ | refine blk_alloc ?_ _)); refine blk_put (cs := #[.int .i64 t106, .int .i64 0, .slice none 0 0]) ?_ 1 _ rfl; (with_reducible repeat (first | refine blk_drewN ?_ _ | refine blk_drew ?_ | refine blk_alloc ?_ _)); refine blk_put (cs := #[.int .i64 0, .int .i64 0, .slice none 0 0]) ?_ 0 _ rfl; (with_reducible repeat (first | refine blk_drewN ?_ _ | refine blk_drew ?_ | refine blk_alloc ?_ _)); exact BK112.out) hb); have n3_ := Aside0.mk (below_step (by repeat (first | (with_reducible first | exact HB.out | apply below_alloc | apply pw_below_drewN | apply below_drew1 | refine below_set ?_ GE112.out) | exact HB.out)) hb); clear HO105; clear HO110; clear BK112; clear HB; have HO105 := n0_; have HO110 := n1_; have BK112 := n2_; have HB := n3_; clear n0_ n1_ n2_ n3_; (try clear hb); (try clear hb2); (try clear hk); (try clear hi); have hcz53_0 : w52.cell? ⟨gb112, 0, none⟩ = some (.int .i64 t106) := (blk_cell BK112.out 0).trans rfl; have hcz53_1 : w52.cell? ⟨gb112, 1, none⟩ = some (.int .i64 t107) := (blk_cell BK112.out 1).trans rfl; have hcz53_2 : w52.cell? ⟨gb112, 2, none⟩ = some (.slice Ao51 t108.length co51) := (blk_cell BK112.out 2).trans rfl; have hfz53_0 := blk_frozen BK112.out 0; have hfz53_1 := blk_frozen BK112.out 1; have hfz53_2 := blk_frozen BK112.out 2))
      go_ret
      exact ⟨by first | rfl | (simp [errW_none, errW_some] <;> rfl) | (simp [*, errW_none, errW_some] <;> rfl), by repeat (first | (with_reducible first | exact HB.out | apply below_alloc | apply pw_below_drewN | apply below_drew1 | refine below_set ?_ GE112.out) | exact HB.out)⟩
  · rw [if_neg c3] at H
    have c3b0 : (t111 == 0) = false := beq_eq_false_iff_ne.mpr c3
    have c3b1 : (t111 != 0) = true := bne_iff_ne.mpr c3
    obtain rfl := Option.some.inj H
    go_enter Try.func9, Try.ntmps9
    go_wp2_with (first | ((with_reducible refine gate_dst (N := 6) rfl ?_); (try (refine gate_guard (by rfl) ?_; dsimp only)); refine Kd.R_lit (Kd.int .u8) _ 5 ?hg (N := 6) ?hd (xs := ([5, 6] : List Int)) (inner := [.int .u8 5, .int .u8 6]) (ok := fun _ => True) (okp := fun _ => True) ?hr ?hp (fun _ hk => hk) trivial (Below.refl _ _) (Nat.le_refl _) (by simp) ?_; (case hd => rfl); (case hg => rfl); (case hr => first | (go_simp; done) | (go_simp; rfl)); (case hp => exact (Reps.one (show Kd.M (Kd.int .u8) _ _ _ 5 [.int .u8 5] from rfl) (Reps.one (show Kd.M (Kd.int .u8) _ _ _ 6 [.int .u8 6] from rfl) (Reps.none _ _)))); intro v104 w54 ho55 hb hg_ hnew_; clear hg_ hnew_; (first | rw [← Ny103.out] at ho55 | (simp only [Int.reduceToNat] at ho55; rw [← Ny103.out] at ho55)); have n0_ := Aside0.mk (Kd.R_lower ho55 (below_size (by repeat (first | (with_reducible first | exact HB.out | apply below_alloc | apply pw_below_drewN | apply below_drew1) | exact HB.out)))); have n1_ := Aside0.mk (below_step (by repeat (first | (with_reducible first | exact HB.out | apply below_alloc | apply pw_below_drewN | apply below_drew1) | exact HB.out)) hb); clear HB; have HO105 := n0_; have HB := n1_; clear n0_ n1_; clear hb ho55; obtain ⟨Ao56, co56, eo56⟩ := Kd.R_slice HO105.out; subst eo56) | ((with_reducible refine gate_callee (f := 15) rfl ?_); refine goesL_ (some 8) rfl rfl Try.func15 (by kernel_rfl) rfl #[.agg #[.int .i64 2, .int .i64 1, .slice Ao56 y103.length co56], .int .i64 2] rfl (by (try simp only [List.map_toArray, List.map_cons, List.map_nil]); first | done | rfl | (simp only [List.length_drop, List.length_take]; rfl)) ?_; (with_reducible refine (screen_Turn.calls 2 1 _ _ y103 2 t106 t107 t108 t111 _ ?side1 ?side2 A1.out).mono ?_); (case side1 => repeat (first | exact (Kd.R_reads' HO105.out).2.2 | (with_reducible refine Kd.C_alloc ?_ _) | (with_reducible refine Kd.C_drewN ?_ _) | (with_reducible refine Kd.C_drew ?_))); (case side2 => exact (Kd.R_reads' HO105.out).2.1); rintro e w57 ⟨v109, rfl, ho0, hb⟩; refine ⟨_, rfl, ?_⟩; have n0_ := Aside0.mk (Kd.R_elder' (by (with_reducible repeat (first | apply Kd.R_alloc | apply Kd.R_drewN | apply Kd.R_drew)); exact HO105.out) (Kd.R_base ho0) hb); have n1_ := Aside0.mk (Kd.R_lower (Kd.R_new' ho0 (Kd.R_lt (by (with_reducible repeat (first | apply Kd.R_alloc | apply Kd.R_drewN | apply Kd.R_drew)); exact HO105.out))) (below_size (by repeat (first | (with_reducible first | exact HB.out | apply below_alloc | apply pw_below_drewN | apply below_drew1) | exact HB.out)))); have n2_ := Aside0.mk (below_step (by repeat (first | (with_reducible first | exact HB.out | apply below_alloc | apply pw_below_drewN | apply below_drew1) | exact HB.out)) hb); clear HO105; clear HB; have HO105 := n0_; have HO110 := n1_; have HB := n2_; clear n0_ n1_ n2_; (try clear hb); (try clear hb2); (try clear hk); (try clear hi); (try clear ho0)) | ((with_reducible refine gate_dst (N := 1) rfl ?_); (try (refine gate_guard (by rfl) ?_; dsimp only)); refine box_event ?hg (N := 1) ?hd (cs := #[.int .i64 0, .int .i64 0, .slice none 0 0]) (t := 28) ?hr ?_; (case hd => rfl); (case hg => rfl); (case hr => first | (go_simp; done) | (go_simp; rfl)); intro gb112 hg w58 hbox hb; have n0_ := Aside0.mk (Kd.R_below (by (with_reducible repeat (first | apply Kd.R_alloc | apply Kd.R_drewN | apply Kd.R_drew)); exact HO105.out) hb); have n1_ := Aside0.mk (Kd.R_below (by (with_reducible repeat (first | apply Kd.R_alloc | apply Kd.R_drewN | apply Kd.R_drew)); exact HO110.out) hb); have n2_ := Aside0.mk (below_step (by repeat (first | (with_reducible first | exact HB.out | apply below_alloc | apply pw_below_drewN | apply below_drew1) | exact HB.out)) hb); have n3_ := Aside0.mk (hbox); have n4_ := Aside0.mk ((by rw [hg]; exact (below_size (by repeat (first | (with_reducible first | exact HB.out | apply below_alloc | apply pw_below_drewN | apply below_drew1) | exact HB.out))) : w.heap.size ≤ gb112)); have n5_ := Aside0.mk ((by rw [hg]; exact (below_size (by repeat (first | (with_reducible first | exact HB.out | apply below_alloc | apply pw_below_drewN | apply below_drew1) | exact HB.out))) : w.heap.size ≤ gb112)); clear HO105; clear HO110; clear HB; have HO105 := n0_; have HO110 := n1_; have HB := n2_; have BK112 := n3_; have GW112 := n4_; have GE112 := n5_; clear n0_ n1_ n2_ n3_ n4_ n5_; clear hb hbox hg; have hcz59_0 : w58.cell? ⟨gb112, 0, none⟩ = some (.int .i64 0) := (blk_cell BK112.out 0).trans rfl; have hcz59_1 : w58.cell? ⟨gb112, 1, none⟩ = some (.int .i64 0) := (blk_cell BK112.out 1).trans rfl; have hcz59_2 : w58.cell? ⟨gb112, 2, none⟩ = some (.slice none 0 0) := (blk_cell BK112.out 2).trans rfl; have hfz59_0 := blk_frozen BK112.out 0; have hfz59_1 := blk_frozen BK112.out 1; have hfz59_2 := blk_frozen BK112.out 2; obtain ⟨Ao60, co60, eo60⟩ := Kd.R_slice HO110.out; subst eo60) | ((with_reducible refine gate_callee (f := 10) rfl ?_); refine goesL_ (some 12) rfl rfl Try.func10 (by kernel_rfl) rfl #[.int .i64 2, .int .i64 1, .int .i64 1, .int .i64 1, .int .i64 0] rfl (by (try simp only [List.map_toArray, List.map_cons, List.map_nil]); first | done | rfl | (simp only [List.length_drop, List.length_take]; rfl)) ?_; (with_reducible refine (screen_Place.calls 2 1 1 1 0 t113 t114 _ A2.out).mono ?_); rintro e w61 ⟨rfl, hb⟩; refine ⟨_, rfl, ?_⟩; have n0_ := Aside0.mk (Kd.R_below (by (with_reducible repeat (first | apply Kd.R_alloc | apply Kd.R_drewN | apply Kd.R_drew)); exact (Kd.R_mono (Kd.R_far (p := ⟨gb112, 2, none⟩) (Kd.R_far (p := ⟨gb112, 1, none⟩) (Kd.R_far (p := ⟨gb112, 0, none⟩) (Kd.R_types HO105.out BK112.out (by decide)) (fun _ hk => hk.2) (.int .i64 t106)) (fun _ hk => hk.2) (.int .i64 t107)) (fun _ hk => hk.2) (.slice Ao60 t108.length co60)) (fun _ h_ => h_.1))) hb); have n1_ := Aside0.mk (Kd.R_below (by (with_reducible repeat (first | apply Kd.R_alloc | apply Kd.R_drewN | apply Kd.R_drew)); exact (Kd.R_mono (Kd.R_far (p := ⟨gb112, 2, none⟩) (Kd.R_far (p := ⟨gb112, 1, none⟩) (Kd.R_far (p := ⟨gb112, 0, none⟩) (Kd.R_types HO110.out BK112.out (by decide)) (fun _ hk => hk.2) (.int .i64 t106)) (fun _ hk => hk.2) (.int .i64 t107)) (fun _ hk => hk.2) (.slice Ao60 t108.length co60)) (fun _ h_ => h_.1))) hb); have n2_ := Aside0.mk (blk_below (g := gb112) (o := .cells #[.int .i64 t106, .int .i64 t107, .slice Ao60 t108.length co60] 28 (0, 0)) (by (with_reducible repeat (first | refine blk_drewN ?_ _ | refine blk_drew ?_ | refine blk_alloc ?_ _)); refine blk_put (cs := #[.int .i64 t106, .int .i64 t107, .slice none 0 0]) ?_ 2 _ rfl; (with_reducible repeat (first | refine blk_drewN ?_ _ | refine blk_drew ?_ | refine blk_alloc ?_ _)); refine blk_put (cs := #[.int .i64 t106, .int .i64 0, .slice none 0 0]) ?_ 1 _ rfl; (with_reducible repeat (first | refine blk_drewN ?_ _ | refine blk_drew ?_ | refine blk_alloc ?_ _)); refine blk_put (cs := #[.int .i64 0, .int .i64 0, .slice none 0 0]) ?_ 0 _ rfl; (with_reducible repeat (first | refine blk_drewN ?_ _ | refine blk_drew ?_ | refine blk_alloc ?_ _)); exact BK112.out) hb); have n3_ := Aside0.mk (below_step (by repeat (first | (with_reducible first | exact HB.out | apply below_alloc | apply pw_below_drewN | apply below_drew1 | refine below_set ?_ GE112.out) | exact HB.out)) hb); clear HO105; clear HO110; clear BK112; clear HB; have HO105 := n0_; have HO110 := n1_; have BK112 := n2_; have HB := n3_; clear n0_ n1_ n2_ n3_; (try clear hb); (try clear hb2); (try clear hk); (try clear hi)))
    go_ret
    exact ⟨by first | rfl | (simp [errW_none, errW_some] <;> rfl) | (simp [*, errW_none, errW_some] <;> rfl), by repeat (first | (with_reducible first | exact HB.out | apply below_alloc | apply pw_below_drewN | apply below_drew1 | refine below_set ?_ GE112.out) | exact HB.out)⟩

end Go.Proofs.Ytngfijkageapgaa.P
