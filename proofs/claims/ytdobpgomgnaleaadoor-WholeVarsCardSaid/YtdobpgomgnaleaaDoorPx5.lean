/- The machine's side: functions of the translation as plain Lean functions, and that the machine's calls come to what they say. No condition. Written by a program (wip/tools/pp.py over the kit's printer); Lean checks it. -/
import Derived.Test.YtdobpgomgnaleaaDoorPx0
import Derived.Test.YtdobpgomgnaleaaDoorPx4
namespace Go.Proofs.YtdobpgomgnaleaaDoor.P
open Go.RowKit Go.Proofs.YtdobpgomgnaleaaDoorW.PrintWords Go.Proofs.YtdobpgomgnaleaaDoorW.PrintLast Go.Proofs.YtdobpgomgnaleaaDoorW.PrintMore
attribute [local go_sem] max2_int min2_int max_two min_two max_three min_three max_four min_four   -- for this text's walks alone
set_option linter.unusedVariables false
set_option linter.unusedSimpArgs false

/-! ### digit_Parse: function 42 -/
def digit_Parse.l0 : Nat → Int → ByteArray → Bool → Int → Int → Int → Int → Option (Int × Int)
  | 0, _, _, _, _, _, _, _ => none
  | k + 1, x1, x6, x7, x8, x9, x24, x25 => if x25 < x24 then (if 0 ≤ x25 then (if x25 < (x6.size : Int) then ((digit_Value.f k (bt x6 x25) x1).bind fun bt125 => (if bt125.2 = true then (if (IntKind.u64.wrap ((IntKind.u64.wrap (x8 * (IntKind.u64.wrap (x1)))) + (IntKind.u64.wrap (bt125.1)))) > 4294967295 then (digit_Parse.l0 k x1 x6 x7 4294967296 4 x24 (wrap64 (x25 + 1))) else (digit_Parse.l0 k x1 x6 x7 (IntKind.u64.wrap ((IntKind.u64.wrap (x8 * (IntKind.u64.wrap (x1)))) + (IntKind.u64.wrap (bt125.1)))) x9 x24 (wrap64 (x25 + 1)))) else (some (0, 15)))) else (none)) else (none)) else (if x9 = 0 then (if x7 = true then (some ((IntKind.u64.wrap (-x8)) % 4294967296, 0)) else (some ((x8) % 4294967296, 0))) else (some (0, x9)))
def digit_Parse.f (k : Nat) (a0 : ByteArray) (a1 : Int) : Option (Int × Int) := (digit_fit.f a1).bind fun t122 => (if t122 = true then ((strings_CutPrefix.f a0 (⟨#[45]⟩ : ByteArray)).bind fun bt123 => (if bt123.1.toList = ([] : List UInt8) then (some (0, 15)) else (digit_Parse.l0 k a1 bt123.1 bt123.2 0 0 (bt123.1.size : Int) 0))) else (some (0, 1)))
theorem digit_Parse.mono_l : ∀ k, (∀ y0 y1 y2 y3 y4 y5 y6, LeO (digit_Parse.l0 k y0 y1 y2 y3 y4 y5 y6) (digit_Parse.l0 (k + 1) y0 y1 y2 y3 y4 y5 y6))
  | 0 => fun _ _ _ _ _ _ _ r h => by simp [digit_Parse.l0] at h
  | k + 1 => by
    have ih0 := digit_Parse.mono_l k
    · intro y0 y1 y2 y3 y4 y5 y6
      unfold digit_Parse.l0
      repeat' first
      | (with_reducible exact ih0 _ _ _ _ _ _ _)
      | (with_reducible exact digit_Value.mono _ _ _)
      | (with_reducible exact LeO.refl _)
      | (with_reducible exact LeO.none _)
      | (with_reducible refine LeO.ite ?_ ?_)
      | (with_reducible refine LeO.bind ?_ (fun _ => ?_))
      | exact ih0 _ _ _ _ _ _ _
      | exact digit_Value.mono _ _ _
      | exact LeO.none _
      | refine LeO.ite ?_ ?_
      | refine LeO.bind ?_ (fun _ => ?_)
theorem digit_Parse.mono : ∀ a0 a1 k, LeO (digit_Parse.f k a0 a1) (digit_Parse.f (k + 1) a0 a1) := by
  intro a0 a1 k
  have ih0 := digit_Parse.mono_l k
  unfold digit_Parse.f
  repeat' first
      | (with_reducible exact ih0 _ _ _ _ _ _ _)
      | (with_reducible exact digit_Value.mono _ _ _)
      | (with_reducible exact LeO.refl _)
      | (with_reducible exact LeO.none _)
      | (with_reducible refine LeO.ite ?_ ?_)
      | (with_reducible refine LeO.bind ?_ (fun _ => ?_))
      | exact ih0 _ _ _ _ _ _ _
      | exact digit_Value.mono _ _ _
      | exact LeO.none _
      | refine LeO.ite ?_ ?_
      | refine LeO.bind ?_ (fun _ => ?_)
set_option maxHeartbeats 8000000 in
set_option maxRecDepth 100000 in
theorem digit_Parse.calls (k : Nat) (a0 : ByteArray) (a1 : Int) (r1 : Int) (r2 : Int) (w : World) (h : digit_Parse.f k a0 a1 = some (r1, r2)) :
    Calls Tryd.prog 42 #[.string a0, .int .u32 a1] w fun e w' => e = .returned (.tuple #[.int .u32 r1, .int .i64 r2]) ∧ Drawn0 w w' := by
  have H : ((digit_fit.f a1).bind fun t122 => (if t122 = true then ((strings_CutPrefix.f a0 (⟨#[45]⟩ : ByteArray)).bind fun bt123 => (if bt123.1.toList = ([] : List UInt8) then (some (0, 15)) else (digit_Parse.l0 k a1 bt123.1 bt123.2 0 0 (bt123.1.size : Int) 0))) else (some (0, 1)))) = some (r1, r2) := h
  clear h
  replace H := Option.bind_eq_some_iff.mp H
  obtain ⟨t122, A30, H⟩ := H
  replace H : (if t122 = true then ((strings_CutPrefix.f a0 (⟨#[45]⟩ : ByteArray)).bind fun bt123 => (if bt123.1.toList = ([] : List UInt8) then (some (0, 15)) else (digit_Parse.l0 k a1 bt123.1 bt123.2 0 0 (bt123.1.size : Int) 0))) else (some (0, 1))) = some (r1, r2) := H
  have A3 := Aside0.mk A30
  clear A30
  by_cases c4 : t122 = true
  · subst c4
    have H1 : ((strings_CutPrefix.f a0 (⟨#[45]⟩ : ByteArray)).bind fun bt123 => (if bt123.1.toList = ([] : List UInt8) then (some (0, 15)) else (digit_Parse.l0 k a1 bt123.1 bt123.2 0 0 (bt123.1.size : Int) 0))) = some (r1, r2) := by rw [if_pos rfl] at H; exact H
    clear H
    have H := H1
    clear H1
    replace H := Option.bind_eq_some_iff.mp H
    obtain ⟨⟨t123, t124⟩, A50, H⟩ := H
    replace H : (if t123.toList = ([] : List UInt8) then (some (0, 15)) else (digit_Parse.l0 k a1 t123 t124 0 0 (t123.size : Int) 0)) = some (r1, r2) := H
    have A5 := Aside0.mk A50
    clear A50
    by_cases c6 : t123.toList = ([] : List UInt8)
    · rw [if_pos c6] at H
      have c6b0 : (t123.toList == ([] : List UInt8)) = true := beq_iff_eq.mpr c6
      have c6b1 : (t123.toList != ([] : List UInt8)) = false := bne_eq_false_iff_eq.mpr c6
      clear c6
      simp only [Option.some.injEq, Prod.mk.injEq] at H
      obtain ⟨rfl, rfl⟩ := H
      go_enter Tryd.func42, Tryd.ntmps42
      go_wp2_with (first | ((with_reducible refine gate_callee (f := 47) rfl ?_); refine goesL_ (some 14) rfl rfl Tryd.func47 (by kernel_rfl) rfl #[.int .u32 a1] rfl (by (try simp only [List.map_toArray, List.map_cons, List.map_nil]); first | done | rfl | (simp only [List.length_drop, List.length_take]; rfl)) ?_; (with_reducible refine (digit_fit.calls a1 true _ A3.out).mono ?_); rintro e w' ⟨rfl, ⟨nd, rfl⟩⟩; refine ⟨_, rfl, ?_⟩) | ((with_reducible refine gate_callee (f := 48) rfl ?_); refine goesL_ (some 18) rfl rfl Tryd.func48 (by kernel_rfl) rfl #[.string a0, .string (⟨#[45]⟩ : ByteArray)] rfl (by (try simp only [List.map_toArray, List.map_cons, List.map_nil]); first | done | rfl | (simp only [List.length_drop, List.length_take]; rfl)) ?_; (with_reducible refine (strings_CutPrefix.calls a0 (⟨#[45]⟩ : ByteArray) t123 t124 _ A5.out).mono ?_); rintro e w' ⟨rfl, ⟨nd, rfl⟩⟩; refine ⟨_, rfl, ?_⟩))
      go_ret2
      exact ⟨by first | rfl | (simp; done) | (simp [*]; done), by repeat (first | exact Drawn0.refl _ | apply Drawn0.step)⟩
    · rw [if_neg c6] at H
      have c6b0 : (t123.toList == ([] : List UInt8)) = false := beq_eq_false_iff_ne.mpr c6
      have c6b1 : (t123.toList != ([] : List UInt8)) = true := bne_iff_ne.mpr c6
      have H' := Aside0.mk H
      clear H
      go_enter Tryd.func42, Tryd.ntmps42
      go_wp2_with (first | ((with_reducible refine gate_callee (f := 47) rfl ?_); refine goesL_ (some 14) rfl rfl Tryd.func47 (by kernel_rfl) rfl #[.int .u32 a1] rfl (by (try simp only [List.map_toArray, List.map_cons, List.map_nil]); first | done | rfl | (simp only [List.length_drop, List.length_take]; rfl)) ?_; (with_reducible refine (digit_fit.calls a1 true _ A3.out).mono ?_); rintro e w' ⟨rfl, ⟨nd, rfl⟩⟩; refine ⟨_, rfl, ?_⟩) | ((with_reducible refine gate_callee (f := 48) rfl ?_); refine goesL_ (some 18) rfl rfl Tryd.func48 (by kernel_rfl) rfl #[.string a0, .string (⟨#[45]⟩ : ByteArray)] rfl (by (try simp only [List.map_toArray, List.map_cons, List.map_nil]); first | done | rfl | (simp only [List.length_drop, List.length_take]; rfl)) ?_; (with_reducible refine (strings_CutPrefix.calls a0 (⟨#[45]⟩ : ByteArray) t123 t124 _ A5.out).mono ?_); rintro e w' ⟨rfl, ⟨nd, rfl⟩⟩; refine ⟨_, rfl, ?_⟩))
      go_loopg [8, 9, 25] k (fun kq v8 v9 v25 w' => ∃ (x8_1 : Int) (x9_1 : Int) (x25_1 : Int), v8 = .int .u64 x8_1 ∧ v9 = .int .i64 x9_1 ∧ v25 = .int .i64 x25_1 ∧ Aside0 (digit_Parse.l0 kq a1 t123 t124 x8_1 x9_1 (t123.size : Int) x25_1 = some (r1, r2)) ∧ Aside0 (kq ≤ k) ∧ Drawn0 w w')
      case atStart => exact ⟨(0), (0), (0), (by first | rfl | (simp; done) | (simp [*]; done) | (simp [Kd.bne_nil]; done)), (by first | rfl | (simp; done) | (simp [*]; done) | (simp [Kd.bne_nil]; done)), (by first | rfl | (simp; done) | (simp [*]; done) | (simp [Kd.bne_nil]; done)), H', ⟨Nat.le_refl _⟩, by repeat (first | exact Drawn0.refl _ | apply Drawn0.step)⟩
      case round =>
        clear H'
        try clear p2
        try clear c4
        try clear c6
        try clear c6b0
        try clear c6b1
        obtain ⟨x8_1, x9_1, x25_1, rfl, rfl, rfl, HA, HK1, ⟨m1, rfl⟩⟩ := hrel
        cases gk with
        | zero => exact absurd HA.out (by simp [digit_Parse.l0])
        | succ k1 =>
          have H := HA.out
          clear HA
          simp only [digit_Parse.l0] at H
          by_cases c7 : x25_1 < (t123.size : Int)
          · rw [if_pos c7] at H
            have c7b0 : decide (x25_1 < (t123.size : Int)) = true := decide_eq_true c7
            clear c7
            by_cases c8 : 0 ≤ x25_1
            · rw [if_pos c8] at H
              have c8b0 : decide (0 ≤ x25_1) = true := decide_eq_true c8
              clear c8
              by_cases c9 : x25_1 < (t123.size : Int)
              · rw [if_pos c9] at H
                have c9b0 : decide (x25_1 < (t123.size : Int)) = true := decide_eq_true c9
                clear c9
                replace H := Option.bind_eq_some_iff.mp H
                obtain ⟨⟨t125, t126⟩, A110, H⟩ := H
                replace H : (if t126 = true then (if (IntKind.u64.wrap ((IntKind.u64.wrap (x8_1 * (IntKind.u64.wrap (a1)))) + (IntKind.u64.wrap (t125)))) > 4294967295 then (digit_Parse.l0 k1 a1 t123 t124 4294967296 4 (t123.size : Int) (wrap64 (x25_1 + 1))) else (digit_Parse.l0 k1 a1 t123 t124 (IntKind.u64.wrap ((IntKind.u64.wrap (x8_1 * (IntKind.u64.wrap (a1)))) + (IntKind.u64.wrap (t125)))) x9_1 (t123.size : Int) (wrap64 (x25_1 + 1)))) else (some (0, 15))) = some (r1, r2) := H
                have A11 := Aside0.mk A110
                clear A110
                by_cases c12 : t126 = true
                · subst c12
                  have H1 : (if (IntKind.u64.wrap ((IntKind.u64.wrap (x8_1 * (IntKind.u64.wrap (a1)))) + (IntKind.u64.wrap (t125)))) > 4294967295 then (digit_Parse.l0 k1 a1 t123 t124 4294967296 4 (t123.size : Int) (wrap64 (x25_1 + 1))) else (digit_Parse.l0 k1 a1 t123 t124 (IntKind.u64.wrap ((IntKind.u64.wrap (x8_1 * (IntKind.u64.wrap (a1)))) + (IntKind.u64.wrap (t125)))) x9_1 (t123.size : Int) (wrap64 (x25_1 + 1)))) = some (r1, r2) := by rw [if_pos rfl] at H; exact H
                  clear H
                  have H := H1
                  clear H1
                  by_cases c13 : (IntKind.u64.wrap ((IntKind.u64.wrap (x8_1 * (IntKind.u64.wrap (a1)))) + (IntKind.u64.wrap (t125)))) > 4294967295
                  · rw [if_pos c13] at H
                    have c13b0 : decide (4294967295 < (IntKind.u64.wrap ((IntKind.u64.wrap (x8_1 * (IntKind.u64.wrap (a1)))) + (IntKind.u64.wrap (t125))))) = true := decide_eq_true c13
                    clear c13
                    have H' := Aside0.mk H
                    clear H
                    have p10 : 0 ≤ (x25_1 : Int) := of_decide_eq_true (by first | (with_reducible assumption) | assumption)
                    have q10 : x25_1 < (t123.size : Int) := of_decide_eq_true (by first | (with_reducible assumption) | assumption)
                    have hx10 := bt_at t123 x25_1
                    replace p10 := eq_true p10
                    replace q10 := eq_true q10
                    go_wp2_with (first | ((with_reducible refine gate_callee (f := 49) rfl ?_); refine goesL_ (some 33) rfl rfl Tryd.func49 (by kernel_rfl) rfl #[.int .u8 (bt t123 x25_1), .int .u32 a1] rfl (by (try simp only [List.map_toArray, List.map_cons, List.map_nil]); first | done | rfl | (simp only [List.length_drop, List.length_take]; rfl)) ?_; (with_reducible refine (digit_Value.calls k1 (bt t123 x25_1) a1 t125 true _ A11.out).mono ?_); rintro e w' ⟨rfl, ⟨nd, rfl⟩⟩; refine ⟨_, rfl, ?_⟩))
                    go_roundg k1
                    case measure => have := HK1.out; omega
                    case rel => exact ⟨(4294967296), (4), (wrap64 (x25_1 + 1)), (by first | rfl | (simp; done) | (simp [*]; done) | (simp [Kd.bne_nil]; done)), (by first | rfl | (simp; done) | (simp [*]; done) | (simp [Kd.bne_nil]; done)), (by first | rfl | (simp; done) | (simp [*]; done) | (simp [Kd.bne_nil]; done)), H', ⟨by have := HK1.out; omega⟩, by repeat (first | exact Drawn0.refl _ | apply Drawn0.step)⟩
                  · rw [if_neg c13] at H
                    have c13b0 : decide (4294967295 < (IntKind.u64.wrap ((IntKind.u64.wrap (x8_1 * (IntKind.u64.wrap (a1)))) + (IntKind.u64.wrap (t125))))) = false := decide_eq_false c13
                    clear c13
                    have H' := Aside0.mk H
                    clear H
                    have p10 : 0 ≤ (x25_1 : Int) := of_decide_eq_true (by first | (with_reducible assumption) | assumption)
                    have q10 : x25_1 < (t123.size : Int) := of_decide_eq_true (by first | (with_reducible assumption) | assumption)
                    have hx10 := bt_at t123 x25_1
                    replace p10 := eq_true p10
                    replace q10 := eq_true q10
                    go_wp2_with (first | ((with_reducible refine gate_callee (f := 49) rfl ?_); refine goesL_ (some 33) rfl rfl Tryd.func49 (by kernel_rfl) rfl #[.int .u8 (bt t123 x25_1), .int .u32 a1] rfl (by (try simp only [List.map_toArray, List.map_cons, List.map_nil]); first | done | rfl | (simp only [List.length_drop, List.length_take]; rfl)) ?_; (with_reducible refine (digit_Value.calls k1 (bt t123 x25_1) a1 t125 true _ A11.out).mono ?_); rintro e w' ⟨rfl, ⟨nd, rfl⟩⟩; refine ⟨_, rfl, ?_⟩))
                    go_roundg k1
                    case measure => have := HK1.out; omega
                    case rel => exact ⟨(IntKind.u64.wrap ((IntKind.u64.wrap (x8_1 * (IntKind.u64.wrap (a1)))) + (IntKind.u64.wrap (t125)))), (x9_1), (wrap64 (x25_1 + 1)), (by first | rfl | (simp; done) | (simp [*]; done) | (simp [Kd.bne_nil]; done)), (by first | rfl | (simp; done) | (simp [*]; done) | (simp [Kd.bne_nil]; done)), (by first | rfl | (simp; done) | (simp [*]; done) | (simp [Kd.bne_nil]; done)), H', ⟨by have := HK1.out; omega⟩, by repeat (first | exact Drawn0.refl _ | apply Drawn0.step)⟩
                · replace c12 := Bool.eq_false_iff.mpr c12
                  subst c12
                  have H1 : (some (0, 15)) = some (r1, r2) := by rw [if_neg (show ¬ (false = true) by decide)] at H; exact H
                  clear H
                  have H := H1
                  clear H1
                  simp only [Option.some.injEq, Prod.mk.injEq] at H
                  obtain ⟨rfl, rfl⟩ := H
                  have p10 : 0 ≤ (x25_1 : Int) := of_decide_eq_true (by first | (with_reducible assumption) | assumption)
                  have q10 : x25_1 < (t123.size : Int) := of_decide_eq_true (by first | (with_reducible assumption) | assumption)
                  have hx10 := bt_at t123 x25_1
                  replace p10 := eq_true p10
                  replace q10 := eq_true q10
                  go_wp2_with (first | ((with_reducible refine gate_callee (f := 49) rfl ?_); refine goesL_ (some 33) rfl rfl Tryd.func49 (by kernel_rfl) rfl #[.int .u8 (bt t123 x25_1), .int .u32 a1] rfl (by (try simp only [List.map_toArray, List.map_cons, List.map_nil]); first | done | rfl | (simp only [List.length_drop, List.length_take]; rfl)) ?_; (with_reducible refine (digit_Value.calls k1 (bt t123 x25_1) a1 t125 false _ A11.out).mono ?_); rintro e w' ⟨rfl, ⟨nd, rfl⟩⟩; refine ⟨_, rfl, ?_⟩))
                  go_ret2
                  exact ⟨by first | rfl | (simp; done) | (simp [*]; done), by repeat (first | exact Drawn0.refl _ | apply Drawn0.step)⟩
              · rw [if_neg c9] at H
                exact absurd H (by simp)
            · rw [if_neg c8] at H
              exact absurd H (by simp)
          · rw [if_neg c7] at H
            have c7b0 : decide (x25_1 < (t123.size : Int)) = false := decide_eq_false c7
            clear c7
            by_cases c14 : x9_1 = 0
            · rw [if_pos c14] at H
              have c14b0 : (x9_1 == 0) = true := beq_iff_eq.mpr c14
              have c14b1 : (x9_1 != 0) = false := bne_eq_false_iff_eq.mpr c14
              clear c14
              by_cases c15 : t124 = true
              · subst c15
                have H1 : (some ((IntKind.u64.wrap (-x8_1)) % 4294967296, 0)) = some (r1, r2) := by rw [if_pos rfl] at H; exact H
                clear H
                have H := H1
                clear H1
                simp only [Option.some.injEq, Prod.mk.injEq] at H
                obtain ⟨rfl, rfl⟩ := H
                go_wp2
                go_ret2
                exact ⟨by first | rfl | (simp; done) | (simp [*]; done), by repeat (first | exact Drawn0.refl _ | apply Drawn0.step)⟩
              · replace c15 := Bool.eq_false_iff.mpr c15
                subst c15
                have H1 : (some ((x8_1) % 4294967296, 0)) = some (r1, r2) := by rw [if_neg (show ¬ (false = true) by decide)] at H; exact H
                clear H
                have H := H1
                clear H1
                simp only [Option.some.injEq, Prod.mk.injEq] at H
                obtain ⟨rfl, rfl⟩ := H
                go_wp2
                go_ret2
                exact ⟨by first | rfl | (simp; done) | (simp [*]; done), by repeat (first | exact Drawn0.refl _ | apply Drawn0.step)⟩
            · rw [if_neg c14] at H
              have c14b0 : (x9_1 == 0) = false := beq_eq_false_iff_ne.mpr c14
              have c14b1 : (x9_1 != 0) = true := bne_iff_ne.mpr c14
              simp only [Option.some.injEq, Prod.mk.injEq] at H
              obtain ⟨rfl, rfl⟩ := H
              go_wp2
              go_ret2
              exact ⟨by first | rfl | (simp; done) | (simp [*]; done), by repeat (first | exact Drawn0.refl _ | apply Drawn0.step)⟩
  · replace c4 := Bool.eq_false_iff.mpr c4
    subst c4
    have H1 : (some (0, 1)) = some (r1, r2) := by rw [if_neg (show ¬ (false = true) by decide)] at H; exact H
    clear H
    have H := H1
    clear H1
    simp only [Option.some.injEq, Prod.mk.injEq] at H
    obtain ⟨rfl, rfl⟩ := H
    go_enter Tryd.func42, Tryd.ntmps42
    go_wp2_with (first | ((with_reducible refine gate_callee (f := 47) rfl ?_); refine goesL_ (some 14) rfl rfl Tryd.func47 (by kernel_rfl) rfl #[.int .u32 a1] rfl (by (try simp only [List.map_toArray, List.map_cons, List.map_nil]); first | done | rfl | (simp only [List.length_drop, List.length_take]; rfl)) ?_; (with_reducible refine (digit_fit.calls a1 false _ A3.out).mono ?_); rintro e w' ⟨rfl, ⟨nd, rfl⟩⟩; refine ⟨_, rfl, ?_⟩))
    go_ret2
    exact ⟨by first | rfl | (simp; done) | (simp [*]; done), by repeat (first | exact Drawn0.refl _ | apply Drawn0.step)⟩

/-! ### digit_Show: function 43 -/
section
open Go.Proofs.YtdobpgomgnaleaaDoor.G
/-- The table of powers lies as it was laid. -/
def TabOK (w : World) : Prop := Lib.TabIs Tryd.prog w "internal/strconv.uint64pow10" .u64 Lib.pow10Tab
theorem TabOK.heap {w w' : World} (h : TabOK w) (hb : w'.heap[1]? = w.heap[1]?) : TabOK w' := by
  unfold TabOK Lib.TabIs World.var? at h ⊢
  have hg : Tryd.prog.globalNamed "internal/strconv.uint64pow10" = some 1 := by kernel_rfl
  rw [hg] at h ⊢
  rw [Option.bind_some] at h ⊢
  rw [hb]
  exact h
theorem TabOK.lt {w : World} (h : TabOK w) : 1 < w.heap.size := by
  unfold TabOK Lib.TabIs World.var? at h
  have hg : Tryd.prog.globalNamed "internal/strconv.uint64pow10" = some 1 := by kernel_rfl
  rw [hg, Option.bind_some] at h
  rcases Nat.lt_or_ge 1 w.heap.size with h1 | h1
  · exact h1
  · rw [Array.getElem?_eq_none h1] at h
    cases h
theorem TabOK.below {w w' : World} (h : TabOK w) (hb : Below w.heap.size w w') : TabOK w' := h.heap (hb.block 1 h.lt)
theorem TabOK.drewN {w : World} (h : TabOK w) (n : Nat) : TabOK (w.drewN n) := h.heap rfl
theorem TabOK.drew {w : World} (h : TabOK w) : TabOK w.drew := h.heap rfl
theorem TabOK.alloc {w : World} (h : TabOK w) (o : Obj) : TabOK (w.alloc o) := h.below (below_alloc (Below.refl _ _) o)
theorem holds_zero0 (w : World) (T : TypeId) (nd : Nat) (hs : nd ≤ 24) : Go.Sort.Holds (fun (b : UInt8) => Value.int .u8 (b.toNat : Int)) (w.alloc (.cells Lib.zeros24 T)) w.heap.size 0 (Array.replicate nd (0 : UInt8)) := fun j hj => by
  have hj' : j < nd := by simpa using hj
  refine ⟨?_, World.frozen?_alloc_new _ _ _ _⟩
  rw [World.cell?_alloc_new, Lib.zeros24_at _ (by omega), getElem!_pos _ j hj]
  simp
theorem below_fmt (w : World) (o : Obj) (dk : Array UInt8) (k : Nat) : Below w.heap.size w ((Go.Sort.putRow (fun (b : UInt8) => Value.int .u8 (b.toNat : Int)) (w.alloc o) w.heap.size 0 dk).drewN k) := by
  have h : Below w.heap.size w (Go.Sort.putRow (fun (b : UInt8) => Value.int .u8 (b.toNat : Int)) (w.alloc o) w.heap.size 0 dk) := by
    refine ⟨rfl, rfl, rfl, ?_, fun j hj => ?_⟩
    · rw [Go.Sort.size_putRow, World.size_alloc]
      exact Nat.le_succ _
    · show ((w.alloc o).heap.modify w.heap.size _)[j]? = w.heap[j]?
      rw [Array.getElem?_modify, if_neg (by omega)]
      exact Below.heap_alloc w o j hj
  exact pw_below_drewN h k
set_option maxHeartbeats 4000000 in
set_option maxRecDepth 100000 in
theorem FormatUint_big (u : Nat) (w : World) (h1 : 100 ≤ u) (h2 : u < 4294967296) (htab : TabOK w) :
    Calls Tryd.prog 57 #[.int .u64 u, .int .i64 10] w fun e w' => e = .returned (.string ⟨(Lib.decDigits u).toArray⟩) ∧ Below w.heap.size w w' := by
  have hu1 : 1 ≤ u := by omega
  have hu64 : u < 18446744073709551616 := by omega
  have hnd20 : Lib.nDigits u ≤ 20 := by have := Lib.numDigits_eq u hu1 hu64; split at this <;> omega
  have c1 : decide ((u : Int) < 100) = false := decide_eq_false (by omega)
  have c2 : (u < 100) = False := eq_false (by omega)
  have hu := Tryd.underlying106
  have hal : Tryd.prog.arrayLen 106 = 24 := by simp only [Program.arrayLen, hu]
  have he : Tryd.prog.elem 106 = 5 := by simp only [Program.elem, hu]
  have hsl1 : ∀ W, (Instr.sliceAt 106 (.pointer (some ⟨w.heap.size, 0, none⟩)) none (some (.int .i64 (Lib.nDigits u : Int))) none).run Tryd.prog W = .ok (.slice (some ⟨w.heap.size, 0, none⟩) (Lib.nDigits u) 24) W := fun W => by
    rw [run_sliceAt_array_h W 106 ⟨w.heap.size, 0, none⟩ (by rw [hal, he, hu]) .i64 (Lib.nDigits u : Int) (by omega) (by rw [hal]; omega)]
    obtain ⟨i0, hi0, _, hs, _⟩ := info_parts info5
    simp [sizeOf, typeInfo, he, hi0, hs, Result.andThen, slicedAt, hal, Addr.add]
  have hH0 := holds_zero0 w 106 (Lib.nDigits u) (by omega)
  have hfmt := Tryd.internal_strconv_formatBase10 w.heap.size 0 24 u (Array.replicate (Lib.nDigits u) 0) (w.alloc (.cells Lib.zeros24 106)) hH0 (by rw [Array.size_replicate]; exact Lib.lt_pow_nDigits u) hu64 (by rw [Array.size_replicate]; omega)
  rw [Array.size_replicate] at hfmt
  have HH0 := Aside0.mk hH0
  have HT := Aside0.mk htab
  have H64 := Aside0.mk hu64
  have HU1 := Aside0.mk hu1
  clear hH0 htab h1 h2 hnd20 hu64 hu1 hal he hu
  go_enter Tryd.func57, Tryd.ntmps57
  go_wp2_with (go_at_call 62; refine (Tryd.internal_strconv_numDigits u HU1.out H64.out _ (HT.out.alloc _)).mono ?_; rintro e w' ⟨rfl, rfl⟩)
  go_at_call 63
  refine hfmt.mono ?_
  rintro e w' ⟨rfl, k, v', dk, rfl, hF⟩
  have hcv : (convert 22 9 (.slice (some ⟨w.heap.size, 0, none⟩) (Lib.nDigits u) 24)).run Tryd.prog ((Go.Sort.putRow (fun (b : UInt8) => Value.int .u8 (b.toNat : Int)) (w.alloc (.cells Lib.zeros24 106)) w.heap.size 0 dk).drewN k) = .ok (.string ⟨(Lib.decDigits u).toArray⟩) ((Go.Sort.putRow (fun (b : UInt8) => Value.int .u8 (b.toNat : Int)) (w.alloc (.cells Lib.zeros24 106)) w.heap.size 0 dk).drewN k) := by
    have h := run_convert_bytes_back (P := Tryd.prog) ((Go.Sort.putRow (fun (b : UInt8) => Value.int .u8 (b.toNat : Int)) (w.alloc (.cells Lib.zeros24 106)) w.heap.size 0 dk).drewN k) 22 9 5 ⟨w.heap.size, 0, none⟩ 24 (Lib.decDigits u) Tryd.underlying22 Tryd.underlying5 Tryd.underlying9 (fun j hj => by
      rw [Lib.row_is_numeral hF j hj, Lib.add_plain, World.cell?_drewN]
      exact Go.Sort.cell?_putRow (fun (b : UInt8) => Value.int .u8 (b.toNat : Int)) _ w.heap.size 0 _ dk HH0.out (by rw [hF.size, Array.size_replicate]) j (by rw [hF.size]; rw [Lib.decDigits_length] at hj; exact hj))
    rw [Lib.decDigits_length] at h
    exact h
  have HBF := Aside0.mk (below_fmt w (.cells Lib.zeros24 106) dk k)
  generalize ((Go.Sort.putRow (fun (b : UInt8) => Value.int .u8 (b.toNat : Int)) (w.alloc (.cells Lib.zeros24 106)) w.heap.size 0 dk).drewN k) = w3 at hcv HBF ⊢
  clear hfmt hF HH0
  go_wp2
  go_ret
  exact ⟨rfl, HBF.out⟩
def digit_Show.f (a0 a1 : Int) : Option (ByteArray × Int) := if a1 = 10 ∧ 0 ≤ a0 ∧ a0 < 4294967296 then some (⟨(Lib.decDigits a0.toNat).toArray⟩, 0) else none
theorem FormatUint_in (n : Nat) (w : World) (h1 : n < 100) :
    Calls Tryd.prog 57 #[.int .u64 n, .int .i64 10] w fun e w' => e = .returned (.string ⟨(Lib.decDigits n).toArray⟩) ∧ w' = w := by
  have H1 := Aside0.mk h1
  have c1 : decide ((n : Int) < 100) = true := decide_eq_true (by omega)
  have c2 : wrap64 (n : Int) = n := w64 (by omega) (by omega)
  clear h1
  go_enter Tryd.func57, Tryd.ntmps57
  go_wp2_with (go_at_call 61; refine (Tryd.internal_strconv_small n H1.out _).mono ?_; rintro e w' ⟨rfl, rfl⟩)
  go_ret
  exact ⟨rfl, rfl⟩
theorem FormatUint_any (n : Nat) (w : World) (h2 : n < 4294967296) (htab : TabOK w) :
    Calls Tryd.prog 57 #[.int .u64 n, .int .i64 10] w fun e w' => e = .returned (.string ⟨(Lib.decDigits n).toArray⟩) ∧ Below w.heap.size w w' := by
  rcases Nat.lt_or_ge n 100 with h1 | h1
  · refine (FormatUint_in n w h1).mono ?_
    rintro e w' ⟨rfl, rfl⟩
    exact ⟨rfl, Below.refl _ _⟩
  · exact FormatUint_big n w h1 h2 htab
theorem FormatUint_out (n : Nat) (w : World) (h1 : n < 4294967296) (htab : TabOK w) :
    Calls Tryd.prog 50 #[.int .u64 n, .int .i64 10] w fun e w' => e = .returned (.string ⟨(Lib.decDigits n).toArray⟩) ∧ Below w.heap.size w w' := by
  have H1 := Aside0.mk h1
  have HT := Aside0.mk htab
  clear h1 htab
  go_enter Tryd.func50, Tryd.ntmps50
  go_wp2_with (go_at_call 57; refine (FormatUint_any n _ H1.out HT.out).mono ?_; rintro e w' ⟨rfl, hb⟩; have HB := Aside0.mk hb; clear hb)
  go_ret
  exact ⟨rfl, HB.out⟩
theorem digit_Show.calls (a0 a1 : Int) (r1 : ByteArray) (r2 : Int) (w : World) (h : digit_Show.f a0 a1 = some (r1, r2)) (htab : TabOK w) :
    Calls Tryd.prog 43 #[.int .u32 a0, .int .u32 a1] w fun e w' => e = .returned (.tuple #[.string r1, .int .i64 r2]) ∧ Below w.heap.size w w' := by
  unfold digit_Show.f at h
  by_cases hc : a1 = 10 ∧ 0 ≤ a0 ∧ a0 < 4294967296
  · rw [if_pos hc] at h
    obtain ⟨rfl, h0, h1⟩ := hc
    obtain ⟨n, rfl⟩ := Int.eq_ofNat_of_zero_le h0
    simp only [Option.some.injEq, Prod.mk.injEq] at h
    obtain ⟨rfl, rfl⟩ := h
    have H1 : Aside0 (n < 4294967296) := ⟨by omega⟩
    have c2 : IntKind.u64.wrap (n : Int) = n := by rw [wu64]; omega
    have c3 : (n : Int) % 18446744073709551616 = n := by omega
    have HT := Aside0.mk htab
    clear h0 h1 htab
    rw [Int.toNat_natCast]
    go_enter Tryd.func43, Tryd.ntmps43
    go_wp2_with (first | (go_at_call 47; refine (digit_fit.calls 10 true _ rfl).mono ?_; rintro e w' ⟨rfl, ⟨nq, rfl⟩⟩) | (go_at_call 50; refine (FormatUint_out n _ H1.out (HT.out.drewN _)).mono ?_; rintro e w' ⟨rfl, hb⟩; have HB := Aside0.mk (below_step (pw_below_drewN (Below.refl _ _) nq) hb); clear hb))
    go_ret2
    exact ⟨rfl, by repeat (first | exact HB.out | apply below_alloc | apply pw_below_drewN | apply below_drew1)⟩
  · rw [if_neg hc] at h
    cases h
end

/-! ### vars_variable_form: function 33 -/
def vars_variable_form.l0 : Nat → ByteArray → Int → Int → Option (ByteArray × Bool)
  | 0, _, _, _ => none
  | k + 1, x1, x38, x39 => if x39 < x38 then (if 0 ≤ x39 then (if x39 < (x1.size : Int) then (if (bt x1 x39) < 32 then (some ((⟨#[]⟩ : ByteArray), false)) else (if (bt x1 x39) > 126 then (some ((⟨#[]⟩ : ByteArray), false)) else (vars_variable_form.l0 k x1 x38 (wrap64 (x39 + 1))))) else (none)) else (none)) else (some (x1, decide ((x1.size : Int) ≤ 128)))
def vars_variable_form.f (k : Nat) (a0_0 : ByteArray) (a0_1 : Int) (a0_2 : ByteArray) (a1 : ByteArray) : Option (ByteArray × Bool) := if a0_1 = 0 then (if a1.toList = ([116, 114, 117, 101] : List UInt8) then (some (a1, true)) else (some (a1, (a1.toList == ([102, 97, 108, 115, 101] : List UInt8))))) else (if a0_1 = 1 then ((digit_Parse.f k a1 10).bind fun bt128 => (if bt128.2 = 0 then ((digit_Show.f bt128.1 10).bind fun bt130 => (some (bt130.1, (bt130.2 == 0)))) else (some ((⟨#[]⟩ : ByteArray), false)))) else (vars_variable_form.l0 k a1 (a1.size : Int) 0))
theorem vars_variable_form.mono_l : ∀ k, (∀ y0 y1 y2, LeO (vars_variable_form.l0 k y0 y1 y2) (vars_variable_form.l0 (k + 1) y0 y1 y2))
  | 0 => fun _ _ _ r h => by simp [vars_variable_form.l0] at h
  | k + 1 => by
    have ih0 := vars_variable_form.mono_l k
    · intro y0 y1 y2
      unfold vars_variable_form.l0
      repeat' first
      | (with_reducible exact ih0 _ _ _)
      | (with_reducible exact digit_Parse.mono _ _ _)
      | (with_reducible exact LeO.refl _)
      | (with_reducible exact LeO.none _)
      | (with_reducible refine LeO.ite ?_ ?_)
      | (with_reducible refine LeO.bind ?_ (fun _ => ?_))
      | exact ih0 _ _ _
      | exact digit_Parse.mono _ _ _
      | exact LeO.none _
      | refine LeO.ite ?_ ?_
      | refine LeO.bind ?_ (fun _ => ?_)
theorem vars_variable_form.mono : ∀ a0 a1 a2 a3 k, LeO (vars_variable_form.f k a0 a1 a2 a3) (vars_variable_form.f (k + 1) a0 a1 a2 a3) := by
  intro a0 a1 a2 a3 k
  have ih0 := vars_variable_form.mono_l k
  unfold vars_variable_form.f
  repeat' first
      | (with_reducible exact ih0 _ _ _)
      | (with_reducible exact digit_Parse.mono _ _ _)
      | (with_reducible exact LeO.refl _)
      | (with_reducible exact LeO.none _)
      | (with_reducible refine LeO.ite ?_ ?_)
      | (with_reducible refine LeO.bind ?_ (fun _ => ?_))
      | exact ih0 _ _ _
      | exact digit_Parse.mono _ _ _
      | exact LeO.none _
      | refine LeO.ite ?_ ?_
      | refine LeO.bind ?_ (fun _ => ?_)
set_option maxHeartbeats 8000000 in
set_option maxRecDepth 100000 in
theorem vars_variable_form.calls (k : Nat) (a0_0 : ByteArray) (a0_1 : Int) (a0_2 : ByteArray) (a1 : ByteArray) (r1 : ByteArray) (r2 : Bool) (w : World) (h : vars_variable_form.f k a0_0 a0_1 a0_2 a1 = some (r1, r2)) (htab : TabOK w) :
    Calls Tryd.prog 33 #[.agg #[.string a0_0, .int .i64 a0_1, .string a0_2], .string a1] w fun e w' => e = .returned (.tuple #[.string r1, .bool r2]) ∧ Below w.heap.size w w' := by
  have hu50 := Tryd.underlying50
  have HB := Aside0.mk (Below.refl w.heap.size w)
  have HT := Aside0.mk htab
  clear htab
  have H : (if a0_1 = 0 then (if a1.toList = ([116, 114, 117, 101] : List UInt8) then (some (a1, true)) else (some (a1, (a1.toList == ([102, 97, 108, 115, 101] : List UInt8))))) else (if a0_1 = 1 then ((digit_Parse.f k a1 10).bind fun bt128 => (if bt128.2 = 0 then ((digit_Show.f bt128.1 10).bind fun bt130 => (some (bt130.1, (bt130.2 == 0)))) else (some ((⟨#[]⟩ : ByteArray), false)))) else (vars_variable_form.l0 k a1 (a1.size : Int) 0))) = some (r1, r2) := h
  clear h
  by_cases c3 : a0_1 = 0
  · rw [if_pos c3] at H
    have c3b0 : (a0_1 == 0) = true := beq_iff_eq.mpr c3
    have c3b1 : (a0_1 != 0) = false := bne_eq_false_iff_eq.mpr c3
    clear c3
    by_cases c4 : a1.toList = ([116, 114, 117, 101] : List UInt8)
    · rw [if_pos c4] at H
      have c4b0 : (a1.toList == ([116, 114, 117, 101] : List UInt8)) = true := beq_iff_eq.mpr c4
      have c4b1 : (a1.toList != ([116, 114, 117, 101] : List UInt8)) = false := bne_eq_false_iff_eq.mpr c4
      clear c4
      simp only [Option.some.injEq, Prod.mk.injEq] at H
      obtain ⟨rfl, rfl⟩ := H
      go_enter Tryd.func33, Tryd.ntmps33
      go_wp2_with (first | ((with_reducible refine gate_dst (N := 2) rfl ?_); refine box_event ?hg (N := 2) ?hd (cs := #[.string a0_0, .int .i64 a0_1, .string a0_2]) (t := 50) ?hr ?_; (case hd => rfl); (case hg => rfl); (case hr => first | (go_simp; done) | (go_simp; rfl)); intro gb127 hg w5 hbox hb; have n0_ := Aside0.mk (below_step (by repeat (first | (with_reducible first | exact HB.out | apply below_alloc | apply pw_below_drewN | apply below_drew1) | exact HB.out)) hb); have n1_ := Aside0.mk (hbox); have n2_ := Aside0.mk ((by rw [hg]; exact (below_size (by repeat (first | (with_reducible first | exact HB.out | apply below_alloc | apply pw_below_drewN | apply below_drew1) | exact HB.out))) : w.heap.size ≤ gb127)); have n3_ := Aside0.mk ((by rw [hg]; exact (below_size (by repeat (first | (with_reducible first | exact HB.out | apply below_alloc | apply pw_below_drewN | apply below_drew1) | exact HB.out))) : w.heap.size ≤ gb127)); clear HB; have HB := n0_; have BK127 := n1_; have GW127 := n2_; have GE127 := n3_; clear n0_ n1_ n2_ n3_; clear hb hbox hg; have hcz6_0 : w5.cell? ⟨gb127, 0, none⟩ = some (.string a0_0) := (blk_cell BK127.out 0).trans rfl; have hcz6_1 : w5.cell? ⟨gb127, 1, none⟩ = some (.int .i64 a0_1) := (blk_cell BK127.out 1).trans rfl; have hcz6_2 : w5.cell? ⟨gb127, 2, none⟩ = some (.string a0_2) := (blk_cell BK127.out 2).trans rfl; have hfz6_0 := blk_frozen BK127.out 0; have hfz6_1 := blk_frozen BK127.out 1; have hfz6_2 := blk_frozen BK127.out 2))
      go_ret2
      exact ⟨by first | rfl | (simp [errW_none, errW_some] <;> rfl) | (simp [*, errW_none, errW_some] <;> rfl), by repeat (first | (with_reducible first | exact HB.out | apply below_alloc | apply pw_below_drewN | apply below_drew1 | refine below_set ?_ GE127.out) | exact HB.out)⟩
    · rw [if_neg c4] at H
      have c4b0 : (a1.toList == ([116, 114, 117, 101] : List UInt8)) = false := beq_eq_false_iff_ne.mpr c4
      have c4b1 : (a1.toList != ([116, 114, 117, 101] : List UInt8)) = true := bne_iff_ne.mpr c4
      simp only [Option.some.injEq, Prod.mk.injEq] at H
      obtain ⟨rfl, rfl⟩ := H
      go_enter Tryd.func33, Tryd.ntmps33
      go_wp2_with (first | ((with_reducible refine gate_dst (N := 2) rfl ?_); refine box_event ?hg (N := 2) ?hd (cs := #[.string a0_0, .int .i64 a0_1, .string a0_2]) (t := 50) ?hr ?_; (case hd => rfl); (case hg => rfl); (case hr => first | (go_simp; done) | (go_simp; rfl)); intro gb127 hg w7 hbox hb; have n0_ := Aside0.mk (below_step (by repeat (first | (with_reducible first | exact HB.out | apply below_alloc | apply pw_below_drewN | apply below_drew1) | exact HB.out)) hb); have n1_ := Aside0.mk (hbox); have n2_ := Aside0.mk ((by rw [hg]; exact (below_size (by repeat (first | (with_reducible first | exact HB.out | apply below_alloc | apply pw_below_drewN | apply below_drew1) | exact HB.out))) : w.heap.size ≤ gb127)); have n3_ := Aside0.mk ((by rw [hg]; exact (below_size (by repeat (first | (with_reducible first | exact HB.out | apply below_alloc | apply pw_below_drewN | apply below_drew1) | exact HB.out))) : w.heap.size ≤ gb127)); clear HB; have HB := n0_; have BK127 := n1_; have GW127 := n2_; have GE127 := n3_; clear n0_ n1_ n2_ n3_; clear hb hbox hg; have hcz8_0 : w7.cell? ⟨gb127, 0, none⟩ = some (.string a0_0) := (blk_cell BK127.out 0).trans rfl; have hcz8_1 : w7.cell? ⟨gb127, 1, none⟩ = some (.int .i64 a0_1) := (blk_cell BK127.out 1).trans rfl; have hcz8_2 : w7.cell? ⟨gb127, 2, none⟩ = some (.string a0_2) := (blk_cell BK127.out 2).trans rfl; have hfz8_0 := blk_frozen BK127.out 0; have hfz8_1 := blk_frozen BK127.out 1; have hfz8_2 := blk_frozen BK127.out 2))
      go_ret2
      exact ⟨by first | rfl | (simp [errW_none, errW_some] <;> rfl) | (simp [*, errW_none, errW_some] <;> rfl), by repeat (first | (with_reducible first | exact HB.out | apply below_alloc | apply pw_below_drewN | apply below_drew1 | refine below_set ?_ GE127.out) | exact HB.out)⟩
  · rw [if_neg c3] at H
    have c3b0 : (a0_1 == 0) = false := beq_eq_false_iff_ne.mpr c3
    have c3b1 : (a0_1 != 0) = true := bne_iff_ne.mpr c3
    by_cases c9 : a0_1 = 1
    · rw [if_pos c9] at H
      have c9b0 : (a0_1 == 1) = true := beq_iff_eq.mpr c9
      have c9b1 : (a0_1 != 1) = false := bne_eq_false_iff_eq.mpr c9
      clear c9
      replace H := Option.bind_eq_some_iff.mp H
      obtain ⟨⟨t128, t129⟩, A100, H⟩ := H
      replace H : (if t129 = 0 then ((digit_Show.f t128 10).bind fun bt130 => (some (bt130.1, (bt130.2 == 0)))) else (some ((⟨#[]⟩ : ByteArray), false))) = some (r1, r2) := H
      have A10 := Aside0.mk A100
      clear A100
      by_cases c11 : t129 = 0
      · rw [if_pos c11] at H
        have c11b0 : (t129 == 0) = true := beq_iff_eq.mpr c11
        have c11b1 : (t129 != 0) = false := bne_eq_false_iff_eq.mpr c11
        clear c11
        replace H := Option.bind_eq_some_iff.mp H
        obtain ⟨⟨t130, t131⟩, A120, H⟩ := H
        replace H : (some (t130, (t131 == 0))) = some (r1, r2) := H
        have A12 := Aside0.mk A120
        clear A120
        simp only [Option.some.injEq, Prod.mk.injEq] at H
        obtain ⟨rfl, rfl⟩ := H
        go_enter Tryd.func33, Tryd.ntmps33
        go_wp2_with (first | ((with_reducible refine gate_dst (N := 2) rfl ?_); refine box_event ?hg (N := 2) ?hd (cs := #[.string a0_0, .int .i64 a0_1, .string a0_2]) (t := 50) ?hr ?_; (case hd => rfl); (case hg => rfl); (case hr => first | (go_simp; done) | (go_simp; rfl)); intro gb127 hg w13 hbox hb; have n0_ := Aside0.mk (below_step (by repeat (first | (with_reducible first | exact HB.out | apply below_alloc | apply pw_below_drewN | apply below_drew1) | exact HB.out)) hb); have n1_ := Aside0.mk (hbox); have n2_ := Aside0.mk ((by rw [hg]; exact (below_size (by repeat (first | (with_reducible first | exact HB.out | apply below_alloc | apply pw_below_drewN | apply below_drew1) | exact HB.out))) : w.heap.size ≤ gb127)); have n3_ := Aside0.mk ((by rw [hg]; exact (below_size (by repeat (first | (with_reducible first | exact HB.out | apply below_alloc | apply pw_below_drewN | apply below_drew1) | exact HB.out))) : w.heap.size ≤ gb127)); clear HB; have HB := n0_; have BK127 := n1_; have GW127 := n2_; have GE127 := n3_; clear n0_ n1_ n2_ n3_; clear hb hbox hg; have hcz14_0 : w13.cell? ⟨gb127, 0, none⟩ = some (.string a0_0) := (blk_cell BK127.out 0).trans rfl; have hcz14_1 : w13.cell? ⟨gb127, 1, none⟩ = some (.int .i64 a0_1) := (blk_cell BK127.out 1).trans rfl; have hcz14_2 : w13.cell? ⟨gb127, 2, none⟩ = some (.string a0_2) := (blk_cell BK127.out 2).trans rfl; have hfz14_0 := blk_frozen BK127.out 0; have hfz14_1 := blk_frozen BK127.out 1; have hfz14_2 := blk_frozen BK127.out 2) | ((with_reducible refine gate_callee (f := 42) rfl ?_); refine goesL_ (some 24) rfl rfl Tryd.func42 (by kernel_rfl) rfl #[.string a1, .int .u32 10] rfl (by (try simp only [List.map_toArray, List.map_cons, List.map_nil]); first | done | rfl | (simp only [List.length_drop, List.length_take]; rfl)) ?_; (with_reducible refine (digit_Parse.calls k a1 10 t128 t129 _ A10.out).mono ?_); rintro e w' ⟨rfl, ⟨nd, rfl⟩⟩; refine ⟨_, rfl, ?_⟩) | ((with_reducible refine gate_callee (f := 43) rfl ?_); refine goesL_ (some 31) rfl rfl Tryd.func43 (by kernel_rfl) rfl #[.int .u32 t128, .int .u32 10] rfl (by (try simp only [List.map_toArray, List.map_cons, List.map_nil]); first | done | rfl | (simp only [List.length_drop, List.length_take]; rfl)) ?_; (with_reducible refine (digit_Show.calls t128 10 t130 t131 _ A12.out ?sidet).mono ?_); (case sidet => exact HT.out.below (by repeat (first | (with_reducible first | exact HB.out | apply below_alloc | apply pw_below_drewN | apply below_drew1 | refine below_set ?_ GE127.out) | exact HB.out))); rintro e w15 ⟨rfl, hb⟩; refine ⟨_, rfl, ?_⟩; have n0_ := Aside0.mk (blk_below (g := gb127) (o := .cells #[.string a0_0, .int .i64 a0_1, .string a0_2] 50 (0, 0)) (by (with_reducible repeat (first | refine blk_drewN ?_ _ | refine blk_drew ?_ | refine blk_alloc ?_ _)); exact BK127.out) hb); have n1_ := Aside0.mk (below_step (by repeat (first | (with_reducible first | exact HB.out | apply below_alloc | apply pw_below_drewN | apply below_drew1 | refine below_set ?_ GE127.out) | exact HB.out)) hb); clear BK127; clear HB; have BK127 := n0_; have HB := n1_; clear n0_ n1_; (try clear hb); (try clear hb2); (try clear hk); (try clear hi)))
        go_ret2
        exact ⟨by first | rfl | (simp [errW_none, errW_some] <;> rfl) | (simp [*, errW_none, errW_some] <;> rfl), by repeat (first | (with_reducible first | exact HB.out | apply below_alloc | apply pw_below_drewN | apply below_drew1 | refine below_set ?_ GE127.out) | exact HB.out)⟩
      · rw [if_neg c11] at H
        have c11b0 : (t129 == 0) = false := beq_eq_false_iff_ne.mpr c11
        have c11b1 : (t129 != 0) = true := bne_iff_ne.mpr c11
        simp only [Option.some.injEq, Prod.mk.injEq] at H
        obtain ⟨rfl, rfl⟩ := H
        go_enter Tryd.func33, Tryd.ntmps33
        go_wp2_with (first | ((with_reducible refine gate_dst (N := 2) rfl ?_); refine box_event ?hg (N := 2) ?hd (cs := #[.string a0_0, .int .i64 a0_1, .string a0_2]) (t := 50) ?hr ?_; (case hd => rfl); (case hg => rfl); (case hr => first | (go_simp; done) | (go_simp; rfl)); intro gb127 hg w16 hbox hb; have n0_ := Aside0.mk (below_step (by repeat (first | (with_reducible first | exact HB.out | apply below_alloc | apply pw_below_drewN | apply below_drew1) | exact HB.out)) hb); have n1_ := Aside0.mk (hbox); have n2_ := Aside0.mk ((by rw [hg]; exact (below_size (by repeat (first | (with_reducible first | exact HB.out | apply below_alloc | apply pw_below_drewN | apply below_drew1) | exact HB.out))) : w.heap.size ≤ gb127)); have n3_ := Aside0.mk ((by rw [hg]; exact (below_size (by repeat (first | (with_reducible first | exact HB.out | apply below_alloc | apply pw_below_drewN | apply below_drew1) | exact HB.out))) : w.heap.size ≤ gb127)); clear HB; have HB := n0_; have BK127 := n1_; have GW127 := n2_; have GE127 := n3_; clear n0_ n1_ n2_ n3_; clear hb hbox hg; have hcz17_0 : w16.cell? ⟨gb127, 0, none⟩ = some (.string a0_0) := (blk_cell BK127.out 0).trans rfl; have hcz17_1 : w16.cell? ⟨gb127, 1, none⟩ = some (.int .i64 a0_1) := (blk_cell BK127.out 1).trans rfl; have hcz17_2 : w16.cell? ⟨gb127, 2, none⟩ = some (.string a0_2) := (blk_cell BK127.out 2).trans rfl; have hfz17_0 := blk_frozen BK127.out 0; have hfz17_1 := blk_frozen BK127.out 1; have hfz17_2 := blk_frozen BK127.out 2) | ((with_reducible refine gate_callee (f := 42) rfl ?_); refine goesL_ (some 24) rfl rfl Tryd.func42 (by kernel_rfl) rfl #[.string a1, .int .u32 10] rfl (by (try simp only [List.map_toArray, List.map_cons, List.map_nil]); first | done | rfl | (simp only [List.length_drop, List.length_take]; rfl)) ?_; (with_reducible refine (digit_Parse.calls k a1 10 t128 t129 _ A10.out).mono ?_); rintro e w' ⟨rfl, ⟨nd, rfl⟩⟩; refine ⟨_, rfl, ?_⟩))
        go_ret2
        exact ⟨by first | rfl | (simp [errW_none, errW_some] <;> rfl) | (simp [*, errW_none, errW_some] <;> rfl), by repeat (first | (with_reducible first | exact HB.out | apply below_alloc | apply pw_below_drewN | apply below_drew1 | refine below_set ?_ GE127.out) | exact HB.out)⟩
    · rw [if_neg c9] at H
      have c9b0 : (a0_1 == 1) = false := beq_eq_false_iff_ne.mpr c9
      have c9b1 : (a0_1 != 1) = true := bne_iff_ne.mpr c9
      have H' := Aside0.mk H
      clear H
      go_enter Tryd.func33, Tryd.ntmps33
      go_wp2_with (first | ((with_reducible refine gate_dst (N := 2) rfl ?_); refine box_event ?hg (N := 2) ?hd (cs := #[.string a0_0, .int .i64 a0_1, .string a0_2]) (t := 50) ?hr ?_; (case hd => rfl); (case hg => rfl); (case hr => first | (go_simp; done) | (go_simp; rfl)); intro gb127 hg w18 hbox hb; have n0_ := Aside0.mk (below_step (by repeat (first | (with_reducible first | exact HB.out | apply below_alloc | apply pw_below_drewN | apply below_drew1) | exact HB.out)) hb); have n1_ := Aside0.mk (hbox); have n2_ := Aside0.mk ((by rw [hg]; exact (below_size (by repeat (first | (with_reducible first | exact HB.out | apply below_alloc | apply pw_below_drewN | apply below_drew1) | exact HB.out))) : w.heap.size ≤ gb127)); have n3_ := Aside0.mk ((by rw [hg]; exact (below_size (by repeat (first | (with_reducible first | exact HB.out | apply below_alloc | apply pw_below_drewN | apply below_drew1) | exact HB.out))) : w.heap.size ≤ gb127)); clear HB; have HB := n0_; have BK127 := n1_; have GW127 := n2_; have GE127 := n3_; clear n0_ n1_ n2_ n3_; clear hb hbox hg; have hcz19_0 : w18.cell? ⟨gb127, 0, none⟩ = some (.string a0_0) := (blk_cell BK127.out 0).trans rfl; have hcz19_1 : w18.cell? ⟨gb127, 1, none⟩ = some (.int .i64 a0_1) := (blk_cell BK127.out 1).trans rfl; have hcz19_2 : w18.cell? ⟨gb127, 2, none⟩ = some (.string a0_2) := (blk_cell BK127.out 2).trans rfl; have hfz19_0 := blk_frozen BK127.out 0; have hfz19_1 := blk_frozen BK127.out 1; have hfz19_2 := blk_frozen BK127.out 2))
      go_loopg [39] k (fun kq v39 w' => ∃ (x39_1 : Int), v39 = .int .i64 x39_1 ∧ Aside0 (vars_variable_form.l0 kq a1 (a1.size : Int) x39_1 = some (r1, r2)) ∧ Aside0 (kq ≤ k) ∧ Aside0 (w'.heap[gb127]? = some (.cells #[.string a0_0, .int .i64 a0_1, .string a0_2] 50 (0, 0))) ∧ Aside0 (Below w.heap.size w w'))
      case atStart => exact ⟨(0), (by first | rfl | (simp; done) | (simp [*]; done)), H', ⟨Nat.le_refl _⟩, ⟨by (with_reducible repeat (first | refine blk_drewN ?_ _ | refine blk_drew ?_ | refine blk_alloc ?_ _)); exact BK127.out⟩, ⟨by repeat (first | (with_reducible first | exact HB.out | apply below_alloc | apply pw_below_drewN | apply below_drew1 | refine below_set ?_ GE127.out) | exact HB.out)⟩⟩
      case round =>
        clear H'
        try clear c1
        try clear p2
        try clear c3
        try clear c3b0
        try clear c3b1
        try clear c4
        try clear c4b0
        try clear c4b1
        try clear c9
        try clear c9b0
        try clear c9b1
        try clear c11
        try clear c11b0
        try clear c11b1
        try clear hcz14_0
        try clear hcz14_1
        try clear hcz14_2
        try clear hcz17_0
        try clear hcz17_1
        try clear hcz17_2
        try clear hcz19_0
        try clear hcz19_1
        try clear hcz19_2
        try clear hcz6_0
        try clear hcz6_1
        try clear hcz6_2
        try clear hcz8_0
        try clear hcz8_1
        try clear hcz8_2
        try clear hfz14_0
        try clear hfz14_1
        try clear hfz14_2
        try clear hfz17_0
        try clear hfz17_1
        try clear hfz17_2
        try clear hfz19_0
        try clear hfz19_1
        try clear hfz19_2
        try clear hfz6_0
        try clear hfz6_1
        try clear hfz6_2
        try clear hfz8_0
        try clear hfz8_1
        try clear hfz8_2
        obtain ⟨x39_1, rfl, HA, HK1, BK127, HB⟩ := hrel
        cases gk with
        | zero => exact absurd HA.out (by simp [vars_variable_form.l0])
        | succ k1 =>
          have H := HA.out
          clear HA
          simp only [vars_variable_form.l0] at H
          by_cases c20 : x39_1 < (a1.size : Int)
          · rw [if_pos c20] at H
            have c20b0 : decide (x39_1 < (a1.size : Int)) = true := decide_eq_true c20
            clear c20
            by_cases c21 : 0 ≤ x39_1
            · rw [if_pos c21] at H
              have c21b0 : decide (0 ≤ x39_1) = true := decide_eq_true c21
              clear c21
              by_cases c22 : x39_1 < (a1.size : Int)
              · rw [if_pos c22] at H
                have c22b0 : decide (x39_1 < (a1.size : Int)) = true := decide_eq_true c22
                clear c22
                by_cases c24 : (bt a1 x39_1) < 32
                · rw [if_pos c24] at H
                  have c24b0 : decide ((bt a1 x39_1) < 32) = true := decide_eq_true c24
                  clear c24
                  simp only [Option.some.injEq, Prod.mk.injEq] at H
                  obtain ⟨rfl, rfl⟩ := H
                  have p23 : 0 ≤ (x39_1 : Int) := of_decide_eq_true (by first | (with_reducible assumption) | assumption)
                  have q23 : x39_1 < (a1.size : Int) := of_decide_eq_true (by first | (with_reducible assumption) | assumption)
                  have hx23 := bt_at a1 x39_1
                  replace p23 := eq_true p23
                  replace q23 := eq_true q23
                  go_wp2
                  go_ret2
                  exact ⟨by first | rfl | (simp [errW_none, errW_some] <;> rfl) | (simp [*, errW_none, errW_some] <;> rfl), by repeat (first | (with_reducible first | exact HB.out | apply below_alloc | apply pw_below_drewN | apply below_drew1 | refine below_set ?_ GE127.out) | exact HB.out)⟩
                · rw [if_neg c24] at H
                  have c24b0 : decide ((bt a1 x39_1) < 32) = false := decide_eq_false c24
                  clear c24
                  by_cases c26 : (bt a1 x39_1) > 126
                  · rw [if_pos c26] at H
                    have c26b0 : decide (126 < (bt a1 x39_1)) = true := decide_eq_true c26
                    clear c26
                    simp only [Option.some.injEq, Prod.mk.injEq] at H
                    obtain ⟨rfl, rfl⟩ := H
                    have p23 : 0 ≤ (x39_1 : Int) := of_decide_eq_true (by first | (with_reducible assumption) | assumption)
                    have q23 : x39_1 < (a1.size : Int) := of_decide_eq_true (by first | (with_reducible assumption) | assumption)
                    have hx23 := bt_at a1 x39_1
                    replace p23 := eq_true p23
                    replace q23 := eq_true q23
                    have p25 : 0 ≤ (x39_1 : Int) := of_decide_eq_true (by first | (with_reducible assumption) | assumption)
                    have q25 : x39_1 < (a1.size : Int) := of_decide_eq_true (by first | (with_reducible assumption) | assumption)
                    have hx25 := bt_at a1 x39_1
                    replace p25 := eq_true p25
                    replace q25 := eq_true q25
                    go_wp2
                    go_ret2
                    exact ⟨by first | rfl | (simp [errW_none, errW_some] <;> rfl) | (simp [*, errW_none, errW_some] <;> rfl), by repeat (first | (with_reducible first | exact HB.out | apply below_alloc | apply pw_below_drewN | apply below_drew1 | refine below_set ?_ GE127.out) | exact HB.out)⟩
                  · rw [if_neg c26] at H
                    have c26b0 : decide (126 < (bt a1 x39_1)) = false := decide_eq_false c26
                    clear c26
                    have H' := Aside0.mk H
                    clear H
                    have p23 : 0 ≤ (x39_1 : Int) := of_decide_eq_true (by first | (with_reducible assumption) | assumption)
                    have q23 : x39_1 < (a1.size : Int) := of_decide_eq_true (by first | (with_reducible assumption) | assumption)
                    have hx23 := bt_at a1 x39_1
                    replace p23 := eq_true p23
                    replace q23 := eq_true q23
                    have p25 : 0 ≤ (x39_1 : Int) := of_decide_eq_true (by first | (with_reducible assumption) | assumption)
                    have q25 : x39_1 < (a1.size : Int) := of_decide_eq_true (by first | (with_reducible assumption) | assumption)
                    have hx25 := bt_at a1 x39_1
                    replace p25 := eq_true p25
                    replace q25 := eq_true q25
                    go_wp2
                    go_roundg k1
                    case measure => have := HK1.out; omega
                    case rel => exact ⟨(wrap64 (x39_1 + 1)), (by first | rfl | (simp; done) | (simp [*]; done)), H', ⟨by have := HK1.out; omega⟩, ⟨by (with_reducible repeat (first | refine blk_drewN ?_ _ | refine blk_drew ?_ | refine blk_alloc ?_ _)); exact BK127.out⟩, ⟨by repeat (first | (with_reducible first | exact HB.out | apply below_alloc | apply pw_below_drewN | apply below_drew1 | refine below_set ?_ GE127.out) | exact HB.out)⟩⟩
              · rw [if_neg c22] at H
                exact absurd H (by simp)
            · rw [if_neg c21] at H
              exact absurd H (by simp)
          · rw [if_neg c20] at H
            have c20b0 : decide (x39_1 < (a1.size : Int)) = false := decide_eq_false c20
            clear c20
            simp only [Option.some.injEq, Prod.mk.injEq] at H
            obtain ⟨rfl, rfl⟩ := H
            go_wp2
            go_ret2
            exact ⟨by first | rfl | (simp [errW_none, errW_some] <;> rfl) | (simp [*, errW_none, errW_some] <;> rfl), by repeat (first | (with_reducible first | exact HB.out | apply below_alloc | apply pw_below_drewN | apply below_drew1 | refine below_set ?_ GE127.out) | exact HB.out)⟩

end Go.Proofs.YtdobpgomgnaleaaDoor.P
