/- The machine's side: functions of the translation as plain Lean functions, and that the machine's calls come to what they say. No condition. Written by a program (wip/tools/pp.py over the kit's printer); Lean checks it. -/
import Derived.Test.YtfaebbmngplilaaPx0
import Derived.Test.YtfaebbmngplilaaPx7
namespace Go.Proofs.Ytfaebbmngplilaa.P
open Go.RowKit Go.Proofs.YtfaebbmngplilaaW.PrintWords Go.Proofs.YtfaebbmngplilaaW.PrintLast Go.Proofs.YtfaebbmngplilaaW.PrintMore
attribute [local go_sem] max2_int min2_int max_two min_two max_three min_three max_four min_four   -- for this text's walks alone
set_option linter.unusedVariables false
set_option linter.unusedSimpArgs false

/-! ### tinderref13_Bytes: function 23 -/
mutual
def tinderref13_Bytes.j0 : Nat → Bool → Int → Bool → Int → Int → ByteArray → Int → Option (List Int × Bool)
  | 0, _, _, _, _, _, _, _ => none
  | k + 1, x1, x6, x56, x118000, x118001, x118002, x118003 => if x56 = true then (some (([] : List Int), false)) else ((tinderref13_code.f x118000).bind fun t120 => (if x6 = 1 then ((tinderref13_two.f (wrap64 (Int.tdiv (wrap64 (x118001)) 65536))).bind fun t123 => (if t120.length + t123.length < 140737488355328 then ((some (t120 ++ t123 : List Int)).bind fun y126 => ((tinderref13_two.f (Int.tmod (wrap64 (x118001)) 65536)).bind fun t129 => (if y126.length + t129.length < 140737488355328 then (some ((y126 ++ t129), true)) else (none)))) else (none))) else (if x6 = 2 then ((tinderref13_Coded.f (wrap64 (x118001))).bind fun t135 => (if t135 = true then ((tinderref13_code.f (wrap64 (x118001))).bind fun t136 => (if t120.length + t136.length < 140737488355328 then (some ((t120 ++ t136), true)) else (none))) else (some (([] : List Int), false)))) else (if x6 = 3 then (if (x118002.size : Int) > 255 then (some (([] : List Int), false)) else (if t120.length < 140737488355328 then ((some (t120 ++ [((x118002.size : Int)) % 256] : List Int)).bind fun y142 => (if y142.length + x118002.size < 140737488355328 then (some ((y142 ++ bytesOf x118002), true)) else (none))) else (none))) else (if x6 = 4 then (if x1 = true then ((tinderref13_two.f (wrap64 (x118003 + 65536))).bind fun t148 => (if t120.length + t148.length < 140737488355328 then ((some (t120 ++ t148 : List Int)).bind fun y151 => (if x118003 ≥ (-32768) then (some (y151, decide (x118003 ≤ 32767))) else (some (y151, false)))) else (none))) else (if t120.length < 140737488355328 then ((some (t120 ++ [(Int.tmod (wrap64 (x118003 + 256)) 256) % 256] : List Int)).bind fun y154 => (if x118003 ≥ (-128) then (some (y154, decide (x118003 ≤ 127))) else (some (y154, false)))) else (none))) else (if x6 = 5 then (tinderref13_Bytes.j1 k x6 t120 (wrap64 (x118001)) (x6 == 5) x118000 x118001 x118002 x118003) else (tinderref13_Bytes.j1 k x6 t120 (wrap64 (x118001)) (x6 == 6) x118000 x118001 x118002 x118003)))))))
def tinderref13_Bytes.j1 : Nat → Int → List Int → Int → Bool → Int → Int → ByteArray → Int → Option (List Int × Bool)
  | 0, _, _, _, _, _, _, _, _ => none
  | k + 1, x6, x7, x8, x135, x118000, x118001, x118002, x118003 => if x135 = true then (if x8 < 2048 then (tinderref13_Bytes.j2 k x6 x7 x8 true x118000 x118001 x118002 x118003) else (if x8 > 4095 then (tinderref13_Bytes.j2 k x6 x7 x8 true x118000 x118001 x118002 x118003) else (tinderref13_Bytes.j2 k x6 x7 x8 (decide ((x118002.size : Int) > 31)) x118000 x118001 x118002 x118003))) else (some (x7, true))
def tinderref13_Bytes.j2 : Nat → Int → List Int → Int → Bool → Int → Int → ByteArray → Int → Option (List Int × Bool)
  | 0, _, _, _, _, _, _, _, _ => none
  | k + 1, x6, x7, x8, x149, x118000, x118001, x118002, x118003 => if x149 = true then (some (([] : List Int), false)) else (if x6 = 6 then (if x7.length < 140737488355328 then ((some (x7 ++ [((x118002.size : Int)) % 256] : List Int)).bind fun y157 => (if y157.length + x118002.size < 140737488355328 then ((some (y157 ++ bytesOf x118002 : List Int)).bind fun y160 => ((tinderref13_two.f x8).bind fun t163 => (if y160.length + t163.length < 140737488355328 then (some ((y160 ++ t163), true)) else (none)))) else (none))) else (none)) else ((tinderref13_two.f x8).bind fun t169 => (if x7.length + t169.length < 140737488355328 then (some ((x7 ++ t169), true)) else (none))))
end
def tinderref13_Bytes.f (k : Nat) (a0_0 : Int) (a0_1 : Int) (a0_2 : ByteArray) (a0_3 : Int) (a1 : Bool) : Option (List Int × Bool) := (tinderref13_Coded.f a0_0).bind fun t118 => (if t118 = true then ((tinderref13_Behind.f k a0_0).bind fun t119 => (if t119 = 1 then (if t119 = 3 then (if t119 = 4 then (tinderref13_Bytes.j0 k a1 t119 false a0_0 a0_1 a0_2 a0_3) else (tinderref13_Bytes.j0 k a1 t119 (a0_3 != 0) a0_0 a0_1 a0_2 a0_3)) else (if t119 = 6 then (if t119 = 4 then (tinderref13_Bytes.j0 k a1 t119 false a0_0 a0_1 a0_2 a0_3) else (tinderref13_Bytes.j0 k a1 t119 (a0_3 != 0) a0_0 a0_1 a0_2 a0_3)) else (if a0_2.toList = ([] : List UInt8) then (if t119 = 4 then (tinderref13_Bytes.j0 k a1 t119 false a0_0 a0_1 a0_2 a0_3) else (tinderref13_Bytes.j0 k a1 t119 (a0_3 != 0) a0_0 a0_1 a0_2 a0_3)) else (tinderref13_Bytes.j0 k a1 t119 true a0_0 a0_1 a0_2 a0_3)))) else (if t119 = 2 then (if t119 = 3 then (if t119 = 4 then (tinderref13_Bytes.j0 k a1 t119 false a0_0 a0_1 a0_2 a0_3) else (tinderref13_Bytes.j0 k a1 t119 (a0_3 != 0) a0_0 a0_1 a0_2 a0_3)) else (if t119 = 6 then (if t119 = 4 then (tinderref13_Bytes.j0 k a1 t119 false a0_0 a0_1 a0_2 a0_3) else (tinderref13_Bytes.j0 k a1 t119 (a0_3 != 0) a0_0 a0_1 a0_2 a0_3)) else (if a0_2.toList = ([] : List UInt8) then (if t119 = 4 then (tinderref13_Bytes.j0 k a1 t119 false a0_0 a0_1 a0_2 a0_3) else (tinderref13_Bytes.j0 k a1 t119 (a0_3 != 0) a0_0 a0_1 a0_2 a0_3)) else (tinderref13_Bytes.j0 k a1 t119 true a0_0 a0_1 a0_2 a0_3)))) else (if t119 = 5 then (if t119 = 3 then (if t119 = 4 then (tinderref13_Bytes.j0 k a1 t119 false a0_0 a0_1 a0_2 a0_3) else (tinderref13_Bytes.j0 k a1 t119 (a0_3 != 0) a0_0 a0_1 a0_2 a0_3)) else (if t119 = 6 then (if t119 = 4 then (tinderref13_Bytes.j0 k a1 t119 false a0_0 a0_1 a0_2 a0_3) else (tinderref13_Bytes.j0 k a1 t119 (a0_3 != 0) a0_0 a0_1 a0_2 a0_3)) else (if a0_2.toList = ([] : List UInt8) then (if t119 = 4 then (tinderref13_Bytes.j0 k a1 t119 false a0_0 a0_1 a0_2 a0_3) else (tinderref13_Bytes.j0 k a1 t119 (a0_3 != 0) a0_0 a0_1 a0_2 a0_3)) else (tinderref13_Bytes.j0 k a1 t119 true a0_0 a0_1 a0_2 a0_3)))) else (if t119 = 6 then (if t119 = 3 then (if t119 = 4 then (tinderref13_Bytes.j0 k a1 t119 false a0_0 a0_1 a0_2 a0_3) else (tinderref13_Bytes.j0 k a1 t119 (a0_3 != 0) a0_0 a0_1 a0_2 a0_3)) else (if t119 = 4 then (tinderref13_Bytes.j0 k a1 t119 false a0_0 a0_1 a0_2 a0_3) else (tinderref13_Bytes.j0 k a1 t119 (a0_3 != 0) a0_0 a0_1 a0_2 a0_3))) else (if a0_1 = 0 then (if t119 = 3 then (if t119 = 4 then (tinderref13_Bytes.j0 k a1 t119 false a0_0 a0_1 a0_2 a0_3) else (tinderref13_Bytes.j0 k a1 t119 (a0_3 != 0) a0_0 a0_1 a0_2 a0_3)) else (if a0_2.toList = ([] : List UInt8) then (if t119 = 4 then (tinderref13_Bytes.j0 k a1 t119 false a0_0 a0_1 a0_2 a0_3) else (tinderref13_Bytes.j0 k a1 t119 (a0_3 != 0) a0_0 a0_1 a0_2 a0_3)) else (tinderref13_Bytes.j0 k a1 t119 true a0_0 a0_1 a0_2 a0_3))) else (tinderref13_Bytes.j0 k a1 t119 true a0_0 a0_1 a0_2 a0_3))))))) else (some (([] : List Int), false)))
theorem tinderref13_Bytes.mono_l : ∀ k, (∀ y0 y1 y2 y3 y4 y5 y6, LeO (tinderref13_Bytes.j0 k y0 y1 y2 y3 y4 y5 y6) (tinderref13_Bytes.j0 (k + 1) y0 y1 y2 y3 y4 y5 y6)) ∧ (∀ y0 y1 y2 y3 y4 y5 y6 y7, LeO (tinderref13_Bytes.j1 k y0 y1 y2 y3 y4 y5 y6 y7) (tinderref13_Bytes.j1 (k + 1) y0 y1 y2 y3 y4 y5 y6 y7)) ∧ (∀ y0 y1 y2 y3 y4 y5 y6 y7, LeO (tinderref13_Bytes.j2 k y0 y1 y2 y3 y4 y5 y6 y7) (tinderref13_Bytes.j2 (k + 1) y0 y1 y2 y3 y4 y5 y6 y7))
  | 0 => ⟨fun _ _ _ _ _ _ _ r h => by simp [tinderref13_Bytes.j0] at h, fun _ _ _ _ _ _ _ _ r h => by simp [tinderref13_Bytes.j1] at h, fun _ _ _ _ _ _ _ _ r h => by simp [tinderref13_Bytes.j2] at h⟩
  | k + 1 => by
    obtain ⟨ih0, ih1, ih2⟩ := tinderref13_Bytes.mono_l k
    refine ⟨?_, ?_, ?_⟩
    · intro y0 y1 y2 y3 y4 y5 y6
      unfold tinderref13_Bytes.j0
      repeat' first
      | (with_reducible exact ih0 _ _ _ _ _ _ _)
      | (with_reducible exact ih1 _ _ _ _ _ _ _ _)
      | (with_reducible exact ih2 _ _ _ _ _ _ _ _)
      | (with_reducible exact tinderref13_Behind.mono _ _)
      | (with_reducible exact LeO.refl _)
      | (with_reducible exact LeO.none _)
      | (with_reducible refine LeO.ite ?_ ?_)
      | (with_reducible refine LeO.bind ?_ (fun _ => ?_))
      | exact ih0 _ _ _ _ _ _ _
      | exact ih1 _ _ _ _ _ _ _ _
      | exact ih2 _ _ _ _ _ _ _ _
      | exact tinderref13_Behind.mono _ _
      | exact LeO.none _
      | refine LeO.ite ?_ ?_
      | refine LeO.bind ?_ (fun _ => ?_)
    · intro y0 y1 y2 y3 y4 y5 y6 y7
      unfold tinderref13_Bytes.j1
      repeat' first
      | (with_reducible exact ih0 _ _ _ _ _ _ _)
      | (with_reducible exact ih1 _ _ _ _ _ _ _ _)
      | (with_reducible exact ih2 _ _ _ _ _ _ _ _)
      | (with_reducible exact tinderref13_Behind.mono _ _)
      | (with_reducible exact LeO.refl _)
      | (with_reducible exact LeO.none _)
      | (with_reducible refine LeO.ite ?_ ?_)
      | (with_reducible refine LeO.bind ?_ (fun _ => ?_))
      | exact ih0 _ _ _ _ _ _ _
      | exact ih1 _ _ _ _ _ _ _ _
      | exact ih2 _ _ _ _ _ _ _ _
      | exact tinderref13_Behind.mono _ _
      | exact LeO.none _
      | refine LeO.ite ?_ ?_
      | refine LeO.bind ?_ (fun _ => ?_)
    · intro y0 y1 y2 y3 y4 y5 y6 y7
      unfold tinderref13_Bytes.j2
      repeat' first
      | (with_reducible exact ih0 _ _ _ _ _ _ _)
      | (with_reducible exact ih1 _ _ _ _ _ _ _ _)
      | (with_reducible exact ih2 _ _ _ _ _ _ _ _)
      | (with_reducible exact tinderref13_Behind.mono _ _)
      | (with_reducible exact LeO.refl _)
      | (with_reducible exact LeO.none _)
      | (with_reducible refine LeO.ite ?_ ?_)
      | (with_reducible refine LeO.bind ?_ (fun _ => ?_))
      | exact ih0 _ _ _ _ _ _ _
      | exact ih1 _ _ _ _ _ _ _ _
      | exact ih2 _ _ _ _ _ _ _ _
      | exact tinderref13_Behind.mono _ _
      | exact LeO.none _
      | refine LeO.ite ?_ ?_
      | refine LeO.bind ?_ (fun _ => ?_)
theorem tinderref13_Bytes.mono : ∀ a0 a1 a2 a3 a4 k, LeO (tinderref13_Bytes.f k a0 a1 a2 a3 a4) (tinderref13_Bytes.f (k + 1) a0 a1 a2 a3 a4) := by
  intro a0 a1 a2 a3 a4 k
  obtain ⟨ih0, ih1, ih2⟩ := tinderref13_Bytes.mono_l k
  unfold tinderref13_Bytes.f
  repeat' first
      | (with_reducible exact ih0 _ _ _ _ _ _ _)
      | (with_reducible exact ih1 _ _ _ _ _ _ _ _)
      | (with_reducible exact ih2 _ _ _ _ _ _ _ _)
      | (with_reducible exact tinderref13_Behind.mono _ _)
      | (with_reducible exact LeO.refl _)
      | (with_reducible exact LeO.none _)
      | (with_reducible refine LeO.ite ?_ ?_)
      | (with_reducible refine LeO.bind ?_ (fun _ => ?_))
      | exact ih0 _ _ _ _ _ _ _
      | exact ih1 _ _ _ _ _ _ _ _
      | exact ih2 _ _ _ _ _ _ _ _
      | exact tinderref13_Behind.mono _ _
      | exact LeO.none _
      | refine LeO.ite ?_ ?_
      | refine LeO.bind ?_ (fun _ => ?_)
def tinderref13_Bytes.T23 : Bool × List (List Nat × List Nat) := (true, [([], []), ([], []), ([1], [1]), ([2], [2]), ([3], [3]), ([0, 4, 4], [0, 4]), ([], []), ([6], [6]), ([7], [7]), ([8, 5], [8]), ([9], [9]), ([10, 9], [9, 10]), ([11, 9], [9, 11]), ([9, 12], [9, 12]), ([5, 9, 0, 1, 2, 3, 4, 5], [5]), ([13, 14, 0, 1, 2, 3, 4, 5, 6, 7, 8, 9, 10, 11, 12, 13, 14], [13])])
def tinderref13_Bytes.B23 : List Nat := [0, 0, 2, 6, 14, 31, 0, 64, 192, 511, 1023, 2047, 4095, 8191, 1023, 32767]
theorem tinderref13_Bytes.tab23 : rtab .any (opsOf Try.f23 23) = tinderref13_Bytes.T23 := by kernel_rfl
theorem tinderref13_Bytes.bits23 : waitsOk tinderref13_Bytes.T23.2 tinderref13_Bytes.B23 = true := by kernel_rfl
def tinderref13_Bytes.T24 : Bool × List (List Nat × List Nat) := (true, [([], []), ([], []), ([1], [1]), ([2], [2]), ([3], [3]), ([4], [4]), ([5], [5]), ([0, 6], [0, 6]), ([], []), ([8], [8]), ([9], [9]), ([10, 7], [10]), ([11], [11]), ([12, 11], [11, 12]), ([13, 11], [11, 13]), ([11, 14], [11, 14]), ([7, 11, 0, 1, 2, 3, 4, 5, 6, 7], [7]), ([15, 16, 0, 1, 2, 3, 4, 5, 6, 7, 8, 9, 10, 11, 12, 13, 14, 15, 16], [15])])
def tinderref13_Bytes.B24 : List Nat := [0, 0, 2, 6, 14, 30, 62, 127, 0, 256, 768, 2047, 4095, 8191, 16383, 32767, 4095, 131071]
theorem tinderref13_Bytes.tab24 : rtab .any (opsOf Try.f23 24) = tinderref13_Bytes.T24 := by kernel_rfl
theorem tinderref13_Bytes.bits24 : waitsOk tinderref13_Bytes.T24.2 tinderref13_Bytes.B24 = true := by kernel_rfl
set_option maxHeartbeats 8000000 in
set_option maxRecDepth 100000 in
theorem tinderref13_Bytes.calls (k : Nat) (a0_0 : Int) (a0_1 : Int) (a0_2 : ByteArray) (a0_3 : Int) (a1 : Bool) (r1 : List Int) (r2 : Bool) (w : World) (h : tinderref13_Bytes.f k a0_0 a0_1 a0_2 a0_3 a1 = some (r1, r2)) :
    Calls Try.prog 23 #[.agg #[.int .i64 a0_0, .int .u32 a0_1, .string a0_2, .int .i64 a0_3], .bool a1] w fun e w' => ∃ v0_ : Value, e = .returned (.tuple #[v0_, .bool r2]) ∧ Kd.R (Kd.int .u8) 5 w' w.heap.size (fun _ => True) v0_ r1 ∧ Below w.heap.size w w' := by
  have hu34 := Try.underlying34
  have HB := Aside0.mk (Below.refl w.heap.size w)
  have H : ((tinderref13_Coded.f a0_0).bind fun t118 => (if t118 = true then ((tinderref13_Behind.f k a0_0).bind fun t119 => (if t119 = 1 then (if t119 = 3 then (if t119 = 4 then (tinderref13_Bytes.j0 k a1 t119 false a0_0 a0_1 a0_2 a0_3) else (tinderref13_Bytes.j0 k a1 t119 (a0_3 != 0) a0_0 a0_1 a0_2 a0_3)) else (if t119 = 6 then (if t119 = 4 then (tinderref13_Bytes.j0 k a1 t119 false a0_0 a0_1 a0_2 a0_3) else (tinderref13_Bytes.j0 k a1 t119 (a0_3 != 0) a0_0 a0_1 a0_2 a0_3)) else (if a0_2.toList = ([] : List UInt8) then (if t119 = 4 then (tinderref13_Bytes.j0 k a1 t119 false a0_0 a0_1 a0_2 a0_3) else (tinderref13_Bytes.j0 k a1 t119 (a0_3 != 0) a0_0 a0_1 a0_2 a0_3)) else (tinderref13_Bytes.j0 k a1 t119 true a0_0 a0_1 a0_2 a0_3)))) else (if t119 = 2 then (if t119 = 3 then (if t119 = 4 then (tinderref13_Bytes.j0 k a1 t119 false a0_0 a0_1 a0_2 a0_3) else (tinderref13_Bytes.j0 k a1 t119 (a0_3 != 0) a0_0 a0_1 a0_2 a0_3)) else (if t119 = 6 then (if t119 = 4 then (tinderref13_Bytes.j0 k a1 t119 false a0_0 a0_1 a0_2 a0_3) else (tinderref13_Bytes.j0 k a1 t119 (a0_3 != 0) a0_0 a0_1 a0_2 a0_3)) else (if a0_2.toList = ([] : List UInt8) then (if t119 = 4 then (tinderref13_Bytes.j0 k a1 t119 false a0_0 a0_1 a0_2 a0_3) else (tinderref13_Bytes.j0 k a1 t119 (a0_3 != 0) a0_0 a0_1 a0_2 a0_3)) else (tinderref13_Bytes.j0 k a1 t119 true a0_0 a0_1 a0_2 a0_3)))) else (if t119 = 5 then (if t119 = 3 then (if t119 = 4 then (tinderref13_Bytes.j0 k a1 t119 false a0_0 a0_1 a0_2 a0_3) else (tinderref13_Bytes.j0 k a1 t119 (a0_3 != 0) a0_0 a0_1 a0_2 a0_3)) else (if t119 = 6 then (if t119 = 4 then (tinderref13_Bytes.j0 k a1 t119 false a0_0 a0_1 a0_2 a0_3) else (tinderref13_Bytes.j0 k a1 t119 (a0_3 != 0) a0_0 a0_1 a0_2 a0_3)) else (if a0_2.toList = ([] : List UInt8) then (if t119 = 4 then (tinderref13_Bytes.j0 k a1 t119 false a0_0 a0_1 a0_2 a0_3) else (tinderref13_Bytes.j0 k a1 t119 (a0_3 != 0) a0_0 a0_1 a0_2 a0_3)) else (tinderref13_Bytes.j0 k a1 t119 true a0_0 a0_1 a0_2 a0_3)))) else (if t119 = 6 then (if t119 = 3 then (if t119 = 4 then (tinderref13_Bytes.j0 k a1 t119 false a0_0 a0_1 a0_2 a0_3) else (tinderref13_Bytes.j0 k a1 t119 (a0_3 != 0) a0_0 a0_1 a0_2 a0_3)) else (if t119 = 4 then (tinderref13_Bytes.j0 k a1 t119 false a0_0 a0_1 a0_2 a0_3) else (tinderref13_Bytes.j0 k a1 t119 (a0_3 != 0) a0_0 a0_1 a0_2 a0_3))) else (if a0_1 = 0 then (if t119 = 3 then (if t119 = 4 then (tinderref13_Bytes.j0 k a1 t119 false a0_0 a0_1 a0_2 a0_3) else (tinderref13_Bytes.j0 k a1 t119 (a0_3 != 0) a0_0 a0_1 a0_2 a0_3)) else (if a0_2.toList = ([] : List UInt8) then (if t119 = 4 then (tinderref13_Bytes.j0 k a1 t119 false a0_0 a0_1 a0_2 a0_3) else (tinderref13_Bytes.j0 k a1 t119 (a0_3 != 0) a0_0 a0_1 a0_2 a0_3)) else (tinderref13_Bytes.j0 k a1 t119 true a0_0 a0_1 a0_2 a0_3))) else (tinderref13_Bytes.j0 k a1 t119 true a0_0 a0_1 a0_2 a0_3))))))) else (some (([] : List Int), false)))) = some (r1, r2) := h
  clear h
  replace H := Option.bind_eq_some_iff.mp H
  obtain ⟨t118, A30, H⟩ := H
  replace H : (if t118 = true then ((tinderref13_Behind.f k a0_0).bind fun t119 => (if t119 = 1 then (if t119 = 3 then (if t119 = 4 then (tinderref13_Bytes.j0 k a1 t119 false a0_0 a0_1 a0_2 a0_3) else (tinderref13_Bytes.j0 k a1 t119 (a0_3 != 0) a0_0 a0_1 a0_2 a0_3)) else (if t119 = 6 then (if t119 = 4 then (tinderref13_Bytes.j0 k a1 t119 false a0_0 a0_1 a0_2 a0_3) else (tinderref13_Bytes.j0 k a1 t119 (a0_3 != 0) a0_0 a0_1 a0_2 a0_3)) else (if a0_2.toList = ([] : List UInt8) then (if t119 = 4 then (tinderref13_Bytes.j0 k a1 t119 false a0_0 a0_1 a0_2 a0_3) else (tinderref13_Bytes.j0 k a1 t119 (a0_3 != 0) a0_0 a0_1 a0_2 a0_3)) else (tinderref13_Bytes.j0 k a1 t119 true a0_0 a0_1 a0_2 a0_3)))) else (if t119 = 2 then (if t119 = 3 then (if t119 = 4 then (tinderref13_Bytes.j0 k a1 t119 false a0_0 a0_1 a0_2 a0_3) else (tinderref13_Bytes.j0 k a1 t119 (a0_3 != 0) a0_0 a0_1 a0_2 a0_3)) else (if t119 = 6 then (if t119 = 4 then (tinderref13_Bytes.j0 k a1 t119 false a0_0 a0_1 a0_2 a0_3) else (tinderref13_Bytes.j0 k a1 t119 (a0_3 != 0) a0_0 a0_1 a0_2 a0_3)) else (if a0_2.toList = ([] : List UInt8) then (if t119 = 4 then (tinderref13_Bytes.j0 k a1 t119 false a0_0 a0_1 a0_2 a0_3) else (tinderref13_Bytes.j0 k a1 t119 (a0_3 != 0) a0_0 a0_1 a0_2 a0_3)) else (tinderref13_Bytes.j0 k a1 t119 true a0_0 a0_1 a0_2 a0_3)))) else (if t119 = 5 then (if t119 = 3 then (if t119 = 4 then (tinderref13_Bytes.j0 k a1 t119 false a0_0 a0_1 a0_2 a0_3) else (tinderref13_Bytes.j0 k a1 t119 (a0_3 != 0) a0_0 a0_1 a0_2 a0_3)) else (if t119 = 6 then (if t119 = 4 then (tinderref13_Bytes.j0 k a1 t119 false a0_0 a0_1 a0_2 a0_3) else (tinderref13_Bytes.j0 k a1 t119 (a0_3 != 0) a0_0 a0_1 a0_2 a0_3)) else (if a0_2.toList = ([] : List UInt8) then (if t119 = 4 then (tinderref13_Bytes.j0 k a1 t119 false a0_0 a0_1 a0_2 a0_3) else (tinderref13_Bytes.j0 k a1 t119 (a0_3 != 0) a0_0 a0_1 a0_2 a0_3)) else (tinderref13_Bytes.j0 k a1 t119 true a0_0 a0_1 a0_2 a0_3)))) else (if t119 = 6 then (if t119 = 3 then (if t119 = 4 then (tinderref13_Bytes.j0 k a1 t119 false a0_0 a0_1 a0_2 a0_3) else (tinderref13_Bytes.j0 k a1 t119 (a0_3 != 0) a0_0 a0_1 a0_2 a0_3)) else (if t119 = 4 then (tinderref13_Bytes.j0 k a1 t119 false a0_0 a0_1 a0_2 a0_3) else (tinderref13_Bytes.j0 k a1 t119 (a0_3 != 0) a0_0 a0_1 a0_2 a0_3))) else (if a0_1 = 0 then (if t119 = 3 then (if t119 = 4 then (tinderref13_Bytes.j0 k a1 t119 false a0_0 a0_1 a0_2 a0_3) else (tinderref13_Bytes.j0 k a1 t119 (a0_3 != 0) a0_0 a0_1 a0_2 a0_3)) else (if a0_2.toList = ([] : List UInt8) then (if t119 = 4 then (tinderref13_Bytes.j0 k a1 t119 false a0_0 a0_1 a0_2 a0_3) else (tinderref13_Bytes.j0 k a1 t119 (a0_3 != 0) a0_0 a0_1 a0_2 a0_3)) else (tinderref13_Bytes.j0 k a1 t119 true a0_0 a0_1 a0_2 a0_3))) else (tinderref13_Bytes.j0 k a1 t119 true a0_0 a0_1 a0_2 a0_3))))))) else (some (([] : List Int), false))) = some (r1, r2) := H
  have A3 := Aside0.mk A30
  clear A30
  by_cases c4 : t118 = true
  · as_aux_lemma =>
    subst c4
    have H1 : ((tinderref13_Behind.f k a0_0).bind fun t119 => (if t119 = 1 then (if t119 = 3 then (if t119 = 4 then (tinderref13_Bytes.j0 k a1 t119 false a0_0 a0_1 a0_2 a0_3) else (tinderref13_Bytes.j0 k a1 t119 (a0_3 != 0) a0_0 a0_1 a0_2 a0_3)) else (if t119 = 6 then (if t119 = 4 then (tinderref13_Bytes.j0 k a1 t119 false a0_0 a0_1 a0_2 a0_3) else (tinderref13_Bytes.j0 k a1 t119 (a0_3 != 0) a0_0 a0_1 a0_2 a0_3)) else (if a0_2.toList = ([] : List UInt8) then (if t119 = 4 then (tinderref13_Bytes.j0 k a1 t119 false a0_0 a0_1 a0_2 a0_3) else (tinderref13_Bytes.j0 k a1 t119 (a0_3 != 0) a0_0 a0_1 a0_2 a0_3)) else (tinderref13_Bytes.j0 k a1 t119 true a0_0 a0_1 a0_2 a0_3)))) else (if t119 = 2 then (if t119 = 3 then (if t119 = 4 then (tinderref13_Bytes.j0 k a1 t119 false a0_0 a0_1 a0_2 a0_3) else (tinderref13_Bytes.j0 k a1 t119 (a0_3 != 0) a0_0 a0_1 a0_2 a0_3)) else (if t119 = 6 then (if t119 = 4 then (tinderref13_Bytes.j0 k a1 t119 false a0_0 a0_1 a0_2 a0_3) else (tinderref13_Bytes.j0 k a1 t119 (a0_3 != 0) a0_0 a0_1 a0_2 a0_3)) else (if a0_2.toList = ([] : List UInt8) then (if t119 = 4 then (tinderref13_Bytes.j0 k a1 t119 false a0_0 a0_1 a0_2 a0_3) else (tinderref13_Bytes.j0 k a1 t119 (a0_3 != 0) a0_0 a0_1 a0_2 a0_3)) else (tinderref13_Bytes.j0 k a1 t119 true a0_0 a0_1 a0_2 a0_3)))) else (if t119 = 5 then (if t119 = 3 then (if t119 = 4 then (tinderref13_Bytes.j0 k a1 t119 false a0_0 a0_1 a0_2 a0_3) else (tinderref13_Bytes.j0 k a1 t119 (a0_3 != 0) a0_0 a0_1 a0_2 a0_3)) else (if t119 = 6 then (if t119 = 4 then (tinderref13_Bytes.j0 k a1 t119 false a0_0 a0_1 a0_2 a0_3) else (tinderref13_Bytes.j0 k a1 t119 (a0_3 != 0) a0_0 a0_1 a0_2 a0_3)) else (if a0_2.toList = ([] : List UInt8) then (if t119 = 4 then (tinderref13_Bytes.j0 k a1 t119 false a0_0 a0_1 a0_2 a0_3) else (tinderref13_Bytes.j0 k a1 t119 (a0_3 != 0) a0_0 a0_1 a0_2 a0_3)) else (tinderref13_Bytes.j0 k a1 t119 true a0_0 a0_1 a0_2 a0_3)))) else (if t119 = 6 then (if t119 = 3 then (if t119 = 4 then (tinderref13_Bytes.j0 k a1 t119 false a0_0 a0_1 a0_2 a0_3) else (tinderref13_Bytes.j0 k a1 t119 (a0_3 != 0) a0_0 a0_1 a0_2 a0_3)) else (if t119 = 4 then (tinderref13_Bytes.j0 k a1 t119 false a0_0 a0_1 a0_2 a0_3) else (tinderref13_Bytes.j0 k a1 t119 (a0_3 != 0) a0_0 a0_1 a0_2 a0_3))) else (if a0_1 = 0 then (if t119 = 3 then (if t119 = 4 then (tinderref13_Bytes.j0 k a1 t119 false a0_0 a0_1 a0_2 a0_3) else (tinderref13_Bytes.j0 k a1 t119 (a0_3 != 0) a0_0 a0_1 a0_2 a0_3)) else (if a0_2.toList = ([] : List UInt8) then (if t119 = 4 then (tinderref13_Bytes.j0 k a1 t119 false a0_0 a0_1 a0_2 a0_3) else (tinderref13_Bytes.j0 k a1 t119 (a0_3 != 0) a0_0 a0_1 a0_2 a0_3)) else (tinderref13_Bytes.j0 k a1 t119 true a0_0 a0_1 a0_2 a0_3))) else (tinderref13_Bytes.j0 k a1 t119 true a0_0 a0_1 a0_2 a0_3))))))) = some (r1, r2) := by rw [if_pos rfl] at H; exact H
    clear H
    have H := H1
    clear H1
    replace H := Option.bind_eq_some_iff.mp H
    obtain ⟨t119, A50, H⟩ := H
    replace H : (if t119 = 1 then (if t119 = 3 then (if t119 = 4 then (tinderref13_Bytes.j0 k a1 t119 false a0_0 a0_1 a0_2 a0_3) else (tinderref13_Bytes.j0 k a1 t119 (a0_3 != 0) a0_0 a0_1 a0_2 a0_3)) else (if t119 = 6 then (if t119 = 4 then (tinderref13_Bytes.j0 k a1 t119 false a0_0 a0_1 a0_2 a0_3) else (tinderref13_Bytes.j0 k a1 t119 (a0_3 != 0) a0_0 a0_1 a0_2 a0_3)) else (if a0_2.toList = ([] : List UInt8) then (if t119 = 4 then (tinderref13_Bytes.j0 k a1 t119 false a0_0 a0_1 a0_2 a0_3) else (tinderref13_Bytes.j0 k a1 t119 (a0_3 != 0) a0_0 a0_1 a0_2 a0_3)) else (tinderref13_Bytes.j0 k a1 t119 true a0_0 a0_1 a0_2 a0_3)))) else (if t119 = 2 then (if t119 = 3 then (if t119 = 4 then (tinderref13_Bytes.j0 k a1 t119 false a0_0 a0_1 a0_2 a0_3) else (tinderref13_Bytes.j0 k a1 t119 (a0_3 != 0) a0_0 a0_1 a0_2 a0_3)) else (if t119 = 6 then (if t119 = 4 then (tinderref13_Bytes.j0 k a1 t119 false a0_0 a0_1 a0_2 a0_3) else (tinderref13_Bytes.j0 k a1 t119 (a0_3 != 0) a0_0 a0_1 a0_2 a0_3)) else (if a0_2.toList = ([] : List UInt8) then (if t119 = 4 then (tinderref13_Bytes.j0 k a1 t119 false a0_0 a0_1 a0_2 a0_3) else (tinderref13_Bytes.j0 k a1 t119 (a0_3 != 0) a0_0 a0_1 a0_2 a0_3)) else (tinderref13_Bytes.j0 k a1 t119 true a0_0 a0_1 a0_2 a0_3)))) else (if t119 = 5 then (if t119 = 3 then (if t119 = 4 then (tinderref13_Bytes.j0 k a1 t119 false a0_0 a0_1 a0_2 a0_3) else (tinderref13_Bytes.j0 k a1 t119 (a0_3 != 0) a0_0 a0_1 a0_2 a0_3)) else (if t119 = 6 then (if t119 = 4 then (tinderref13_Bytes.j0 k a1 t119 false a0_0 a0_1 a0_2 a0_3) else (tinderref13_Bytes.j0 k a1 t119 (a0_3 != 0) a0_0 a0_1 a0_2 a0_3)) else (if a0_2.toList = ([] : List UInt8) then (if t119 = 4 then (tinderref13_Bytes.j0 k a1 t119 false a0_0 a0_1 a0_2 a0_3) else (tinderref13_Bytes.j0 k a1 t119 (a0_3 != 0) a0_0 a0_1 a0_2 a0_3)) else (tinderref13_Bytes.j0 k a1 t119 true a0_0 a0_1 a0_2 a0_3)))) else (if t119 = 6 then (if t119 = 3 then (if t119 = 4 then (tinderref13_Bytes.j0 k a1 t119 false a0_0 a0_1 a0_2 a0_3) else (tinderref13_Bytes.j0 k a1 t119 (a0_3 != 0) a0_0 a0_1 a0_2 a0_3)) else (if t119 = 4 then (tinderref13_Bytes.j0 k a1 t119 false a0_0 a0_1 a0_2 a0_3) else (tinderref13_Bytes.j0 k a1 t119 (a0_3 != 0) a0_0 a0_1 a0_2 a0_3))) else (if a0_1 = 0 then (if t119 = 3 then (if t119 = 4 then (tinderref13_Bytes.j0 k a1 t119 false a0_0 a0_1 a0_2 a0_3) else (tinderref13_Bytes.j0 k a1 t119 (a0_3 != 0) a0_0 a0_1 a0_2 a0_3)) else (if a0_2.toList = ([] : List UInt8) then (if t119 = 4 then (tinderref13_Bytes.j0 k a1 t119 false a0_0 a0_1 a0_2 a0_3) else (tinderref13_Bytes.j0 k a1 t119 (a0_3 != 0) a0_0 a0_1 a0_2 a0_3)) else (tinderref13_Bytes.j0 k a1 t119 true a0_0 a0_1 a0_2 a0_3))) else (tinderref13_Bytes.j0 k a1 t119 true a0_0 a0_1 a0_2 a0_3)))))) = some (r1, r2) := H
    have A5 := Aside0.mk A50
    clear A50
    have HC6 := Aside0.mk H
    clear H
    go_enter Try.func23, Try.ntmps23
    go_upto_region 4 with (first | ((with_reducible refine gate_dst (N := 2) rfl ?_); (try (refine gate_guard (by rfl) ?_; dsimp only)); refine box_event ?hg (N := 2) ?hd (cs := #[.int .i64 a0_0, .int .u32 a0_1, .string a0_2, .int .i64 a0_3]) (t := 34) ?hr ?_; (case hd => rfl); (case hg => rfl); (case hr => first | (go_simp; done) | (go_simp; rfl)); intro gb117 hg w7 hbox hb; have n0_ := Aside0.mk (below_step (by repeat (first | (with_reducible first | exact HB.out | apply below_alloc | apply pw_below_drewN | apply below_drew1) | exact HB.out)) hb); have n1_ := Aside0.mk (hbox); have n2_ := Aside0.mk ((by rw [hg]; exact (below_size (by repeat (first | (with_reducible first | exact HB.out | apply below_alloc | apply pw_below_drewN | apply below_drew1) | exact HB.out))) : w.heap.size ≤ gb117)); have n3_ := Aside0.mk ((by rw [hg]; exact (below_size (by repeat (first | (with_reducible first | exact HB.out | apply below_alloc | apply pw_below_drewN | apply below_drew1) | exact HB.out))) : w.heap.size ≤ gb117)); clear HB; have HB := n0_; have BK117 := n1_; have GW117 := n2_; have GE117 := n3_; clear n0_ n1_ n2_ n3_; clear hb hbox hg; have hcz8_0 : w7.cell? ⟨gb117, 0, none⟩ = some (.int .i64 a0_0) := (blk_cell BK117.out 0).trans rfl; have hcz8_1 : w7.cell? ⟨gb117, 1, none⟩ = some (.int .u32 a0_1) := (blk_cell BK117.out 1).trans rfl; have hcz8_2 : w7.cell? ⟨gb117, 2, none⟩ = some (.string a0_2) := (blk_cell BK117.out 2).trans rfl; have hcz8_3 : w7.cell? ⟨gb117, 3, none⟩ = some (.int .i64 a0_3) := (blk_cell BK117.out 3).trans rfl; have hfz8_0 := blk_frozen BK117.out 0; have hfz8_1 := blk_frozen BK117.out 1; have hfz8_2 := blk_frozen BK117.out 2; have hfz8_3 := blk_frozen BK117.out 3) | ((with_reducible refine gate_callee (f := 33) rfl ?_); refine goesL_ (some 11) rfl rfl Try.func33 (by kernel_rfl) rfl #[.int .i64 a0_0] rfl (by (try simp only [List.map_toArray, List.map_cons, List.map_nil]); first | done | rfl | (simp only [List.length_drop, List.length_take]; rfl)) ?_; (with_reducible refine (tinderref13_Coded.calls a0_0 true _ A3.out).mono ?_); rintro e w' ⟨rfl, ⟨nd, rfl⟩⟩; refine ⟨_, rfl, ?_⟩) | ((with_reducible refine gate_callee (f := 29) rfl ?_); refine goesL_ (some 15) rfl rfl Try.func29 (by kernel_rfl) rfl #[.int .i64 a0_0] rfl (by (try simp only [List.map_toArray, List.map_cons, List.map_nil]); first | done | rfl | (simp only [List.length_drop, List.length_take]; rfl)) ?_; (with_reducible refine (tinderref13_Behind.calls k a0_0 t119 _ A5.out).mono ?_); rintro e w' ⟨rfl, ⟨nd, rfl⟩⟩; refine ⟨_, rfl, ?_⟩))
    (try simp only [Act.put, List.setIfInBounds_toArray, List.set_cons_zero, List.set_cons_succ])
    go_cut [56] (fun v56 wc => ∃ (kq : Nat) (x56_5 : Bool), v56 = .bool x56_5 ∧ Aside0 (tinderref13_Bytes.j0 kq a1 t119 x56_5 a0_0 a0_1 a0_2 a0_3 = some (r1, r2)) ∧ Aside0 (kq ≤ k) ∧ Aside0 (wc.heap[gb117]? = some (.cells #[.int .i64 a0_0, .int .u32 a0_1, .string a0_2, .int .i64 a0_3] 34 (0, 0))) ∧ Aside0 (Below w.heap.size w wc))
    case first => as_aux_lemma =>
      have H := HC6.out
      clear HC6
      by_cases c9 : t119 = 1
      · rw [if_pos c9] at H
        have c9b0 : (t119 == 1) = true := beq_iff_eq.mpr c9
        have c9b1 : (t119 != 1) = false := bne_eq_false_iff_eq.mpr c9
        clear c9
        (first | rw [c9b0] | (simp only [i64_w, i32_w]; rw [c9b0]) | skip)
        by_cases c10 : t119 = 3
        · rw [if_pos c10] at H
          have c10b0 : (t119 == 3) = true := beq_iff_eq.mpr c10
          have c10b1 : (t119 != 3) = false := bne_eq_false_iff_eq.mpr c10
          clear c10
          by_cases c11 : t119 = 4
          · rw [if_pos c11] at H
            have c11b0 : (t119 == 4) = true := beq_iff_eq.mpr c11
            have c11b1 : (t119 != 4) = false := bne_eq_false_iff_eq.mpr c11
            clear c11
            have H' := Aside0.mk H
            clear H
            go_wp2
            go_meet
            case rel => exact ⟨_, (false), (by first | rfl | (simp; done) | (simp [*]; done) | (simp [Kd.bne_nil]; done)), H', ⟨by first | omega | exact Nat.le_refl _⟩, ⟨by (with_reducible repeat (first | refine blk_drewN ?_ _ | refine blk_drew ?_ | refine blk_alloc ?_ _)); exact BK117.out⟩, ⟨by repeat (first | (with_reducible first | exact HB.out | apply below_alloc | apply pw_below_drewN | apply below_drew1 | refine below_set ?_ GE117.out) | exact HB.out)⟩⟩
          · rw [if_neg c11] at H
            have c11b0 : (t119 == 4) = false := beq_eq_false_iff_ne.mpr c11
            have c11b1 : (t119 != 4) = true := bne_iff_ne.mpr c11
            have H' := Aside0.mk H
            clear H
            have hcz12_0 : w7.cell? ⟨gb117, 0, none⟩ = some (.int .i64 a0_0) := (blk_cell BK117.out 0).trans rfl
            have hcz12_1 : w7.cell? ⟨gb117, 1, none⟩ = some (.int .u32 a0_1) := (blk_cell BK117.out 1).trans rfl
            have hcz12_2 : w7.cell? ⟨gb117, 2, none⟩ = some (.string a0_2) := (blk_cell BK117.out 2).trans rfl
            have hcz12_3 : w7.cell? ⟨gb117, 3, none⟩ = some (.int .i64 a0_3) := (blk_cell BK117.out 3).trans rfl
            have hfz12_0 := blk_frozen BK117.out 0
            have hfz12_1 := blk_frozen BK117.out 1
            have hfz12_2 := blk_frozen BK117.out 2
            have hfz12_3 := blk_frozen BK117.out 3
            go_wp2
            go_meet
            case rel => exact ⟨_, ((a0_3 != 0)), (by first | rfl | (simp; done) | (simp [*]; done) | (simp [Kd.bne_nil]; done)), H', ⟨by first | omega | exact Nat.le_refl _⟩, ⟨by (with_reducible repeat (first | refine blk_drewN ?_ _ | refine blk_drew ?_ | refine blk_alloc ?_ _)); exact BK117.out⟩, ⟨by repeat (first | (with_reducible first | exact HB.out | apply below_alloc | apply pw_below_drewN | apply below_drew1 | refine below_set ?_ GE117.out) | exact HB.out)⟩⟩
        · rw [if_neg c10] at H
          have c10b0 : (t119 == 3) = false := beq_eq_false_iff_ne.mpr c10
          have c10b1 : (t119 != 3) = true := bne_iff_ne.mpr c10
          by_cases c13 : t119 = 6
          · rw [if_pos c13] at H
            have c13b0 : (t119 == 6) = true := beq_iff_eq.mpr c13
            have c13b1 : (t119 != 6) = false := bne_eq_false_iff_eq.mpr c13
            clear c13
            by_cases c14 : t119 = 4
            · rw [if_pos c14] at H
              have c14b0 : (t119 == 4) = true := beq_iff_eq.mpr c14
              have c14b1 : (t119 != 4) = false := bne_eq_false_iff_eq.mpr c14
              clear c14
              have H' := Aside0.mk H
              clear H
              go_wp2
              go_meet
              case rel => exact ⟨_, (false), (by first | rfl | (simp; done) | (simp [*]; done) | (simp [Kd.bne_nil]; done)), H', ⟨by first | omega | exact Nat.le_refl _⟩, ⟨by (with_reducible repeat (first | refine blk_drewN ?_ _ | refine blk_drew ?_ | refine blk_alloc ?_ _)); exact BK117.out⟩, ⟨by repeat (first | (with_reducible first | exact HB.out | apply below_alloc | apply pw_below_drewN | apply below_drew1 | refine below_set ?_ GE117.out) | exact HB.out)⟩⟩
            · rw [if_neg c14] at H
              have c14b0 : (t119 == 4) = false := beq_eq_false_iff_ne.mpr c14
              have c14b1 : (t119 != 4) = true := bne_iff_ne.mpr c14
              have H' := Aside0.mk H
              clear H
              have hcz15_0 : w7.cell? ⟨gb117, 0, none⟩ = some (.int .i64 a0_0) := (blk_cell BK117.out 0).trans rfl
              have hcz15_1 : w7.cell? ⟨gb117, 1, none⟩ = some (.int .u32 a0_1) := (blk_cell BK117.out 1).trans rfl
              have hcz15_2 : w7.cell? ⟨gb117, 2, none⟩ = some (.string a0_2) := (blk_cell BK117.out 2).trans rfl
              have hcz15_3 : w7.cell? ⟨gb117, 3, none⟩ = some (.int .i64 a0_3) := (blk_cell BK117.out 3).trans rfl
              have hfz15_0 := blk_frozen BK117.out 0
              have hfz15_1 := blk_frozen BK117.out 1
              have hfz15_2 := blk_frozen BK117.out 2
              have hfz15_3 := blk_frozen BK117.out 3
              go_wp2
              go_meet
              case rel => exact ⟨_, ((a0_3 != 0)), (by first | rfl | (simp; done) | (simp [*]; done) | (simp [Kd.bne_nil]; done)), H', ⟨by first | omega | exact Nat.le_refl _⟩, ⟨by (with_reducible repeat (first | refine blk_drewN ?_ _ | refine blk_drew ?_ | refine blk_alloc ?_ _)); exact BK117.out⟩, ⟨by repeat (first | (with_reducible first | exact HB.out | apply below_alloc | apply pw_below_drewN | apply below_drew1 | refine below_set ?_ GE117.out) | exact HB.out)⟩⟩
          · rw [if_neg c13] at H
            have c13b0 : (t119 == 6) = false := beq_eq_false_iff_ne.mpr c13
            have c13b1 : (t119 != 6) = true := bne_iff_ne.mpr c13
            by_cases c16 : a0_2.toList = ([] : List UInt8)
            · rw [if_pos c16] at H
              have c16b0 : (a0_2.toList == ([] : List UInt8)) = true := beq_iff_eq.mpr c16
              have c16b1 : (a0_2.toList != ([] : List UInt8)) = false := bne_eq_false_iff_eq.mpr c16
              clear c16
              by_cases c17 : t119 = 4
              · rw [if_pos c17] at H
                have c17b0 : (t119 == 4) = true := beq_iff_eq.mpr c17
                have c17b1 : (t119 != 4) = false := bne_eq_false_iff_eq.mpr c17
                clear c17
                have H' := Aside0.mk H
                clear H
                have hcz18_0 : w7.cell? ⟨gb117, 0, none⟩ = some (.int .i64 a0_0) := (blk_cell BK117.out 0).trans rfl
                have hcz18_1 : w7.cell? ⟨gb117, 1, none⟩ = some (.int .u32 a0_1) := (blk_cell BK117.out 1).trans rfl
                have hcz18_2 : w7.cell? ⟨gb117, 2, none⟩ = some (.string a0_2) := (blk_cell BK117.out 2).trans rfl
                have hcz18_3 : w7.cell? ⟨gb117, 3, none⟩ = some (.int .i64 a0_3) := (blk_cell BK117.out 3).trans rfl
                have hfz18_0 := blk_frozen BK117.out 0
                have hfz18_1 := blk_frozen BK117.out 1
                have hfz18_2 := blk_frozen BK117.out 2
                have hfz18_3 := blk_frozen BK117.out 3
                go_wp2
                go_meet
                case rel => exact ⟨_, (false), (by first | rfl | (simp; done) | (simp [*]; done) | (simp [Kd.bne_nil]; done)), H', ⟨by first | omega | exact Nat.le_refl _⟩, ⟨by (with_reducible repeat (first | refine blk_drewN ?_ _ | refine blk_drew ?_ | refine blk_alloc ?_ _)); exact BK117.out⟩, ⟨by repeat (first | (with_reducible first | exact HB.out | apply below_alloc | apply pw_below_drewN | apply below_drew1 | refine below_set ?_ GE117.out) | exact HB.out)⟩⟩
              · rw [if_neg c17] at H
                have c17b0 : (t119 == 4) = false := beq_eq_false_iff_ne.mpr c17
                have c17b1 : (t119 != 4) = true := bne_iff_ne.mpr c17
                have H' := Aside0.mk H
                clear H
                have hcz19_0 : w7.cell? ⟨gb117, 0, none⟩ = some (.int .i64 a0_0) := (blk_cell BK117.out 0).trans rfl
                have hcz19_1 : w7.cell? ⟨gb117, 1, none⟩ = some (.int .u32 a0_1) := (blk_cell BK117.out 1).trans rfl
                have hcz19_2 : w7.cell? ⟨gb117, 2, none⟩ = some (.string a0_2) := (blk_cell BK117.out 2).trans rfl
                have hcz19_3 : w7.cell? ⟨gb117, 3, none⟩ = some (.int .i64 a0_3) := (blk_cell BK117.out 3).trans rfl
                have hfz19_0 := blk_frozen BK117.out 0
                have hfz19_1 := blk_frozen BK117.out 1
                have hfz19_2 := blk_frozen BK117.out 2
                have hfz19_3 := blk_frozen BK117.out 3
                go_wp2
                go_meet
                case rel => exact ⟨_, ((a0_3 != 0)), (by first | rfl | (simp; done) | (simp [*]; done) | (simp [Kd.bne_nil]; done)), H', ⟨by first | omega | exact Nat.le_refl _⟩, ⟨by (with_reducible repeat (first | refine blk_drewN ?_ _ | refine blk_drew ?_ | refine blk_alloc ?_ _)); exact BK117.out⟩, ⟨by repeat (first | (with_reducible first | exact HB.out | apply below_alloc | apply pw_below_drewN | apply below_drew1 | refine below_set ?_ GE117.out) | exact HB.out)⟩⟩
            · rw [if_neg c16] at H
              have c16b0 : (a0_2.toList == ([] : List UInt8)) = false := beq_eq_false_iff_ne.mpr c16
              have c16b1 : (a0_2.toList != ([] : List UInt8)) = true := bne_iff_ne.mpr c16
              have H' := Aside0.mk H
              clear H
              have hcz20_0 : w7.cell? ⟨gb117, 0, none⟩ = some (.int .i64 a0_0) := (blk_cell BK117.out 0).trans rfl
              have hcz20_1 : w7.cell? ⟨gb117, 1, none⟩ = some (.int .u32 a0_1) := (blk_cell BK117.out 1).trans rfl
              have hcz20_2 : w7.cell? ⟨gb117, 2, none⟩ = some (.string a0_2) := (blk_cell BK117.out 2).trans rfl
              have hcz20_3 : w7.cell? ⟨gb117, 3, none⟩ = some (.int .i64 a0_3) := (blk_cell BK117.out 3).trans rfl
              have hfz20_0 := blk_frozen BK117.out 0
              have hfz20_1 := blk_frozen BK117.out 1
              have hfz20_2 := blk_frozen BK117.out 2
              have hfz20_3 := blk_frozen BK117.out 3
              go_wp2
              go_meet
              case rel => exact ⟨_, (true), (by first | rfl | (simp; done) | (simp [*]; done) | (simp [Kd.bne_nil]; done)), H', ⟨by first | omega | exact Nat.le_refl _⟩, ⟨by (with_reducible repeat (first | refine blk_drewN ?_ _ | refine blk_drew ?_ | refine blk_alloc ?_ _)); exact BK117.out⟩, ⟨by repeat (first | (with_reducible first | exact HB.out | apply below_alloc | apply pw_below_drewN | apply below_drew1 | refine below_set ?_ GE117.out) | exact HB.out)⟩⟩
      · as_aux_lemma =>
        rw [if_neg c9] at H
        have c9b0 : (t119 == 1) = false := beq_eq_false_iff_ne.mpr c9
        have c9b1 : (t119 != 1) = true := bne_iff_ne.mpr c9
        (first | rw [c9b0] | (simp only [i64_w, i32_w]; rw [c9b0]) | skip)
        by_cases c21 : t119 = 2
        · rw [if_pos c21] at H
          have c21b0 : (t119 == 2) = true := beq_iff_eq.mpr c21
          have c21b1 : (t119 != 2) = false := bne_eq_false_iff_eq.mpr c21
          clear c21
          by_cases c22 : t119 = 3
          · rw [if_pos c22] at H
            have c22b0 : (t119 == 3) = true := beq_iff_eq.mpr c22
            have c22b1 : (t119 != 3) = false := bne_eq_false_iff_eq.mpr c22
            clear c22
            by_cases c23 : t119 = 4
            · rw [if_pos c23] at H
              have c23b0 : (t119 == 4) = true := beq_iff_eq.mpr c23
              have c23b1 : (t119 != 4) = false := bne_eq_false_iff_eq.mpr c23
              clear c23
              have H' := Aside0.mk H
              clear H
              go_wp2
              go_meet
              case rel => exact ⟨_, (false), (by first | rfl | (simp; done) | (simp [*]; done) | (simp [Kd.bne_nil]; done)), H', ⟨by first | omega | exact Nat.le_refl _⟩, ⟨by (with_reducible repeat (first | refine blk_drewN ?_ _ | refine blk_drew ?_ | refine blk_alloc ?_ _)); exact BK117.out⟩, ⟨by repeat (first | (with_reducible first | exact HB.out | apply below_alloc | apply pw_below_drewN | apply below_drew1 | refine below_set ?_ GE117.out) | exact HB.out)⟩⟩
            · rw [if_neg c23] at H
              have c23b0 : (t119 == 4) = false := beq_eq_false_iff_ne.mpr c23
              have c23b1 : (t119 != 4) = true := bne_iff_ne.mpr c23
              have H' := Aside0.mk H
              clear H
              have hcz24_0 : w7.cell? ⟨gb117, 0, none⟩ = some (.int .i64 a0_0) := (blk_cell BK117.out 0).trans rfl
              have hcz24_1 : w7.cell? ⟨gb117, 1, none⟩ = some (.int .u32 a0_1) := (blk_cell BK117.out 1).trans rfl
              have hcz24_2 : w7.cell? ⟨gb117, 2, none⟩ = some (.string a0_2) := (blk_cell BK117.out 2).trans rfl
              have hcz24_3 : w7.cell? ⟨gb117, 3, none⟩ = some (.int .i64 a0_3) := (blk_cell BK117.out 3).trans rfl
              have hfz24_0 := blk_frozen BK117.out 0
              have hfz24_1 := blk_frozen BK117.out 1
              have hfz24_2 := blk_frozen BK117.out 2
              have hfz24_3 := blk_frozen BK117.out 3
              go_wp2
              go_meet
              case rel => exact ⟨_, ((a0_3 != 0)), (by first | rfl | (simp; done) | (simp [*]; done) | (simp [Kd.bne_nil]; done)), H', ⟨by first | omega | exact Nat.le_refl _⟩, ⟨by (with_reducible repeat (first | refine blk_drewN ?_ _ | refine blk_drew ?_ | refine blk_alloc ?_ _)); exact BK117.out⟩, ⟨by repeat (first | (with_reducible first | exact HB.out | apply below_alloc | apply pw_below_drewN | apply below_drew1 | refine below_set ?_ GE117.out) | exact HB.out)⟩⟩
          · rw [if_neg c22] at H
            have c22b0 : (t119 == 3) = false := beq_eq_false_iff_ne.mpr c22
            have c22b1 : (t119 != 3) = true := bne_iff_ne.mpr c22
            by_cases c25 : t119 = 6
            · rw [if_pos c25] at H
              have c25b0 : (t119 == 6) = true := beq_iff_eq.mpr c25
              have c25b1 : (t119 != 6) = false := bne_eq_false_iff_eq.mpr c25
              clear c25
              by_cases c26 : t119 = 4
              · rw [if_pos c26] at H
                have c26b0 : (t119 == 4) = true := beq_iff_eq.mpr c26
                have c26b1 : (t119 != 4) = false := bne_eq_false_iff_eq.mpr c26
                clear c26
                have H' := Aside0.mk H
                clear H
                go_wp2
                go_meet
                case rel => exact ⟨_, (false), (by first | rfl | (simp; done) | (simp [*]; done) | (simp [Kd.bne_nil]; done)), H', ⟨by first | omega | exact Nat.le_refl _⟩, ⟨by (with_reducible repeat (first | refine blk_drewN ?_ _ | refine blk_drew ?_ | refine blk_alloc ?_ _)); exact BK117.out⟩, ⟨by repeat (first | (with_reducible first | exact HB.out | apply below_alloc | apply pw_below_drewN | apply below_drew1 | refine below_set ?_ GE117.out) | exact HB.out)⟩⟩
              · rw [if_neg c26] at H
                have c26b0 : (t119 == 4) = false := beq_eq_false_iff_ne.mpr c26
                have c26b1 : (t119 != 4) = true := bne_iff_ne.mpr c26
                have H' := Aside0.mk H
                clear H
                have hcz27_0 : w7.cell? ⟨gb117, 0, none⟩ = some (.int .i64 a0_0) := (blk_cell BK117.out 0).trans rfl
                have hcz27_1 : w7.cell? ⟨gb117, 1, none⟩ = some (.int .u32 a0_1) := (blk_cell BK117.out 1).trans rfl
                have hcz27_2 : w7.cell? ⟨gb117, 2, none⟩ = some (.string a0_2) := (blk_cell BK117.out 2).trans rfl
                have hcz27_3 : w7.cell? ⟨gb117, 3, none⟩ = some (.int .i64 a0_3) := (blk_cell BK117.out 3).trans rfl
                have hfz27_0 := blk_frozen BK117.out 0
                have hfz27_1 := blk_frozen BK117.out 1
                have hfz27_2 := blk_frozen BK117.out 2
                have hfz27_3 := blk_frozen BK117.out 3
                go_wp2
                go_meet
                case rel => exact ⟨_, ((a0_3 != 0)), (by first | rfl | (simp; done) | (simp [*]; done) | (simp [Kd.bne_nil]; done)), H', ⟨by first | omega | exact Nat.le_refl _⟩, ⟨by (with_reducible repeat (first | refine blk_drewN ?_ _ | refine blk_drew ?_ | refine blk_alloc ?_ _)); exact BK117.out⟩, ⟨by repeat (first | (with_reducible first | exact HB.out | apply below_alloc | apply pw_below_drewN | apply below_drew1 | refine below_set ?_ GE117.out) | exact HB.out)⟩⟩
            · rw [if_neg c25] at H
              have c25b0 : (t119 == 6) = false := beq_eq_false_iff_ne.mpr c25
              have c25b1 : (t119 != 6) = true := bne_iff_ne.mpr c25
              by_cases c28 : a0_2.toList = ([] : List UInt8)
              · rw [if_pos c28] at H
                have c28b0 : (a0_2.toList == ([] : List UInt8)) = true := beq_iff_eq.mpr c28
                have c28b1 : (a0_2.toList != ([] : List UInt8)) = false := bne_eq_false_iff_eq.mpr c28
                clear c28
                by_cases c29 : t119 = 4
                · rw [if_pos c29] at H
                  have c29b0 : (t119 == 4) = true := beq_iff_eq.mpr c29
                  have c29b1 : (t119 != 4) = false := bne_eq_false_iff_eq.mpr c29
                  clear c29
                  have H' := Aside0.mk H
                  clear H
                  have hcz30_0 : w7.cell? ⟨gb117, 0, none⟩ = some (.int .i64 a0_0) := (blk_cell BK117.out 0).trans rfl
                  have hcz30_1 : w7.cell? ⟨gb117, 1, none⟩ = some (.int .u32 a0_1) := (blk_cell BK117.out 1).trans rfl
                  have hcz30_2 : w7.cell? ⟨gb117, 2, none⟩ = some (.string a0_2) := (blk_cell BK117.out 2).trans rfl
                  have hcz30_3 : w7.cell? ⟨gb117, 3, none⟩ = some (.int .i64 a0_3) := (blk_cell BK117.out 3).trans rfl
                  have hfz30_0 := blk_frozen BK117.out 0
                  have hfz30_1 := blk_frozen BK117.out 1
                  have hfz30_2 := blk_frozen BK117.out 2
                  have hfz30_3 := blk_frozen BK117.out 3
                  go_wp2
                  go_meet
                  case rel => exact ⟨_, (false), (by first | rfl | (simp; done) | (simp [*]; done) | (simp [Kd.bne_nil]; done)), H', ⟨by first | omega | exact Nat.le_refl _⟩, ⟨by (with_reducible repeat (first | refine blk_drewN ?_ _ | refine blk_drew ?_ | refine blk_alloc ?_ _)); exact BK117.out⟩, ⟨by repeat (first | (with_reducible first | exact HB.out | apply below_alloc | apply pw_below_drewN | apply below_drew1 | refine below_set ?_ GE117.out) | exact HB.out)⟩⟩
                · rw [if_neg c29] at H
                  have c29b0 : (t119 == 4) = false := beq_eq_false_iff_ne.mpr c29
                  have c29b1 : (t119 != 4) = true := bne_iff_ne.mpr c29
                  have H' := Aside0.mk H
                  clear H
                  have hcz31_0 : w7.cell? ⟨gb117, 0, none⟩ = some (.int .i64 a0_0) := (blk_cell BK117.out 0).trans rfl
                  have hcz31_1 : w7.cell? ⟨gb117, 1, none⟩ = some (.int .u32 a0_1) := (blk_cell BK117.out 1).trans rfl
                  have hcz31_2 : w7.cell? ⟨gb117, 2, none⟩ = some (.string a0_2) := (blk_cell BK117.out 2).trans rfl
                  have hcz31_3 : w7.cell? ⟨gb117, 3, none⟩ = some (.int .i64 a0_3) := (blk_cell BK117.out 3).trans rfl
                  have hfz31_0 := blk_frozen BK117.out 0
                  have hfz31_1 := blk_frozen BK117.out 1
                  have hfz31_2 := blk_frozen BK117.out 2
                  have hfz31_3 := blk_frozen BK117.out 3
                  go_wp2
                  go_meet
                  case rel => exact ⟨_, ((a0_3 != 0)), (by first | rfl | (simp; done) | (simp [*]; done) | (simp [Kd.bne_nil]; done)), H', ⟨by first | omega | exact Nat.le_refl _⟩, ⟨by (with_reducible repeat (first | refine blk_drewN ?_ _ | refine blk_drew ?_ | refine blk_alloc ?_ _)); exact BK117.out⟩, ⟨by repeat (first | (with_reducible first | exact HB.out | apply below_alloc | apply pw_below_drewN | apply below_drew1 | refine below_set ?_ GE117.out) | exact HB.out)⟩⟩
              · rw [if_neg c28] at H
                have c28b0 : (a0_2.toList == ([] : List UInt8)) = false := beq_eq_false_iff_ne.mpr c28
                have c28b1 : (a0_2.toList != ([] : List UInt8)) = true := bne_iff_ne.mpr c28
                have H' := Aside0.mk H
                clear H
                have hcz32_0 : w7.cell? ⟨gb117, 0, none⟩ = some (.int .i64 a0_0) := (blk_cell BK117.out 0).trans rfl
                have hcz32_1 : w7.cell? ⟨gb117, 1, none⟩ = some (.int .u32 a0_1) := (blk_cell BK117.out 1).trans rfl
                have hcz32_2 : w7.cell? ⟨gb117, 2, none⟩ = some (.string a0_2) := (blk_cell BK117.out 2).trans rfl
                have hcz32_3 : w7.cell? ⟨gb117, 3, none⟩ = some (.int .i64 a0_3) := (blk_cell BK117.out 3).trans rfl
                have hfz32_0 := blk_frozen BK117.out 0
                have hfz32_1 := blk_frozen BK117.out 1
                have hfz32_2 := blk_frozen BK117.out 2
                have hfz32_3 := blk_frozen BK117.out 3
                go_wp2
                go_meet
                case rel => exact ⟨_, (true), (by first | rfl | (simp; done) | (simp [*]; done) | (simp [Kd.bne_nil]; done)), H', ⟨by first | omega | exact Nat.le_refl _⟩, ⟨by (with_reducible repeat (first | refine blk_drewN ?_ _ | refine blk_drew ?_ | refine blk_alloc ?_ _)); exact BK117.out⟩, ⟨by repeat (first | (with_reducible first | exact HB.out | apply below_alloc | apply pw_below_drewN | apply below_drew1 | refine below_set ?_ GE117.out) | exact HB.out)⟩⟩
        · as_aux_lemma =>
          rw [if_neg c21] at H
          have c21b0 : (t119 == 2) = false := beq_eq_false_iff_ne.mpr c21
          have c21b1 : (t119 != 2) = true := bne_iff_ne.mpr c21
          by_cases c33 : t119 = 5
          · rw [if_pos c33] at H
            have c33b0 : (t119 == 5) = true := beq_iff_eq.mpr c33
            have c33b1 : (t119 != 5) = false := bne_eq_false_iff_eq.mpr c33
            clear c33
            by_cases c34 : t119 = 3
            · rw [if_pos c34] at H
              have c34b0 : (t119 == 3) = true := beq_iff_eq.mpr c34
              have c34b1 : (t119 != 3) = false := bne_eq_false_iff_eq.mpr c34
              clear c34
              by_cases c35 : t119 = 4
              · rw [if_pos c35] at H
                have c35b0 : (t119 == 4) = true := beq_iff_eq.mpr c35
                have c35b1 : (t119 != 4) = false := bne_eq_false_iff_eq.mpr c35
                clear c35
                have H' := Aside0.mk H
                clear H
                go_wp2
                go_meet
                case rel => exact ⟨_, (false), (by first | rfl | (simp; done) | (simp [*]; done) | (simp [Kd.bne_nil]; done)), H', ⟨by first | omega | exact Nat.le_refl _⟩, ⟨by (with_reducible repeat (first | refine blk_drewN ?_ _ | refine blk_drew ?_ | refine blk_alloc ?_ _)); exact BK117.out⟩, ⟨by repeat (first | (with_reducible first | exact HB.out | apply below_alloc | apply pw_below_drewN | apply below_drew1 | refine below_set ?_ GE117.out) | exact HB.out)⟩⟩
              · rw [if_neg c35] at H
                have c35b0 : (t119 == 4) = false := beq_eq_false_iff_ne.mpr c35
                have c35b1 : (t119 != 4) = true := bne_iff_ne.mpr c35
                have H' := Aside0.mk H
                clear H
                have hcz36_0 : w7.cell? ⟨gb117, 0, none⟩ = some (.int .i64 a0_0) := (blk_cell BK117.out 0).trans rfl
                have hcz36_1 : w7.cell? ⟨gb117, 1, none⟩ = some (.int .u32 a0_1) := (blk_cell BK117.out 1).trans rfl
                have hcz36_2 : w7.cell? ⟨gb117, 2, none⟩ = some (.string a0_2) := (blk_cell BK117.out 2).trans rfl
                have hcz36_3 : w7.cell? ⟨gb117, 3, none⟩ = some (.int .i64 a0_3) := (blk_cell BK117.out 3).trans rfl
                have hfz36_0 := blk_frozen BK117.out 0
                have hfz36_1 := blk_frozen BK117.out 1
                have hfz36_2 := blk_frozen BK117.out 2
                have hfz36_3 := blk_frozen BK117.out 3
                go_wp2
                go_meet
                case rel => exact ⟨_, ((a0_3 != 0)), (by first | rfl | (simp; done) | (simp [*]; done) | (simp [Kd.bne_nil]; done)), H', ⟨by first | omega | exact Nat.le_refl _⟩, ⟨by (with_reducible repeat (first | refine blk_drewN ?_ _ | refine blk_drew ?_ | refine blk_alloc ?_ _)); exact BK117.out⟩, ⟨by repeat (first | (with_reducible first | exact HB.out | apply below_alloc | apply pw_below_drewN | apply below_drew1 | refine below_set ?_ GE117.out) | exact HB.out)⟩⟩
            · rw [if_neg c34] at H
              have c34b0 : (t119 == 3) = false := beq_eq_false_iff_ne.mpr c34
              have c34b1 : (t119 != 3) = true := bne_iff_ne.mpr c34
              by_cases c37 : t119 = 6
              · rw [if_pos c37] at H
                have c37b0 : (t119 == 6) = true := beq_iff_eq.mpr c37
                have c37b1 : (t119 != 6) = false := bne_eq_false_iff_eq.mpr c37
                clear c37
                by_cases c38 : t119 = 4
                · rw [if_pos c38] at H
                  have c38b0 : (t119 == 4) = true := beq_iff_eq.mpr c38
                  have c38b1 : (t119 != 4) = false := bne_eq_false_iff_eq.mpr c38
                  clear c38
                  have H' := Aside0.mk H
                  clear H
                  go_wp2
                  go_meet
                  case rel => exact ⟨_, (false), (by first | rfl | (simp; done) | (simp [*]; done) | (simp [Kd.bne_nil]; done)), H', ⟨by first | omega | exact Nat.le_refl _⟩, ⟨by (with_reducible repeat (first | refine blk_drewN ?_ _ | refine blk_drew ?_ | refine blk_alloc ?_ _)); exact BK117.out⟩, ⟨by repeat (first | (with_reducible first | exact HB.out | apply below_alloc | apply pw_below_drewN | apply below_drew1 | refine below_set ?_ GE117.out) | exact HB.out)⟩⟩
                · rw [if_neg c38] at H
                  have c38b0 : (t119 == 4) = false := beq_eq_false_iff_ne.mpr c38
                  have c38b1 : (t119 != 4) = true := bne_iff_ne.mpr c38
                  have H' := Aside0.mk H
                  clear H
                  have hcz39_0 : w7.cell? ⟨gb117, 0, none⟩ = some (.int .i64 a0_0) := (blk_cell BK117.out 0).trans rfl
                  have hcz39_1 : w7.cell? ⟨gb117, 1, none⟩ = some (.int .u32 a0_1) := (blk_cell BK117.out 1).trans rfl
                  have hcz39_2 : w7.cell? ⟨gb117, 2, none⟩ = some (.string a0_2) := (blk_cell BK117.out 2).trans rfl
                  have hcz39_3 : w7.cell? ⟨gb117, 3, none⟩ = some (.int .i64 a0_3) := (blk_cell BK117.out 3).trans rfl
                  have hfz39_0 := blk_frozen BK117.out 0
                  have hfz39_1 := blk_frozen BK117.out 1
                  have hfz39_2 := blk_frozen BK117.out 2
                  have hfz39_3 := blk_frozen BK117.out 3
                  go_wp2
                  go_meet
                  case rel => exact ⟨_, ((a0_3 != 0)), (by first | rfl | (simp; done) | (simp [*]; done) | (simp [Kd.bne_nil]; done)), H', ⟨by first | omega | exact Nat.le_refl _⟩, ⟨by (with_reducible repeat (first | refine blk_drewN ?_ _ | refine blk_drew ?_ | refine blk_alloc ?_ _)); exact BK117.out⟩, ⟨by repeat (first | (with_reducible first | exact HB.out | apply below_alloc | apply pw_below_drewN | apply below_drew1 | refine below_set ?_ GE117.out) | exact HB.out)⟩⟩
              · rw [if_neg c37] at H
                have c37b0 : (t119 == 6) = false := beq_eq_false_iff_ne.mpr c37
                have c37b1 : (t119 != 6) = true := bne_iff_ne.mpr c37
                by_cases c40 : a0_2.toList = ([] : List UInt8)
                · rw [if_pos c40] at H
                  have c40b0 : (a0_2.toList == ([] : List UInt8)) = true := beq_iff_eq.mpr c40
                  have c40b1 : (a0_2.toList != ([] : List UInt8)) = false := bne_eq_false_iff_eq.mpr c40
                  clear c40
                  by_cases c41 : t119 = 4
                  · rw [if_pos c41] at H
                    have c41b0 : (t119 == 4) = true := beq_iff_eq.mpr c41
                    have c41b1 : (t119 != 4) = false := bne_eq_false_iff_eq.mpr c41
                    clear c41
                    have H' := Aside0.mk H
                    clear H
                    have hcz42_0 : w7.cell? ⟨gb117, 0, none⟩ = some (.int .i64 a0_0) := (blk_cell BK117.out 0).trans rfl
                    have hcz42_1 : w7.cell? ⟨gb117, 1, none⟩ = some (.int .u32 a0_1) := (blk_cell BK117.out 1).trans rfl
                    have hcz42_2 : w7.cell? ⟨gb117, 2, none⟩ = some (.string a0_2) := (blk_cell BK117.out 2).trans rfl
                    have hcz42_3 : w7.cell? ⟨gb117, 3, none⟩ = some (.int .i64 a0_3) := (blk_cell BK117.out 3).trans rfl
                    have hfz42_0 := blk_frozen BK117.out 0
                    have hfz42_1 := blk_frozen BK117.out 1
                    have hfz42_2 := blk_frozen BK117.out 2
                    have hfz42_3 := blk_frozen BK117.out 3
                    go_wp2
                    go_meet
                    case rel => exact ⟨_, (false), (by first | rfl | (simp; done) | (simp [*]; done) | (simp [Kd.bne_nil]; done)), H', ⟨by first | omega | exact Nat.le_refl _⟩, ⟨by (with_reducible repeat (first | refine blk_drewN ?_ _ | refine blk_drew ?_ | refine blk_alloc ?_ _)); exact BK117.out⟩, ⟨by repeat (first | (with_reducible first | exact HB.out | apply below_alloc | apply pw_below_drewN | apply below_drew1 | refine below_set ?_ GE117.out) | exact HB.out)⟩⟩
                  · rw [if_neg c41] at H
                    have c41b0 : (t119 == 4) = false := beq_eq_false_iff_ne.mpr c41
                    have c41b1 : (t119 != 4) = true := bne_iff_ne.mpr c41
                    have H' := Aside0.mk H
                    clear H
                    have hcz43_0 : w7.cell? ⟨gb117, 0, none⟩ = some (.int .i64 a0_0) := (blk_cell BK117.out 0).trans rfl
                    have hcz43_1 : w7.cell? ⟨gb117, 1, none⟩ = some (.int .u32 a0_1) := (blk_cell BK117.out 1).trans rfl
                    have hcz43_2 : w7.cell? ⟨gb117, 2, none⟩ = some (.string a0_2) := (blk_cell BK117.out 2).trans rfl
                    have hcz43_3 : w7.cell? ⟨gb117, 3, none⟩ = some (.int .i64 a0_3) := (blk_cell BK117.out 3).trans rfl
                    have hfz43_0 := blk_frozen BK117.out 0
                    have hfz43_1 := blk_frozen BK117.out 1
                    have hfz43_2 := blk_frozen BK117.out 2
                    have hfz43_3 := blk_frozen BK117.out 3
                    go_wp2
                    go_meet
                    case rel => exact ⟨_, ((a0_3 != 0)), (by first | rfl | (simp; done) | (simp [*]; done) | (simp [Kd.bne_nil]; done)), H', ⟨by first | omega | exact Nat.le_refl _⟩, ⟨by (with_reducible repeat (first | refine blk_drewN ?_ _ | refine blk_drew ?_ | refine blk_alloc ?_ _)); exact BK117.out⟩, ⟨by repeat (first | (with_reducible first | exact HB.out | apply below_alloc | apply pw_below_drewN | apply below_drew1 | refine below_set ?_ GE117.out) | exact HB.out)⟩⟩
                · rw [if_neg c40] at H
                  have c40b0 : (a0_2.toList == ([] : List UInt8)) = false := beq_eq_false_iff_ne.mpr c40
                  have c40b1 : (a0_2.toList != ([] : List UInt8)) = true := bne_iff_ne.mpr c40
                  have H' := Aside0.mk H
                  clear H
                  have hcz44_0 : w7.cell? ⟨gb117, 0, none⟩ = some (.int .i64 a0_0) := (blk_cell BK117.out 0).trans rfl
                  have hcz44_1 : w7.cell? ⟨gb117, 1, none⟩ = some (.int .u32 a0_1) := (blk_cell BK117.out 1).trans rfl
                  have hcz44_2 : w7.cell? ⟨gb117, 2, none⟩ = some (.string a0_2) := (blk_cell BK117.out 2).trans rfl
                  have hcz44_3 : w7.cell? ⟨gb117, 3, none⟩ = some (.int .i64 a0_3) := (blk_cell BK117.out 3).trans rfl
                  have hfz44_0 := blk_frozen BK117.out 0
                  have hfz44_1 := blk_frozen BK117.out 1
                  have hfz44_2 := blk_frozen BK117.out 2
                  have hfz44_3 := blk_frozen BK117.out 3
                  go_wp2
                  go_meet
                  case rel => exact ⟨_, (true), (by first | rfl | (simp; done) | (simp [*]; done) | (simp [Kd.bne_nil]; done)), H', ⟨by first | omega | exact Nat.le_refl _⟩, ⟨by (with_reducible repeat (first | refine blk_drewN ?_ _ | refine blk_drew ?_ | refine blk_alloc ?_ _)); exact BK117.out⟩, ⟨by repeat (first | (with_reducible first | exact HB.out | apply below_alloc | apply pw_below_drewN | apply below_drew1 | refine below_set ?_ GE117.out) | exact HB.out)⟩⟩
          · as_aux_lemma =>
            rw [if_neg c33] at H
            have c33b0 : (t119 == 5) = false := beq_eq_false_iff_ne.mpr c33
            have c33b1 : (t119 != 5) = true := bne_iff_ne.mpr c33
            by_cases c45 : t119 = 6
            · rw [if_pos c45] at H
              have c45b0 : (t119 == 6) = true := beq_iff_eq.mpr c45
              have c45b1 : (t119 != 6) = false := bne_eq_false_iff_eq.mpr c45
              clear c45
              by_cases c46 : t119 = 3
              · rw [if_pos c46] at H
                have c46b0 : (t119 == 3) = true := beq_iff_eq.mpr c46
                have c46b1 : (t119 != 3) = false := bne_eq_false_iff_eq.mpr c46
                clear c46
                by_cases c47 : t119 = 4
                · rw [if_pos c47] at H
                  have c47b0 : (t119 == 4) = true := beq_iff_eq.mpr c47
                  have c47b1 : (t119 != 4) = false := bne_eq_false_iff_eq.mpr c47
                  clear c47
                  have H' := Aside0.mk H
                  clear H
                  go_wp2
                  go_meet
                  case rel => exact ⟨_, (false), (by first | rfl | (simp; done) | (simp [*]; done) | (simp [Kd.bne_nil]; done)), H', ⟨by first | omega | exact Nat.le_refl _⟩, ⟨by (with_reducible repeat (first | refine blk_drewN ?_ _ | refine blk_drew ?_ | refine blk_alloc ?_ _)); exact BK117.out⟩, ⟨by repeat (first | (with_reducible first | exact HB.out | apply below_alloc | apply pw_below_drewN | apply below_drew1 | refine below_set ?_ GE117.out) | exact HB.out)⟩⟩
                · rw [if_neg c47] at H
                  have c47b0 : (t119 == 4) = false := beq_eq_false_iff_ne.mpr c47
                  have c47b1 : (t119 != 4) = true := bne_iff_ne.mpr c47
                  have H' := Aside0.mk H
                  clear H
                  have hcz48_0 : w7.cell? ⟨gb117, 0, none⟩ = some (.int .i64 a0_0) := (blk_cell BK117.out 0).trans rfl
                  have hcz48_1 : w7.cell? ⟨gb117, 1, none⟩ = some (.int .u32 a0_1) := (blk_cell BK117.out 1).trans rfl
                  have hcz48_2 : w7.cell? ⟨gb117, 2, none⟩ = some (.string a0_2) := (blk_cell BK117.out 2).trans rfl
                  have hcz48_3 : w7.cell? ⟨gb117, 3, none⟩ = some (.int .i64 a0_3) := (blk_cell BK117.out 3).trans rfl
                  have hfz48_0 := blk_frozen BK117.out 0
                  have hfz48_1 := blk_frozen BK117.out 1
                  have hfz48_2 := blk_frozen BK117.out 2
                  have hfz48_3 := blk_frozen BK117.out 3
                  go_wp2
                  go_meet
                  case rel => exact ⟨_, ((a0_3 != 0)), (by first | rfl | (simp; done) | (simp [*]; done) | (simp [Kd.bne_nil]; done)), H', ⟨by first | omega | exact Nat.le_refl _⟩, ⟨by (with_reducible repeat (first | refine blk_drewN ?_ _ | refine blk_drew ?_ | refine blk_alloc ?_ _)); exact BK117.out⟩, ⟨by repeat (first | (with_reducible first | exact HB.out | apply below_alloc | apply pw_below_drewN | apply below_drew1 | refine below_set ?_ GE117.out) | exact HB.out)⟩⟩
              · rw [if_neg c46] at H
                have c46b0 : (t119 == 3) = false := beq_eq_false_iff_ne.mpr c46
                have c46b1 : (t119 != 3) = true := bne_iff_ne.mpr c46
                by_cases c49 : t119 = 4
                · rw [if_pos c49] at H
                  have c49b0 : (t119 == 4) = true := beq_iff_eq.mpr c49
                  have c49b1 : (t119 != 4) = false := bne_eq_false_iff_eq.mpr c49
                  clear c49
                  have H' := Aside0.mk H
                  clear H
                  go_wp2
                  go_meet
                  case rel => exact ⟨_, (false), (by first | rfl | (simp; done) | (simp [*]; done) | (simp [Kd.bne_nil]; done)), H', ⟨by first | omega | exact Nat.le_refl _⟩, ⟨by (with_reducible repeat (first | refine blk_drewN ?_ _ | refine blk_drew ?_ | refine blk_alloc ?_ _)); exact BK117.out⟩, ⟨by repeat (first | (with_reducible first | exact HB.out | apply below_alloc | apply pw_below_drewN | apply below_drew1 | refine below_set ?_ GE117.out) | exact HB.out)⟩⟩
                · rw [if_neg c49] at H
                  have c49b0 : (t119 == 4) = false := beq_eq_false_iff_ne.mpr c49
                  have c49b1 : (t119 != 4) = true := bne_iff_ne.mpr c49
                  have H' := Aside0.mk H
                  clear H
                  have hcz50_0 : w7.cell? ⟨gb117, 0, none⟩ = some (.int .i64 a0_0) := (blk_cell BK117.out 0).trans rfl
                  have hcz50_1 : w7.cell? ⟨gb117, 1, none⟩ = some (.int .u32 a0_1) := (blk_cell BK117.out 1).trans rfl
                  have hcz50_2 : w7.cell? ⟨gb117, 2, none⟩ = some (.string a0_2) := (blk_cell BK117.out 2).trans rfl
                  have hcz50_3 : w7.cell? ⟨gb117, 3, none⟩ = some (.int .i64 a0_3) := (blk_cell BK117.out 3).trans rfl
                  have hfz50_0 := blk_frozen BK117.out 0
                  have hfz50_1 := blk_frozen BK117.out 1
                  have hfz50_2 := blk_frozen BK117.out 2
                  have hfz50_3 := blk_frozen BK117.out 3
                  go_wp2
                  go_meet
                  case rel => exact ⟨_, ((a0_3 != 0)), (by first | rfl | (simp; done) | (simp [*]; done) | (simp [Kd.bne_nil]; done)), H', ⟨by first | omega | exact Nat.le_refl _⟩, ⟨by (with_reducible repeat (first | refine blk_drewN ?_ _ | refine blk_drew ?_ | refine blk_alloc ?_ _)); exact BK117.out⟩, ⟨by repeat (first | (with_reducible first | exact HB.out | apply below_alloc | apply pw_below_drewN | apply below_drew1 | refine below_set ?_ GE117.out) | exact HB.out)⟩⟩
            · rw [if_neg c45] at H
              have c45b0 : (t119 == 6) = false := beq_eq_false_iff_ne.mpr c45
              have c45b1 : (t119 != 6) = true := bne_iff_ne.mpr c45
              by_cases c51 : a0_1 = 0
              · rw [if_pos c51] at H
                have c51b0 : (a0_1 == 0) = true := beq_iff_eq.mpr c51
                have c51b1 : (a0_1 != 0) = false := bne_eq_false_iff_eq.mpr c51
                clear c51
                by_cases c52 : t119 = 3
                · rw [if_pos c52] at H
                  have c52b0 : (t119 == 3) = true := beq_iff_eq.mpr c52
                  have c52b1 : (t119 != 3) = false := bne_eq_false_iff_eq.mpr c52
                  clear c52
                  by_cases c53 : t119 = 4
                  · rw [if_pos c53] at H
                    have c53b0 : (t119 == 4) = true := beq_iff_eq.mpr c53
                    have c53b1 : (t119 != 4) = false := bne_eq_false_iff_eq.mpr c53
                    clear c53
                    have H' := Aside0.mk H
                    clear H
                    have hcz54_0 : w7.cell? ⟨gb117, 0, none⟩ = some (.int .i64 a0_0) := (blk_cell BK117.out 0).trans rfl
                    have hcz54_1 : w7.cell? ⟨gb117, 1, none⟩ = some (.int .u32 a0_1) := (blk_cell BK117.out 1).trans rfl
                    have hcz54_2 : w7.cell? ⟨gb117, 2, none⟩ = some (.string a0_2) := (blk_cell BK117.out 2).trans rfl
                    have hcz54_3 : w7.cell? ⟨gb117, 3, none⟩ = some (.int .i64 a0_3) := (blk_cell BK117.out 3).trans rfl
                    have hfz54_0 := blk_frozen BK117.out 0
                    have hfz54_1 := blk_frozen BK117.out 1
                    have hfz54_2 := blk_frozen BK117.out 2
                    have hfz54_3 := blk_frozen BK117.out 3
                    go_wp2
                    go_meet
                    case rel => exact ⟨_, (false), (by first | rfl | (simp; done) | (simp [*]; done) | (simp [Kd.bne_nil]; done)), H', ⟨by first | omega | exact Nat.le_refl _⟩, ⟨by (with_reducible repeat (first | refine blk_drewN ?_ _ | refine blk_drew ?_ | refine blk_alloc ?_ _)); exact BK117.out⟩, ⟨by repeat (first | (with_reducible first | exact HB.out | apply below_alloc | apply pw_below_drewN | apply below_drew1 | refine below_set ?_ GE117.out) | exact HB.out)⟩⟩
                  · rw [if_neg c53] at H
                    have c53b0 : (t119 == 4) = false := beq_eq_false_iff_ne.mpr c53
                    have c53b1 : (t119 != 4) = true := bne_iff_ne.mpr c53
                    have H' := Aside0.mk H
                    clear H
                    have hcz55_0 : w7.cell? ⟨gb117, 0, none⟩ = some (.int .i64 a0_0) := (blk_cell BK117.out 0).trans rfl
                    have hcz55_1 : w7.cell? ⟨gb117, 1, none⟩ = some (.int .u32 a0_1) := (blk_cell BK117.out 1).trans rfl
                    have hcz55_2 : w7.cell? ⟨gb117, 2, none⟩ = some (.string a0_2) := (blk_cell BK117.out 2).trans rfl
                    have hcz55_3 : w7.cell? ⟨gb117, 3, none⟩ = some (.int .i64 a0_3) := (blk_cell BK117.out 3).trans rfl
                    have hfz55_0 := blk_frozen BK117.out 0
                    have hfz55_1 := blk_frozen BK117.out 1
                    have hfz55_2 := blk_frozen BK117.out 2
                    have hfz55_3 := blk_frozen BK117.out 3
                    go_wp2
                    go_meet
                    case rel => exact ⟨_, ((a0_3 != 0)), (by first | rfl | (simp; done) | (simp [*]; done) | (simp [Kd.bne_nil]; done)), H', ⟨by first | omega | exact Nat.le_refl _⟩, ⟨by (with_reducible repeat (first | refine blk_drewN ?_ _ | refine blk_drew ?_ | refine blk_alloc ?_ _)); exact BK117.out⟩, ⟨by repeat (first | (with_reducible first | exact HB.out | apply below_alloc | apply pw_below_drewN | apply below_drew1 | refine below_set ?_ GE117.out) | exact HB.out)⟩⟩
                · rw [if_neg c52] at H
                  have c52b0 : (t119 == 3) = false := beq_eq_false_iff_ne.mpr c52
                  have c52b1 : (t119 != 3) = true := bne_iff_ne.mpr c52
                  by_cases c56 : a0_2.toList = ([] : List UInt8)
                  · rw [if_pos c56] at H
                    have c56b0 : (a0_2.toList == ([] : List UInt8)) = true := beq_iff_eq.mpr c56
                    have c56b1 : (a0_2.toList != ([] : List UInt8)) = false := bne_eq_false_iff_eq.mpr c56
                    clear c56
                    by_cases c57 : t119 = 4
                    · rw [if_pos c57] at H
                      have c57b0 : (t119 == 4) = true := beq_iff_eq.mpr c57
                      have c57b1 : (t119 != 4) = false := bne_eq_false_iff_eq.mpr c57
                      clear c57
                      have H' := Aside0.mk H
                      clear H
                      have hcz58_0 : w7.cell? ⟨gb117, 0, none⟩ = some (.int .i64 a0_0) := (blk_cell BK117.out 0).trans rfl
                      have hcz58_1 : w7.cell? ⟨gb117, 1, none⟩ = some (.int .u32 a0_1) := (blk_cell BK117.out 1).trans rfl
                      have hcz58_2 : w7.cell? ⟨gb117, 2, none⟩ = some (.string a0_2) := (blk_cell BK117.out 2).trans rfl
                      have hcz58_3 : w7.cell? ⟨gb117, 3, none⟩ = some (.int .i64 a0_3) := (blk_cell BK117.out 3).trans rfl
                      have hfz58_0 := blk_frozen BK117.out 0
                      have hfz58_1 := blk_frozen BK117.out 1
                      have hfz58_2 := blk_frozen BK117.out 2
                      have hfz58_3 := blk_frozen BK117.out 3
                      go_wp2
                      go_meet
                      case rel => exact ⟨_, (false), (by first | rfl | (simp; done) | (simp [*]; done) | (simp [Kd.bne_nil]; done)), H', ⟨by first | omega | exact Nat.le_refl _⟩, ⟨by (with_reducible repeat (first | refine blk_drewN ?_ _ | refine blk_drew ?_ | refine blk_alloc ?_ _)); exact BK117.out⟩, ⟨by repeat (first | (with_reducible first | exact HB.out | apply below_alloc | apply pw_below_drewN | apply below_drew1 | refine below_set ?_ GE117.out) | exact HB.out)⟩⟩
                    · rw [if_neg c57] at H
                      have c57b0 : (t119 == 4) = false := beq_eq_false_iff_ne.mpr c57
                      have c57b1 : (t119 != 4) = true := bne_iff_ne.mpr c57
                      have H' := Aside0.mk H
                      clear H
                      have hcz59_0 : w7.cell? ⟨gb117, 0, none⟩ = some (.int .i64 a0_0) := (blk_cell BK117.out 0).trans rfl
                      have hcz59_1 : w7.cell? ⟨gb117, 1, none⟩ = some (.int .u32 a0_1) := (blk_cell BK117.out 1).trans rfl
                      have hcz59_2 : w7.cell? ⟨gb117, 2, none⟩ = some (.string a0_2) := (blk_cell BK117.out 2).trans rfl
                      have hcz59_3 : w7.cell? ⟨gb117, 3, none⟩ = some (.int .i64 a0_3) := (blk_cell BK117.out 3).trans rfl
                      have hfz59_0 := blk_frozen BK117.out 0
                      have hfz59_1 := blk_frozen BK117.out 1
                      have hfz59_2 := blk_frozen BK117.out 2
                      have hfz59_3 := blk_frozen BK117.out 3
                      go_wp2
                      go_meet
                      case rel => exact ⟨_, ((a0_3 != 0)), (by first | rfl | (simp; done) | (simp [*]; done) | (simp [Kd.bne_nil]; done)), H', ⟨by first | omega | exact Nat.le_refl _⟩, ⟨by (with_reducible repeat (first | refine blk_drewN ?_ _ | refine blk_drew ?_ | refine blk_alloc ?_ _)); exact BK117.out⟩, ⟨by repeat (first | (with_reducible first | exact HB.out | apply below_alloc | apply pw_below_drewN | apply below_drew1 | refine below_set ?_ GE117.out) | exact HB.out)⟩⟩
                  · rw [if_neg c56] at H
                    have c56b0 : (a0_2.toList == ([] : List UInt8)) = false := beq_eq_false_iff_ne.mpr c56
                    have c56b1 : (a0_2.toList != ([] : List UInt8)) = true := bne_iff_ne.mpr c56
                    have H' := Aside0.mk H
                    clear H
                    have hcz60_0 : w7.cell? ⟨gb117, 0, none⟩ = some (.int .i64 a0_0) := (blk_cell BK117.out 0).trans rfl
                    have hcz60_1 : w7.cell? ⟨gb117, 1, none⟩ = some (.int .u32 a0_1) := (blk_cell BK117.out 1).trans rfl
                    have hcz60_2 : w7.cell? ⟨gb117, 2, none⟩ = some (.string a0_2) := (blk_cell BK117.out 2).trans rfl
                    have hcz60_3 : w7.cell? ⟨gb117, 3, none⟩ = some (.int .i64 a0_3) := (blk_cell BK117.out 3).trans rfl
                    have hfz60_0 := blk_frozen BK117.out 0
                    have hfz60_1 := blk_frozen BK117.out 1
                    have hfz60_2 := blk_frozen BK117.out 2
                    have hfz60_3 := blk_frozen BK117.out 3
                    go_wp2
                    go_meet
                    case rel => exact ⟨_, (true), (by first | rfl | (simp; done) | (simp [*]; done) | (simp [Kd.bne_nil]; done)), H', ⟨by first | omega | exact Nat.le_refl _⟩, ⟨by (with_reducible repeat (first | refine blk_drewN ?_ _ | refine blk_drew ?_ | refine blk_alloc ?_ _)); exact BK117.out⟩, ⟨by repeat (first | (with_reducible first | exact HB.out | apply below_alloc | apply pw_below_drewN | apply below_drew1 | refine below_set ?_ GE117.out) | exact HB.out)⟩⟩
              · rw [if_neg c51] at H
                have c51b0 : (a0_1 == 0) = false := beq_eq_false_iff_ne.mpr c51
                have c51b1 : (a0_1 != 0) = true := bne_iff_ne.mpr c51
                have H' := Aside0.mk H
                clear H
                have hcz61_0 : w7.cell? ⟨gb117, 0, none⟩ = some (.int .i64 a0_0) := (blk_cell BK117.out 0).trans rfl
                have hcz61_1 : w7.cell? ⟨gb117, 1, none⟩ = some (.int .u32 a0_1) := (blk_cell BK117.out 1).trans rfl
                have hcz61_2 : w7.cell? ⟨gb117, 2, none⟩ = some (.string a0_2) := (blk_cell BK117.out 2).trans rfl
                have hcz61_3 : w7.cell? ⟨gb117, 3, none⟩ = some (.int .i64 a0_3) := (blk_cell BK117.out 3).trans rfl
                have hfz61_0 := blk_frozen BK117.out 0
                have hfz61_1 := blk_frozen BK117.out 1
                have hfz61_2 := blk_frozen BK117.out 2
                have hfz61_3 := blk_frozen BK117.out 3
                go_wp2
                go_meet
                case rel => exact ⟨_, (true), (by first | rfl | (simp; done) | (simp [*]; done) | (simp [Kd.bne_nil]; done)), H', ⟨by first | omega | exact Nat.le_refl _⟩, ⟨by (with_reducible repeat (first | refine blk_drewN ?_ _ | refine blk_drew ?_ | refine blk_alloc ?_ _)); exact BK117.out⟩, ⟨by repeat (first | (with_reducible first | exact HB.out | apply below_alloc | apply pw_below_drewN | apply below_drew1 | refine below_set ?_ GE117.out) | exact HB.out)⟩⟩
    case rest => as_aux_lemma =>
      clear HC6
      try clear c1
      try clear c2
      try clear p2
      try clear c3
      try clear c4
      try clear c5
      try clear c9
      try clear c9b0
      try clear c9b1
      try clear c10
      try clear c10b0
      try clear c10b1
      try clear c11
      try clear c11b0
      try clear c11b1
      try clear c13
      try clear c13b0
      try clear c13b1
      try clear c14
      try clear c14b0
      try clear c14b1
      try clear c16
      try clear c16b0
      try clear c16b1
      try clear c17
      try clear c17b0
      try clear c17b1
      try clear c21
      try clear c21b0
      try clear c21b1
      try clear c22
      try clear c22b0
      try clear c22b1
      try clear c23
      try clear c23b0
      try clear c23b1
      try clear c25
      try clear c25b0
      try clear c25b1
      try clear c26
      try clear c26b0
      try clear c26b1
      try clear c28
      try clear c28b0
      try clear c28b1
      try clear c29
      try clear c29b0
      try clear c29b1
      try clear c33
      try clear c33b0
      try clear c33b1
      try clear c34
      try clear c34b0
      try clear c34b1
      try clear c35
      try clear c35b0
      try clear c35b1
      try clear c37
      try clear c37b0
      try clear c37b1
      try clear c38
      try clear c38b0
      try clear c38b1
      try clear c40
      try clear c40b0
      try clear c40b1
      try clear c41
      try clear c41b0
      try clear c41b1
      try clear c45
      try clear c45b0
      try clear c45b1
      try clear c46
      try clear c46b0
      try clear c46b1
      try clear c47
      try clear c47b0
      try clear c47b1
      try clear c49
      try clear c49b0
      try clear c49b1
      try clear c51
      try clear c51b0
      try clear c51b1
      try clear c52
      try clear c52b0
      try clear c52b1
      try clear c53
      try clear c53b0
      try clear c53b1
      try clear c56
      try clear c56b0
      try clear c56b1
      try clear c57
      try clear c57b0
      try clear c57b1
      try clear hcz12_0
      try clear hcz12_1
      try clear hcz12_2
      try clear hcz12_3
      try clear hcz15_0
      try clear hcz15_1
      try clear hcz15_2
      try clear hcz15_3
      try clear hcz18_0
      try clear hcz18_1
      try clear hcz18_2
      try clear hcz18_3
      try clear hcz19_0
      try clear hcz19_1
      try clear hcz19_2
      try clear hcz19_3
      try clear hcz20_0
      try clear hcz20_1
      try clear hcz20_2
      try clear hcz20_3
      try clear hcz24_0
      try clear hcz24_1
      try clear hcz24_2
      try clear hcz24_3
      try clear hcz27_0
      try clear hcz27_1
      try clear hcz27_2
      try clear hcz27_3
      try clear hcz30_0
      try clear hcz30_1
      try clear hcz30_2
      try clear hcz30_3
      try clear hcz31_0
      try clear hcz31_1
      try clear hcz31_2
      try clear hcz31_3
      try clear hcz32_0
      try clear hcz32_1
      try clear hcz32_2
      try clear hcz32_3
      try clear hcz36_0
      try clear hcz36_1
      try clear hcz36_2
      try clear hcz36_3
      try clear hcz39_0
      try clear hcz39_1
      try clear hcz39_2
      try clear hcz39_3
      try clear hcz42_0
      try clear hcz42_1
      try clear hcz42_2
      try clear hcz42_3
      try clear hcz43_0
      try clear hcz43_1
      try clear hcz43_2
      try clear hcz43_3
      try clear hcz44_0
      try clear hcz44_1
      try clear hcz44_2
      try clear hcz44_3
      try clear hcz48_0
      try clear hcz48_1
      try clear hcz48_2
      try clear hcz48_3
      try clear hcz50_0
      try clear hcz50_1
      try clear hcz50_2
      try clear hcz50_3
      try clear hcz54_0
      try clear hcz54_1
      try clear hcz54_2
      try clear hcz54_3
      try clear hcz55_0
      try clear hcz55_1
      try clear hcz55_2
      try clear hcz55_3
      try clear hcz58_0
      try clear hcz58_1
      try clear hcz58_2
      try clear hcz58_3
      try clear hcz59_0
      try clear hcz59_1
      try clear hcz59_2
      try clear hcz59_3
      try clear hcz60_0
      try clear hcz60_1
      try clear hcz60_2
      try clear hcz60_3
      try clear hcz61_0
      try clear hcz61_1
      try clear hcz61_2
      try clear hcz61_3
      try clear hcz8_0
      try clear hcz8_1
      try clear hcz8_2
      try clear hcz8_3
      try clear hfz12_0
      try clear hfz12_1
      try clear hfz12_2
      try clear hfz12_3
      try clear hfz15_0
      try clear hfz15_1
      try clear hfz15_2
      try clear hfz15_3
      try clear hfz18_0
      try clear hfz18_1
      try clear hfz18_2
      try clear hfz18_3
      try clear hfz19_0
      try clear hfz19_1
      try clear hfz19_2
      try clear hfz19_3
      try clear hfz20_0
      try clear hfz20_1
      try clear hfz20_2
      try clear hfz20_3
      try clear hfz24_0
      try clear hfz24_1
      try clear hfz24_2
      try clear hfz24_3
      try clear hfz27_0
      try clear hfz27_1
      try clear hfz27_2
      try clear hfz27_3
      try clear hfz30_0
      try clear hfz30_1
      try clear hfz30_2
      try clear hfz30_3
      try clear hfz31_0
      try clear hfz31_1
      try clear hfz31_2
      try clear hfz31_3
      try clear hfz32_0
      try clear hfz32_1
      try clear hfz32_2
      try clear hfz32_3
      try clear hfz36_0
      try clear hfz36_1
      try clear hfz36_2
      try clear hfz36_3
      try clear hfz39_0
      try clear hfz39_1
      try clear hfz39_2
      try clear hfz39_3
      try clear hfz42_0
      try clear hfz42_1
      try clear hfz42_2
      try clear hfz42_3
      try clear hfz43_0
      try clear hfz43_1
      try clear hfz43_2
      try clear hfz43_3
      try clear hfz44_0
      try clear hfz44_1
      try clear hfz44_2
      try clear hfz44_3
      try clear hfz48_0
      try clear hfz48_1
      try clear hfz48_2
      try clear hfz48_3
      try clear hfz50_0
      try clear hfz50_1
      try clear hfz50_2
      try clear hfz50_3
      try clear hfz54_0
      try clear hfz54_1
      try clear hfz54_2
      try clear hfz54_3
      try clear hfz55_0
      try clear hfz55_1
      try clear hfz55_2
      try clear hfz55_3
      try clear hfz58_0
      try clear hfz58_1
      try clear hfz58_2
      try clear hfz58_3
      try clear hfz59_0
      try clear hfz59_1
      try clear hfz59_2
      try clear hfz59_3
      try clear hfz60_0
      try clear hfz60_1
      try clear hfz60_2
      try clear hfz60_3
      try clear hfz61_0
      try clear hfz61_1
      try clear hfz61_2
      try clear hfz61_3
      try clear hfz8_0
      try clear hfz8_1
      try clear hfz8_2
      try clear hfz8_3
      obtain ⟨kq, x56_5, rfl, HA, HJ5, BK117, HB⟩ := hcut
      cases kq with
      | zero => exact absurd HA.out (by simp [tinderref13_Bytes.j0])
      | succ kj5 =>
        have H := HA.out
        clear HA
        simp only [tinderref13_Bytes.j0] at H
        by_cases c62 : x56_5 = true
        · subst c62
          have H1 : (some (([] : List Int), false)) = some (r1, r2) := by rw [if_pos rfl] at H; exact H
          clear H
          have H := H1
          clear H1
          simp only [Option.some.injEq, Prod.mk.injEq] at H
          obtain ⟨rfl, rfl⟩ := H
          go_wp2
          go_ret2
          exact ⟨_, by first | rfl | (simp [errW_none, errW_some] <;> rfl) | (simp [*, errW_none, errW_some] <;> rfl), by first | exact Kd.R_nil _ _ _ _ _ | exact Kd.N_nil _ _ _ _ _ | exact Kd.V_nil _ _ _ _ _ | exact Kd.Q_nil _ _ _ _ _ | exact Kd.S_nil _ _ _ _ _, by repeat (first | (with_reducible first | exact HB.out | apply below_alloc | apply pw_below_drewN | apply below_drew1 | refine below_set ?_ GE117.out) | exact HB.out)⟩
        · as_aux_lemma =>
          replace c62 := Bool.eq_false_iff.mpr c62
          subst c62
          have H1 : ((tinderref13_code.f a0_0).bind fun t120 => (if t119 = 1 then ((tinderref13_two.f (wrap64 (Int.tdiv (wrap64 (a0_1)) 65536))).bind fun t123 => (if t120.length + t123.length < 140737488355328 then ((some (t120 ++ t123 : List Int)).bind fun y126 => ((tinderref13_two.f (Int.tmod (wrap64 (a0_1)) 65536)).bind fun t129 => (if y126.length + t129.length < 140737488355328 then (some ((y126 ++ t129), true)) else (none)))) else (none))) else (if t119 = 2 then ((tinderref13_Coded.f (wrap64 (a0_1))).bind fun t135 => (if t135 = true then ((tinderref13_code.f (wrap64 (a0_1))).bind fun t136 => (if t120.length + t136.length < 140737488355328 then (some ((t120 ++ t136), true)) else (none))) else (some (([] : List Int), false)))) else (if t119 = 3 then (if (a0_2.size : Int) > 255 then (some (([] : List Int), false)) else (if t120.length < 140737488355328 then ((some (t120 ++ [((a0_2.size : Int)) % 256] : List Int)).bind fun y142 => (if y142.length + a0_2.size < 140737488355328 then (some ((y142 ++ bytesOf a0_2), true)) else (none))) else (none))) else (if t119 = 4 then (if a1 = true then ((tinderref13_two.f (wrap64 (a0_3 + 65536))).bind fun t148 => (if t120.length + t148.length < 140737488355328 then ((some (t120 ++ t148 : List Int)).bind fun y151 => (if a0_3 ≥ (-32768) then (some (y151, decide (a0_3 ≤ 32767))) else (some (y151, false)))) else (none))) else (if t120.length < 140737488355328 then ((some (t120 ++ [(Int.tmod (wrap64 (a0_3 + 256)) 256) % 256] : List Int)).bind fun y154 => (if a0_3 ≥ (-128) then (some (y154, decide (a0_3 ≤ 127))) else (some (y154, false)))) else (none))) else (if t119 = 5 then (tinderref13_Bytes.j1 kj5 t119 t120 (wrap64 (a0_1)) (t119 == 5) a0_0 a0_1 a0_2 a0_3) else (tinderref13_Bytes.j1 kj5 t119 t120 (wrap64 (a0_1)) (t119 == 6) a0_0 a0_1 a0_2 a0_3))))))) = some (r1, r2) := by rw [if_neg (show ¬ (false = true) by decide)] at H; exact H
          clear H
          have H := H1
          clear H1
          replace H := Option.bind_eq_some_iff.mp H
          obtain ⟨t120, A630, H⟩ := H
          replace H : (if t119 = 1 then ((tinderref13_two.f (wrap64 (Int.tdiv (wrap64 (a0_1)) 65536))).bind fun t123 => (if t120.length + t123.length < 140737488355328 then ((some (t120 ++ t123 : List Int)).bind fun y126 => ((tinderref13_two.f (Int.tmod (wrap64 (a0_1)) 65536)).bind fun t129 => (if y126.length + t129.length < 140737488355328 then (some ((y126 ++ t129), true)) else (none)))) else (none))) else (if t119 = 2 then ((tinderref13_Coded.f (wrap64 (a0_1))).bind fun t135 => (if t135 = true then ((tinderref13_code.f (wrap64 (a0_1))).bind fun t136 => (if t120.length + t136.length < 140737488355328 then (some ((t120 ++ t136), true)) else (none))) else (some (([] : List Int), false)))) else (if t119 = 3 then (if (a0_2.size : Int) > 255 then (some (([] : List Int), false)) else (if t120.length < 140737488355328 then ((some (t120 ++ [((a0_2.size : Int)) % 256] : List Int)).bind fun y142 => (if y142.length + a0_2.size < 140737488355328 then (some ((y142 ++ bytesOf a0_2), true)) else (none))) else (none))) else (if t119 = 4 then (if a1 = true then ((tinderref13_two.f (wrap64 (a0_3 + 65536))).bind fun t148 => (if t120.length + t148.length < 140737488355328 then ((some (t120 ++ t148 : List Int)).bind fun y151 => (if a0_3 ≥ (-32768) then (some (y151, decide (a0_3 ≤ 32767))) else (some (y151, false)))) else (none))) else (if t120.length < 140737488355328 then ((some (t120 ++ [(Int.tmod (wrap64 (a0_3 + 256)) 256) % 256] : List Int)).bind fun y154 => (if a0_3 ≥ (-128) then (some (y154, decide (a0_3 ≤ 127))) else (some (y154, false)))) else (none))) else (if t119 = 5 then (tinderref13_Bytes.j1 kj5 t119 t120 (wrap64 (a0_1)) (t119 == 5) a0_0 a0_1 a0_2 a0_3) else (tinderref13_Bytes.j1 kj5 t119 t120 (wrap64 (a0_1)) (t119 == 6) a0_0 a0_1 a0_2 a0_3)))))) = some (r1, r2) := H
          have A63 := Aside0.mk A630
          clear A630
          by_cases c64 : t119 = 1
          · rw [if_pos c64] at H
            have c64b0 : (t119 == 1) = true := beq_iff_eq.mpr c64
            have c64b1 : (t119 != 1) = false := bne_eq_false_iff_eq.mpr c64
            clear c64
            replace H := Option.bind_eq_some_iff.mp H
            obtain ⟨t123, A650, H⟩ := H
            replace H : (if t120.length + t123.length < 140737488355328 then ((some (t120 ++ t123 : List Int)).bind fun y126 => ((tinderref13_two.f (Int.tmod (wrap64 (a0_1)) 65536)).bind fun t129 => (if y126.length + t129.length < 140737488355328 then (some ((y126 ++ t129), true)) else (none)))) else (none)) = some (r1, r2) := H
            have A65 := Aside0.mk A650
            clear A650
            by_cases c66 : t120.length + t123.length < 140737488355328
            · rw [if_pos c66] at H
              have LMc66 := Aside0.mk c66
              clear c66
              obtain ⟨y126, hy126⟩ : ∃ y_ : List Int, y_ = (t120 ++ t123) := ⟨_, rfl⟩
              replace H : ((tinderref13_two.f (Int.tmod (wrap64 (a0_1)) 65536)).bind fun t129 => (if y126.length + t129.length < 140737488355328 then (some ((y126 ++ t129), true)) else (none))) = some (r1, r2) := by first | (rw [hy126]; with_reducible exact H) | (have H2_ := (Option.bind_some _ _).symm.trans H; rw [hy126]; with_reducible exact H2_) | (have H2_ := (Option.bind_some _ _).symm.trans H; with_reducible exact H2_) | with_reducible exact H | (rw [hy126]; exact H) | exact H
              have Ny126 := Aside0.mk hy126
              clear hy126
              replace H := Option.bind_eq_some_iff.mp H
              obtain ⟨t129, A670, H⟩ := H
              replace H : (if y126.length + t129.length < 140737488355328 then (some ((y126 ++ t129), true)) else (none)) = some (r1, r2) := H
              have A67 := Aside0.mk A670
              clear A670
              by_cases c68 : y126.length + t129.length < 140737488355328
              · rw [if_pos c68] at H
                have LMc68 := Aside0.mk c68
                clear c68
                obtain ⟨y132, hy132⟩ : ∃ y_ : List Int, y_ = (y126 ++ t129) := ⟨_, rfl⟩
                replace H : (some (y132, true)) = some (r1, r2) := by first | (rw [hy132]; with_reducible exact H) | (have H2_ := (Option.bind_some _ _).symm.trans H; rw [hy132]; with_reducible exact H2_) | (have H2_ := (Option.bind_some _ _).symm.trans H; with_reducible exact H2_) | with_reducible exact H | (rw [hy132]; exact H) | exact H
                have Ny132 := Aside0.mk hy132
                clear hy132
                simp only [Option.some.injEq, Prod.mk.injEq] at H
                obtain ⟨rfl, rfl⟩ := H
                have hcz69_0 : wc.cell? ⟨gb117, 0, none⟩ = some (.int .i64 a0_0) := (blk_cell BK117.out 0).trans rfl
                have hcz69_1 : wc.cell? ⟨gb117, 1, none⟩ = some (.int .u32 a0_1) := (blk_cell BK117.out 1).trans rfl
                have hcz69_2 : wc.cell? ⟨gb117, 2, none⟩ = some (.string a0_2) := (blk_cell BK117.out 2).trans rfl
                have hcz69_3 : wc.cell? ⟨gb117, 3, none⟩ = some (.int .i64 a0_3) := (blk_cell BK117.out 3).trans rfl
                have hfz69_0 := blk_frozen BK117.out 0
                have hfz69_1 := blk_frozen BK117.out 1
                have hfz69_2 := blk_frozen BK117.out 2
                have hfz69_3 := blk_frozen BK117.out 3
                go_wp2_with (first | ((with_reducible refine gate_callee (f := 34) rfl ?_); refine goesL_ (some 59) rfl rfl Try.func34 (by kernel_rfl) rfl #[.int .i64 a0_0] rfl (by (try simp only [List.map_toArray, List.map_cons, List.map_nil]); first | done | rfl | (simp only [List.length_drop, List.length_take]; rfl)) ?_; (with_reducible refine (tinderref13_code.calls a0_0 t120 _ A63.out).mono ?_); rintro e w70 ⟨v121, rfl, ho0, hb⟩; refine ⟨_, rfl, ?_⟩; have n0_ := Aside0.mk (Kd.R_lower ho0 (below_size (by repeat (first | (with_reducible first | exact HB.out | apply below_alloc | apply pw_below_drewN | apply below_drew1 | refine below_set ?_ GE117.out) | exact HB.out)))); have n1_ := Aside0.mk (blk_below (g := gb117) (o := .cells #[.int .i64 a0_0, .int .u32 a0_1, .string a0_2, .int .i64 a0_3] 34 (0, 0)) (by (with_reducible repeat (first | refine blk_drewN ?_ _ | refine blk_drew ?_ | refine blk_alloc ?_ _)); exact BK117.out) hb); have n2_ := Aside0.mk (below_step (by repeat (first | (with_reducible first | exact HB.out | apply below_alloc | apply pw_below_drewN | apply below_drew1 | refine below_set ?_ GE117.out) | exact HB.out)) hb); clear BK117; clear HB; have HO122 := n0_; have BK117 := n1_; have HB := n2_; clear n0_ n1_ n2_; (try clear hb); (try clear hb2); (try clear hk); (try clear hi); (try clear ho0); have hcz71_0 : w70.cell? ⟨gb117, 0, none⟩ = some (.int .i64 a0_0) := (blk_cell BK117.out 0).trans rfl; have hcz71_1 : w70.cell? ⟨gb117, 1, none⟩ = some (.int .u32 a0_1) := (blk_cell BK117.out 1).trans rfl; have hcz71_2 : w70.cell? ⟨gb117, 2, none⟩ = some (.string a0_2) := (blk_cell BK117.out 2).trans rfl; have hcz71_3 : w70.cell? ⟨gb117, 3, none⟩ = some (.int .i64 a0_3) := (blk_cell BK117.out 3).trans rfl; have hfz71_0 := blk_frozen BK117.out 0; have hfz71_1 := blk_frozen BK117.out 1; have hfz71_2 := blk_frozen BK117.out 2; have hfz71_3 := blk_frozen BK117.out 3) | ((with_reducible refine gate_callee (f := 35) rfl ?_); refine goesL_ (some 69) rfl rfl Try.func35 (by kernel_rfl) rfl #[.int .i64 (wrap64 (Int.tdiv (wrap64 (a0_1)) 65536))] rfl (by (try simp only [List.map_toArray, List.map_cons, List.map_nil]); first | done | rfl | (simp only [List.length_drop, List.length_take]; rfl)) ?_; (with_reducible refine (tinderref13_two.calls (wrap64 (Int.tdiv (wrap64 (a0_1)) 65536)) t123 _ A65.out).mono ?_); rintro e w72 ⟨v124, rfl, ho0, hb⟩; refine ⟨_, rfl, ?_⟩; have n0_ := Aside0.mk (Kd.R_elder' (by (with_reducible repeat (first | apply Kd.R_alloc | apply Kd.R_drewN | apply Kd.R_drew)); exact HO122.out) (Kd.R_base ho0) hb); have n1_ := Aside0.mk (Kd.R_lower (Kd.R_new' ho0 (Kd.R_lt (by (with_reducible repeat (first | apply Kd.R_alloc | apply Kd.R_drewN | apply Kd.R_drew)); exact HO122.out))) (below_size (by repeat (first | (with_reducible first | exact HB.out | apply below_alloc | apply pw_below_drewN | apply below_drew1 | refine below_set ?_ GE117.out) | exact HB.out)))); have n2_ := Aside0.mk (blk_below (g := gb117) (o := .cells #[.int .i64 a0_0, .int .u32 a0_1, .string a0_2, .int .i64 a0_3] 34 (0, 0)) (by (with_reducible repeat (first | refine blk_drewN ?_ _ | refine blk_drew ?_ | refine blk_alloc ?_ _)); exact BK117.out) hb); have n3_ := Aside0.mk (below_step (by repeat (first | (with_reducible first | exact HB.out | apply below_alloc | apply pw_below_drewN | apply below_drew1 | refine below_set ?_ GE117.out) | exact HB.out)) hb); clear HO122; clear BK117; clear HB; have HO122 := n0_; have HO125 := n1_; have BK117 := n2_; have HB := n3_; clear n0_ n1_ n2_ n3_; (try clear hb); (try clear hb2); (try clear hk); (try clear hi); (try clear ho0); obtain ⟨Ao74, co74, eo74⟩ := Kd.R_slice HO125.out; subst eo74) | ((with_reducible refine gate_builtin (b := .append) (xs := #[.tmp 66, .tmp 69]) rfl ?_); (try (refine gate_guard (by rfl) ?_; dsimp only)); at_builtin; refine Kd.R_append_rows (Kd.int .u8) (w0 := w) w.heap.size rfl (.tmp 66) (.tmp 69) 22 5 (.int .u8 0) 1 rfl Try.underlying22 info5 rfl (by decide) (by omega) v121 t120 t123 _ _ _ (fun k_ => some k_ ≠ (.slice Ao74 t123.length co74 : Value).ownBlock) (fun _ => False) rfl rfl ?aO ?aR (fun _ _ h => h) (fun _ h => h.elim) ?aF ?aB ?aS ?aL ?_; (case aR => repeat (first | exact (Kd.R_reads' HO125.out).2.2 | (with_reducible refine Kd.C_alloc ?_ _) | (with_reducible refine Kd.C_drewN ?_ _) | (with_reducible refine Kd.C_drew ?_))); (case aB => exact (by repeat (first | (with_reducible first | exact HB.out | apply below_alloc | apply pw_below_drewN | apply below_drew1 | refine below_set ?_ GE117.out) | exact HB.out))); (case aF => exact (fun k_ hk => Kd.fresh' (Kd.R_lt (by (with_reducible repeat (first | apply Kd.R_alloc | apply Kd.R_drewN | apply Kd.R_drew)); exact HO125.out)) k_ hk)); (case aO => exact (by (with_reducible repeat (first | apply Kd.R_alloc | apply Kd.R_drewN | apply Kd.R_drew)); exact Kd.R_mono HO122.out (fun _ hk => hk.2))); (case aS => exact (below_size (by repeat (first | (with_reducible first | exact HB.out | apply below_alloc | apply pw_below_drewN | apply below_drew1 | refine below_set ?_ GE117.out) | exact HB.out)))); (case aL => have := LMc66.out; omega); intro v127 w73 ho hb hg hat; rw [← Ny126.out] at ho; have n0_ := Aside0.mk (blk_grown (g := gb117) (o := .cells #[.int .i64 a0_0, .int .u32 a0_1, .string a0_2, .int .i64 a0_3] 34 (0, 0)) (by (with_reducible repeat (first | refine blk_drewN ?_ _ | refine blk_drew ?_ | refine blk_alloc ?_ _)); exact BK117.out) hg (Kd.R_ne HO122.out BK117.out (by decide))); have n1_ := Aside0.mk (Kd.R_after (ok := (fun _ => True)) (by (with_reducible repeat (first | apply Kd.R_alloc | apply Kd.R_drewN | apply Kd.R_drew)); exact HO125.out) hg hat); have n2_ := Aside0.mk (hb); have n3_ := Aside0.mk (ho); clear BK117; clear HO125; clear HB; clear HO122; have BK117 := n0_; have HO125 := n1_; have HB := n2_; have HO128 := n3_; clear n0_ n1_ n2_ n3_; clear ho hb hg hat) | ((with_reducible refine gate_callee (f := 35) rfl ?_); refine goesL_ (some 74) rfl rfl Try.func35 (by kernel_rfl) rfl #[.int .i64 (Int.tmod (wrap64 (a0_1)) 65536)] rfl (by (try simp only [List.map_toArray, List.map_cons, List.map_nil]); first | done | rfl | (simp only [List.length_drop, List.length_take]; rfl)) ?_; (with_reducible refine (tinderref13_two.calls (Int.tmod (wrap64 (a0_1)) 65536) t129 _ A67.out).mono ?_); rintro e w75 ⟨v130, rfl, ho0, hb⟩; refine ⟨_, rfl, ?_⟩; have n0_ := Aside0.mk (Kd.R_elder' (by (with_reducible repeat (first | apply Kd.R_alloc | apply Kd.R_drewN | apply Kd.R_drew)); exact HO125.out) (Kd.R_base ho0) hb); have n1_ := Aside0.mk (Kd.R_elder' (by (with_reducible repeat (first | apply Kd.R_alloc | apply Kd.R_drewN | apply Kd.R_drew)); exact HO128.out) (Kd.R_base ho0) hb); have n2_ := Aside0.mk (Kd.R_lower (Kd.R_new' (Kd.R_new' ho0 (Kd.R_lt (by (with_reducible repeat (first | apply Kd.R_alloc | apply Kd.R_drewN | apply Kd.R_drew)); exact HO125.out))) (Kd.R_lt (by (with_reducible repeat (first | apply Kd.R_alloc | apply Kd.R_drewN | apply Kd.R_drew)); exact HO128.out))) (below_size (by repeat (first | (with_reducible first | exact HB.out | apply below_alloc | apply pw_below_drewN | apply below_drew1 | refine below_set ?_ GE117.out) | exact HB.out)))); have n3_ := Aside0.mk (blk_below (g := gb117) (o := .cells #[.int .i64 a0_0, .int .u32 a0_1, .string a0_2, .int .i64 a0_3] 34 (0, 0)) (by (with_reducible repeat (first | refine blk_drewN ?_ _ | refine blk_drew ?_ | refine blk_alloc ?_ _)); exact BK117.out) hb); have n4_ := Aside0.mk (below_step (by repeat (first | (with_reducible first | exact HB.out | apply below_alloc | apply pw_below_drewN | apply below_drew1 | refine below_set ?_ GE117.out) | exact HB.out)) hb); clear HO125; clear HO128; clear BK117; clear HB; have HO125 := n0_; have HO128 := n1_; have HO131 := n2_; have BK117 := n3_; have HB := n4_; clear n0_ n1_ n2_ n3_ n4_; (try clear hb); (try clear hb2); (try clear hk); (try clear hi); (try clear ho0); obtain ⟨Ao77, co77, eo77⟩ := Kd.R_slice HO131.out; subst eo77) | ((with_reducible refine gate_builtin (b := .append) (xs := #[.tmp 71, .tmp 74]) rfl ?_); (try (refine gate_guard (by rfl) ?_; dsimp only)); at_builtin; refine Kd.R_append_rows (Kd.int .u8) (w0 := w) w.heap.size rfl (.tmp 71) (.tmp 74) 22 5 (.int .u8 0) 1 rfl Try.underlying22 info5 rfl (by decide) (by omega) v127 y126 t129 _ _ _ (fun k_ => some k_ ≠ (.slice Ao74 t123.length co74 : Value).ownBlock ∧ some k_ ≠ (.slice Ao77 t129.length co77 : Value).ownBlock) (fun _ => False) rfl rfl ?aO ?aR (fun _ _ h => h) (fun _ h => h.elim) ?aF ?aB ?aS ?aL ?_; (case aR => repeat (first | exact (Kd.R_reads' HO131.out).2.2 | (with_reducible refine Kd.C_alloc ?_ _) | (with_reducible refine Kd.C_drewN ?_ _) | (with_reducible refine Kd.C_drew ?_))); (case aB => exact (by repeat (first | (with_reducible first | exact HB.out | apply below_alloc | apply pw_below_drewN | apply below_drew1 | refine below_set ?_ GE117.out) | exact HB.out))); (case aF => exact (fun k_ hk => ⟨Kd.fresh' (Kd.R_lt (by (with_reducible repeat (first | apply Kd.R_alloc | apply Kd.R_drewN | apply Kd.R_drew)); exact HO125.out)) k_ hk, Kd.fresh' (Kd.R_lt (by (with_reducible repeat (first | apply Kd.R_alloc | apply Kd.R_drewN | apply Kd.R_drew)); exact HO131.out)) k_ hk⟩)); (case aO => exact (by (with_reducible repeat (first | apply Kd.R_alloc | apply Kd.R_drewN | apply Kd.R_drew)); exact HO128.out)); (case aS => exact (below_size (by repeat (first | (with_reducible first | exact HB.out | apply below_alloc | apply pw_below_drewN | apply below_drew1 | refine below_set ?_ GE117.out) | exact HB.out)))); (case aL => have := LMc68.out; omega); intro v133 w76 ho hb hg hat; rw [← Ny132.out] at ho; have n0_ := Aside0.mk (blk_grown (g := gb117) (o := .cells #[.int .i64 a0_0, .int .u32 a0_1, .string a0_2, .int .i64 a0_3] 34 (0, 0)) (by (with_reducible repeat (first | refine blk_drewN ?_ _ | refine blk_drew ?_ | refine blk_alloc ?_ _)); exact BK117.out) hg (Kd.R_ne HO128.out BK117.out (by decide))); have n1_ := Aside0.mk (Kd.R_after (ok := (fun k_ => some k_ ≠ (.slice Ao77 t129.length co77 : Value).ownBlock)) (by (with_reducible repeat (first | apply Kd.R_alloc | apply Kd.R_drewN | apply Kd.R_drew)); exact Kd.R_mono HO125.out (fun _ hk => ⟨hk.2, hk.1.2⟩)) hg hat); have n2_ := Aside0.mk (Kd.R_after (ok := (fun k_ => some k_ ≠ (.slice Ao74 t123.length co74 : Value).ownBlock)) (by (with_reducible repeat (first | apply Kd.R_alloc | apply Kd.R_drewN | apply Kd.R_drew)); exact Kd.R_mono HO131.out (fun _ hk => ⟨hk.1.2, hk.2⟩)) hg hat); have n3_ := Aside0.mk (hb); have n4_ := Aside0.mk (ho); clear BK117; clear HO125; clear HO131; clear HB; clear HO128; have BK117 := n0_; have HO125 := n1_; have HO131 := n2_; have HB := n3_; have HO134 := n4_; clear n0_ n1_ n2_ n3_ n4_; clear ho hb hg hat))
                go_ret2
                exact ⟨_, by first | rfl | (simp [errW_none, errW_some] <;> rfl) | (simp [*, errW_none, errW_some] <;> rfl), by (with_reducible repeat (first | apply Kd.R_alloc | apply Kd.R_drewN | apply Kd.R_drew)); exact Kd.R_mono HO134.out (fun _ hk => trivial), by repeat (first | (with_reducible first | exact HB.out | apply below_alloc | apply pw_below_drewN | apply below_drew1 | refine below_set ?_ GE117.out) | exact HB.out)⟩
              · rw [if_neg c68] at H
                exact absurd H (by simp)
            · rw [if_neg c66] at H
              exact absurd H (by simp)
          · as_aux_lemma =>
            rw [if_neg c64] at H
            have c64b0 : (t119 == 1) = false := beq_eq_false_iff_ne.mpr c64
            have c64b1 : (t119 != 1) = true := bne_iff_ne.mpr c64
            by_cases c78 : t119 = 2
            · rw [if_pos c78] at H
              have c78b0 : (t119 == 2) = true := beq_iff_eq.mpr c78
              have c78b1 : (t119 != 2) = false := bne_eq_false_iff_eq.mpr c78
              clear c78
              replace H := Option.bind_eq_some_iff.mp H
              obtain ⟨t135, A790, H⟩ := H
              replace H : (if t135 = true then ((tinderref13_code.f (wrap64 (a0_1))).bind fun t136 => (if t120.length + t136.length < 140737488355328 then (some ((t120 ++ t136), true)) else (none))) else (some (([] : List Int), false))) = some (r1, r2) := H
              have A79 := Aside0.mk A790
              clear A790
              by_cases c80 : t135 = true
              · subst c80
                have H1 : ((tinderref13_code.f (wrap64 (a0_1))).bind fun t136 => (if t120.length + t136.length < 140737488355328 then (some ((t120 ++ t136), true)) else (none))) = some (r1, r2) := by rw [if_pos rfl] at H; exact H
                clear H
                have H := H1
                clear H1
                replace H := Option.bind_eq_some_iff.mp H
                obtain ⟨t136, A810, H⟩ := H
                replace H : (if t120.length + t136.length < 140737488355328 then (some ((t120 ++ t136), true)) else (none)) = some (r1, r2) := H
                have A81 := Aside0.mk A810
                clear A810
                by_cases c82 : t120.length + t136.length < 140737488355328
                · rw [if_pos c82] at H
                  have LMc82 := Aside0.mk c82
                  clear c82
                  obtain ⟨y139, hy139⟩ : ∃ y_ : List Int, y_ = (t120 ++ t136) := ⟨_, rfl⟩
                  replace H : (some (y139, true)) = some (r1, r2) := by first | (rw [hy139]; with_reducible exact H) | (have H2_ := (Option.bind_some _ _).symm.trans H; rw [hy139]; with_reducible exact H2_) | (have H2_ := (Option.bind_some _ _).symm.trans H; with_reducible exact H2_) | with_reducible exact H | (rw [hy139]; exact H) | exact H
                  have Ny139 := Aside0.mk hy139
                  clear hy139
                  simp only [Option.some.injEq, Prod.mk.injEq] at H
                  obtain ⟨rfl, rfl⟩ := H
                  have hcz83_0 : wc.cell? ⟨gb117, 0, none⟩ = some (.int .i64 a0_0) := (blk_cell BK117.out 0).trans rfl
                  have hcz83_1 : wc.cell? ⟨gb117, 1, none⟩ = some (.int .u32 a0_1) := (blk_cell BK117.out 1).trans rfl
                  have hcz83_2 : wc.cell? ⟨gb117, 2, none⟩ = some (.string a0_2) := (blk_cell BK117.out 2).trans rfl
                  have hcz83_3 : wc.cell? ⟨gb117, 3, none⟩ = some (.int .i64 a0_3) := (blk_cell BK117.out 3).trans rfl
                  have hfz83_0 := blk_frozen BK117.out 0
                  have hfz83_1 := blk_frozen BK117.out 1
                  have hfz83_2 := blk_frozen BK117.out 2
                  have hfz83_3 := blk_frozen BK117.out 3
                  go_wp2_with (first | ((with_reducible refine gate_callee (f := 34) rfl ?_); refine goesL_ (some 59) rfl rfl Try.func34 (by kernel_rfl) rfl #[.int .i64 a0_0] rfl (by (try simp only [List.map_toArray, List.map_cons, List.map_nil]); first | done | rfl | (simp only [List.length_drop, List.length_take]; rfl)) ?_; (with_reducible refine (tinderref13_code.calls a0_0 t120 _ A63.out).mono ?_); rintro e w84 ⟨v121, rfl, ho0, hb⟩; refine ⟨_, rfl, ?_⟩; have n0_ := Aside0.mk (Kd.R_lower ho0 (below_size (by repeat (first | (with_reducible first | exact HB.out | apply below_alloc | apply pw_below_drewN | apply below_drew1 | refine below_set ?_ GE117.out) | exact HB.out)))); have n1_ := Aside0.mk (blk_below (g := gb117) (o := .cells #[.int .i64 a0_0, .int .u32 a0_1, .string a0_2, .int .i64 a0_3] 34 (0, 0)) (by (with_reducible repeat (first | refine blk_drewN ?_ _ | refine blk_drew ?_ | refine blk_alloc ?_ _)); exact BK117.out) hb); have n2_ := Aside0.mk (below_step (by repeat (first | (with_reducible first | exact HB.out | apply below_alloc | apply pw_below_drewN | apply below_drew1 | refine below_set ?_ GE117.out) | exact HB.out)) hb); clear BK117; clear HB; have HO122 := n0_; have BK117 := n1_; have HB := n2_; clear n0_ n1_ n2_; (try clear hb); (try clear hb2); (try clear hk); (try clear hi); (try clear ho0); have hcz85_0 : w84.cell? ⟨gb117, 0, none⟩ = some (.int .i64 a0_0) := (blk_cell BK117.out 0).trans rfl; have hcz85_1 : w84.cell? ⟨gb117, 1, none⟩ = some (.int .u32 a0_1) := (blk_cell BK117.out 1).trans rfl; have hcz85_2 : w84.cell? ⟨gb117, 2, none⟩ = some (.string a0_2) := (blk_cell BK117.out 2).trans rfl; have hcz85_3 : w84.cell? ⟨gb117, 3, none⟩ = some (.int .i64 a0_3) := (blk_cell BK117.out 3).trans rfl; have hfz85_0 := blk_frozen BK117.out 0; have hfz85_1 := blk_frozen BK117.out 1; have hfz85_2 := blk_frozen BK117.out 2; have hfz85_3 := blk_frozen BK117.out 3) | ((with_reducible refine gate_callee (f := 33) rfl ?_); refine goesL_ (some 79) rfl rfl Try.func33 (by kernel_rfl) rfl #[.int .i64 (wrap64 (a0_1))] rfl (by (try simp only [List.map_toArray, List.map_cons, List.map_nil]); first | done | rfl | (simp only [List.length_drop, List.length_take]; rfl)) ?_; (with_reducible refine (tinderref13_Coded.calls (wrap64 (a0_1)) true _ A79.out).mono ?_); rintro e w' ⟨rfl, ⟨nd, rfl⟩⟩; refine ⟨_, rfl, ?_⟩) | ((with_reducible refine gate_callee (f := 34) rfl ?_); refine goesL_ (some 83) rfl rfl Try.func34 (by kernel_rfl) rfl #[.int .i64 (wrap64 (a0_1))] rfl (by (try simp only [List.map_toArray, List.map_cons, List.map_nil]); first | done | rfl | (simp only [List.length_drop, List.length_take]; rfl)) ?_; (with_reducible refine (tinderref13_code.calls (wrap64 (a0_1)) t136 _ A81.out).mono ?_); rintro e w86 ⟨v137, rfl, ho0, hb⟩; refine ⟨_, rfl, ?_⟩; have n0_ := Aside0.mk (Kd.R_elder' (by (with_reducible repeat (first | apply Kd.R_alloc | apply Kd.R_drewN | apply Kd.R_drew)); exact HO122.out) (Kd.R_base ho0) hb); have n1_ := Aside0.mk (Kd.R_lower (Kd.R_new' ho0 (Kd.R_lt (by (with_reducible repeat (first | apply Kd.R_alloc | apply Kd.R_drewN | apply Kd.R_drew)); exact HO122.out))) (below_size (by repeat (first | (with_reducible first | exact HB.out | apply below_alloc | apply pw_below_drewN | apply below_drew1 | refine below_set ?_ GE117.out) | exact HB.out)))); have n2_ := Aside0.mk (blk_below (g := gb117) (o := .cells #[.int .i64 a0_0, .int .u32 a0_1, .string a0_2, .int .i64 a0_3] 34 (0, 0)) (by (with_reducible repeat (first | refine blk_drewN ?_ _ | refine blk_drew ?_ | refine blk_alloc ?_ _)); exact BK117.out) hb); have n3_ := Aside0.mk (below_step (by repeat (first | (with_reducible first | exact HB.out | apply below_alloc | apply pw_below_drewN | apply below_drew1 | refine below_set ?_ GE117.out) | exact HB.out)) hb); clear HO122; clear BK117; clear HB; have HO122 := n0_; have HO138 := n1_; have BK117 := n2_; have HB := n3_; clear n0_ n1_ n2_ n3_; (try clear hb); (try clear hb2); (try clear hk); (try clear hi); (try clear ho0); obtain ⟨Ao88, co88, eo88⟩ := Kd.R_slice HO138.out; subst eo88) | ((with_reducible refine gate_builtin (b := .append) (xs := #[.tmp 81, .tmp 83]) rfl ?_); (try (refine gate_guard (by rfl) ?_; dsimp only)); at_builtin; refine Kd.R_append_rows (Kd.int .u8) (w0 := w) w.heap.size rfl (.tmp 81) (.tmp 83) 22 5 (.int .u8 0) 1 rfl Try.underlying22 info5 rfl (by decide) (by omega) v121 t120 t136 _ _ _ (fun k_ => some k_ ≠ (.slice Ao88 t136.length co88 : Value).ownBlock) (fun _ => False) rfl rfl ?aO ?aR (fun _ _ h => h) (fun _ h => h.elim) ?aF ?aB ?aS ?aL ?_; (case aR => repeat (first | exact (Kd.R_reads' HO138.out).2.2 | (with_reducible refine Kd.C_alloc ?_ _) | (with_reducible refine Kd.C_drewN ?_ _) | (with_reducible refine Kd.C_drew ?_))); (case aB => exact (by repeat (first | (with_reducible first | exact HB.out | apply below_alloc | apply pw_below_drewN | apply below_drew1 | refine below_set ?_ GE117.out) | exact HB.out))); (case aF => exact (fun k_ hk => Kd.fresh' (Kd.R_lt (by (with_reducible repeat (first | apply Kd.R_alloc | apply Kd.R_drewN | apply Kd.R_drew)); exact HO138.out)) k_ hk)); (case aO => exact (by (with_reducible repeat (first | apply Kd.R_alloc | apply Kd.R_drewN | apply Kd.R_drew)); exact Kd.R_mono HO122.out (fun _ hk => hk.2))); (case aS => exact (below_size (by repeat (first | (with_reducible first | exact HB.out | apply below_alloc | apply pw_below_drewN | apply below_drew1 | refine below_set ?_ GE117.out) | exact HB.out)))); (case aL => have := LMc82.out; omega); intro v140 w87 ho hb hg hat; rw [← Ny139.out] at ho; have n0_ := Aside0.mk (blk_grown (g := gb117) (o := .cells #[.int .i64 a0_0, .int .u32 a0_1, .string a0_2, .int .i64 a0_3] 34 (0, 0)) (by (with_reducible repeat (first | refine blk_drewN ?_ _ | refine blk_drew ?_ | refine blk_alloc ?_ _)); exact BK117.out) hg (Kd.R_ne HO122.out BK117.out (by decide))); have n1_ := Aside0.mk (Kd.R_after (ok := (fun _ => True)) (by (with_reducible repeat (first | apply Kd.R_alloc | apply Kd.R_drewN | apply Kd.R_drew)); exact HO138.out) hg hat); have n2_ := Aside0.mk (hb); have n3_ := Aside0.mk (ho); clear BK117; clear HO138; clear HB; clear HO122; have BK117 := n0_; have HO138 := n1_; have HB := n2_; have HO141 := n3_; clear n0_ n1_ n2_ n3_; clear ho hb hg hat))
                  go_ret2
                  exact ⟨_, by first | rfl | (simp [errW_none, errW_some] <;> rfl) | (simp [*, errW_none, errW_some] <;> rfl), by (with_reducible repeat (first | apply Kd.R_alloc | apply Kd.R_drewN | apply Kd.R_drew)); exact Kd.R_mono HO141.out (fun _ hk => trivial), by repeat (first | (with_reducible first | exact HB.out | apply below_alloc | apply pw_below_drewN | apply below_drew1 | refine below_set ?_ GE117.out) | exact HB.out)⟩
                · rw [if_neg c82] at H
                  exact absurd H (by simp)
              · replace c80 := Bool.eq_false_iff.mpr c80
                subst c80
                have H1 : (some (([] : List Int), false)) = some (r1, r2) := by rw [if_neg (show ¬ (false = true) by decide)] at H; exact H
                clear H
                have H := H1
                clear H1
                simp only [Option.some.injEq, Prod.mk.injEq] at H
                obtain ⟨rfl, rfl⟩ := H
                have hcz89_0 : wc.cell? ⟨gb117, 0, none⟩ = some (.int .i64 a0_0) := (blk_cell BK117.out 0).trans rfl
                have hcz89_1 : wc.cell? ⟨gb117, 1, none⟩ = some (.int .u32 a0_1) := (blk_cell BK117.out 1).trans rfl
                have hcz89_2 : wc.cell? ⟨gb117, 2, none⟩ = some (.string a0_2) := (blk_cell BK117.out 2).trans rfl
                have hcz89_3 : wc.cell? ⟨gb117, 3, none⟩ = some (.int .i64 a0_3) := (blk_cell BK117.out 3).trans rfl
                have hfz89_0 := blk_frozen BK117.out 0
                have hfz89_1 := blk_frozen BK117.out 1
                have hfz89_2 := blk_frozen BK117.out 2
                have hfz89_3 := blk_frozen BK117.out 3
                go_wp2_with (first | ((with_reducible refine gate_callee (f := 34) rfl ?_); refine goesL_ (some 59) rfl rfl Try.func34 (by kernel_rfl) rfl #[.int .i64 a0_0] rfl (by (try simp only [List.map_toArray, List.map_cons, List.map_nil]); first | done | rfl | (simp only [List.length_drop, List.length_take]; rfl)) ?_; (with_reducible refine (tinderref13_code.calls a0_0 t120 _ A63.out).mono ?_); rintro e w90 ⟨v121, rfl, ho0, hb⟩; refine ⟨_, rfl, ?_⟩; have n0_ := Aside0.mk (Kd.R_lower ho0 (below_size (by repeat (first | (with_reducible first | exact HB.out | apply below_alloc | apply pw_below_drewN | apply below_drew1 | refine below_set ?_ GE117.out) | exact HB.out)))); have n1_ := Aside0.mk (blk_below (g := gb117) (o := .cells #[.int .i64 a0_0, .int .u32 a0_1, .string a0_2, .int .i64 a0_3] 34 (0, 0)) (by (with_reducible repeat (first | refine blk_drewN ?_ _ | refine blk_drew ?_ | refine blk_alloc ?_ _)); exact BK117.out) hb); have n2_ := Aside0.mk (below_step (by repeat (first | (with_reducible first | exact HB.out | apply below_alloc | apply pw_below_drewN | apply below_drew1 | refine below_set ?_ GE117.out) | exact HB.out)) hb); clear BK117; clear HB; have HO122 := n0_; have BK117 := n1_; have HB := n2_; clear n0_ n1_ n2_; (try clear hb); (try clear hb2); (try clear hk); (try clear hi); (try clear ho0); have hcz91_0 : w90.cell? ⟨gb117, 0, none⟩ = some (.int .i64 a0_0) := (blk_cell BK117.out 0).trans rfl; have hcz91_1 : w90.cell? ⟨gb117, 1, none⟩ = some (.int .u32 a0_1) := (blk_cell BK117.out 1).trans rfl; have hcz91_2 : w90.cell? ⟨gb117, 2, none⟩ = some (.string a0_2) := (blk_cell BK117.out 2).trans rfl; have hcz91_3 : w90.cell? ⟨gb117, 3, none⟩ = some (.int .i64 a0_3) := (blk_cell BK117.out 3).trans rfl; have hfz91_0 := blk_frozen BK117.out 0; have hfz91_1 := blk_frozen BK117.out 1; have hfz91_2 := blk_frozen BK117.out 2; have hfz91_3 := blk_frozen BK117.out 3) | ((with_reducible refine gate_callee (f := 33) rfl ?_); refine goesL_ (some 79) rfl rfl Try.func33 (by kernel_rfl) rfl #[.int .i64 (wrap64 (a0_1))] rfl (by (try simp only [List.map_toArray, List.map_cons, List.map_nil]); first | done | rfl | (simp only [List.length_drop, List.length_take]; rfl)) ?_; (with_reducible refine (tinderref13_Coded.calls (wrap64 (a0_1)) false _ A79.out).mono ?_); rintro e w' ⟨rfl, ⟨nd, rfl⟩⟩; refine ⟨_, rfl, ?_⟩))
                go_ret2
                exact ⟨_, by first | rfl | (simp [errW_none, errW_some] <;> rfl) | (simp [*, errW_none, errW_some] <;> rfl), by first | exact Kd.R_nil _ _ _ _ _ | exact Kd.N_nil _ _ _ _ _ | exact Kd.V_nil _ _ _ _ _ | exact Kd.Q_nil _ _ _ _ _ | exact Kd.S_nil _ _ _ _ _, by repeat (first | (with_reducible first | exact HB.out | apply below_alloc | apply pw_below_drewN | apply below_drew1 | refine below_set ?_ GE117.out) | exact HB.out)⟩
            · as_aux_lemma =>
              rw [if_neg c78] at H
              have c78b0 : (t119 == 2) = false := beq_eq_false_iff_ne.mpr c78
              have c78b1 : (t119 != 2) = true := bne_iff_ne.mpr c78
              by_cases c92 : t119 = 3
              · rw [if_pos c92] at H
                have c92b0 : (t119 == 3) = true := beq_iff_eq.mpr c92
                have c92b1 : (t119 != 3) = false := bne_eq_false_iff_eq.mpr c92
                clear c92
                by_cases c93 : (a0_2.size : Int) > 255
                · rw [if_pos c93] at H
                  have c93b0 : decide (255 < (a0_2.size : Int)) = true := decide_eq_true c93
                  have c93b1 : decide (255 < a0_2.size) = true := decide_eq_true (by omega)
                  clear c93
                  simp only [Option.some.injEq, Prod.mk.injEq] at H
                  obtain ⟨rfl, rfl⟩ := H
                  have hcz94_0 : wc.cell? ⟨gb117, 0, none⟩ = some (.int .i64 a0_0) := (blk_cell BK117.out 0).trans rfl
                  have hcz94_1 : wc.cell? ⟨gb117, 1, none⟩ = some (.int .u32 a0_1) := (blk_cell BK117.out 1).trans rfl
                  have hcz94_2 : wc.cell? ⟨gb117, 2, none⟩ = some (.string a0_2) := (blk_cell BK117.out 2).trans rfl
                  have hcz94_3 : wc.cell? ⟨gb117, 3, none⟩ = some (.int .i64 a0_3) := (blk_cell BK117.out 3).trans rfl
                  have hfz94_0 := blk_frozen BK117.out 0
                  have hfz94_1 := blk_frozen BK117.out 1
                  have hfz94_2 := blk_frozen BK117.out 2
                  have hfz94_3 := blk_frozen BK117.out 3
                  go_wp2_with (first | ((with_reducible refine gate_callee (f := 34) rfl ?_); refine goesL_ (some 59) rfl rfl Try.func34 (by kernel_rfl) rfl #[.int .i64 a0_0] rfl (by (try simp only [List.map_toArray, List.map_cons, List.map_nil]); first | done | rfl | (simp only [List.length_drop, List.length_take]; rfl)) ?_; (with_reducible refine (tinderref13_code.calls a0_0 t120 _ A63.out).mono ?_); rintro e w95 ⟨v121, rfl, ho0, hb⟩; refine ⟨_, rfl, ?_⟩; have n0_ := Aside0.mk (Kd.R_lower ho0 (below_size (by repeat (first | (with_reducible first | exact HB.out | apply below_alloc | apply pw_below_drewN | apply below_drew1 | refine below_set ?_ GE117.out) | exact HB.out)))); have n1_ := Aside0.mk (blk_below (g := gb117) (o := .cells #[.int .i64 a0_0, .int .u32 a0_1, .string a0_2, .int .i64 a0_3] 34 (0, 0)) (by (with_reducible repeat (first | refine blk_drewN ?_ _ | refine blk_drew ?_ | refine blk_alloc ?_ _)); exact BK117.out) hb); have n2_ := Aside0.mk (below_step (by repeat (first | (with_reducible first | exact HB.out | apply below_alloc | apply pw_below_drewN | apply below_drew1 | refine below_set ?_ GE117.out) | exact HB.out)) hb); clear BK117; clear HB; have HO122 := n0_; have BK117 := n1_; have HB := n2_; clear n0_ n1_ n2_; (try clear hb); (try clear hb2); (try clear hk); (try clear hi); (try clear ho0); have hcz96_0 : w95.cell? ⟨gb117, 0, none⟩ = some (.int .i64 a0_0) := (blk_cell BK117.out 0).trans rfl; have hcz96_1 : w95.cell? ⟨gb117, 1, none⟩ = some (.int .u32 a0_1) := (blk_cell BK117.out 1).trans rfl; have hcz96_2 : w95.cell? ⟨gb117, 2, none⟩ = some (.string a0_2) := (blk_cell BK117.out 2).trans rfl; have hcz96_3 : w95.cell? ⟨gb117, 3, none⟩ = some (.int .i64 a0_3) := (blk_cell BK117.out 3).trans rfl; have hfz96_0 := blk_frozen BK117.out 0; have hfz96_1 := blk_frozen BK117.out 1; have hfz96_2 := blk_frozen BK117.out 2; have hfz96_3 := blk_frozen BK117.out 3))
                  go_ret2
                  exact ⟨_, by first | rfl | (simp [errW_none, errW_some] <;> rfl) | (simp [*, errW_none, errW_some] <;> rfl), by first | exact Kd.R_nil _ _ _ _ _ | exact Kd.N_nil _ _ _ _ _ | exact Kd.V_nil _ _ _ _ _ | exact Kd.Q_nil _ _ _ _ _ | exact Kd.S_nil _ _ _ _ _, by repeat (first | (with_reducible first | exact HB.out | apply below_alloc | apply pw_below_drewN | apply below_drew1 | refine below_set ?_ GE117.out) | exact HB.out)⟩
                · rw [if_neg c93] at H
                  have c93b0 : decide (255 < (a0_2.size : Int)) = false := decide_eq_false c93
                  have c93b1 : decide (255 < a0_2.size) = false := decide_eq_false (by omega)
                  clear c93
                  by_cases c97 : t120.length < 140737488355328
                  · rw [if_pos c97] at H
                    have LMc97 := Aside0.mk c97
                    clear c97
                    obtain ⟨y142, hy142⟩ : ∃ y_ : List Int, y_ = (t120 ++ [((a0_2.size : Int)) % 256]) := ⟨_, rfl⟩
                    replace H : (if y142.length + a0_2.size < 140737488355328 then (some ((y142 ++ bytesOf a0_2), true)) else (none)) = some (r1, r2) := by first | (rw [hy142]; with_reducible exact H) | (have H2_ := (Option.bind_some _ _).symm.trans H; rw [hy142]; with_reducible exact H2_) | (have H2_ := (Option.bind_some _ _).symm.trans H; with_reducible exact H2_) | with_reducible exact H | (rw [hy142]; exact H) | exact H
                    have Ny142 := Aside0.mk hy142
                    clear hy142
                    by_cases c98 : y142.length + a0_2.size < 140737488355328
                    · rw [if_pos c98] at H
                      have LMc98 := Aside0.mk c98
                      clear c98
                      obtain ⟨y145, hy145⟩ : ∃ y_ : List Int, y_ = (y142 ++ bytesOf a0_2) := ⟨_, rfl⟩
                      replace H : (some (y145, true)) = some (r1, r2) := by first | (rw [hy145]; with_reducible exact H) | (have H2_ := (Option.bind_some _ _).symm.trans H; rw [hy145]; with_reducible exact H2_) | (have H2_ := (Option.bind_some _ _).symm.trans H; with_reducible exact H2_) | with_reducible exact H | (rw [hy145]; exact H) | exact H
                      have Ny145 := Aside0.mk hy145
                      clear hy145
                      simp only [Option.some.injEq, Prod.mk.injEq] at H
                      obtain ⟨rfl, rfl⟩ := H
                      have hcz99_0 : wc.cell? ⟨gb117, 0, none⟩ = some (.int .i64 a0_0) := (blk_cell BK117.out 0).trans rfl
                      have hcz99_1 : wc.cell? ⟨gb117, 1, none⟩ = some (.int .u32 a0_1) := (blk_cell BK117.out 1).trans rfl
                      have hcz99_2 : wc.cell? ⟨gb117, 2, none⟩ = some (.string a0_2) := (blk_cell BK117.out 2).trans rfl
                      have hcz99_3 : wc.cell? ⟨gb117, 3, none⟩ = some (.int .i64 a0_3) := (blk_cell BK117.out 3).trans rfl
                      have hfz99_0 := blk_frozen BK117.out 0
                      have hfz99_1 := blk_frozen BK117.out 1
                      have hfz99_2 := blk_frozen BK117.out 2
                      have hfz99_3 := blk_frozen BK117.out 3
                      go_wp2_with (first | ((with_reducible refine gate_callee (f := 34) rfl ?_); refine goesL_ (some 59) rfl rfl Try.func34 (by kernel_rfl) rfl #[.int .i64 a0_0] rfl (by (try simp only [List.map_toArray, List.map_cons, List.map_nil]); first | done | rfl | (simp only [List.length_drop, List.length_take]; rfl)) ?_; (with_reducible refine (tinderref13_code.calls a0_0 t120 _ A63.out).mono ?_); rintro e w100 ⟨v121, rfl, ho0, hb⟩; refine ⟨_, rfl, ?_⟩; have n0_ := Aside0.mk (Kd.R_lower ho0 (below_size (by repeat (first | (with_reducible first | exact HB.out | apply below_alloc | apply pw_below_drewN | apply below_drew1 | refine below_set ?_ GE117.out) | exact HB.out)))); have n1_ := Aside0.mk (blk_below (g := gb117) (o := .cells #[.int .i64 a0_0, .int .u32 a0_1, .string a0_2, .int .i64 a0_3] 34 (0, 0)) (by (with_reducible repeat (first | refine blk_drewN ?_ _ | refine blk_drew ?_ | refine blk_alloc ?_ _)); exact BK117.out) hb); have n2_ := Aside0.mk (below_step (by repeat (first | (with_reducible first | exact HB.out | apply below_alloc | apply pw_below_drewN | apply below_drew1 | refine below_set ?_ GE117.out) | exact HB.out)) hb); clear BK117; clear HB; have HO122 := n0_; have BK117 := n1_; have HB := n2_; clear n0_ n1_ n2_; (try clear hb); (try clear hb2); (try clear hk); (try clear hi); (try clear ho0); have hcz101_0 : w100.cell? ⟨gb117, 0, none⟩ = some (.int .i64 a0_0) := (blk_cell BK117.out 0).trans rfl; have hcz101_1 : w100.cell? ⟨gb117, 1, none⟩ = some (.int .u32 a0_1) := (blk_cell BK117.out 1).trans rfl; have hcz101_2 : w100.cell? ⟨gb117, 2, none⟩ = some (.string a0_2) := (blk_cell BK117.out 2).trans rfl; have hcz101_3 : w100.cell? ⟨gb117, 3, none⟩ = some (.int .i64 a0_3) := (blk_cell BK117.out 3).trans rfl; have hfz101_0 := blk_frozen BK117.out 0; have hfz101_1 := blk_frozen BK117.out 1; have hfz101_2 := blk_frozen BK117.out 2; have hfz101_3 := blk_frozen BK117.out 3) | ((with_reducible refine gate_builtin (b := .append) (xs := #[.tmp 91, .tmp 96]) rfl ?_); (try (refine gate_guard (by rfl) ?_; dsimp only)); at_builtin; refine Kd.R_append (Kd.int .u8) (w0 := w) w.heap.size rfl (.tmp 91) (.tmp 96) 22 5 (.int .u8 0) 1 rfl Try.underlying22 info5 rfl (by decide) (by omega) v121 t120 (((a0_2.size : Int)) % 256) [.int .u8 (((a0_2.size : Int)) % 256)] (fun _ => True) (fun _ => False) rfl rfl ?aP (fun _ hk => hk.elim) ?aF ?aO ?aB ?aS ?aL ?_; (case aP => exact rfl); (case aB => exact (by repeat (first | (with_reducible first | exact HB.out | apply below_alloc | apply pw_below_drewN | apply below_drew1 | refine below_set ?_ GE117.out) | exact HB.out))); (case aF => exact (fun _ _ => trivial)); (case aO => exact (by (with_reducible repeat (first | apply Kd.R_alloc | apply Kd.R_drewN | apply Kd.R_drew)); exact HO122.out)); (case aS => exact (below_size (by repeat (first | (with_reducible first | exact HB.out | apply below_alloc | apply pw_below_drewN | apply below_drew1 | refine below_set ?_ GE117.out) | exact HB.out)))); (case aL => have := LMc97.out; omega); intro v143 w102 ho hb hg hat; rw [← Ny142.out] at ho; have n0_ := Aside0.mk (blk_grown (g := gb117) (o := .cells #[.int .i64 a0_0, .int .u32 a0_1, .string a0_2, .int .i64 a0_3] 34 (0, 0)) (by (with_reducible repeat (first | refine blk_drewN ?_ _ | refine blk_drew ?_ | refine blk_alloc ?_ _)); exact BK117.out) hg (Kd.R_ne HO122.out BK117.out (by decide))); have n1_ := Aside0.mk (hb); have n2_ := Aside0.mk (ho); clear BK117; clear HB; clear HO122; have BK117 := n0_; have HB := n1_; have HO144 := n2_; clear n0_ n1_ n2_; clear ho hb hg hat; have hcz103_0 : w102.cell? ⟨gb117, 0, none⟩ = some (.int .i64 a0_0) := (blk_cell BK117.out 0).trans rfl; have hcz103_1 : w102.cell? ⟨gb117, 1, none⟩ = some (.int .u32 a0_1) := (blk_cell BK117.out 1).trans rfl; have hcz103_2 : w102.cell? ⟨gb117, 2, none⟩ = some (.string a0_2) := (blk_cell BK117.out 2).trans rfl; have hcz103_3 : w102.cell? ⟨gb117, 3, none⟩ = some (.int .i64 a0_3) := (blk_cell BK117.out 3).trans rfl; have hfz103_0 := blk_frozen BK117.out 0; have hfz103_1 := blk_frozen BK117.out 1; have hfz103_2 := blk_frozen BK117.out 2; have hfz103_3 := blk_frozen BK117.out 3) | (at_builtin; refine print_append_str (w0 := w) w.heap.size rfl (.tmp 98) _ 22 9 5 rfl Try.underlying22 Try.underlying9 info5 v143 y142 a0_2 rfl rfl ?aO ?aB ?aS ?aL ?_; (case aB => exact (by repeat (first | (with_reducible first | exact HB.out | apply below_alloc | apply pw_below_drewN | apply below_drew1 | refine below_set ?_ GE117.out) | exact HB.out))); (case aO => exact (Kd.own_of_R (by (with_reducible repeat (first | apply Kd.R_alloc | apply Kd.R_drewN | apply Kd.R_drew)); exact HO144.out))); (case aS => exact (below_size (by repeat (first | (with_reducible first | exact HB.out | apply below_alloc | apply pw_below_drewN | apply below_drew1 | refine below_set ?_ GE117.out) | exact HB.out)))); (case aL => have := LMc98.out; omega); intro v146 w104 ho0 hb hg; have ho := Kd.R_of_own (h1 := fun _ => rfl) (ok := fun _ => True) ho0 (fun _ _ => trivial); clear ho0; have hat := True.intro; rw [← Ny145.out] at ho; change Kd.R (Kd.int .u8) 5 w104 w.heap.size (fun _ => True) v146 y145 at ho; have n0_ := Aside0.mk (blk_grown (g := gb117) (o := .cells #[.int .i64 a0_0, .int .u32 a0_1, .string a0_2, .int .i64 a0_3] 34 (0, 0)) (by (with_reducible repeat (first | refine blk_drewN ?_ _ | refine blk_drew ?_ | refine blk_alloc ?_ _)); exact BK117.out) hg (Kd.R_ne HO144.out BK117.out (by decide))); have n1_ := Aside0.mk (hb); have n2_ := Aside0.mk (ho); clear BK117; clear HB; clear HO144; have BK117 := n0_; have HB := n1_; have HO147 := n2_; clear n0_ n1_ n2_; clear ho hb hg hat))
                      go_ret2
                      exact ⟨_, by first | rfl | (simp [errW_none, errW_some] <;> rfl) | (simp [*, errW_none, errW_some] <;> rfl), by (with_reducible repeat (first | apply Kd.R_alloc | apply Kd.R_drewN | apply Kd.R_drew)); exact HO147.out, by repeat (first | (with_reducible first | exact HB.out | apply below_alloc | apply pw_below_drewN | apply below_drew1 | refine below_set ?_ GE117.out) | exact HB.out)⟩
                    · rw [if_neg c98] at H
                      exact absurd H (by simp)
                  · rw [if_neg c97] at H
                    exact absurd H (by simp)
              · as_aux_lemma =>
                rw [if_neg c92] at H
                have c92b0 : (t119 == 3) = false := beq_eq_false_iff_ne.mpr c92
                have c92b1 : (t119 != 3) = true := bne_iff_ne.mpr c92
                by_cases c105 : t119 = 4
                · as_aux_lemma =>
                  rw [if_pos c105] at H
                  have c105b0 : (t119 == 4) = true := beq_iff_eq.mpr c105
                  have c105b1 : (t119 != 4) = false := bne_eq_false_iff_eq.mpr c105
                  clear c105
                  by_cases c106 : a1 = true
                  · as_aux_lemma =>
                    subst c106
                    have H1 : ((tinderref13_two.f (wrap64 (a0_3 + 65536))).bind fun t148 => (if t120.length + t148.length < 140737488355328 then ((some (t120 ++ t148 : List Int)).bind fun y151 => (if a0_3 ≥ (-32768) then (some (y151, decide (a0_3 ≤ 32767))) else (some (y151, false)))) else (none))) = some (r1, r2) := by rw [if_pos rfl] at H; exact H
                    clear H
                    have H := H1
                    clear H1
                    replace H := Option.bind_eq_some_iff.mp H
                    obtain ⟨t148, A1070, H⟩ := H
                    replace H : (if t120.length + t148.length < 140737488355328 then ((some (t120 ++ t148 : List Int)).bind fun y151 => (if a0_3 ≥ (-32768) then (some (y151, decide (a0_3 ≤ 32767))) else (some (y151, false)))) else (none)) = some (r1, r2) := H
                    have A107 := Aside0.mk A1070
                    clear A1070
                    by_cases c108 : t120.length + t148.length < 140737488355328
                    · as_aux_lemma =>
                      rw [if_pos c108] at H
                      have LMc108 := Aside0.mk c108
                      clear c108
                      obtain ⟨y151, hy151⟩ : ∃ y_ : List Int, y_ = (t120 ++ t148) := ⟨_, rfl⟩
                      replace H : (if a0_3 ≥ (-32768) then (some (y151, decide (a0_3 ≤ 32767))) else (some (y151, false))) = some (r1, r2) := by first | (rw [hy151]; with_reducible exact H) | (have H2_ := (Option.bind_some _ _).symm.trans H; rw [hy151]; with_reducible exact H2_) | (have H2_ := (Option.bind_some _ _).symm.trans H; with_reducible exact H2_) | with_reducible exact H | (rw [hy151]; exact H) | exact H
                      have Ny151 := Aside0.mk hy151
                      clear hy151
                      by_cases c109 : a0_3 ≥ (-32768)
                      · as_aux_lemma =>
                        rw [if_pos c109] at H
                        have c109b0 : decide ((-32768) ≤ a0_3) = true := decide_eq_true c109
                        clear c109
                        simp only [Option.some.injEq, Prod.mk.injEq] at H
                        obtain ⟨rfl, rfl⟩ := H
                        have hcz110_0 : wc.cell? ⟨gb117, 0, none⟩ = some (.int .i64 a0_0) := (blk_cell BK117.out 0).trans rfl
                        have hcz110_1 : wc.cell? ⟨gb117, 1, none⟩ = some (.int .u32 a0_1) := (blk_cell BK117.out 1).trans rfl
                        have hcz110_2 : wc.cell? ⟨gb117, 2, none⟩ = some (.string a0_2) := (blk_cell BK117.out 2).trans rfl
                        have hcz110_3 : wc.cell? ⟨gb117, 3, none⟩ = some (.int .i64 a0_3) := (blk_cell BK117.out 3).trans rfl
                        have hfz110_0 := blk_frozen BK117.out 0
                        have hfz110_1 := blk_frozen BK117.out 1
                        have hfz110_2 := blk_frozen BK117.out 2
                        have hfz110_3 := blk_frozen BK117.out 3
                        try go_wp2_with (first | ((with_reducible refine gate_callee (f := 34) rfl ?_); refine goesL_ (some 59) rfl rfl Try.func34 (by kernel_rfl) rfl #[.int .i64 a0_0] rfl (by (try simp only [List.map_toArray, List.map_cons, List.map_nil]); first | done | rfl | (simp only [List.length_drop, List.length_take]; rfl)) ?_; (with_reducible refine (tinderref13_code.calls a0_0 t120 _ A63.out).mono ?_); rintro e w111 ⟨v121, rfl, ho0, hb⟩; refine ⟨_, rfl, ?_⟩; have n0_ := Aside0.mk (Kd.R_lower ho0 (below_size (by repeat (first | (with_reducible first | exact HB.out | apply below_alloc | apply pw_below_drewN | apply below_drew1 | refine below_set ?_ GE117.out) | exact HB.out)))); have n1_ := Aside0.mk (blk_below (g := gb117) (o := .cells #[.int .i64 a0_0, .int .u32 a0_1, .string a0_2, .int .i64 a0_3] 34 (0, 0)) (by (with_reducible repeat (first | refine blk_drewN ?_ _ | refine blk_drew ?_ | refine blk_alloc ?_ _)); exact BK117.out) hb); have n2_ := Aside0.mk (below_step (by repeat (first | (with_reducible first | exact HB.out | apply below_alloc | apply pw_below_drewN | apply below_drew1 | refine below_set ?_ GE117.out) | exact HB.out)) hb); clear BK117; clear HB; have HO122 := n0_; have BK117 := n1_; have HB := n2_; clear n0_ n1_ n2_; (try clear hb); (try clear hb2); (try clear hk); (try clear hi); (try clear ho0); have hcz112_0 : w111.cell? ⟨gb117, 0, none⟩ = some (.int .i64 a0_0) := (blk_cell BK117.out 0).trans rfl; have hcz112_1 : w111.cell? ⟨gb117, 1, none⟩ = some (.int .u32 a0_1) := (blk_cell BK117.out 1).trans rfl; have hcz112_2 : w111.cell? ⟨gb117, 2, none⟩ = some (.string a0_2) := (blk_cell BK117.out 2).trans rfl; have hcz112_3 : w111.cell? ⟨gb117, 3, none⟩ = some (.int .i64 a0_3) := (blk_cell BK117.out 3).trans rfl; have hfz112_0 := blk_frozen BK117.out 0; have hfz112_1 := blk_frozen BK117.out 1; have hfz112_2 := blk_frozen BK117.out 2; have hfz112_3 := blk_frozen BK117.out 3))
                        have n0_ := Aside0.mk (Kd.R_drew HO122.out)
                        have n1_ := Aside0.mk (blk_drew BK117.out)
                        have n2_ := Aside0.mk (below_drew1 HB.out)
                        clear HO122
                        clear BK117
                        clear HB
                        have HO122 := n0_
                        have BK117 := n1_
                        have HB := n2_
                        clear n0_ n1_ n2_
                        refine start_ (n := 16) (S := fun w' => w'.cell? ⟨gb117, 0, none⟩ = some (.int .i64 a0_0) ∧ w'.cell? ⟨gb117, 1, none⟩ = some (.int .u32 a0_1) ∧ w'.cell? ⟨gb117, 2, none⟩ = some (.string a0_2) ∧ w'.cell? ⟨gb117, 3, none⟩ = some (.int .i64 a0_3)) (ds := []) #[false, false, false, false, false, false, false, false, false, false, false, false, false, false, false, false] (by kernel_rfl) rfl rfl ⟨(blk_cell BK117.out 0).trans rfl, (blk_cell BK117.out 1).trans rfl, (blk_cell BK117.out 2).trans rfl, (blk_cell BK117.out 3).trans rfl⟩ (fun hHeld => ?_); refine with_tabW tinderref13_Bytes.tab23 tinderref13_Bytes.bits23 (fun HT_ HW_ => ?_)
                        generalize w111.drew = w113 at HO122 BK117 HB hHeld ⊢
                        refine pure_ (i := 0) (N := some 105) (v := ?_) (a' := ?_) #[true, false, false, false, false, false, false, false, false, false, false, false, false, false, false, false] rfl rfl (any_of HT_.out (by kernel_rfl)) (fun _ _ _ h => h) (Or.inl ⟨by rfl, ?_⟩) ?_ ?_
                        rotate_left
                        · intro w'
                          go_simp
                          with_reducible rfl
                        rotate_left
                        · simp only [Act.put, List.setIfInBounds_toArray, List.set_cons_zero, List.set_cons_succ, i64_w, i32_w]
                          rfl
                        refine pure_ (i := 1) (N := some 106) (v := ?_) (a' := ?_) #[true, true, false, false, false, false, false, false, false, false, false, false, false, false, false, false] rfl rfl (any_of HT_.out (by kernel_rfl)) (fun _ _ _ h => h) (Or.inl ⟨by rfl, ?_⟩) ?_ ?_
                        rotate_left
                        · intro w'
                          go_simp
                          with_reducible rfl
                        rotate_left
                        · simp only [Act.put, List.setIfInBounds_toArray, List.set_cons_zero, List.set_cons_succ, i64_w, i32_w]
                          rfl
                        refine pure_ (i := 6) (N := some 111) (v := ?_) (a' := ?_) #[true, true, false, false, false, false, true, false, false, false, false, false, false, false, false, false] rfl rfl (any_of HT_.out (by kernel_rfl)) (fun _ _ _ h => h) (Or.inl ⟨by rfl, ?_⟩) ?_ ?_
                        rotate_left
                        · intro w'
                          go_simp
                          with_reducible rfl
                        rotate_left
                        · simp only [Act.put, List.setIfInBounds_toArray, List.set_cons_zero, List.set_cons_succ, i64_w, i32_w]
                          rfl
                        refine take_ (i := 2) (N := some 107) (v := ?_) (a' := ?_) #[true, true, true, false, false, false, true, false, false, false, false, false, false, false, false, false] rfl rfl (take_ofW HT_.out HW_.out (by kernel_rfl)) (fun _ _ _ h => h) (Or.inl ⟨by rfl, ?_⟩) hHeld ?_ ?_
                        rotate_left
                        · rintro w' ⟨s0, s1, s2, s3⟩
                          go_simp
                          with_reducible rfl
                        rotate_left
                        · simp only [Act.put, List.setIfInBounds_toArray, List.set_cons_zero, List.set_cons_succ, i64_w, i32_w]
                          rfl
                        refine pure_ (i := 3) (N := some 108) (v := ?_) (a' := ?_) #[true, true, true, true, false, false, true, false, false, false, false, false, false, false, false, false] rfl rfl (any_of HT_.out (by kernel_rfl)) (fun _ _ _ h => h) (Or.inl ⟨by rfl, ?_⟩) ?_ ?_
                        rotate_left
                        · intro w'
                          go_simp
                          with_reducible rfl
                        rotate_left
                        · simp only [Act.put, List.setIfInBounds_toArray, List.set_cons_zero, List.set_cons_succ, i64_w, i32_w]
                          rfl
                        refine take_ (i := 7) (N := some 112) (v := ?_) (a' := ?_) #[true, true, true, true, false, false, true, true, false, false, false, false, false, false, false, false] rfl rfl (take_ofW HT_.out HW_.out (by kernel_rfl)) (fun _ _ _ h => h) (Or.inl ⟨by rfl, ?_⟩) hHeld ?_ ?_
                        rotate_left
                        · rintro w' ⟨s0, s1, s2, s3⟩
                          go_simp
                          with_reducible rfl
                        rotate_left
                        · simp only [Act.put, List.setIfInBounds_toArray, List.set_cons_zero, List.set_cons_succ, i64_w, i32_w]
                          rfl
                        refine pure_ (i := 8) (N := some 113) (v := ?_) (a' := ?_) #[true, true, true, true, false, false, true, true, true, false, false, false, false, false, false, false] rfl rfl (any_of HT_.out (by kernel_rfl)) (fun _ _ _ h => h) (Or.inl ⟨by rfl, ?_⟩) ?_ ?_
                        rotate_left
                        · intro w'
                          go_simp
                          with_reducible rfl
                        rotate_left
                        · simp only [Act.put, List.setIfInBounds_toArray, List.set_cons_zero, List.set_cons_succ, i64_w, i32_w]
                          rfl
                        refine one_ (i := 4) (N := some 109) #[true, true, true, true, true, false, true, true, true, false, false, false, false, false, false, false] rfl rfl (one_of HT_.out (by kernel_rfl)) (by decide) (fun K hK => ?_)
                        refine goes_ Try.func35 (by kernel_rfl) rfl #[.int .i64 (wrap64 (a0_3 + 65536))] (by rfl) rfl rfl (by (try simp only [List.map_toArray, List.map_cons, List.map_nil]); first | done | rfl | (simp only [List.length_drop, List.length_take]; rfl)) ?_
                        with_reducible refine (tinderref13_two.calls (wrap64 (a0_3 + 65536)) t148 _ A107.out).mono ?_
                        rintro e w114 ⟨v149, rfl, ho0, hb⟩
                        refine ⟨_, rfl, ?_⟩
                        have n0_ := Aside0.mk (Kd.R_elder' (by (with_reducible repeat (first | apply Kd.R_alloc | apply Kd.R_drewN | apply Kd.R_drew)); exact HO122.out) (Kd.R_base ho0) hb)
                        have n1_ := Aside0.mk (Kd.R_lower (Kd.R_new' ho0 (Kd.R_lt (by (with_reducible repeat (first | apply Kd.R_alloc | apply Kd.R_drewN | apply Kd.R_drew)); exact HO122.out))) (below_size (by repeat (first | (with_reducible first | exact HB.out | apply below_alloc | apply pw_below_drewN | apply below_drew1 | refine below_set ?_ GE117.out) | exact HB.out))))
                        have n2_ := Aside0.mk (blk_below (g := gb117) (o := .cells #[.int .i64 a0_0, .int .u32 a0_1, .string a0_2, .int .i64 a0_3] 34 (0, 0)) (by (with_reducible repeat (first | refine blk_drewN ?_ _ | refine blk_drew ?_ | refine blk_alloc ?_ _)); exact BK117.out) hb)
                        have n3_ := Aside0.mk (below_step (by repeat (first | (with_reducible first | exact HB.out | apply below_alloc | apply pw_below_drewN | apply below_drew1 | refine below_set ?_ GE117.out) | exact HB.out)) hb)
                        clear HO122
                        clear BK117
                        clear HB
                        have HO122 := n0_
                        have HO150 := n1_
                        have BK117 := n2_
                        have HB := n3_
                        clear n0_ n1_ n2_ n3_
                        (try clear hb)
                        (try clear hb2)
                        (try clear hk)
                        (try clear hi)
                        (try clear ho0)
                        obtain ⟨Ao116, co116, eo116⟩ := Kd.R_slice HO150.out
                        (first | subst eo116 | (injection eo116 with f1_ f2_ f3_; have f4_ := f1_.symm; have f5_ := f3_.symm; clear f1_ f2_ f3_; subst f4_; subst f5_))
                        refine hK.out _ _ ⟨(blk_cell BK117.out 0).trans rfl, (blk_cell BK117.out 1).trans rfl, (blk_cell BK117.out 2).trans rfl, (blk_cell BK117.out 3).trans rfl⟩ (fun hHeld => ?_)
                        clear hK K
                        refine norm_ (a' := ?_) ?_ ?_
                        rotate_left
                        · show Act.put _ (some 109) _ = _
                          simp only [Act.put, List.setIfInBounds_toArray, List.set_cons_zero, List.set_cons_succ, i64_w, i32_w]
                          rfl
                        refine one_ (i := 5) (N := some 110) #[true, true, true, true, true, true, true, true, true, false, false, false, false, false, false, false] rfl rfl (one_of HT_.out (by kernel_rfl)) (by decide) (fun K hK => ?_)
                        refine Kd.R_append_rows_step (Kd.int .u8) (w0 := w) w.heap.size (by rfl) (.tmp 105) (.tmp 109) 22 5 (.int .u8 0) 1 rfl Try.underlying22 info5 rfl (by decide) (by omega) v121 t120 t148 _ _ _ (fun k_ => some k_ ≠ (.slice Ao116 t148.length co116 : Value).ownBlock) (fun _ => False) rfl rfl ?aO ?aR (fun _ _ h => h) (fun _ h => h.elim) ?aF ?aB ?aS ?aL ?_
                        (case aR => repeat (first | exact (Kd.R_reads' HO150.out).2.2 | (with_reducible refine Kd.C_alloc ?_ _) | (with_reducible refine Kd.C_drewN ?_ _) | (with_reducible refine Kd.C_drew ?_)))
                        (case aB => exact (by repeat (first | (with_reducible first | exact HB.out | apply below_alloc | apply pw_below_drewN | apply below_drew1 | refine below_set ?_ GE117.out) | exact HB.out)))
                        (case aF => exact (fun k_ hk => Kd.fresh' (Kd.R_lt (by (with_reducible repeat (first | apply Kd.R_alloc | apply Kd.R_drewN | apply Kd.R_drew)); exact HO150.out)) k_ hk))
                        (case aO => exact (by (with_reducible repeat (first | apply Kd.R_alloc | apply Kd.R_drewN | apply Kd.R_drew)); exact Kd.R_mono HO122.out (fun _ hk => hk.2)))
                        (case aS => exact (below_size (by repeat (first | (with_reducible first | exact HB.out | apply below_alloc | apply pw_below_drewN | apply below_drew1 | refine below_set ?_ GE117.out) | exact HB.out))))
                        (case aL => have := LMc108.out; omega)
                        intro v152 w115 ho hb hg hat
                        rw [← Ny151.out] at ho
                        have n0_ := Aside0.mk (blk_grown (g := gb117) (o := .cells #[.int .i64 a0_0, .int .u32 a0_1, .string a0_2, .int .i64 a0_3] 34 (0, 0)) (by (with_reducible repeat (first | refine blk_drewN ?_ _ | refine blk_drew ?_ | refine blk_alloc ?_ _)); exact BK117.out) hg (Kd.R_ne HO122.out BK117.out (by decide)))
                        have n1_ := Aside0.mk (Kd.R_after (ok := (fun _ => True)) (by (with_reducible repeat (first | apply Kd.R_alloc | apply Kd.R_drewN | apply Kd.R_drew)); exact HO150.out) hg hat)
                        have n2_ := Aside0.mk (hb)
                        have n3_ := Aside0.mk (ho)
                        clear BK117
                        clear HO150
                        clear HB
                        clear HO122
                        have BK117 := n0_
                        have HO150 := n1_
                        have HB := n2_
                        have HO153 := n3_
                        clear n0_ n1_ n2_ n3_
                        clear ho hb hg hat
                        refine hK.out _ _ ⟨(blk_cell BK117.out 0).trans rfl, (blk_cell BK117.out 1).trans rfl, (blk_cell BK117.out 2).trans rfl, (blk_cell BK117.out 3).trans rfl⟩ (fun hHeld => ?_)
                        clear hK K
                        refine norm_ (a' := ?_) ?_ ?_
                        rotate_left
                        · show Act.put _ (some 110) _ = _
                          simp only [Act.put, List.setIfInBounds_toArray, List.set_cons_zero, List.set_cons_succ, i64_w, i32_w]
                          rfl
                        refine pure_ (i := 9) (N := some 114) (v := ?_) (a' := ?_) #[true, true, true, true, true, true, true, true, true, true, false, false, false, false, false, false] rfl rfl (any_of HT_.out (by kernel_rfl)) (fun _ _ _ h => h) (Or.inl ⟨by rfl, ?_⟩) ?_ ?_
                        rotate_left
                        · intro w'
                          go_simp
                          with_reducible rfl
                        rotate_left
                        · simp only [Act.put, List.setIfInBounds_toArray, List.set_cons_zero, List.set_cons_succ, i64_w, i32_w]
                          rfl
                        refine pure_ (i := 10) (N := some 115) (v := ?_) (a' := ?_) #[true, true, true, true, true, true, true, true, true, true, true, false, false, false, false, false] rfl rfl (any_of HT_.out (by kernel_rfl)) (fun _ _ _ h => h) (Or.inl ⟨by rfl, ?_⟩) ?_ ?_
                        rotate_left
                        · intro w'
                          go_simp
                          with_reducible rfl
                        rotate_left
                        · simp only [Act.put, List.setIfInBounds_toArray, List.set_cons_zero, List.set_cons_succ, i64_w, i32_w]
                          rfl
                        refine pure_ (i := 14) (N := some 4) (v := ?_) (a' := ?_) #[true, true, true, true, true, true, true, true, true, true, true, false, false, false, true, false] rfl rfl (any_of HT_.out (by kernel_rfl)) (fun _ _ _ h => h) (Or.inl ⟨by rfl, ?_⟩) ?_ ?_
                        rotate_left
                        · intro w'
                          go_simp
                          with_reducible rfl
                        rotate_left
                        · simp only [Act.put, List.setIfInBounds_toArray, List.set_cons_zero, List.set_cons_succ, i64_w, i32_w]
                          rfl
                        refine take_ (i := 11) (N := some 116) (v := ?_) (a' := ?_) #[true, true, true, true, true, true, true, true, true, true, true, true, false, false, true, false] rfl rfl (take_ofW HT_.out HW_.out (by kernel_rfl)) (fun _ _ _ h => h) (Or.inl ⟨by rfl, ?_⟩) hHeld ?_ ?_
                        rotate_left
                        · rintro w' ⟨s0, s1, s2, s3⟩
                          go_simp
                          with_reducible rfl
                        rotate_left
                        · simp only [Act.put, List.setIfInBounds_toArray, List.set_cons_zero, List.set_cons_succ, i64_w, i32_w]
                          rfl
                        refine pure_ (i := 12) (N := some 117) (v := ?_) (a' := ?_) #[true, true, true, true, true, true, true, true, true, true, true, true, true, false, true, false] rfl rfl (any_of HT_.out (by kernel_rfl)) (fun _ _ _ h => h) (Or.inl ⟨by rfl, ?_⟩) ?_ ?_
                        rotate_left
                        · intro w'
                          go_simp
                          with_reducible rfl
                        rotate_left
                        · simp only [Act.put, List.setIfInBounds_toArray, List.set_cons_zero, List.set_cons_succ, i64_w, i32_w]
                          rfl
                        refine pure_ (i := 13) (N := some 118) (v := ?_) (a' := ?_) #[true, true, true, true, true, true, true, true, true, true, true, true, true, true, true, false] rfl rfl (any_of HT_.out (by kernel_rfl)) (fun _ _ _ h => h) (Or.inl ⟨by rfl, ?_⟩) ?_ ?_
                        rotate_left
                        · intro w'
                          go_simp
                          with_reducible rfl
                        rotate_left
                        · simp only [Act.put, List.setIfInBounds_toArray, List.set_cons_zero, List.set_cons_succ, i64_w, i32_w]
                          rfl
                        refine pure_ (i := 15) (N := some 5) (v := ?_) (a' := ?_) #[true, true, true, true, true, true, true, true, true, true, true, true, true, true, true, true] rfl rfl (any_of HT_.out (by kernel_rfl)) (fun _ _ _ h => h) (Or.inl ⟨by rfl, ?_⟩) ?_ ?_
                        rotate_left
                        · intro w'
                          go_simp
                          with_reducible rfl
                        rotate_left
                        · simp only [Act.put, List.setIfInBounds_toArray, List.set_cons_zero, List.set_cons_succ, i64_w, i32_w]
                          rfl
                        refine done_ (done_of HT_.out (by kernel_rfl)) ?_
                        try go_wp2
                        go_ret2
                        exact ⟨_, by first | rfl | (simp [errW_none, errW_some] <;> rfl) | (simp [*, errW_none, errW_some] <;> rfl), by (with_reducible repeat (first | apply Kd.R_alloc | apply Kd.R_drewN | apply Kd.R_drew)); exact Kd.R_mono HO153.out (fun _ hk => trivial), by repeat (first | (with_reducible first | exact HB.out | apply below_alloc | apply pw_below_drewN | apply below_drew1 | refine below_set ?_ GE117.out) | exact HB.out)⟩
                      · as_aux_lemma =>
                        rw [if_neg c109] at H
                        have c109b0 : decide ((-32768) ≤ a0_3) = false := decide_eq_false c109
                        clear c109
                        simp only [Option.some.injEq, Prod.mk.injEq] at H
                        obtain ⟨rfl, rfl⟩ := H
                        have hcz117_0 : wc.cell? ⟨gb117, 0, none⟩ = some (.int .i64 a0_0) := (blk_cell BK117.out 0).trans rfl
                        have hcz117_1 : wc.cell? ⟨gb117, 1, none⟩ = some (.int .u32 a0_1) := (blk_cell BK117.out 1).trans rfl
                        have hcz117_2 : wc.cell? ⟨gb117, 2, none⟩ = some (.string a0_2) := (blk_cell BK117.out 2).trans rfl
                        have hcz117_3 : wc.cell? ⟨gb117, 3, none⟩ = some (.int .i64 a0_3) := (blk_cell BK117.out 3).trans rfl
                        have hfz117_0 := blk_frozen BK117.out 0
                        have hfz117_1 := blk_frozen BK117.out 1
                        have hfz117_2 := blk_frozen BK117.out 2
                        have hfz117_3 := blk_frozen BK117.out 3
                        try go_wp2_with (first | ((with_reducible refine gate_callee (f := 34) rfl ?_); refine goesL_ (some 59) rfl rfl Try.func34 (by kernel_rfl) rfl #[.int .i64 a0_0] rfl (by (try simp only [List.map_toArray, List.map_cons, List.map_nil]); first | done | rfl | (simp only [List.length_drop, List.length_take]; rfl)) ?_; (with_reducible refine (tinderref13_code.calls a0_0 t120 _ A63.out).mono ?_); rintro e w118 ⟨v121, rfl, ho0, hb⟩; refine ⟨_, rfl, ?_⟩; have n0_ := Aside0.mk (Kd.R_lower ho0 (below_size (by repeat (first | (with_reducible first | exact HB.out | apply below_alloc | apply pw_below_drewN | apply below_drew1 | refine below_set ?_ GE117.out) | exact HB.out)))); have n1_ := Aside0.mk (blk_below (g := gb117) (o := .cells #[.int .i64 a0_0, .int .u32 a0_1, .string a0_2, .int .i64 a0_3] 34 (0, 0)) (by (with_reducible repeat (first | refine blk_drewN ?_ _ | refine blk_drew ?_ | refine blk_alloc ?_ _)); exact BK117.out) hb); have n2_ := Aside0.mk (below_step (by repeat (first | (with_reducible first | exact HB.out | apply below_alloc | apply pw_below_drewN | apply below_drew1 | refine below_set ?_ GE117.out) | exact HB.out)) hb); clear BK117; clear HB; have HO122 := n0_; have BK117 := n1_; have HB := n2_; clear n0_ n1_ n2_; (try clear hb); (try clear hb2); (try clear hk); (try clear hi); (try clear ho0); have hcz119_0 : w118.cell? ⟨gb117, 0, none⟩ = some (.int .i64 a0_0) := (blk_cell BK117.out 0).trans rfl; have hcz119_1 : w118.cell? ⟨gb117, 1, none⟩ = some (.int .u32 a0_1) := (blk_cell BK117.out 1).trans rfl; have hcz119_2 : w118.cell? ⟨gb117, 2, none⟩ = some (.string a0_2) := (blk_cell BK117.out 2).trans rfl; have hcz119_3 : w118.cell? ⟨gb117, 3, none⟩ = some (.int .i64 a0_3) := (blk_cell BK117.out 3).trans rfl; have hfz119_0 := blk_frozen BK117.out 0; have hfz119_1 := blk_frozen BK117.out 1; have hfz119_2 := blk_frozen BK117.out 2; have hfz119_3 := blk_frozen BK117.out 3))
                        have n0_ := Aside0.mk (Kd.R_drew HO122.out)
                        have n1_ := Aside0.mk (blk_drew BK117.out)
                        have n2_ := Aside0.mk (below_drew1 HB.out)
                        clear HO122
                        clear BK117
                        clear HB
                        have HO122 := n0_
                        have BK117 := n1_
                        have HB := n2_
                        clear n0_ n1_ n2_
                        refine start_ (n := 16) (S := fun w' => w'.cell? ⟨gb117, 0, none⟩ = some (.int .i64 a0_0) ∧ w'.cell? ⟨gb117, 1, none⟩ = some (.int .u32 a0_1) ∧ w'.cell? ⟨gb117, 2, none⟩ = some (.string a0_2) ∧ w'.cell? ⟨gb117, 3, none⟩ = some (.int .i64 a0_3)) (ds := []) #[false, false, false, false, false, false, false, false, false, false, false, false, false, false, false, false] (by kernel_rfl) rfl rfl ⟨(blk_cell BK117.out 0).trans rfl, (blk_cell BK117.out 1).trans rfl, (blk_cell BK117.out 2).trans rfl, (blk_cell BK117.out 3).trans rfl⟩ (fun hHeld => ?_); refine with_tabW tinderref13_Bytes.tab23 tinderref13_Bytes.bits23 (fun HT_ HW_ => ?_)
                        generalize w118.drew = w120 at HO122 BK117 HB hHeld ⊢
                        refine pure_ (i := 0) (N := some 105) (v := ?_) (a' := ?_) #[true, false, false, false, false, false, false, false, false, false, false, false, false, false, false, false] rfl rfl (any_of HT_.out (by kernel_rfl)) (fun _ _ _ h => h) (Or.inl ⟨by rfl, ?_⟩) ?_ ?_
                        rotate_left
                        · intro w'
                          go_simp
                          with_reducible rfl
                        rotate_left
                        · simp only [Act.put, List.setIfInBounds_toArray, List.set_cons_zero, List.set_cons_succ, i64_w, i32_w]
                          rfl
                        refine pure_ (i := 1) (N := some 106) (v := ?_) (a' := ?_) #[true, true, false, false, false, false, false, false, false, false, false, false, false, false, false, false] rfl rfl (any_of HT_.out (by kernel_rfl)) (fun _ _ _ h => h) (Or.inl ⟨by rfl, ?_⟩) ?_ ?_
                        rotate_left
                        · intro w'
                          go_simp
                          with_reducible rfl
                        rotate_left
                        · simp only [Act.put, List.setIfInBounds_toArray, List.set_cons_zero, List.set_cons_succ, i64_w, i32_w]
                          rfl
                        refine pure_ (i := 6) (N := some 111) (v := ?_) (a' := ?_) #[true, true, false, false, false, false, true, false, false, false, false, false, false, false, false, false] rfl rfl (any_of HT_.out (by kernel_rfl)) (fun _ _ _ h => h) (Or.inl ⟨by rfl, ?_⟩) ?_ ?_
                        rotate_left
                        · intro w'
                          go_simp
                          with_reducible rfl
                        rotate_left
                        · simp only [Act.put, List.setIfInBounds_toArray, List.set_cons_zero, List.set_cons_succ, i64_w, i32_w]
                          rfl
                        refine take_ (i := 2) (N := some 107) (v := ?_) (a' := ?_) #[true, true, true, false, false, false, true, false, false, false, false, false, false, false, false, false] rfl rfl (take_ofW HT_.out HW_.out (by kernel_rfl)) (fun _ _ _ h => h) (Or.inl ⟨by rfl, ?_⟩) hHeld ?_ ?_
                        rotate_left
                        · rintro w' ⟨s0, s1, s2, s3⟩
                          go_simp
                          with_reducible rfl
                        rotate_left
                        · simp only [Act.put, List.setIfInBounds_toArray, List.set_cons_zero, List.set_cons_succ, i64_w, i32_w]
                          rfl
                        refine pure_ (i := 3) (N := some 108) (v := ?_) (a' := ?_) #[true, true, true, true, false, false, true, false, false, false, false, false, false, false, false, false] rfl rfl (any_of HT_.out (by kernel_rfl)) (fun _ _ _ h => h) (Or.inl ⟨by rfl, ?_⟩) ?_ ?_
                        rotate_left
                        · intro w'
                          go_simp
                          with_reducible rfl
                        rotate_left
                        · simp only [Act.put, List.setIfInBounds_toArray, List.set_cons_zero, List.set_cons_succ, i64_w, i32_w]
                          rfl
                        refine take_ (i := 7) (N := some 112) (v := ?_) (a' := ?_) #[true, true, true, true, false, false, true, true, false, false, false, false, false, false, false, false] rfl rfl (take_ofW HT_.out HW_.out (by kernel_rfl)) (fun _ _ _ h => h) (Or.inl ⟨by rfl, ?_⟩) hHeld ?_ ?_
                        rotate_left
                        · rintro w' ⟨s0, s1, s2, s3⟩
                          go_simp
                          with_reducible rfl
                        rotate_left
                        · simp only [Act.put, List.setIfInBounds_toArray, List.set_cons_zero, List.set_cons_succ, i64_w, i32_w]
                          rfl
                        refine pure_ (i := 8) (N := some 113) (v := ?_) (a' := ?_) #[true, true, true, true, false, false, true, true, true, false, false, false, false, false, false, false] rfl rfl (any_of HT_.out (by kernel_rfl)) (fun _ _ _ h => h) (Or.inl ⟨by rfl, ?_⟩) ?_ ?_
                        rotate_left
                        · intro w'
                          go_simp
                          with_reducible rfl
                        rotate_left
                        · simp only [Act.put, List.setIfInBounds_toArray, List.set_cons_zero, List.set_cons_succ, i64_w, i32_w]
                          rfl
                        refine one_ (i := 4) (N := some 109) #[true, true, true, true, true, false, true, true, true, false, false, false, false, false, false, false] rfl rfl (one_of HT_.out (by kernel_rfl)) (by decide) (fun K hK => ?_)
                        refine goes_ Try.func35 (by kernel_rfl) rfl #[.int .i64 (wrap64 (a0_3 + 65536))] (by rfl) rfl rfl (by (try simp only [List.map_toArray, List.map_cons, List.map_nil]); first | done | rfl | (simp only [List.length_drop, List.length_take]; rfl)) ?_
                        with_reducible refine (tinderref13_two.calls (wrap64 (a0_3 + 65536)) t148 _ A107.out).mono ?_
                        rintro e w121 ⟨v149, rfl, ho0, hb⟩
                        refine ⟨_, rfl, ?_⟩
                        have n0_ := Aside0.mk (Kd.R_elder' (by (with_reducible repeat (first | apply Kd.R_alloc | apply Kd.R_drewN | apply Kd.R_drew)); exact HO122.out) (Kd.R_base ho0) hb)
                        have n1_ := Aside0.mk (Kd.R_lower (Kd.R_new' ho0 (Kd.R_lt (by (with_reducible repeat (first | apply Kd.R_alloc | apply Kd.R_drewN | apply Kd.R_drew)); exact HO122.out))) (below_size (by repeat (first | (with_reducible first | exact HB.out | apply below_alloc | apply pw_below_drewN | apply below_drew1 | refine below_set ?_ GE117.out) | exact HB.out))))
                        have n2_ := Aside0.mk (blk_below (g := gb117) (o := .cells #[.int .i64 a0_0, .int .u32 a0_1, .string a0_2, .int .i64 a0_3] 34 (0, 0)) (by (with_reducible repeat (first | refine blk_drewN ?_ _ | refine blk_drew ?_ | refine blk_alloc ?_ _)); exact BK117.out) hb)
                        have n3_ := Aside0.mk (below_step (by repeat (first | (with_reducible first | exact HB.out | apply below_alloc | apply pw_below_drewN | apply below_drew1 | refine below_set ?_ GE117.out) | exact HB.out)) hb)
                        clear HO122
                        clear BK117
                        clear HB
                        have HO122 := n0_
                        have HO150 := n1_
                        have BK117 := n2_
                        have HB := n3_
                        clear n0_ n1_ n2_ n3_
                        (try clear hb)
                        (try clear hb2)
                        (try clear hk)
                        (try clear hi)
                        (try clear ho0)
                        obtain ⟨Ao123, co123, eo123⟩ := Kd.R_slice HO150.out
                        (first | subst eo123 | (injection eo123 with f1_ f2_ f3_; have f4_ := f1_.symm; have f5_ := f3_.symm; clear f1_ f2_ f3_; subst f4_; subst f5_))
                        refine hK.out _ _ ⟨(blk_cell BK117.out 0).trans rfl, (blk_cell BK117.out 1).trans rfl, (blk_cell BK117.out 2).trans rfl, (blk_cell BK117.out 3).trans rfl⟩ (fun hHeld => ?_)
                        clear hK K
                        refine norm_ (a' := ?_) ?_ ?_
                        rotate_left
                        · show Act.put _ (some 109) _ = _
                          simp only [Act.put, List.setIfInBounds_toArray, List.set_cons_zero, List.set_cons_succ, i64_w, i32_w]
                          rfl
                        refine one_ (i := 5) (N := some 110) #[true, true, true, true, true, true, true, true, true, false, false, false, false, false, false, false] rfl rfl (one_of HT_.out (by kernel_rfl)) (by decide) (fun K hK => ?_)
                        refine Kd.R_append_rows_step (Kd.int .u8) (w0 := w) w.heap.size (by rfl) (.tmp 105) (.tmp 109) 22 5 (.int .u8 0) 1 rfl Try.underlying22 info5 rfl (by decide) (by omega) v121 t120 t148 _ _ _ (fun k_ => some k_ ≠ (.slice Ao123 t148.length co123 : Value).ownBlock) (fun _ => False) rfl rfl ?aO ?aR (fun _ _ h => h) (fun _ h => h.elim) ?aF ?aB ?aS ?aL ?_
                        (case aR => repeat (first | exact (Kd.R_reads' HO150.out).2.2 | (with_reducible refine Kd.C_alloc ?_ _) | (with_reducible refine Kd.C_drewN ?_ _) | (with_reducible refine Kd.C_drew ?_)))
                        (case aB => exact (by repeat (first | (with_reducible first | exact HB.out | apply below_alloc | apply pw_below_drewN | apply below_drew1 | refine below_set ?_ GE117.out) | exact HB.out)))
                        (case aF => exact (fun k_ hk => Kd.fresh' (Kd.R_lt (by (with_reducible repeat (first | apply Kd.R_alloc | apply Kd.R_drewN | apply Kd.R_drew)); exact HO150.out)) k_ hk))
                        (case aO => exact (by (with_reducible repeat (first | apply Kd.R_alloc | apply Kd.R_drewN | apply Kd.R_drew)); exact Kd.R_mono HO122.out (fun _ hk => hk.2)))
                        (case aS => exact (below_size (by repeat (first | (with_reducible first | exact HB.out | apply below_alloc | apply pw_below_drewN | apply below_drew1 | refine below_set ?_ GE117.out) | exact HB.out))))
                        (case aL => have := LMc108.out; omega)
                        intro v152 w122 ho hb hg hat
                        rw [← Ny151.out] at ho
                        have n0_ := Aside0.mk (blk_grown (g := gb117) (o := .cells #[.int .i64 a0_0, .int .u32 a0_1, .string a0_2, .int .i64 a0_3] 34 (0, 0)) (by (with_reducible repeat (first | refine blk_drewN ?_ _ | refine blk_drew ?_ | refine blk_alloc ?_ _)); exact BK117.out) hg (Kd.R_ne HO122.out BK117.out (by decide)))
                        have n1_ := Aside0.mk (Kd.R_after (ok := (fun _ => True)) (by (with_reducible repeat (first | apply Kd.R_alloc | apply Kd.R_drewN | apply Kd.R_drew)); exact HO150.out) hg hat)
                        have n2_ := Aside0.mk (hb)
                        have n3_ := Aside0.mk (ho)
                        clear BK117
                        clear HO150
                        clear HB
                        clear HO122
                        have BK117 := n0_
                        have HO150 := n1_
                        have HB := n2_
                        have HO153 := n3_
                        clear n0_ n1_ n2_ n3_
                        clear ho hb hg hat
                        refine hK.out _ _ ⟨(blk_cell BK117.out 0).trans rfl, (blk_cell BK117.out 1).trans rfl, (blk_cell BK117.out 2).trans rfl, (blk_cell BK117.out 3).trans rfl⟩ (fun hHeld => ?_)
                        clear hK K
                        refine norm_ (a' := ?_) ?_ ?_
                        rotate_left
                        · show Act.put _ (some 110) _ = _
                          simp only [Act.put, List.setIfInBounds_toArray, List.set_cons_zero, List.set_cons_succ, i64_w, i32_w]
                          rfl
                        refine pure_ (i := 9) (N := some 114) (v := ?_) (a' := ?_) #[true, true, true, true, true, true, true, true, true, true, false, false, false, false, false, false] rfl rfl (any_of HT_.out (by kernel_rfl)) (fun _ _ _ h => h) (Or.inl ⟨by rfl, ?_⟩) ?_ ?_
                        rotate_left
                        · intro w'
                          go_simp
                          with_reducible rfl
                        rotate_left
                        · simp only [Act.put, List.setIfInBounds_toArray, List.set_cons_zero, List.set_cons_succ, i64_w, i32_w]
                          rfl
                        refine pure_ (i := 10) (N := some 115) (v := undef) (a' := ?_) #[true, true, true, true, true, true, true, true, true, true, true, false, false, false, false, false] rfl rfl (any_of HT_.out (by kernel_rfl)) (fun _ _ _ h => h) (Or.inr ⟨by rfl, rfl⟩) ?_ ?_
                        rotate_left
                        · simp only [Act.put, List.setIfInBounds_toArray, List.set_cons_zero, List.set_cons_succ, i64_w, i32_w]
                          rfl
                        refine pure_ (i := 11) (N := some 116) (v := undef) (a' := ?_) #[true, true, true, true, true, true, true, true, true, true, true, true, false, false, false, false] rfl rfl (any_of HT_.out (by kernel_rfl)) (fun _ _ _ h => h) (Or.inr ⟨by rfl, rfl⟩) ?_ ?_
                        rotate_left
                        · simp only [Act.put, List.setIfInBounds_toArray, List.set_cons_zero, List.set_cons_succ, i64_w, i32_w]
                          rfl
                        refine pure_ (i := 12) (N := some 117) (v := undef) (a' := ?_) #[true, true, true, true, true, true, true, true, true, true, true, true, true, false, false, false] rfl rfl (any_of HT_.out (by kernel_rfl)) (fun _ _ _ h => h) (Or.inr ⟨by rfl, rfl⟩) ?_ ?_
                        rotate_left
                        · simp only [Act.put, List.setIfInBounds_toArray, List.set_cons_zero, List.set_cons_succ, i64_w, i32_w]
                          rfl
                        refine pure_ (i := 13) (N := some 118) (v := ?_) (a' := ?_) #[true, true, true, true, true, true, true, true, true, true, true, true, true, true, false, false] rfl rfl (any_of HT_.out (by kernel_rfl)) (fun _ _ _ h => h) (Or.inl ⟨by rfl, ?_⟩) ?_ ?_
                        rotate_left
                        · intro w'
                          go_simp
                          with_reducible rfl
                        rotate_left
                        · simp only [Act.put, List.setIfInBounds_toArray, List.set_cons_zero, List.set_cons_succ, i64_w, i32_w]
                          rfl
                        refine pure_ (i := 14) (N := some 4) (v := ?_) (a' := ?_) #[true, true, true, true, true, true, true, true, true, true, true, true, true, true, true, false] rfl rfl (any_of HT_.out (by kernel_rfl)) (fun _ _ _ h => h) (Or.inl ⟨by rfl, ?_⟩) ?_ ?_
                        rotate_left
                        · intro w'
                          go_simp
                          with_reducible rfl
                        rotate_left
                        · simp only [Act.put, List.setIfInBounds_toArray, List.set_cons_zero, List.set_cons_succ, i64_w, i32_w]
                          rfl
                        refine pure_ (i := 15) (N := some 5) (v := ?_) (a' := ?_) #[true, true, true, true, true, true, true, true, true, true, true, true, true, true, true, true] rfl rfl (any_of HT_.out (by kernel_rfl)) (fun _ _ _ h => h) (Or.inl ⟨by rfl, ?_⟩) ?_ ?_
                        rotate_left
                        · intro w'
                          go_simp
                          with_reducible rfl
                        rotate_left
                        · simp only [Act.put, List.setIfInBounds_toArray, List.set_cons_zero, List.set_cons_succ, i64_w, i32_w]
                          rfl
                        refine done_ (done_of HT_.out (by kernel_rfl)) ?_
                        try go_wp2
                        go_ret2
                        exact ⟨_, by first | rfl | (simp [errW_none, errW_some] <;> rfl) | (simp [*, errW_none, errW_some] <;> rfl), by (with_reducible repeat (first | apply Kd.R_alloc | apply Kd.R_drewN | apply Kd.R_drew)); exact Kd.R_mono HO153.out (fun _ hk => trivial), by repeat (first | (with_reducible first | exact HB.out | apply below_alloc | apply pw_below_drewN | apply below_drew1 | refine below_set ?_ GE117.out) | exact HB.out)⟩
                    · rw [if_neg c108] at H
                      exact absurd H (by simp)
                  · as_aux_lemma =>
                    replace c106 := Bool.eq_false_iff.mpr c106
                    subst c106
                    have H1 : (if t120.length < 140737488355328 then ((some (t120 ++ [(Int.tmod (wrap64 (a0_3 + 256)) 256) % 256] : List Int)).bind fun y154 => (if a0_3 ≥ (-128) then (some (y154, decide (a0_3 ≤ 127))) else (some (y154, false)))) else (none)) = some (r1, r2) := by rw [if_neg (show ¬ (false = true) by decide)] at H; exact H
                    clear H
                    have H := H1
                    clear H1
                    by_cases c124 : t120.length < 140737488355328
                    · as_aux_lemma =>
                      rw [if_pos c124] at H
                      have LMc124 := Aside0.mk c124
                      clear c124
                      obtain ⟨y154, hy154⟩ : ∃ y_ : List Int, y_ = (t120 ++ [(Int.tmod (wrap64 (a0_3 + 256)) 256) % 256]) := ⟨_, rfl⟩
                      replace H : (if a0_3 ≥ (-128) then (some (y154, decide (a0_3 ≤ 127))) else (some (y154, false))) = some (r1, r2) := by first | (rw [hy154]; with_reducible exact H) | (have H2_ := (Option.bind_some _ _).symm.trans H; rw [hy154]; with_reducible exact H2_) | (have H2_ := (Option.bind_some _ _).symm.trans H; with_reducible exact H2_) | with_reducible exact H | (rw [hy154]; exact H) | exact H
                      have Ny154 := Aside0.mk hy154
                      clear hy154
                      by_cases c125 : a0_3 ≥ (-128)
                      · as_aux_lemma =>
                        rw [if_pos c125] at H
                        have c125b0 : decide ((-128) ≤ a0_3) = true := decide_eq_true c125
                        clear c125
                        simp only [Option.some.injEq, Prod.mk.injEq] at H
                        obtain ⟨rfl, rfl⟩ := H
                        have hcz126_0 : wc.cell? ⟨gb117, 0, none⟩ = some (.int .i64 a0_0) := (blk_cell BK117.out 0).trans rfl
                        have hcz126_1 : wc.cell? ⟨gb117, 1, none⟩ = some (.int .u32 a0_1) := (blk_cell BK117.out 1).trans rfl
                        have hcz126_2 : wc.cell? ⟨gb117, 2, none⟩ = some (.string a0_2) := (blk_cell BK117.out 2).trans rfl
                        have hcz126_3 : wc.cell? ⟨gb117, 3, none⟩ = some (.int .i64 a0_3) := (blk_cell BK117.out 3).trans rfl
                        have hfz126_0 := blk_frozen BK117.out 0
                        have hfz126_1 := blk_frozen BK117.out 1
                        have hfz126_2 := blk_frozen BK117.out 2
                        have hfz126_3 := blk_frozen BK117.out 3
                        try go_wp2_with (first | ((with_reducible refine gate_callee (f := 34) rfl ?_); refine goesL_ (some 59) rfl rfl Try.func34 (by kernel_rfl) rfl #[.int .i64 a0_0] rfl (by (try simp only [List.map_toArray, List.map_cons, List.map_nil]); first | done | rfl | (simp only [List.length_drop, List.length_take]; rfl)) ?_; (with_reducible refine (tinderref13_code.calls a0_0 t120 _ A63.out).mono ?_); rintro e w127 ⟨v121, rfl, ho0, hb⟩; refine ⟨_, rfl, ?_⟩; have n0_ := Aside0.mk (Kd.R_lower ho0 (below_size (by repeat (first | (with_reducible first | exact HB.out | apply below_alloc | apply pw_below_drewN | apply below_drew1 | refine below_set ?_ GE117.out) | exact HB.out)))); have n1_ := Aside0.mk (blk_below (g := gb117) (o := .cells #[.int .i64 a0_0, .int .u32 a0_1, .string a0_2, .int .i64 a0_3] 34 (0, 0)) (by (with_reducible repeat (first | refine blk_drewN ?_ _ | refine blk_drew ?_ | refine blk_alloc ?_ _)); exact BK117.out) hb); have n2_ := Aside0.mk (below_step (by repeat (first | (with_reducible first | exact HB.out | apply below_alloc | apply pw_below_drewN | apply below_drew1 | refine below_set ?_ GE117.out) | exact HB.out)) hb); clear BK117; clear HB; have HO122 := n0_; have BK117 := n1_; have HB := n2_; clear n0_ n1_ n2_; (try clear hb); (try clear hb2); (try clear hk); (try clear hi); (try clear ho0); have hcz128_0 : w127.cell? ⟨gb117, 0, none⟩ = some (.int .i64 a0_0) := (blk_cell BK117.out 0).trans rfl; have hcz128_1 : w127.cell? ⟨gb117, 1, none⟩ = some (.int .u32 a0_1) := (blk_cell BK117.out 1).trans rfl; have hcz128_2 : w127.cell? ⟨gb117, 2, none⟩ = some (.string a0_2) := (blk_cell BK117.out 2).trans rfl; have hcz128_3 : w127.cell? ⟨gb117, 3, none⟩ = some (.int .i64 a0_3) := (blk_cell BK117.out 3).trans rfl; have hfz128_0 := blk_frozen BK117.out 0; have hfz128_1 := blk_frozen BK117.out 1; have hfz128_2 := blk_frozen BK117.out 2; have hfz128_3 := blk_frozen BK117.out 3))
                        have n0_ := Aside0.mk (Kd.R_drew HO122.out)
                        have n1_ := Aside0.mk (blk_drew BK117.out)
                        have n2_ := Aside0.mk (below_drew1 HB.out)
                        clear HO122
                        clear BK117
                        clear HB
                        have HO122 := n0_
                        have BK117 := n1_
                        have HB := n2_
                        clear n0_ n1_ n2_
                        refine start_ (n := 18) (S := fun w' => w'.cell? ⟨gb117, 0, none⟩ = some (.int .i64 a0_0) ∧ w'.cell? ⟨gb117, 1, none⟩ = some (.int .u32 a0_1) ∧ w'.cell? ⟨gb117, 2, none⟩ = some (.string a0_2) ∧ w'.cell? ⟨gb117, 3, none⟩ = some (.int .i64 a0_3)) (ds := []) #[false, false, false, false, false, false, false, false, false, false, false, false, false, false, false, false, false, false] (by kernel_rfl) rfl rfl ⟨(blk_cell BK117.out 0).trans rfl, (blk_cell BK117.out 1).trans rfl, (blk_cell BK117.out 2).trans rfl, (blk_cell BK117.out 3).trans rfl⟩ (fun hHeld => ?_); refine with_tabW tinderref13_Bytes.tab24 tinderref13_Bytes.bits24 (fun HT_ HW_ => ?_)
                        generalize w127.drew = w129 at HO122 BK117 HB hHeld ⊢
                        refine pure_ (i := 0) (N := some 119) (v := ?_) (a' := ?_) #[true, false, false, false, false, false, false, false, false, false, false, false, false, false, false, false, false, false] rfl rfl (any_of HT_.out (by kernel_rfl)) (fun _ _ _ h => h) (Or.inl ⟨by rfl, ?_⟩) ?_ ?_
                        rotate_left
                        · intro w'
                          go_simp
                          with_reducible rfl
                        rotate_left
                        · simp only [Act.put, List.setIfInBounds_toArray, List.set_cons_zero, List.set_cons_succ, i64_w, i32_w]
                          rfl
                        refine pure_ (i := 1) (N := some 120) (v := ?_) (a' := ?_) #[true, true, false, false, false, false, false, false, false, false, false, false, false, false, false, false, false, false] rfl rfl (any_of HT_.out (by kernel_rfl)) (fun _ _ _ h => h) (Or.inl ⟨by rfl, ?_⟩) ?_ ?_
                        rotate_left
                        · intro w'
                          go_simp
                          with_reducible rfl
                        rotate_left
                        · simp only [Act.put, List.setIfInBounds_toArray, List.set_cons_zero, List.set_cons_succ, i64_w, i32_w]
                          rfl
                        refine pure_ (i := 8) (N := some 127) (v := ?_) (a' := ?_) #[true, true, false, false, false, false, false, false, true, false, false, false, false, false, false, false, false, false] rfl rfl (any_of HT_.out (by kernel_rfl)) (fun _ _ _ h => h) (Or.inl ⟨by rfl, ?_⟩) ?_ ?_
                        rotate_left
                        · intro w'
                          go_simp
                          with_reducible rfl
                        rotate_left
                        · simp only [Act.put, List.setIfInBounds_toArray, List.set_cons_zero, List.set_cons_succ, i64_w, i32_w]
                          rfl
                        refine take_ (i := 2) (N := some 121) (v := ?_) (a' := ?_) #[true, true, true, false, false, false, false, false, true, false, false, false, false, false, false, false, false, false] rfl rfl (take_ofW HT_.out HW_.out (by kernel_rfl)) (fun _ _ _ h => h) (Or.inl ⟨by rfl, ?_⟩) hHeld ?_ ?_
                        rotate_left
                        · rintro w' ⟨s0, s1, s2, s3⟩
                          go_simp
                          with_reducible rfl
                        rotate_left
                        · simp only [Act.put, List.setIfInBounds_toArray, List.set_cons_zero, List.set_cons_succ, i64_w, i32_w]
                          rfl
                        refine pure_ (i := 3) (N := some 122) (v := ?_) (a' := ?_) #[true, true, true, true, false, false, false, false, true, false, false, false, false, false, false, false, false, false] rfl rfl (any_of HT_.out (by kernel_rfl)) (fun _ _ _ h => h) (Or.inl ⟨by rfl, ?_⟩) ?_ ?_
                        rotate_left
                        · intro w'
                          go_simp
                          with_reducible rfl
                        rotate_left
                        · simp only [Act.put, List.setIfInBounds_toArray, List.set_cons_zero, List.set_cons_succ, i64_w, i32_w]
                          rfl
                        refine pure_ (i := 4) (N := some 123) (v := ?_) (a' := ?_) #[true, true, true, true, true, false, false, false, true, false, false, false, false, false, false, false, false, false] rfl rfl (any_of HT_.out (by kernel_rfl)) (fun _ _ _ h => h) (Or.inl ⟨by rfl, ?_⟩) ?_ ?_
                        rotate_left
                        · intro w'
                          go_simp
                          with_reducible rfl
                        rotate_left
                        · simp only [Act.put, List.setIfInBounds_toArray, List.set_cons_zero, List.set_cons_succ, i64_w, i32_w]
                          rfl
                        refine pure_ (i := 5) (N := some 124) (v := ?_) (a' := ?_) #[true, true, true, true, true, true, false, false, true, false, false, false, false, false, false, false, false, false] rfl rfl (any_of HT_.out (by kernel_rfl)) (fun _ _ _ h => h) (Or.inl ⟨by rfl, ?_⟩) ?_ ?_
                        rotate_left
                        · intro w'
                          go_simp
                          with_reducible rfl
                        rotate_left
                        · simp only [Act.put, List.setIfInBounds_toArray, List.set_cons_zero, List.set_cons_succ, i64_w, i32_w]
                          rfl
                        refine take_ (i := 9) (N := some 128) (v := ?_) (a' := ?_) #[true, true, true, true, true, true, false, false, true, true, false, false, false, false, false, false, false, false] rfl rfl (take_ofW HT_.out HW_.out (by kernel_rfl)) (fun _ _ _ h => h) (Or.inl ⟨by rfl, ?_⟩) hHeld ?_ ?_
                        rotate_left
                        · rintro w' ⟨s0, s1, s2, s3⟩
                          go_simp
                          with_reducible rfl
                        rotate_left
                        · simp only [Act.put, List.setIfInBounds_toArray, List.set_cons_zero, List.set_cons_succ, i64_w, i32_w]
                          rfl
                        refine pure_ (i := 10) (N := some 129) (v := ?_) (a' := ?_) #[true, true, true, true, true, true, false, false, true, true, true, false, false, false, false, false, false, false] rfl rfl (any_of HT_.out (by kernel_rfl)) (fun _ _ _ h => h) (Or.inl ⟨by rfl, ?_⟩) ?_ ?_
                        rotate_left
                        · intro w'
                          go_simp
                          with_reducible rfl
                        rotate_left
                        · simp only [Act.put, List.setIfInBounds_toArray, List.set_cons_zero, List.set_cons_succ, i64_w, i32_w]
                          rfl
                        refine one_ (i := 6) (N := some 125) #[true, true, true, true, true, true, true, false, true, true, true, false, false, false, false, false, false, false] rfl rfl (one_of HT_.out (by kernel_rfl)) (by decide) (fun K hK => ?_)
                        refine value_ (w1 := ?_) (v := ?_) (by rfl) rfl ?_ ?_
                        rotate_left 2
                        · go_simp
                          constructor
                          · rfl
                          · rfl
                        refine hK.out _ _ ⟨(blk_cell (blk_alloc BK117.out _) 0).trans rfl, (blk_cell (blk_alloc BK117.out _) 1).trans rfl, (blk_cell (blk_alloc BK117.out _) 2).trans rfl, (blk_cell (blk_alloc BK117.out _) 3).trans rfl⟩ (fun hHeld => ?_)
                        clear hK K
                        refine norm_ (a' := ?_) ?_ ?_
                        rotate_left
                        · show Act.put _ (some 125) _ = _
                          simp only [Act.put, List.setIfInBounds_toArray, List.set_cons_zero, List.set_cons_succ, i64_w, i32_w]
                          rfl
                        refine one_ (i := 7) (N := some 126) #[true, true, true, true, true, true, true, true, true, true, true, false, false, false, false, false, false, false] rfl rfl (one_of HT_.out (by kernel_rfl)) (by decide) (fun K hK => ?_)
                        refine Kd.R_append_step (Kd.int .u8) (w0 := w) w.heap.size (by rfl) (.tmp 119) (.tmp 125) 22 5 (.int .u8 0) 1 rfl Try.underlying22 info5 rfl (by decide) (by omega) v121 t120 ((Int.tmod (wrap64 (a0_3 + 256)) 256) % 256) [.int .u8 ((Int.tmod (wrap64 (a0_3 + 256)) 256) % 256)] (fun _ => True) (fun _ => False) rfl rfl ?aP (fun _ hk => hk.elim) ?aF ?aO ?aB ?aS ?aL ?_
                        (case aP => exact rfl)
                        (case aB => exact (by repeat (first | (with_reducible first | exact HB.out | apply below_alloc | apply pw_below_drewN | apply below_drew1 | refine below_set ?_ GE117.out) | exact HB.out)))
                        (case aF => exact (fun _ _ => trivial))
                        (case aO => exact (by (with_reducible repeat (first | apply Kd.R_alloc | apply Kd.R_drewN | apply Kd.R_drew)); exact HO122.out))
                        (case aS => exact (below_size (by repeat (first | (with_reducible first | exact HB.out | apply below_alloc | apply pw_below_drewN | apply below_drew1 | refine below_set ?_ GE117.out) | exact HB.out))))
                        (case aL => have := LMc124.out; omega)
                        intro v155 w130 ho hb hg hat
                        rw [← Ny154.out] at ho
                        have n0_ := Aside0.mk (blk_grown (g := gb117) (o := .cells #[.int .i64 a0_0, .int .u32 a0_1, .string a0_2, .int .i64 a0_3] 34 (0, 0)) (by (with_reducible repeat (first | refine blk_drewN ?_ _ | refine blk_drew ?_ | refine blk_alloc ?_ _)); exact BK117.out) hg (Kd.R_ne HO122.out BK117.out (by decide)))
                        have n1_ := Aside0.mk (hb)
                        have n2_ := Aside0.mk (ho)
                        clear BK117
                        clear HB
                        clear HO122
                        have BK117 := n0_
                        have HB := n1_
                        have HO156 := n2_
                        clear n0_ n1_ n2_
                        clear ho hb hg hat
                        refine hK.out _ _ ⟨(blk_cell BK117.out 0).trans rfl, (blk_cell BK117.out 1).trans rfl, (blk_cell BK117.out 2).trans rfl, (blk_cell BK117.out 3).trans rfl⟩ (fun hHeld => ?_)
                        clear hK K
                        refine norm_ (a' := ?_) ?_ ?_
                        rotate_left
                        · show Act.put _ (some 126) _ = _
                          simp only [Act.put, List.setIfInBounds_toArray, List.set_cons_zero, List.set_cons_succ, i64_w, i32_w]
                          rfl
                        refine pure_ (i := 11) (N := some 130) (v := ?_) (a' := ?_) #[true, true, true, true, true, true, true, true, true, true, true, true, false, false, false, false, false, false] rfl rfl (any_of HT_.out (by kernel_rfl)) (fun _ _ _ h => h) (Or.inl ⟨by rfl, ?_⟩) ?_ ?_
                        rotate_left
                        · intro w'
                          go_simp
                          with_reducible rfl
                        rotate_left
                        · simp only [Act.put, List.setIfInBounds_toArray, List.set_cons_zero, List.set_cons_succ, i64_w, i32_w]
                          rfl
                        refine pure_ (i := 12) (N := some 131) (v := ?_) (a' := ?_) #[true, true, true, true, true, true, true, true, true, true, true, true, true, false, false, false, false, false] rfl rfl (any_of HT_.out (by kernel_rfl)) (fun _ _ _ h => h) (Or.inl ⟨by rfl, ?_⟩) ?_ ?_
                        rotate_left
                        · intro w'
                          go_simp
                          with_reducible rfl
                        rotate_left
                        · simp only [Act.put, List.setIfInBounds_toArray, List.set_cons_zero, List.set_cons_succ, i64_w, i32_w]
                          rfl
                        refine pure_ (i := 16) (N := some 4) (v := ?_) (a' := ?_) #[true, true, true, true, true, true, true, true, true, true, true, true, true, false, false, false, true, false] rfl rfl (any_of HT_.out (by kernel_rfl)) (fun _ _ _ h => h) (Or.inl ⟨by rfl, ?_⟩) ?_ ?_
                        rotate_left
                        · intro w'
                          go_simp
                          with_reducible rfl
                        rotate_left
                        · simp only [Act.put, List.setIfInBounds_toArray, List.set_cons_zero, List.set_cons_succ, i64_w, i32_w]
                          rfl
                        refine take_ (i := 13) (N := some 132) (v := ?_) (a' := ?_) #[true, true, true, true, true, true, true, true, true, true, true, true, true, true, false, false, true, false] rfl rfl (take_ofW HT_.out HW_.out (by kernel_rfl)) (fun _ _ _ h => h) (Or.inl ⟨by rfl, ?_⟩) hHeld ?_ ?_
                        rotate_left
                        · rintro w' ⟨s0, s1, s2, s3⟩
                          go_simp
                          with_reducible rfl
                        rotate_left
                        · simp only [Act.put, List.setIfInBounds_toArray, List.set_cons_zero, List.set_cons_succ, i64_w, i32_w]
                          rfl
                        refine pure_ (i := 14) (N := some 133) (v := ?_) (a' := ?_) #[true, true, true, true, true, true, true, true, true, true, true, true, true, true, true, false, true, false] rfl rfl (any_of HT_.out (by kernel_rfl)) (fun _ _ _ h => h) (Or.inl ⟨by rfl, ?_⟩) ?_ ?_
                        rotate_left
                        · intro w'
                          go_simp
                          with_reducible rfl
                        rotate_left
                        · simp only [Act.put, List.setIfInBounds_toArray, List.set_cons_zero, List.set_cons_succ, i64_w, i32_w]
                          rfl
                        refine pure_ (i := 15) (N := some 134) (v := ?_) (a' := ?_) #[true, true, true, true, true, true, true, true, true, true, true, true, true, true, true, true, true, false] rfl rfl (any_of HT_.out (by kernel_rfl)) (fun _ _ _ h => h) (Or.inl ⟨by rfl, ?_⟩) ?_ ?_
                        rotate_left
                        · intro w'
                          go_simp
                          with_reducible rfl
                        rotate_left
                        · simp only [Act.put, List.setIfInBounds_toArray, List.set_cons_zero, List.set_cons_succ, i64_w, i32_w]
                          rfl
                        refine pure_ (i := 17) (N := some 5) (v := ?_) (a' := ?_) #[true, true, true, true, true, true, true, true, true, true, true, true, true, true, true, true, true, true] rfl rfl (any_of HT_.out (by kernel_rfl)) (fun _ _ _ h => h) (Or.inl ⟨by rfl, ?_⟩) ?_ ?_
                        rotate_left
                        · intro w'
                          go_simp
                          with_reducible rfl
                        rotate_left
                        · simp only [Act.put, List.setIfInBounds_toArray, List.set_cons_zero, List.set_cons_succ, i64_w, i32_w]
                          rfl
                        refine done_ (done_of HT_.out (by kernel_rfl)) ?_
                        try go_wp2
                        go_ret2
                        exact ⟨_, by first | rfl | (simp [errW_none, errW_some] <;> rfl) | (simp [*, errW_none, errW_some] <;> rfl), by (with_reducible repeat (first | apply Kd.R_alloc | apply Kd.R_drewN | apply Kd.R_drew)); exact HO156.out, by repeat (first | (with_reducible first | exact HB.out | apply below_alloc | apply pw_below_drewN | apply below_drew1 | refine below_set ?_ GE117.out) | exact HB.out)⟩
                      · as_aux_lemma =>
                        rw [if_neg c125] at H
                        have c125b0 : decide ((-128) ≤ a0_3) = false := decide_eq_false c125
                        clear c125
                        simp only [Option.some.injEq, Prod.mk.injEq] at H
                        obtain ⟨rfl, rfl⟩ := H
                        have hcz131_0 : wc.cell? ⟨gb117, 0, none⟩ = some (.int .i64 a0_0) := (blk_cell BK117.out 0).trans rfl
                        have hcz131_1 : wc.cell? ⟨gb117, 1, none⟩ = some (.int .u32 a0_1) := (blk_cell BK117.out 1).trans rfl
                        have hcz131_2 : wc.cell? ⟨gb117, 2, none⟩ = some (.string a0_2) := (blk_cell BK117.out 2).trans rfl
                        have hcz131_3 : wc.cell? ⟨gb117, 3, none⟩ = some (.int .i64 a0_3) := (blk_cell BK117.out 3).trans rfl
                        have hfz131_0 := blk_frozen BK117.out 0
                        have hfz131_1 := blk_frozen BK117.out 1
                        have hfz131_2 := blk_frozen BK117.out 2
                        have hfz131_3 := blk_frozen BK117.out 3
                        try go_wp2_with (first | ((with_reducible refine gate_callee (f := 34) rfl ?_); refine goesL_ (some 59) rfl rfl Try.func34 (by kernel_rfl) rfl #[.int .i64 a0_0] rfl (by (try simp only [List.map_toArray, List.map_cons, List.map_nil]); first | done | rfl | (simp only [List.length_drop, List.length_take]; rfl)) ?_; (with_reducible refine (tinderref13_code.calls a0_0 t120 _ A63.out).mono ?_); rintro e w132 ⟨v121, rfl, ho0, hb⟩; refine ⟨_, rfl, ?_⟩; have n0_ := Aside0.mk (Kd.R_lower ho0 (below_size (by repeat (first | (with_reducible first | exact HB.out | apply below_alloc | apply pw_below_drewN | apply below_drew1 | refine below_set ?_ GE117.out) | exact HB.out)))); have n1_ := Aside0.mk (blk_below (g := gb117) (o := .cells #[.int .i64 a0_0, .int .u32 a0_1, .string a0_2, .int .i64 a0_3] 34 (0, 0)) (by (with_reducible repeat (first | refine blk_drewN ?_ _ | refine blk_drew ?_ | refine blk_alloc ?_ _)); exact BK117.out) hb); have n2_ := Aside0.mk (below_step (by repeat (first | (with_reducible first | exact HB.out | apply below_alloc | apply pw_below_drewN | apply below_drew1 | refine below_set ?_ GE117.out) | exact HB.out)) hb); clear BK117; clear HB; have HO122 := n0_; have BK117 := n1_; have HB := n2_; clear n0_ n1_ n2_; (try clear hb); (try clear hb2); (try clear hk); (try clear hi); (try clear ho0); have hcz133_0 : w132.cell? ⟨gb117, 0, none⟩ = some (.int .i64 a0_0) := (blk_cell BK117.out 0).trans rfl; have hcz133_1 : w132.cell? ⟨gb117, 1, none⟩ = some (.int .u32 a0_1) := (blk_cell BK117.out 1).trans rfl; have hcz133_2 : w132.cell? ⟨gb117, 2, none⟩ = some (.string a0_2) := (blk_cell BK117.out 2).trans rfl; have hcz133_3 : w132.cell? ⟨gb117, 3, none⟩ = some (.int .i64 a0_3) := (blk_cell BK117.out 3).trans rfl; have hfz133_0 := blk_frozen BK117.out 0; have hfz133_1 := blk_frozen BK117.out 1; have hfz133_2 := blk_frozen BK117.out 2; have hfz133_3 := blk_frozen BK117.out 3))
                        have n0_ := Aside0.mk (Kd.R_drew HO122.out)
                        have n1_ := Aside0.mk (blk_drew BK117.out)
                        have n2_ := Aside0.mk (below_drew1 HB.out)
                        clear HO122
                        clear BK117
                        clear HB
                        have HO122 := n0_
                        have BK117 := n1_
                        have HB := n2_
                        clear n0_ n1_ n2_
                        refine start_ (n := 18) (S := fun w' => w'.cell? ⟨gb117, 0, none⟩ = some (.int .i64 a0_0) ∧ w'.cell? ⟨gb117, 1, none⟩ = some (.int .u32 a0_1) ∧ w'.cell? ⟨gb117, 2, none⟩ = some (.string a0_2) ∧ w'.cell? ⟨gb117, 3, none⟩ = some (.int .i64 a0_3)) (ds := []) #[false, false, false, false, false, false, false, false, false, false, false, false, false, false, false, false, false, false] (by kernel_rfl) rfl rfl ⟨(blk_cell BK117.out 0).trans rfl, (blk_cell BK117.out 1).trans rfl, (blk_cell BK117.out 2).trans rfl, (blk_cell BK117.out 3).trans rfl⟩ (fun hHeld => ?_); refine with_tabW tinderref13_Bytes.tab24 tinderref13_Bytes.bits24 (fun HT_ HW_ => ?_)
                        generalize w132.drew = w134 at HO122 BK117 HB hHeld ⊢
                        refine pure_ (i := 0) (N := some 119) (v := ?_) (a' := ?_) #[true, false, false, false, false, false, false, false, false, false, false, false, false, false, false, false, false, false] rfl rfl (any_of HT_.out (by kernel_rfl)) (fun _ _ _ h => h) (Or.inl ⟨by rfl, ?_⟩) ?_ ?_
                        rotate_left
                        · intro w'
                          go_simp
                          with_reducible rfl
                        rotate_left
                        · simp only [Act.put, List.setIfInBounds_toArray, List.set_cons_zero, List.set_cons_succ, i64_w, i32_w]
                          rfl
                        refine pure_ (i := 1) (N := some 120) (v := ?_) (a' := ?_) #[true, true, false, false, false, false, false, false, false, false, false, false, false, false, false, false, false, false] rfl rfl (any_of HT_.out (by kernel_rfl)) (fun _ _ _ h => h) (Or.inl ⟨by rfl, ?_⟩) ?_ ?_
                        rotate_left
                        · intro w'
                          go_simp
                          with_reducible rfl
                        rotate_left
                        · simp only [Act.put, List.setIfInBounds_toArray, List.set_cons_zero, List.set_cons_succ, i64_w, i32_w]
                          rfl
                        refine pure_ (i := 8) (N := some 127) (v := ?_) (a' := ?_) #[true, true, false, false, false, false, false, false, true, false, false, false, false, false, false, false, false, false] rfl rfl (any_of HT_.out (by kernel_rfl)) (fun _ _ _ h => h) (Or.inl ⟨by rfl, ?_⟩) ?_ ?_
                        rotate_left
                        · intro w'
                          go_simp
                          with_reducible rfl
                        rotate_left
                        · simp only [Act.put, List.setIfInBounds_toArray, List.set_cons_zero, List.set_cons_succ, i64_w, i32_w]
                          rfl
                        refine take_ (i := 2) (N := some 121) (v := ?_) (a' := ?_) #[true, true, true, false, false, false, false, false, true, false, false, false, false, false, false, false, false, false] rfl rfl (take_ofW HT_.out HW_.out (by kernel_rfl)) (fun _ _ _ h => h) (Or.inl ⟨by rfl, ?_⟩) hHeld ?_ ?_
                        rotate_left
                        · rintro w' ⟨s0, s1, s2, s3⟩
                          go_simp
                          with_reducible rfl
                        rotate_left
                        · simp only [Act.put, List.setIfInBounds_toArray, List.set_cons_zero, List.set_cons_succ, i64_w, i32_w]
                          rfl
                        refine pure_ (i := 3) (N := some 122) (v := ?_) (a' := ?_) #[true, true, true, true, false, false, false, false, true, false, false, false, false, false, false, false, false, false] rfl rfl (any_of HT_.out (by kernel_rfl)) (fun _ _ _ h => h) (Or.inl ⟨by rfl, ?_⟩) ?_ ?_
                        rotate_left
                        · intro w'
                          go_simp
                          with_reducible rfl
                        rotate_left
                        · simp only [Act.put, List.setIfInBounds_toArray, List.set_cons_zero, List.set_cons_succ, i64_w, i32_w]
                          rfl
                        refine pure_ (i := 4) (N := some 123) (v := ?_) (a' := ?_) #[true, true, true, true, true, false, false, false, true, false, false, false, false, false, false, false, false, false] rfl rfl (any_of HT_.out (by kernel_rfl)) (fun _ _ _ h => h) (Or.inl ⟨by rfl, ?_⟩) ?_ ?_
                        rotate_left
                        · intro w'
                          go_simp
                          with_reducible rfl
                        rotate_left
                        · simp only [Act.put, List.setIfInBounds_toArray, List.set_cons_zero, List.set_cons_succ, i64_w, i32_w]
                          rfl
                        refine pure_ (i := 5) (N := some 124) (v := ?_) (a' := ?_) #[true, true, true, true, true, true, false, false, true, false, false, false, false, false, false, false, false, false] rfl rfl (any_of HT_.out (by kernel_rfl)) (fun _ _ _ h => h) (Or.inl ⟨by rfl, ?_⟩) ?_ ?_
                        rotate_left
                        · intro w'
                          go_simp
                          with_reducible rfl
                        rotate_left
                        · simp only [Act.put, List.setIfInBounds_toArray, List.set_cons_zero, List.set_cons_succ, i64_w, i32_w]
                          rfl
                        refine take_ (i := 9) (N := some 128) (v := ?_) (a' := ?_) #[true, true, true, true, true, true, false, false, true, true, false, false, false, false, false, false, false, false] rfl rfl (take_ofW HT_.out HW_.out (by kernel_rfl)) (fun _ _ _ h => h) (Or.inl ⟨by rfl, ?_⟩) hHeld ?_ ?_
                        rotate_left
                        · rintro w' ⟨s0, s1, s2, s3⟩
                          go_simp
                          with_reducible rfl
                        rotate_left
                        · simp only [Act.put, List.setIfInBounds_toArray, List.set_cons_zero, List.set_cons_succ, i64_w, i32_w]
                          rfl
                        refine pure_ (i := 10) (N := some 129) (v := ?_) (a' := ?_) #[true, true, true, true, true, true, false, false, true, true, true, false, false, false, false, false, false, false] rfl rfl (any_of HT_.out (by kernel_rfl)) (fun _ _ _ h => h) (Or.inl ⟨by rfl, ?_⟩) ?_ ?_
                        rotate_left
                        · intro w'
                          go_simp
                          with_reducible rfl
                        rotate_left
                        · simp only [Act.put, List.setIfInBounds_toArray, List.set_cons_zero, List.set_cons_succ, i64_w, i32_w]
                          rfl
                        refine one_ (i := 6) (N := some 125) #[true, true, true, true, true, true, true, false, true, true, true, false, false, false, false, false, false, false] rfl rfl (one_of HT_.out (by kernel_rfl)) (by decide) (fun K hK => ?_)
                        refine value_ (w1 := ?_) (v := ?_) (by rfl) rfl ?_ ?_
                        rotate_left 2
                        · go_simp
                          constructor
                          · rfl
                          · rfl
                        refine hK.out _ _ ⟨(blk_cell (blk_alloc BK117.out _) 0).trans rfl, (blk_cell (blk_alloc BK117.out _) 1).trans rfl, (blk_cell (blk_alloc BK117.out _) 2).trans rfl, (blk_cell (blk_alloc BK117.out _) 3).trans rfl⟩ (fun hHeld => ?_)
                        clear hK K
                        refine norm_ (a' := ?_) ?_ ?_
                        rotate_left
                        · show Act.put _ (some 125) _ = _
                          simp only [Act.put, List.setIfInBounds_toArray, List.set_cons_zero, List.set_cons_succ, i64_w, i32_w]
                          rfl
                        refine one_ (i := 7) (N := some 126) #[true, true, true, true, true, true, true, true, true, true, true, false, false, false, false, false, false, false] rfl rfl (one_of HT_.out (by kernel_rfl)) (by decide) (fun K hK => ?_)
                        refine Kd.R_append_step (Kd.int .u8) (w0 := w) w.heap.size (by rfl) (.tmp 119) (.tmp 125) 22 5 (.int .u8 0) 1 rfl Try.underlying22 info5 rfl (by decide) (by omega) v121 t120 ((Int.tmod (wrap64 (a0_3 + 256)) 256) % 256) [.int .u8 ((Int.tmod (wrap64 (a0_3 + 256)) 256) % 256)] (fun _ => True) (fun _ => False) rfl rfl ?aP (fun _ hk => hk.elim) ?aF ?aO ?aB ?aS ?aL ?_
                        (case aP => exact rfl)
                        (case aB => exact (by repeat (first | (with_reducible first | exact HB.out | apply below_alloc | apply pw_below_drewN | apply below_drew1 | refine below_set ?_ GE117.out) | exact HB.out)))
                        (case aF => exact (fun _ _ => trivial))
                        (case aO => exact (by (with_reducible repeat (first | apply Kd.R_alloc | apply Kd.R_drewN | apply Kd.R_drew)); exact HO122.out))
                        (case aS => exact (below_size (by repeat (first | (with_reducible first | exact HB.out | apply below_alloc | apply pw_below_drewN | apply below_drew1 | refine below_set ?_ GE117.out) | exact HB.out))))
                        (case aL => have := LMc124.out; omega)
                        intro v155 w135 ho hb hg hat
                        rw [← Ny154.out] at ho
                        have n0_ := Aside0.mk (blk_grown (g := gb117) (o := .cells #[.int .i64 a0_0, .int .u32 a0_1, .string a0_2, .int .i64 a0_3] 34 (0, 0)) (by (with_reducible repeat (first | refine blk_drewN ?_ _ | refine blk_drew ?_ | refine blk_alloc ?_ _)); exact BK117.out) hg (Kd.R_ne HO122.out BK117.out (by decide)))
                        have n1_ := Aside0.mk (hb)
                        have n2_ := Aside0.mk (ho)
                        clear BK117
                        clear HB
                        clear HO122
                        have BK117 := n0_
                        have HB := n1_
                        have HO156 := n2_
                        clear n0_ n1_ n2_
                        clear ho hb hg hat
                        refine hK.out _ _ ⟨(blk_cell BK117.out 0).trans rfl, (blk_cell BK117.out 1).trans rfl, (blk_cell BK117.out 2).trans rfl, (blk_cell BK117.out 3).trans rfl⟩ (fun hHeld => ?_)
                        clear hK K
                        refine norm_ (a' := ?_) ?_ ?_
                        rotate_left
                        · show Act.put _ (some 126) _ = _
                          simp only [Act.put, List.setIfInBounds_toArray, List.set_cons_zero, List.set_cons_succ, i64_w, i32_w]
                          rfl
                        refine pure_ (i := 11) (N := some 130) (v := ?_) (a' := ?_) #[true, true, true, true, true, true, true, true, true, true, true, true, false, false, false, false, false, false] rfl rfl (any_of HT_.out (by kernel_rfl)) (fun _ _ _ h => h) (Or.inl ⟨by rfl, ?_⟩) ?_ ?_
                        rotate_left
                        · intro w'
                          go_simp
                          with_reducible rfl
                        rotate_left
                        · simp only [Act.put, List.setIfInBounds_toArray, List.set_cons_zero, List.set_cons_succ, i64_w, i32_w]
                          rfl
                        refine pure_ (i := 12) (N := some 131) (v := undef) (a' := ?_) #[true, true, true, true, true, true, true, true, true, true, true, true, true, false, false, false, false, false] rfl rfl (any_of HT_.out (by kernel_rfl)) (fun _ _ _ h => h) (Or.inr ⟨by rfl, rfl⟩) ?_ ?_
                        rotate_left
                        · simp only [Act.put, List.setIfInBounds_toArray, List.set_cons_zero, List.set_cons_succ, i64_w, i32_w]
                          rfl
                        refine pure_ (i := 13) (N := some 132) (v := undef) (a' := ?_) #[true, true, true, true, true, true, true, true, true, true, true, true, true, true, false, false, false, false] rfl rfl (any_of HT_.out (by kernel_rfl)) (fun _ _ _ h => h) (Or.inr ⟨by rfl, rfl⟩) ?_ ?_
                        rotate_left
                        · simp only [Act.put, List.setIfInBounds_toArray, List.set_cons_zero, List.set_cons_succ, i64_w, i32_w]
                          rfl
                        refine pure_ (i := 14) (N := some 133) (v := undef) (a' := ?_) #[true, true, true, true, true, true, true, true, true, true, true, true, true, true, true, false, false, false] rfl rfl (any_of HT_.out (by kernel_rfl)) (fun _ _ _ h => h) (Or.inr ⟨by rfl, rfl⟩) ?_ ?_
                        rotate_left
                        · simp only [Act.put, List.setIfInBounds_toArray, List.set_cons_zero, List.set_cons_succ, i64_w, i32_w]
                          rfl
                        refine pure_ (i := 15) (N := some 134) (v := ?_) (a' := ?_) #[true, true, true, true, true, true, true, true, true, true, true, true, true, true, true, true, false, false] rfl rfl (any_of HT_.out (by kernel_rfl)) (fun _ _ _ h => h) (Or.inl ⟨by rfl, ?_⟩) ?_ ?_
                        rotate_left
                        · intro w'
                          go_simp
                          with_reducible rfl
                        rotate_left
                        · simp only [Act.put, List.setIfInBounds_toArray, List.set_cons_zero, List.set_cons_succ, i64_w, i32_w]
                          rfl
                        refine pure_ (i := 16) (N := some 4) (v := ?_) (a' := ?_) #[true, true, true, true, true, true, true, true, true, true, true, true, true, true, true, true, true, false] rfl rfl (any_of HT_.out (by kernel_rfl)) (fun _ _ _ h => h) (Or.inl ⟨by rfl, ?_⟩) ?_ ?_
                        rotate_left
                        · intro w'
                          go_simp
                          with_reducible rfl
                        rotate_left
                        · simp only [Act.put, List.setIfInBounds_toArray, List.set_cons_zero, List.set_cons_succ, i64_w, i32_w]
                          rfl
                        refine pure_ (i := 17) (N := some 5) (v := ?_) (a' := ?_) #[true, true, true, true, true, true, true, true, true, true, true, true, true, true, true, true, true, true] rfl rfl (any_of HT_.out (by kernel_rfl)) (fun _ _ _ h => h) (Or.inl ⟨by rfl, ?_⟩) ?_ ?_
                        rotate_left
                        · intro w'
                          go_simp
                          with_reducible rfl
                        rotate_left
                        · simp only [Act.put, List.setIfInBounds_toArray, List.set_cons_zero, List.set_cons_succ, i64_w, i32_w]
                          rfl
                        refine done_ (done_of HT_.out (by kernel_rfl)) ?_
                        try go_wp2
                        go_ret2
                        exact ⟨_, by first | rfl | (simp [errW_none, errW_some] <;> rfl) | (simp [*, errW_none, errW_some] <;> rfl), by (with_reducible repeat (first | apply Kd.R_alloc | apply Kd.R_drewN | apply Kd.R_drew)); exact HO156.out, by repeat (first | (with_reducible first | exact HB.out | apply below_alloc | apply pw_below_drewN | apply below_drew1 | refine below_set ?_ GE117.out) | exact HB.out)⟩
                    · rw [if_neg c124] at H
                      exact absurd H (by simp)
                · as_aux_lemma =>
                  rw [if_neg c105] at H
                  have c105b0 : (t119 == 4) = false := beq_eq_false_iff_ne.mpr c105
                  have c105b1 : (t119 != 4) = true := bne_iff_ne.mpr c105
                  have HC136 := Aside0.mk H
                  clear H
                  have hcz137_0 : wc.cell? ⟨gb117, 0, none⟩ = some (.int .i64 a0_0) := (blk_cell BK117.out 0).trans rfl
                  have hcz137_1 : wc.cell? ⟨gb117, 1, none⟩ = some (.int .u32 a0_1) := (blk_cell BK117.out 1).trans rfl
                  have hcz137_2 : wc.cell? ⟨gb117, 2, none⟩ = some (.string a0_2) := (blk_cell BK117.out 2).trans rfl
                  have hcz137_3 : wc.cell? ⟨gb117, 3, none⟩ = some (.int .i64 a0_3) := (blk_cell BK117.out 3).trans rfl
                  have hfz137_0 := blk_frozen BK117.out 0
                  have hfz137_1 := blk_frozen BK117.out 1
                  have hfz137_2 := blk_frozen BK117.out 2
                  have hfz137_3 := blk_frozen BK117.out 3
                  go_upto_if 135 with (first | ((with_reducible refine gate_callee (f := 34) rfl ?_); refine goesL_ (some 59) rfl rfl Try.func34 (by kernel_rfl) rfl #[.int .i64 a0_0] rfl (by (try simp only [List.map_toArray, List.map_cons, List.map_nil]); first | done | rfl | (simp only [List.length_drop, List.length_take]; rfl)) ?_; (with_reducible refine (tinderref13_code.calls a0_0 t120 _ A63.out).mono ?_); rintro e w138 ⟨v121, rfl, ho0, hb⟩; refine ⟨_, rfl, ?_⟩; have n0_ := Aside0.mk (Kd.R_lower ho0 (below_size (by repeat (first | (with_reducible first | exact HB.out | apply below_alloc | apply pw_below_drewN | apply below_drew1 | refine below_set ?_ GE117.out) | exact HB.out)))); have n1_ := Aside0.mk (blk_below (g := gb117) (o := .cells #[.int .i64 a0_0, .int .u32 a0_1, .string a0_2, .int .i64 a0_3] 34 (0, 0)) (by (with_reducible repeat (first | refine blk_drewN ?_ _ | refine blk_drew ?_ | refine blk_alloc ?_ _)); exact BK117.out) hb); have n2_ := Aside0.mk (below_step (by repeat (first | (with_reducible first | exact HB.out | apply below_alloc | apply pw_below_drewN | apply below_drew1 | refine below_set ?_ GE117.out) | exact HB.out)) hb); clear BK117; clear HB; have HO122 := n0_; have BK117 := n1_; have HB := n2_; clear n0_ n1_ n2_; (try clear hb); (try clear hb2); (try clear hk); (try clear hi); (try clear ho0); have hcz139_0 : w138.cell? ⟨gb117, 0, none⟩ = some (.int .i64 a0_0) := (blk_cell BK117.out 0).trans rfl; have hcz139_1 : w138.cell? ⟨gb117, 1, none⟩ = some (.int .u32 a0_1) := (blk_cell BK117.out 1).trans rfl; have hcz139_2 : w138.cell? ⟨gb117, 2, none⟩ = some (.string a0_2) := (blk_cell BK117.out 2).trans rfl; have hcz139_3 : w138.cell? ⟨gb117, 3, none⟩ = some (.int .i64 a0_3) := (blk_cell BK117.out 3).trans rfl; have hfz139_0 := blk_frozen BK117.out 0; have hfz139_1 := blk_frozen BK117.out 1; have hfz139_2 := blk_frozen BK117.out 2; have hfz139_3 := blk_frozen BK117.out 3))
                  (try simp only [Act.put, List.setIfInBounds_toArray, List.set_cons_zero, List.set_cons_succ])
                  go_cut [135] (fun v135 wc => ∃ (kq : Nat) (x135_135 : Bool), v135 = .bool x135_135 ∧ Aside0 (tinderref13_Bytes.j1 kq t119 t120 (wrap64 (a0_1)) x135_135 a0_0 a0_1 a0_2 a0_3 = some (r1, r2)) ∧ Aside0 (kq ≤ kj5) ∧ Aside0 (Kd.R (Kd.int .u8) 5 wc w.heap.size (fun _ => True) v121 t120) ∧ Aside0 (wc.heap[gb117]? = some (.cells #[.int .i64 a0_0, .int .u32 a0_1, .string a0_2, .int .i64 a0_3] 34 (0, 0))) ∧ Aside0 (Below w.heap.size w wc))
                  case first =>
                    have H := HC136.out
                    clear HC136
                    by_cases c140 : t119 = 5
                    · rw [if_pos c140] at H
                      have c140b0 : (t119 == 5) = true := beq_iff_eq.mpr c140
                      have c140b1 : (t119 != 5) = false := bne_eq_false_iff_eq.mpr c140
                      clear c140
                      (first | rw [c140b0] | (simp only [i64_w, i32_w]; rw [c140b0]) | skip)
                      have H' := Aside0.mk H
                      clear H
                      go_wp2
                      go_meet
                      case rel => exact ⟨_, ((t119 == 5)), (by first | rfl | (simp; done) | (simp [*]; done) | (simp [Kd.bne_nil]; done)), H', ⟨by have := HJ5.out; first | omega | exact Nat.le_refl _⟩, ⟨by (with_reducible repeat (first | apply Kd.R_alloc | apply Kd.R_drewN | apply Kd.R_drew)); exact HO122.out⟩, ⟨by (with_reducible repeat (first | refine blk_drewN ?_ _ | refine blk_drew ?_ | refine blk_alloc ?_ _)); exact BK117.out⟩, ⟨by repeat (first | (with_reducible first | exact HB.out | apply below_alloc | apply pw_below_drewN | apply below_drew1 | refine below_set ?_ GE117.out) | exact HB.out)⟩⟩
                    · rw [if_neg c140] at H
                      have c140b0 : (t119 == 5) = false := beq_eq_false_iff_ne.mpr c140
                      have c140b1 : (t119 != 5) = true := bne_iff_ne.mpr c140
                      (first | rw [c140b0] | (simp only [i64_w, i32_w]; rw [c140b0]) | skip)
                      have H' := Aside0.mk H
                      clear H
                      go_wp2
                      go_meet
                      case rel => exact ⟨_, ((t119 == 6)), (by first | rfl | (simp; done) | (simp [*]; done) | (simp [Kd.bne_nil]; done)), H', ⟨by have := HJ5.out; first | omega | exact Nat.le_refl _⟩, ⟨by (with_reducible repeat (first | apply Kd.R_alloc | apply Kd.R_drewN | apply Kd.R_drew)); exact HO122.out⟩, ⟨by (with_reducible repeat (first | refine blk_drewN ?_ _ | refine blk_drew ?_ | refine blk_alloc ?_ _)); exact BK117.out⟩, ⟨by repeat (first | (with_reducible first | exact HB.out | apply below_alloc | apply pw_below_drewN | apply below_drew1 | refine below_set ?_ GE117.out) | exact HB.out)⟩⟩
                  case rest => as_aux_lemma =>
                    clear HC136
                    try clear c1
                    try clear p2
                    try clear c3
                    try clear p6
                    try clear c10
                    try clear c12
                    try clear c14
                    try clear c34
                    try clear c35
                    try clear p64
                    try clear c105
                    try clear c105b0
                    try clear c105b1
                    try clear c106
                    try clear c108
                    try clear c124
                    try clear c125
                    try clear c125b0
                    try clear c140
                    try clear c140b0
                    try clear c140b1
                    try clear hcz126_0
                    try clear hcz126_1
                    try clear hcz126_2
                    try clear hcz126_3
                    try clear hcz128_0
                    try clear hcz128_1
                    try clear hcz128_2
                    try clear hcz128_3
                    try clear hcz131_0
                    try clear hcz131_1
                    try clear hcz131_2
                    try clear hcz131_3
                    try clear hcz133_0
                    try clear hcz133_1
                    try clear hcz133_2
                    try clear hcz133_3
                    try clear hcz137_0
                    try clear hcz137_1
                    try clear hcz137_2
                    try clear hcz137_3
                    try clear hcz139_0
                    try clear hcz139_1
                    try clear hcz139_2
                    try clear hcz139_3
                    try clear hfz126_0
                    try clear hfz126_1
                    try clear hfz126_2
                    try clear hfz126_3
                    try clear hfz128_0
                    try clear hfz128_1
                    try clear hfz128_2
                    try clear hfz128_3
                    try clear hfz131_0
                    try clear hfz131_1
                    try clear hfz131_2
                    try clear hfz131_3
                    try clear hfz133_0
                    try clear hfz133_1
                    try clear hfz133_2
                    try clear hfz133_3
                    try clear hfz137_0
                    try clear hfz137_1
                    try clear hfz137_2
                    try clear hfz137_3
                    try clear hfz139_0
                    try clear hfz139_1
                    try clear hfz139_2
                    try clear hfz139_3
                    obtain ⟨kq, x135_135, rfl, HA, HJ135, HO_7, BK117, HB⟩ := hcut
                    cases kq with
                    | zero => exact absurd HA.out (by simp [tinderref13_Bytes.j1])
                    | succ kj135 =>
                      have H := HA.out
                      clear HA
                      simp only [tinderref13_Bytes.j1] at H
                      by_cases c141 : x135_135 = true
                      · as_aux_lemma =>
                        subst c141
                        have H1 : (if (wrap64 (a0_1)) < 2048 then (tinderref13_Bytes.j2 kj135 t119 t120 (wrap64 (a0_1)) true a0_0 a0_1 a0_2 a0_3) else (if (wrap64 (a0_1)) > 4095 then (tinderref13_Bytes.j2 kj135 t119 t120 (wrap64 (a0_1)) true a0_0 a0_1 a0_2 a0_3) else (tinderref13_Bytes.j2 kj135 t119 t120 (wrap64 (a0_1)) (decide ((a0_2.size : Int) > 31)) a0_0 a0_1 a0_2 a0_3))) = some (r1, r2) := by rw [if_pos rfl] at H; exact H
                        clear H
                        have H := H1
                        clear H1
                        have HC142 := Aside0.mk H
                        clear H
                        go_upto_region 27 with (fail)
                        go_cut [149] (fun v149 wc => ∃ (kq : Nat) (x149_141 : Bool), v149 = .bool x149_141 ∧ Aside0 (tinderref13_Bytes.j2 kq t119 t120 (wrap64 (a0_1)) x149_141 a0_0 a0_1 a0_2 a0_3 = some (r1, r2)) ∧ Aside0 (kq ≤ kj135) ∧ Aside0 (Kd.R (Kd.int .u8) 5 wc w.heap.size (fun _ => True) v121 t120) ∧ Aside0 (wc.heap[gb117]? = some (.cells #[.int .i64 a0_0, .int .u32 a0_1, .string a0_2, .int .i64 a0_3] 34 (0, 0))) ∧ Aside0 (Below w.heap.size w wc))
                        case first =>
                          have H := HC142.out
                          clear HC142
                          by_cases c143 : (wrap64 (a0_1)) < 2048
                          · rw [if_pos c143] at H
                            have c143b0 : decide ((wrap64 (a0_1)) < 2048) = true := decide_eq_true c143
                            clear c143
                            (first | rw [c143b0] | (simp only [i64_w, i32_w]; rw [c143b0]) | skip)
                            have H' := Aside0.mk H
                            clear H
                            go_wp2
                            go_meet
                            case rel => exact ⟨_, (true), (by first | rfl | (simp; done) | (simp [*]; done) | (simp [Kd.bne_nil]; done)), H', ⟨by have := HJ5.out; have := HJ135.out; first | omega | exact Nat.le_refl _⟩, ⟨by (with_reducible repeat (first | apply Kd.R_alloc | apply Kd.R_drewN | apply Kd.R_drew)); exact HO_7.out⟩, ⟨by (with_reducible repeat (first | refine blk_drewN ?_ _ | refine blk_drew ?_ | refine blk_alloc ?_ _)); exact BK117.out⟩, ⟨by repeat (first | (with_reducible first | exact HB.out | apply below_alloc | apply pw_below_drewN | apply below_drew1 | refine below_set ?_ GE117.out) | exact HB.out)⟩⟩
                          · rw [if_neg c143] at H
                            have c143b0 : decide ((wrap64 (a0_1)) < 2048) = false := decide_eq_false c143
                            clear c143
                            (first | rw [c143b0] | (simp only [i64_w, i32_w]; rw [c143b0]) | skip)
                            by_cases c144 : (wrap64 (a0_1)) > 4095
                            · rw [if_pos c144] at H
                              have c144b0 : decide (4095 < (wrap64 (a0_1))) = true := decide_eq_true c144
                              clear c144
                              have H' := Aside0.mk H
                              clear H
                              go_wp2
                              go_meet
                              case rel => exact ⟨_, (true), (by first | rfl | (simp; done) | (simp [*]; done) | (simp [Kd.bne_nil]; done)), H', ⟨by have := HJ5.out; have := HJ135.out; first | omega | exact Nat.le_refl _⟩, ⟨by (with_reducible repeat (first | apply Kd.R_alloc | apply Kd.R_drewN | apply Kd.R_drew)); exact HO_7.out⟩, ⟨by (with_reducible repeat (first | refine blk_drewN ?_ _ | refine blk_drew ?_ | refine blk_alloc ?_ _)); exact BK117.out⟩, ⟨by repeat (first | (with_reducible first | exact HB.out | apply below_alloc | apply pw_below_drewN | apply below_drew1 | refine below_set ?_ GE117.out) | exact HB.out)⟩⟩
                            · rw [if_neg c144] at H
                              have c144b0 : decide (4095 < (wrap64 (a0_1))) = false := decide_eq_false c144
                              clear c144
                              have H' := Aside0.mk H
                              clear H
                              have hcz145_0 : wc.cell? ⟨gb117, 0, none⟩ = some (.int .i64 a0_0) := (blk_cell BK117.out 0).trans rfl
                              have hcz145_1 : wc.cell? ⟨gb117, 1, none⟩ = some (.int .u32 a0_1) := (blk_cell BK117.out 1).trans rfl
                              have hcz145_2 : wc.cell? ⟨gb117, 2, none⟩ = some (.string a0_2) := (blk_cell BK117.out 2).trans rfl
                              have hcz145_3 : wc.cell? ⟨gb117, 3, none⟩ = some (.int .i64 a0_3) := (blk_cell BK117.out 3).trans rfl
                              have hfz145_0 := blk_frozen BK117.out 0
                              have hfz145_1 := blk_frozen BK117.out 1
                              have hfz145_2 := blk_frozen BK117.out 2
                              have hfz145_3 := blk_frozen BK117.out 3
                              go_wp2
                              go_meet
                              case rel => exact ⟨_, (decide ((a0_2.size : Int) > 31)), (by first | rfl | (simp; done) | (simp [*]; done) | (simp [Kd.bne_nil]; done)), H', ⟨by have := HJ5.out; have := HJ135.out; first | omega | exact Nat.le_refl _⟩, ⟨by (with_reducible repeat (first | apply Kd.R_alloc | apply Kd.R_drewN | apply Kd.R_drew)); exact HO_7.out⟩, ⟨by (with_reducible repeat (first | refine blk_drewN ?_ _ | refine blk_drew ?_ | refine blk_alloc ?_ _)); exact BK117.out⟩, ⟨by repeat (first | (with_reducible first | exact HB.out | apply below_alloc | apply pw_below_drewN | apply below_drew1 | refine below_set ?_ GE117.out) | exact HB.out)⟩⟩
                        case rest => as_aux_lemma =>
                          clear HC142
                          try clear c1
                          try clear p2
                          try clear c3
                          try clear p6
                          try clear c10
                          try clear c12
                          try clear c14
                          try clear c34
                          try clear c35
                          try clear p64
                          try clear c105
                          try clear c105b0
                          try clear c105b1
                          try clear c106
                          try clear c108
                          try clear c124
                          try clear c125
                          try clear c125b0
                          try clear c140
                          try clear c140b0
                          try clear c140b1
                          try clear c141
                          try clear c143
                          try clear c143b0
                          try clear c144
                          try clear c144b0
                          try clear hcz126_0
                          try clear hcz126_1
                          try clear hcz126_2
                          try clear hcz126_3
                          try clear hcz128_0
                          try clear hcz128_1
                          try clear hcz128_2
                          try clear hcz128_3
                          try clear hcz131_0
                          try clear hcz131_1
                          try clear hcz131_2
                          try clear hcz131_3
                          try clear hcz133_0
                          try clear hcz133_1
                          try clear hcz133_2
                          try clear hcz133_3
                          try clear hcz137_0
                          try clear hcz137_1
                          try clear hcz137_2
                          try clear hcz137_3
                          try clear hcz139_0
                          try clear hcz139_1
                          try clear hcz139_2
                          try clear hcz139_3
                          try clear hcz145_0
                          try clear hcz145_1
                          try clear hcz145_2
                          try clear hcz145_3
                          try clear hfz126_0
                          try clear hfz126_1
                          try clear hfz126_2
                          try clear hfz126_3
                          try clear hfz128_0
                          try clear hfz128_1
                          try clear hfz128_2
                          try clear hfz128_3
                          try clear hfz131_0
                          try clear hfz131_1
                          try clear hfz131_2
                          try clear hfz131_3
                          try clear hfz133_0
                          try clear hfz133_1
                          try clear hfz133_2
                          try clear hfz133_3
                          try clear hfz137_0
                          try clear hfz137_1
                          try clear hfz137_2
                          try clear hfz137_3
                          try clear hfz139_0
                          try clear hfz139_1
                          try clear hfz139_2
                          try clear hfz139_3
                          try clear hfz145_0
                          try clear hfz145_1
                          try clear hfz145_2
                          try clear hfz145_3
                          try clear p2
                          try clear p6
                          try clear p64
                          obtain ⟨kq, x149_141, rfl, HA, HJ141, HO_7, BK117, HB⟩ := hcut
                          cases kq with
                          | zero => exact absurd HA.out (by simp [tinderref13_Bytes.j2])
                          | succ kj141 =>
                            have H := HA.out
                            clear HA
                            simp only [tinderref13_Bytes.j2] at H
                            by_cases c146 : x149_141 = true
                            · subst c146
                              have H1 : (some (([] : List Int), false)) = some (r1, r2) := by rw [if_pos rfl] at H; exact H
                              clear H
                              have H := H1
                              clear H1
                              simp only [Option.some.injEq, Prod.mk.injEq] at H
                              obtain ⟨rfl, rfl⟩ := H
                              go_wp2
                              go_ret2
                              exact ⟨_, by first | rfl | (simp [errW_none, errW_some] <;> rfl) | (simp [*, errW_none, errW_some] <;> rfl), by first | exact Kd.R_nil _ _ _ _ _ | exact Kd.N_nil _ _ _ _ _ | exact Kd.V_nil _ _ _ _ _ | exact Kd.Q_nil _ _ _ _ _ | exact Kd.S_nil _ _ _ _ _, by repeat (first | (with_reducible first | exact HB.out | apply below_alloc | apply pw_below_drewN | apply below_drew1 | refine below_set ?_ GE117.out) | exact HB.out)⟩
                            · replace c146 := Bool.eq_false_iff.mpr c146
                              subst c146
                              have H1 : (if t119 = 6 then (if t120.length < 140737488355328 then ((some (t120 ++ [((a0_2.size : Int)) % 256] : List Int)).bind fun y157 => (if y157.length + a0_2.size < 140737488355328 then ((some (y157 ++ bytesOf a0_2 : List Int)).bind fun y160 => ((tinderref13_two.f (wrap64 (a0_1))).bind fun t163 => (if y160.length + t163.length < 140737488355328 then (some ((y160 ++ t163), true)) else (none)))) else (none))) else (none)) else ((tinderref13_two.f (wrap64 (a0_1))).bind fun t169 => (if t120.length + t169.length < 140737488355328 then (some ((t120 ++ t169), true)) else (none)))) = some (r1, r2) := by rw [if_neg (show ¬ (false = true) by decide)] at H; exact H
                              clear H
                              have H := H1
                              clear H1
                              by_cases c147 : t119 = 6
                              · rw [if_pos c147] at H
                                have c147b0 : (t119 == 6) = true := beq_iff_eq.mpr c147
                                have c147b1 : (t119 != 6) = false := bne_eq_false_iff_eq.mpr c147
                                clear c147
                                by_cases c148 : t120.length < 140737488355328
                                · rw [if_pos c148] at H
                                  have LMc148 := Aside0.mk c148
                                  clear c148
                                  obtain ⟨y157, hy157⟩ : ∃ y_ : List Int, y_ = (t120 ++ [((a0_2.size : Int)) % 256]) := ⟨_, rfl⟩
                                  replace H : (if y157.length + a0_2.size < 140737488355328 then ((some (y157 ++ bytesOf a0_2 : List Int)).bind fun y160 => ((tinderref13_two.f (wrap64 (a0_1))).bind fun t163 => (if y160.length + t163.length < 140737488355328 then (some ((y160 ++ t163), true)) else (none)))) else (none)) = some (r1, r2) := by first | (rw [hy157]; with_reducible exact H) | (have H2_ := (Option.bind_some _ _).symm.trans H; rw [hy157]; with_reducible exact H2_) | (have H2_ := (Option.bind_some _ _).symm.trans H; with_reducible exact H2_) | with_reducible exact H | (rw [hy157]; exact H) | exact H
                                  have Ny157 := Aside0.mk hy157
                                  clear hy157
                                  by_cases c149 : y157.length + a0_2.size < 140737488355328
                                  · rw [if_pos c149] at H
                                    have LMc149 := Aside0.mk c149
                                    clear c149
                                    obtain ⟨y160, hy160⟩ : ∃ y_ : List Int, y_ = (y157 ++ bytesOf a0_2) := ⟨_, rfl⟩
                                    replace H : ((tinderref13_two.f (wrap64 (a0_1))).bind fun t163 => (if y160.length + t163.length < 140737488355328 then (some ((y160 ++ t163), true)) else (none))) = some (r1, r2) := by first | (rw [hy160]; with_reducible exact H) | (have H2_ := (Option.bind_some _ _).symm.trans H; rw [hy160]; with_reducible exact H2_) | (have H2_ := (Option.bind_some _ _).symm.trans H; with_reducible exact H2_) | with_reducible exact H | (rw [hy160]; exact H) | exact H
                                    have Ny160 := Aside0.mk hy160
                                    clear hy160
                                    replace H := Option.bind_eq_some_iff.mp H
                                    obtain ⟨t163, A1500, H⟩ := H
                                    replace H : (if y160.length + t163.length < 140737488355328 then (some ((y160 ++ t163), true)) else (none)) = some (r1, r2) := H
                                    have A150 := Aside0.mk A1500
                                    clear A1500
                                    by_cases c151 : y160.length + t163.length < 140737488355328
                                    · rw [if_pos c151] at H
                                      have LMc151 := Aside0.mk c151
                                      clear c151
                                      obtain ⟨y166, hy166⟩ : ∃ y_ : List Int, y_ = (y160 ++ t163) := ⟨_, rfl⟩
                                      replace H : (some (y166, true)) = some (r1, r2) := by first | (rw [hy166]; with_reducible exact H) | (have H2_ := (Option.bind_some _ _).symm.trans H; rw [hy166]; with_reducible exact H2_) | (have H2_ := (Option.bind_some _ _).symm.trans H; with_reducible exact H2_) | with_reducible exact H | (rw [hy166]; exact H) | exact H
                                      have Ny166 := Aside0.mk hy166
                                      clear hy166
                                      simp only [Option.some.injEq, Prod.mk.injEq] at H
                                      obtain ⟨rfl, rfl⟩ := H
                                      have hcz152_0 : wc.cell? ⟨gb117, 0, none⟩ = some (.int .i64 a0_0) := (blk_cell BK117.out 0).trans rfl
                                      have hcz152_1 : wc.cell? ⟨gb117, 1, none⟩ = some (.int .u32 a0_1) := (blk_cell BK117.out 1).trans rfl
                                      have hcz152_2 : wc.cell? ⟨gb117, 2, none⟩ = some (.string a0_2) := (blk_cell BK117.out 2).trans rfl
                                      have hcz152_3 : wc.cell? ⟨gb117, 3, none⟩ = some (.int .i64 a0_3) := (blk_cell BK117.out 3).trans rfl
                                      have hfz152_0 := blk_frozen BK117.out 0
                                      have hfz152_1 := blk_frozen BK117.out 1
                                      have hfz152_2 := blk_frozen BK117.out 2
                                      have hfz152_3 := blk_frozen BK117.out 3
                                      go_wp2_with (first | ((with_reducible refine gate_builtin (b := .append) (xs := #[.tmp 152, .tmp 157]) rfl ?_); (try (refine gate_guard (by rfl) ?_; dsimp only)); at_builtin; refine Kd.R_append (Kd.int .u8) (w0 := w) w.heap.size rfl (.tmp 152) (.tmp 157) 22 5 (.int .u8 0) 1 rfl Try.underlying22 info5 rfl (by decide) (by omega) v121 t120 (((a0_2.size : Int)) % 256) [.int .u8 (((a0_2.size : Int)) % 256)] (fun _ => True) (fun _ => False) rfl rfl ?aP (fun _ hk => hk.elim) ?aF ?aO ?aB ?aS ?aL ?_; (case aP => exact rfl); (case aB => exact (by repeat (first | (with_reducible first | exact HB.out | apply below_alloc | apply pw_below_drewN | apply below_drew1 | refine below_set ?_ GE117.out) | exact HB.out))); (case aF => exact (fun _ _ => trivial)); (case aO => exact (by (with_reducible repeat (first | apply Kd.R_alloc | apply Kd.R_drewN | apply Kd.R_drew)); exact HO_7.out)); (case aS => exact (below_size (by repeat (first | (with_reducible first | exact HB.out | apply below_alloc | apply pw_below_drewN | apply below_drew1 | refine below_set ?_ GE117.out) | exact HB.out)))); (case aL => have := LMc148.out; omega); intro v158 w153 ho hb hg hat; rw [← Ny157.out] at ho; have n0_ := Aside0.mk (blk_grown (g := gb117) (o := .cells #[.int .i64 a0_0, .int .u32 a0_1, .string a0_2, .int .i64 a0_3] 34 (0, 0)) (by (with_reducible repeat (first | refine blk_drewN ?_ _ | refine blk_drew ?_ | refine blk_alloc ?_ _)); exact BK117.out) hg (Kd.R_ne HO_7.out BK117.out (by decide))); have n1_ := Aside0.mk (hb); have n2_ := Aside0.mk (ho); clear BK117; clear HB; clear HO_7; have BK117 := n0_; have HB := n1_; have HO159 := n2_; clear n0_ n1_ n2_; clear ho hb hg hat; have hcz154_0 : w153.cell? ⟨gb117, 0, none⟩ = some (.int .i64 a0_0) := (blk_cell BK117.out 0).trans rfl; have hcz154_1 : w153.cell? ⟨gb117, 1, none⟩ = some (.int .u32 a0_1) := (blk_cell BK117.out 1).trans rfl; have hcz154_2 : w153.cell? ⟨gb117, 2, none⟩ = some (.string a0_2) := (blk_cell BK117.out 2).trans rfl; have hcz154_3 : w153.cell? ⟨gb117, 3, none⟩ = some (.int .i64 a0_3) := (blk_cell BK117.out 3).trans rfl; have hfz154_0 := blk_frozen BK117.out 0; have hfz154_1 := blk_frozen BK117.out 1; have hfz154_2 := blk_frozen BK117.out 2; have hfz154_3 := blk_frozen BK117.out 3) | (at_builtin; refine print_append_str (w0 := w) w.heap.size rfl (.tmp 159) _ 22 9 5 rfl Try.underlying22 Try.underlying9 info5 v158 y157 a0_2 rfl rfl ?aO ?aB ?aS ?aL ?_; (case aB => exact (by repeat (first | (with_reducible first | exact HB.out | apply below_alloc | apply pw_below_drewN | apply below_drew1 | refine below_set ?_ GE117.out) | exact HB.out))); (case aO => exact (Kd.own_of_R (by (with_reducible repeat (first | apply Kd.R_alloc | apply Kd.R_drewN | apply Kd.R_drew)); exact HO159.out))); (case aS => exact (below_size (by repeat (first | (with_reducible first | exact HB.out | apply below_alloc | apply pw_below_drewN | apply below_drew1 | refine below_set ?_ GE117.out) | exact HB.out)))); (case aL => have := LMc149.out; omega); intro v161 w155 ho0 hb hg; have ho := Kd.R_of_own (h1 := fun _ => rfl) (ok := fun _ => True) ho0 (fun _ _ => trivial); clear ho0; have hat := True.intro; rw [← Ny160.out] at ho; change Kd.R (Kd.int .u8) 5 w155 w.heap.size (fun _ => True) v161 y160 at ho; have n0_ := Aside0.mk (blk_grown (g := gb117) (o := .cells #[.int .i64 a0_0, .int .u32 a0_1, .string a0_2, .int .i64 a0_3] 34 (0, 0)) (by (with_reducible repeat (first | refine blk_drewN ?_ _ | refine blk_drew ?_ | refine blk_alloc ?_ _)); exact BK117.out) hg (Kd.R_ne HO159.out BK117.out (by decide))); have n1_ := Aside0.mk (hb); have n2_ := Aside0.mk (ho); clear BK117; clear HB; clear HO159; have BK117 := n0_; have HB := n1_; have HO162 := n2_; clear n0_ n1_ n2_; clear ho hb hg hat) | ((with_reducible refine gate_callee (f := 35) rfl ?_); refine goesL_ (some 165) rfl rfl Try.func35 (by kernel_rfl) rfl #[.int .i64 (wrap64 (a0_1))] rfl (by (try simp only [List.map_toArray, List.map_cons, List.map_nil]); first | done | rfl | (simp only [List.length_drop, List.length_take]; rfl)) ?_; (with_reducible refine (tinderref13_two.calls (wrap64 (a0_1)) t163 _ A150.out).mono ?_); rintro e w156 ⟨v164, rfl, ho0, hb⟩; refine ⟨_, rfl, ?_⟩; have n0_ := Aside0.mk (Kd.R_elder' (by (with_reducible repeat (first | apply Kd.R_alloc | apply Kd.R_drewN | apply Kd.R_drew)); exact HO162.out) (Kd.R_base ho0) hb); have n1_ := Aside0.mk (Kd.R_lower (Kd.R_new' ho0 (Kd.R_lt (by (with_reducible repeat (first | apply Kd.R_alloc | apply Kd.R_drewN | apply Kd.R_drew)); exact HO162.out))) (below_size (by repeat (first | (with_reducible first | exact HB.out | apply below_alloc | apply pw_below_drewN | apply below_drew1 | refine below_set ?_ GE117.out) | exact HB.out)))); have n2_ := Aside0.mk (blk_below (g := gb117) (o := .cells #[.int .i64 a0_0, .int .u32 a0_1, .string a0_2, .int .i64 a0_3] 34 (0, 0)) (by (with_reducible repeat (first | refine blk_drewN ?_ _ | refine blk_drew ?_ | refine blk_alloc ?_ _)); exact BK117.out) hb); have n3_ := Aside0.mk (below_step (by repeat (first | (with_reducible first | exact HB.out | apply below_alloc | apply pw_below_drewN | apply below_drew1 | refine below_set ?_ GE117.out) | exact HB.out)) hb); clear HO162; clear BK117; clear HB; have HO162 := n0_; have HO165 := n1_; have BK117 := n2_; have HB := n3_; clear n0_ n1_ n2_ n3_; (try clear hb); (try clear hb2); (try clear hk); (try clear hi); (try clear ho0); obtain ⟨Ao158, co158, eo158⟩ := Kd.R_slice HO165.out; subst eo158) | ((with_reducible refine gate_builtin (b := .append) (xs := #[.tmp 163, .tmp 165]) rfl ?_); (try (refine gate_guard (by rfl) ?_; dsimp only)); at_builtin; refine Kd.R_append_rows (Kd.int .u8) (w0 := w) w.heap.size rfl (.tmp 163) (.tmp 165) 22 5 (.int .u8 0) 1 rfl Try.underlying22 info5 rfl (by decide) (by omega) v161 y160 t163 _ _ _ (fun k_ => some k_ ≠ (.slice Ao158 t163.length co158 : Value).ownBlock) (fun _ => False) rfl rfl ?aO ?aR (fun _ _ h => h) (fun _ h => h.elim) ?aF ?aB ?aS ?aL ?_; (case aR => repeat (first | exact (Kd.R_reads' HO165.out).2.2 | (with_reducible refine Kd.C_alloc ?_ _) | (with_reducible refine Kd.C_drewN ?_ _) | (with_reducible refine Kd.C_drew ?_))); (case aB => exact (by repeat (first | (with_reducible first | exact HB.out | apply below_alloc | apply pw_below_drewN | apply below_drew1 | refine below_set ?_ GE117.out) | exact HB.out))); (case aF => exact (fun k_ hk => Kd.fresh' (Kd.R_lt (by (with_reducible repeat (first | apply Kd.R_alloc | apply Kd.R_drewN | apply Kd.R_drew)); exact HO165.out)) k_ hk)); (case aO => exact (by (with_reducible repeat (first | apply Kd.R_alloc | apply Kd.R_drewN | apply Kd.R_drew)); exact Kd.R_mono HO162.out (fun _ hk => hk.2))); (case aS => exact (below_size (by repeat (first | (with_reducible first | exact HB.out | apply below_alloc | apply pw_below_drewN | apply below_drew1 | refine below_set ?_ GE117.out) | exact HB.out)))); (case aL => have := LMc151.out; omega); intro v167 w157 ho hb hg hat; rw [← Ny166.out] at ho; have n0_ := Aside0.mk (blk_grown (g := gb117) (o := .cells #[.int .i64 a0_0, .int .u32 a0_1, .string a0_2, .int .i64 a0_3] 34 (0, 0)) (by (with_reducible repeat (first | refine blk_drewN ?_ _ | refine blk_drew ?_ | refine blk_alloc ?_ _)); exact BK117.out) hg (Kd.R_ne HO162.out BK117.out (by decide))); have n1_ := Aside0.mk (Kd.R_after (ok := (fun _ => True)) (by (with_reducible repeat (first | apply Kd.R_alloc | apply Kd.R_drewN | apply Kd.R_drew)); exact HO165.out) hg hat); have n2_ := Aside0.mk (hb); have n3_ := Aside0.mk (ho); clear BK117; clear HO165; clear HB; clear HO162; have BK117 := n0_; have HO165 := n1_; have HB := n2_; have HO168 := n3_; clear n0_ n1_ n2_ n3_; clear ho hb hg hat))
                                      go_ret2
                                      exact ⟨_, by first | rfl | (simp [errW_none, errW_some] <;> rfl) | (simp [*, errW_none, errW_some] <;> rfl), by (with_reducible repeat (first | apply Kd.R_alloc | apply Kd.R_drewN | apply Kd.R_drew)); exact Kd.R_mono HO168.out (fun _ hk => trivial), by repeat (first | (with_reducible first | exact HB.out | apply below_alloc | apply pw_below_drewN | apply below_drew1 | refine below_set ?_ GE117.out) | exact HB.out)⟩
                                    · rw [if_neg c151] at H
                                      exact absurd H (by simp)
                                  · rw [if_neg c149] at H
                                    exact absurd H (by simp)
                                · rw [if_neg c148] at H
                                  exact absurd H (by simp)
                              · rw [if_neg c147] at H
                                have c147b0 : (t119 == 6) = false := beq_eq_false_iff_ne.mpr c147
                                have c147b1 : (t119 != 6) = true := bne_iff_ne.mpr c147
                                replace H := Option.bind_eq_some_iff.mp H
                                obtain ⟨t169, A1590, H⟩ := H
                                replace H : (if t120.length + t169.length < 140737488355328 then (some ((t120 ++ t169), true)) else (none)) = some (r1, r2) := H
                                have A159 := Aside0.mk A1590
                                clear A1590
                                by_cases c160 : t120.length + t169.length < 140737488355328
                                · rw [if_pos c160] at H
                                  have LMc160 := Aside0.mk c160
                                  clear c160
                                  obtain ⟨y172, hy172⟩ : ∃ y_ : List Int, y_ = (t120 ++ t169) := ⟨_, rfl⟩
                                  replace H : (some (y172, true)) = some (r1, r2) := by first | (rw [hy172]; with_reducible exact H) | (have H2_ := (Option.bind_some _ _).symm.trans H; rw [hy172]; with_reducible exact H2_) | (have H2_ := (Option.bind_some _ _).symm.trans H; with_reducible exact H2_) | with_reducible exact H | (rw [hy172]; exact H) | exact H
                                  have Ny172 := Aside0.mk hy172
                                  clear hy172
                                  simp only [Option.some.injEq, Prod.mk.injEq] at H
                                  obtain ⟨rfl, rfl⟩ := H
                                  go_wp2_with (first | ((with_reducible refine gate_callee (f := 35) rfl ?_); refine goesL_ (some 165) rfl rfl Try.func35 (by kernel_rfl) rfl #[.int .i64 (wrap64 (a0_1))] rfl (by (try simp only [List.map_toArray, List.map_cons, List.map_nil]); first | done | rfl | (simp only [List.length_drop, List.length_take]; rfl)) ?_; (with_reducible refine (tinderref13_two.calls (wrap64 (a0_1)) t169 _ A159.out).mono ?_); rintro e w161 ⟨v170, rfl, ho0, hb⟩; refine ⟨_, rfl, ?_⟩; have n0_ := Aside0.mk (Kd.R_elder' (by (with_reducible repeat (first | apply Kd.R_alloc | apply Kd.R_drewN | apply Kd.R_drew)); exact HO_7.out) (Kd.R_base ho0) hb); have n1_ := Aside0.mk (Kd.R_lower (Kd.R_new' ho0 (Kd.R_lt (by (with_reducible repeat (first | apply Kd.R_alloc | apply Kd.R_drewN | apply Kd.R_drew)); exact HO_7.out))) (below_size (by repeat (first | (with_reducible first | exact HB.out | apply below_alloc | apply pw_below_drewN | apply below_drew1 | refine below_set ?_ GE117.out) | exact HB.out)))); have n2_ := Aside0.mk (blk_below (g := gb117) (o := .cells #[.int .i64 a0_0, .int .u32 a0_1, .string a0_2, .int .i64 a0_3] 34 (0, 0)) (by (with_reducible repeat (first | refine blk_drewN ?_ _ | refine blk_drew ?_ | refine blk_alloc ?_ _)); exact BK117.out) hb); have n3_ := Aside0.mk (below_step (by repeat (first | (with_reducible first | exact HB.out | apply below_alloc | apply pw_below_drewN | apply below_drew1 | refine below_set ?_ GE117.out) | exact HB.out)) hb); clear HO_7; clear BK117; clear HB; have HO_7 := n0_; have HO171 := n1_; have BK117 := n2_; have HB := n3_; clear n0_ n1_ n2_ n3_; (try clear hb); (try clear hb2); (try clear hk); (try clear hi); (try clear ho0); obtain ⟨Ao163, co163, eo163⟩ := Kd.R_slice HO171.out; subst eo163) | ((with_reducible refine gate_builtin (b := .append) (xs := #[.tmp 163, .tmp 165]) rfl ?_); (try (refine gate_guard (by rfl) ?_; dsimp only)); at_builtin; refine Kd.R_append_rows (Kd.int .u8) (w0 := w) w.heap.size rfl (.tmp 163) (.tmp 165) 22 5 (.int .u8 0) 1 rfl Try.underlying22 info5 rfl (by decide) (by omega) v121 t120 t169 _ _ _ (fun k_ => some k_ ≠ (.slice Ao163 t169.length co163 : Value).ownBlock) (fun _ => False) rfl rfl ?aO ?aR (fun _ _ h => h) (fun _ h => h.elim) ?aF ?aB ?aS ?aL ?_; (case aR => repeat (first | exact (Kd.R_reads' HO171.out).2.2 | (with_reducible refine Kd.C_alloc ?_ _) | (with_reducible refine Kd.C_drewN ?_ _) | (with_reducible refine Kd.C_drew ?_))); (case aB => exact (by repeat (first | (with_reducible first | exact HB.out | apply below_alloc | apply pw_below_drewN | apply below_drew1 | refine below_set ?_ GE117.out) | exact HB.out))); (case aF => exact (fun k_ hk => Kd.fresh' (Kd.R_lt (by (with_reducible repeat (first | apply Kd.R_alloc | apply Kd.R_drewN | apply Kd.R_drew)); exact HO171.out)) k_ hk)); (case aO => exact (by (with_reducible repeat (first | apply Kd.R_alloc | apply Kd.R_drewN | apply Kd.R_drew)); exact Kd.R_mono HO_7.out (fun _ hk => hk.2))); (case aS => exact (below_size (by repeat (first | (with_reducible first | exact HB.out | apply below_alloc | apply pw_below_drewN | apply below_drew1 | refine below_set ?_ GE117.out) | exact HB.out)))); (case aL => have := LMc160.out; omega); intro v173 w162 ho hb hg hat; rw [← Ny172.out] at ho; have n0_ := Aside0.mk (blk_grown (g := gb117) (o := .cells #[.int .i64 a0_0, .int .u32 a0_1, .string a0_2, .int .i64 a0_3] 34 (0, 0)) (by (with_reducible repeat (first | refine blk_drewN ?_ _ | refine blk_drew ?_ | refine blk_alloc ?_ _)); exact BK117.out) hg (Kd.R_ne HO_7.out BK117.out (by decide))); have n1_ := Aside0.mk (Kd.R_after (ok := (fun _ => True)) (by (with_reducible repeat (first | apply Kd.R_alloc | apply Kd.R_drewN | apply Kd.R_drew)); exact HO171.out) hg hat); have n2_ := Aside0.mk (hb); have n3_ := Aside0.mk (ho); clear BK117; clear HO171; clear HB; clear HO_7; have BK117 := n0_; have HO171 := n1_; have HB := n2_; have HO174 := n3_; clear n0_ n1_ n2_ n3_; clear ho hb hg hat))
                                  go_ret2
                                  exact ⟨_, by first | rfl | (simp [errW_none, errW_some] <;> rfl) | (simp [*, errW_none, errW_some] <;> rfl), by (with_reducible repeat (first | apply Kd.R_alloc | apply Kd.R_drewN | apply Kd.R_drew)); exact Kd.R_mono HO174.out (fun _ hk => trivial), by repeat (first | (with_reducible first | exact HB.out | apply below_alloc | apply pw_below_drewN | apply below_drew1 | refine below_set ?_ GE117.out) | exact HB.out)⟩
                                · rw [if_neg c160] at H
                                  exact absurd H (by simp)
                      · replace c141 := Bool.eq_false_iff.mpr c141
                        subst c141
                        have H1 : (some (t120, true)) = some (r1, r2) := by rw [if_neg (show ¬ (false = true) by decide)] at H; exact H
                        clear H
                        have H := H1
                        clear H1
                        simp only [Option.some.injEq, Prod.mk.injEq] at H
                        obtain ⟨rfl, rfl⟩ := H
                        go_wp2
                        go_ret2
                        exact ⟨_, by first | rfl | (simp [errW_none, errW_some] <;> rfl) | (simp [*, errW_none, errW_some] <;> rfl), by (with_reducible repeat (first | apply Kd.R_alloc | apply Kd.R_drewN | apply Kd.R_drew)); exact HO_7.out, by repeat (first | (with_reducible first | exact HB.out | apply below_alloc | apply pw_below_drewN | apply below_drew1 | refine below_set ?_ GE117.out) | exact HB.out)⟩
  · replace c4 := Bool.eq_false_iff.mpr c4
    subst c4
    have H1 : (some (([] : List Int), false)) = some (r1, r2) := by rw [if_neg (show ¬ (false = true) by decide)] at H; exact H
    clear H
    have H := H1
    clear H1
    simp only [Option.some.injEq, Prod.mk.injEq] at H
    obtain ⟨rfl, rfl⟩ := H
    go_enter Try.func23, Try.ntmps23
    go_wp2_with (first | ((with_reducible refine gate_dst (N := 2) rfl ?_); (try (refine gate_guard (by rfl) ?_; dsimp only)); refine box_event ?hg (N := 2) ?hd (cs := #[.int .i64 a0_0, .int .u32 a0_1, .string a0_2, .int .i64 a0_3]) (t := 34) ?hr ?_; (case hd => rfl); (case hg => rfl); (case hr => first | (go_simp; done) | (go_simp; rfl)); intro gb117 hg w164 hbox hb; have n0_ := Aside0.mk (below_step (by repeat (first | (with_reducible first | exact HB.out | apply below_alloc | apply pw_below_drewN | apply below_drew1) | exact HB.out)) hb); have n1_ := Aside0.mk (hbox); have n2_ := Aside0.mk ((by rw [hg]; exact (below_size (by repeat (first | (with_reducible first | exact HB.out | apply below_alloc | apply pw_below_drewN | apply below_drew1) | exact HB.out))) : w.heap.size ≤ gb117)); have n3_ := Aside0.mk ((by rw [hg]; exact (below_size (by repeat (first | (with_reducible first | exact HB.out | apply below_alloc | apply pw_below_drewN | apply below_drew1) | exact HB.out))) : w.heap.size ≤ gb117)); clear HB; have HB := n0_; have BK117 := n1_; have GW117 := n2_; have GE117 := n3_; clear n0_ n1_ n2_ n3_; clear hb hbox hg; have hcz165_0 : w164.cell? ⟨gb117, 0, none⟩ = some (.int .i64 a0_0) := (blk_cell BK117.out 0).trans rfl; have hcz165_1 : w164.cell? ⟨gb117, 1, none⟩ = some (.int .u32 a0_1) := (blk_cell BK117.out 1).trans rfl; have hcz165_2 : w164.cell? ⟨gb117, 2, none⟩ = some (.string a0_2) := (blk_cell BK117.out 2).trans rfl; have hcz165_3 : w164.cell? ⟨gb117, 3, none⟩ = some (.int .i64 a0_3) := (blk_cell BK117.out 3).trans rfl; have hfz165_0 := blk_frozen BK117.out 0; have hfz165_1 := blk_frozen BK117.out 1; have hfz165_2 := blk_frozen BK117.out 2; have hfz165_3 := blk_frozen BK117.out 3) | ((with_reducible refine gate_callee (f := 33) rfl ?_); refine goesL_ (some 11) rfl rfl Try.func33 (by kernel_rfl) rfl #[.int .i64 a0_0] rfl (by (try simp only [List.map_toArray, List.map_cons, List.map_nil]); first | done | rfl | (simp only [List.length_drop, List.length_take]; rfl)) ?_; (with_reducible refine (tinderref13_Coded.calls a0_0 false _ A3.out).mono ?_); rintro e w' ⟨rfl, ⟨nd, rfl⟩⟩; refine ⟨_, rfl, ?_⟩))
    go_ret2
    exact ⟨_, by first | rfl | (simp [errW_none, errW_some] <;> rfl) | (simp [*, errW_none, errW_some] <;> rfl), by first | exact Kd.R_nil _ _ _ _ _ | exact Kd.N_nil _ _ _ _ _ | exact Kd.V_nil _ _ _ _ _ | exact Kd.Q_nil _ _ _ _ _ | exact Kd.S_nil _ _ _ _ _, by repeat (first | (with_reducible first | exact HB.out | apply below_alloc | apply pw_below_drewN | apply below_drew1 | refine below_set ?_ GE117.out) | exact HB.out)⟩

end Go.Proofs.Ytfaebbmngplilaa.P
