/- The machine's side: functions of the translation as plain Lean functions, and that the machine's calls come to what they say. No condition. Written by a program (wip/tools/pp.py over the kit's printer); Lean checks it. -/
import Derived.Test.YtfaebbmngplilaaPx0
import Derived.Test.YtfaebbmngplilaaPx2
import Derived.Test.YtfaebbmngplilaaPx3
import Derived.Test.YtfaebbmngplilaaPx4
import Derived.Test.YtfaebbmngplilaaPx5
import Derived.Test.YtfaebbmngplilaaPx6
import Derived.Test.YtfaebbmngplilaaPx8
import Derived.Test.YtfaebbmngplilaaPx9
namespace Go.Proofs.Ytfaebbmngplilaa.P
open Go.RowKit Go.Proofs.YtfaebbmngplilaaW.PrintWords Go.Proofs.YtfaebbmngplilaaW.PrintLast Go.Proofs.YtfaebbmngplilaaW.PrintMore
attribute [local go_sem] max2_int min2_int max_two min_two max_three min_three max_four min_four   -- for this text's walks alone
set_option linter.unusedVariables false
set_option linter.unusedSimpArgs false

/-! ### token_Encode: function 15 -/
def token_Encode.l0 : Nat → List S34 → Bool → Bool → List Int → Int → Option (List Int × Int)
  | 0, _, _, _, _, _ => none
  | k + 1, l, wide, long, bs, i => if 0 ≤ i then (if i < (l.length : Int) then
      ((token_right.f k (rd_T34 l i).f0 (rd_T34 l i).f1 (rd_T34 l i).f2 (rd_T34 l i).f3 wide).bind fun ok => if ok = true then
        (if long = true then token_Encode.l0 k l (wide || ((rd_T34 l i).f0 == 204)) true bs (i + 1) else
          ((token_behind.f k (rd_T34 l i).f0).bind fun kd => if 0 ≤ kd ∧ kd ≤ 6 then (if TokOk (rd_T34 l i) then (if bs.length ≤ 100000 then
            token_Encode.l0 k l (wide || ((rd_T34 l i).f0 == 204)) (decide (((bs ++ wtokB kd wide (rd_T34 l i)).length : Int) > 8192)) (bs ++ wtokB kd wide (rd_T34 l i)) (i + 1) else none) else none) else none)) else some ([], 16))
      else if long = true then some ([], 3) else some (bs, 0)) else none
def token_Encode.f (k : Nat) (l0 : List S34) (a1 : Bool) : Option (List Int × Int) := token_Encode.l0 k l0 a1 false [] 0
theorem token_Encode.mono_l : ∀ k l wide long bs i, LeO (token_Encode.l0 k l wide long bs i) (token_Encode.l0 (k + 1) l wide long bs i)
  | 0 => fun _ _ _ _ _ r h => by simp [token_Encode.l0] at h
  | k + 1 => by
    have ih := token_Encode.mono_l k
    intro l wide long bs i
    unfold token_Encode.l0
    repeat' first
      | exact ih _ _ _ _ _
      | exact token_behind.mono _ _
      | exact token_right.mono _ _ _ _ _ _
      | exact LeO.refl _
      | exact LeO.none _
      | refine LeO.ite ?_ ?_
      | refine LeO.bind ?_ (fun _ => ?_)
theorem token_Encode.mono : ∀ a0 a1 k, LeO (token_Encode.f k a0 a1) (token_Encode.f (k + 1) a0 a1) := fun a0 a1 k => token_Encode.mono_l k _ _ _ _ _
set_option maxHeartbeats 8000000 in
set_option maxRecDepth 100000 in
theorem token_Encode.calls (k : Nat) (A0 : Option Addr) (c0 : Nat) (l0 : List S34) (a1 : Bool) (r1 : List Int) (r2 : Int) (w : World) (hr0 : Kd.C k34 w A0 l0.length l0) (hc0 : l0.length ≤ c0) (h : token_Encode.f k l0 a1 = some (r1, r2)) :
    Calls Try.prog 15 #[.slice A0 l0.length c0, .bool a1] w fun e w' => ∃ v0_ : Value, e = .returned (.tuple #[v0_, .int .i64 r2]) ∧ Kd.R (Kd.int .u8) 5 w' w.heap.size (fun _ => True) v0_ r1 ∧ Below w.heap.size w w' := by
  unfold token_Encode.f at h
  have H0 := Aside0.mk h
  have HC := Aside0.mk hr0
  have hW0 := Aside0.mk (WS.new w)
  have hm : l0.length ≤ 9223372036854775807 := hr0.2.1
  clear h hr0
  go_enter Try.func15, Try.ntmps15
  go_wp2
  go_loopg [1, 7, 9, 14] k (fun kq v1 v7 v9 v14 w' => ∃ (bs : List Int) (v : Value) (wd lg : Bool) (i : Int), v1 = .bool wd ∧ v7 = .bool lg ∧ v14 = .int .i64 i ∧ Aside0 (token_Encode.l0 kq l0 wd lg bs i = some (r1, r2)) ∧ Aside0 (kq ≤ k) ∧ Aside0 (WS w' w.heap.size v bs) ∧ Aside0 (Below w.heap.size w w'))
  case atStart => exact ⟨[], _, a1, false, 0, rfl, rfl, rfl, H0, ⟨Nat.le_refl _⟩, hW0, ⟨below_alloc (Below.refl _ _) _⟩⟩
  case round =>
    obtain ⟨bs, v, wd, lg, i, rfl, rfl, rfl, HA, HK, HS, HB⟩ := hrel
    cases gk with
    | zero => exact absurd HA.out (by simp [token_Encode.l0])
    | succ k1 =>
      have H := HA.out
      clear HA
      simp only [token_Encode.l0] at H
      by_cases h0 : 0 ≤ i
      · rw [if_pos h0] at H
        obtain ⟨As, cs, es⟩ := Kd.R_slice HS.out.2
        subst es
        obtain ⟨p0, pf⟩ := HS.out.cell
        by_cases h1 : i < (l0.length : Int)
        · rw [if_pos h1] at H
          obtain ⟨t, ht⟩ : ∃ t, rd_T34 l0 i = t := ⟨_, rfl⟩
          obtain ⟨ad, eA, x0, x1, x2, x3⟩ := at_T34 (Kd.C_below HC.out HB.out) i h0 h1
          cases eA
          rw [ht] at H x0 x1 x2 x3
          clear ht
          obtain ⟨ok, hok, H⟩ := Option.bind_eq_some_iff.mp H
          have HOK := Aside0.mk hok
          have b1 : decide (i < (l0.length : Int)) = true := decide_eq_true h1
          have hT : TB (wr.alloc (.cells #[.int .i64 t.f0, .int .u32 t.f1, .string t.f2, .int .i64 t.f3] 34)) wr.heap.size t.f0 t.f1 t.f2 t.f3 := heap_alloc_new wr _
          have HT := Aside0.mk hT
          have HSA := Aside0.mk (HS.out.below ((Below.refl _ _).alloc (Nat.le_refl _) (.cells #[.int .i64 t.f0, .int .u32 t.f1, .string t.f2, .int .i64 t.f3] 34)))
          have HBA := Aside0.mk (below_alloc HB.out (.cells #[.int .i64 t.f0, .int .u32 t.f1, .string t.f2, .int .i64 t.f3] 34))
          have hgt : wr.heap.size ≠ w.heap.size := by have := HS.out.lt; omega
          have HOW := Aside0.mk (show some wr.heap.size ≠ (Value.slice As bs.length cs).ownBlock from fun e => by have := Kd.R_lt HS.out.2 _ e.symm; omega)
          clear hok hT
          cases ok with
          | false =>
            rw [if_neg (by decide)] at H
            simp only [Option.some.injEq, Prod.mk.injEq] at H
            obtain ⟨rfl, rfl⟩ := H
            go_wp2_with (go_at_call 20; (with_reducible refine (token_right.calls _ _ _ _ _ _ _ _ HOK.out).mono ?_); rintro e w3 ⟨rfl, hb⟩; have HB3 := Aside0.mk hb; have hT3 := TB.below HT.out hb; obtain ⟨⟨t0, t1, t2, t3⟩, _⟩ := hT3.cells; have hS3 := HSA.out.below hb; obtain ⟨p0, pf⟩ := hS3.cell; have HT3 := Aside0.mk hT3; have HS3 := Aside0.mk hS3; clear hb hT3 hS3)
            go_ret2
            exact ⟨_, rfl, Kd.R_nil _ _ _ _ _, below_step HBA.out HB3.out⟩
          | true =>
            rw [if_pos rfl] at H
            cases lg with
            | true =>
              rw [if_pos rfl] at H
              have H' := Aside0.mk H
              clear H
              cases wd
              all_goals
                go_wp2_with (go_at_call 20; (with_reducible refine (token_right.calls _ _ _ _ _ _ _ _ HOK.out).mono ?_); rintro e w3 ⟨rfl, hb⟩; have HB3 := Aside0.mk hb; have hT3 := TB.below HT.out hb; obtain ⟨⟨t0, t1, t2, t3⟩, _⟩ := hT3.cells; have hS3 := HSA.out.below hb; obtain ⟨p0, pf⟩ := hS3.cell; have HT3 := Aside0.mk hT3; have HS3 := Aside0.mk hS3; clear hb hT3 hS3)
                go_roundg k1
                case measure => have := HK.out; omega
                case rel => exact ⟨bs, _, _, true, i + 1, rfl, rfl, rfl, H', ⟨by have := HK.out; omega⟩, HS3, ⟨below_step HBA.out HB3.out⟩⟩
            | false =>
              rw [if_neg (by decide)] at H
              obtain ⟨kd, hk, H⟩ := Option.bind_eq_some_iff.mp H
              by_cases hkd : 0 ≤ kd ∧ kd ≤ 6
              · rw [if_pos hkd] at H
                by_cases hto : TokOk t
                · rw [if_pos hto] at H
                  by_cases hbl : bs.length ≤ 100000
                  · rw [if_pos hbl] at H
                    obtain ⟨z, hz⟩ : ∃ z, z = bs ++ wtokB kd wd t := ⟨_, rfl⟩
                    rw [← hz] at H
                    have H' := Aside0.mk H
                    have HZ := Aside0.mk hz
                    have HKB := Aside0.mk hk
                    have HKD := Aside0.mk hkd
                    have HTO := Aside0.mk hto
                    have HBL := Aside0.mk hbl
                    clear H hz hk hkd hto hbl
                    cases wd
                    all_goals
                      go_wp2_with (first | (go_at_call 20; (with_reducible refine (token_right.calls _ _ _ _ _ _ _ _ HOK.out).mono ?_); rintro e w3 ⟨rfl, hb⟩; have HB3 := Aside0.mk hb; have hT3 := TB.below HT.out hb; obtain ⟨⟨t0, t1, t2, t3⟩, _⟩ := hT3.cells; have hS3 := HSA.out.below hb; obtain ⟨p0, pf⟩ := hS3.cell; have HT3 := Aside0.mk hT3; have HS3 := Aside0.mk hS3; clear hb hT3 hS3) | (go_at_call 22; (with_reducible refine (wtok_any (t := t) _ HS3.out (by have := HBL.out; omega) HTO.out HKB.out HKD.out).mono ?_); rintro e w5 ⟨rfl, v5, hs, hk5⟩; rw [← HZ.out] at hs; have HK5 := Aside0.mk hk5; have hT5 : TB w5 wr.heap.size t.f0 t.f1 t.f2 t.f3 := (hk5.block _ HT3.out.lt hgt HOW.out).trans HT3.out; obtain ⟨⟨t0, t1, t2, t3⟩, _⟩ := hT5.cells; obtain ⟨Az, cz, ez⟩ := Kd.R_slice hs.2; subst ez; obtain ⟨p0, pf⟩ := hs.cell; have HS5 := Aside0.mk hs; clear hs hk5 hT5))
                      go_roundg k1
                      case measure => have := HK.out; omega
                      case rel => exact ⟨z, _, _, _, i + 1, rfl, rfl, rfl, H', ⟨by have := HK.out; omega⟩, HS5, ⟨(below_step HBA.out HB3.out).trans (HK5.out.below (Nat.le_refl _) (by have := HS3.out.lt; omega) (fun k hk => by have := Kd.R_base HS.out.2 _ hk; omega))⟩⟩
                  · rw [if_neg hbl] at H
                    cases H
                · rw [if_neg hto] at H
                  cases H
              · rw [if_neg hkd] at H
                cases H
        · rw [if_neg h1] at H
          have b1 : decide (i < (l0.length : Int)) = false := decide_eq_false h1
          clear h1
          cases lg with
          | true =>
            rw [if_pos rfl] at H
            simp only [Option.some.injEq, Prod.mk.injEq] at H
            obtain ⟨rfl, rfl⟩ := H
            go_wp2
            go_ret2
            exact ⟨_, rfl, Kd.R_nil _ _ _ _ _, HB.out⟩
          | false =>
            rw [if_neg (by decide)] at H
            simp only [Option.some.injEq, Prod.mk.injEq] at H
            obtain ⟨rfl, rfl⟩ := H
            go_wp2
            go_ret2
            exact ⟨_, rfl, Kd.R_lower HS.out.2 (by omega), HB.out⟩
      · rw [if_neg h0] at H
        cases H

/-! ### tinderref13_Encode: function 16 -/
def tinderref13_Encode.l0 : Nat → List (S34) → Bool → List Int → Bool → Int → Option (List Int × Int)
  | 0, _, _, _, _, _ => none
  | k + 1, x0, x1, x6, x7, x8 => if x8 < (x0.length : Int) then (if 0 ≤ x8 then ((tinderref13_Bytes.f k ((rd_T34 x0 x8).f0) ((rd_T34 x0 x8).f1) ((rd_T34 x0 x8).f2) ((rd_T34 x0 x8).f3) x1).bind fun bt275 => (if bt275.2 = true then (if x1 = true then (if x7 = true then (tinderref13_Encode.l0 k x0 true x6 true (wrap64 (x8 + 1))) else (if ((bt275.1.length : Int) > (wrap64 (8192 - (x6.length : Int)))) then (tinderref13_Encode.l0 k x0 true x6 (decide ((bt275.1.length : Int) > (wrap64 (8192 - (x6.length : Int))))) (wrap64 (x8 + 1))) else (if x6.length + bt275.1.length < 140737488355328 then (tinderref13_Encode.l0 k x0 true (x6 ++ bt275.1) (decide ((bt275.1.length : Int) > (wrap64 (8192 - (x6.length : Int))))) (wrap64 (x8 + 1))) else (none)))) else (if x7 = true then (tinderref13_Encode.l0 k x0 (((rd_T34 x0 x8).f0) == 204) x6 true (wrap64 (x8 + 1))) else (if ((bt275.1.length : Int) > (wrap64 (8192 - (x6.length : Int)))) then (tinderref13_Encode.l0 k x0 (((rd_T34 x0 x8).f0) == 204) x6 (decide ((bt275.1.length : Int) > (wrap64 (8192 - (x6.length : Int))))) (wrap64 (x8 + 1))) else (if x6.length + bt275.1.length < 140737488355328 then (tinderref13_Encode.l0 k x0 (((rd_T34 x0 x8).f0) == 204) (x6 ++ bt275.1) (decide ((bt275.1.length : Int) > (wrap64 (8192 - (x6.length : Int))))) (wrap64 (x8 + 1))) else (none))))) else (some (([] : List Int), 16)))) else (none)) else (if x7 = true then (some (([] : List Int), 3)) else (some (x6, 0)))
def tinderref13_Encode.f (k : Nat) (l0 : List (S34)) (a1 : Bool) : Option (List Int × Int) := tinderref13_Encode.l0 k l0 a1 ([] : List Int) false 0
theorem tinderref13_Encode.mono_l : ∀ k, (∀ y0 y1 y2 y3 y4, LeO (tinderref13_Encode.l0 k y0 y1 y2 y3 y4) (tinderref13_Encode.l0 (k + 1) y0 y1 y2 y3 y4))
  | 0 => fun _ _ _ _ _ r h => by simp [tinderref13_Encode.l0] at h
  | k + 1 => by
    have ih0 := tinderref13_Encode.mono_l k
    · intro y0 y1 y2 y3 y4
      unfold tinderref13_Encode.l0
      repeat' first
      | (with_reducible exact ih0 _ _ _ _ _)
      | (with_reducible exact tinderref13_Bytes.mono _ _ _ _ _ _)
      | (with_reducible exact LeO.refl _)
      | (with_reducible exact LeO.none _)
      | (with_reducible refine LeO.ite ?_ ?_)
      | (with_reducible refine LeO.bind ?_ (fun _ => ?_))
      | exact ih0 _ _ _ _ _
      | exact tinderref13_Bytes.mono _ _ _ _ _ _
      | exact LeO.none _
      | refine LeO.ite ?_ ?_
      | refine LeO.bind ?_ (fun _ => ?_)
theorem tinderref13_Encode.mono : ∀ a0 a1 k, LeO (tinderref13_Encode.f k a0 a1) (tinderref13_Encode.f (k + 1) a0 a1) := by
  intro a0 a1 k
  have ih0 := tinderref13_Encode.mono_l k
  unfold tinderref13_Encode.f
  repeat' first
      | (with_reducible exact ih0 _ _ _ _ _)
      | (with_reducible exact tinderref13_Bytes.mono _ _ _ _ _ _)
      | (with_reducible exact LeO.refl _)
      | (with_reducible exact LeO.none _)
      | (with_reducible refine LeO.ite ?_ ?_)
      | (with_reducible refine LeO.bind ?_ (fun _ => ?_))
      | exact ih0 _ _ _ _ _
      | exact tinderref13_Bytes.mono _ _ _ _ _ _
      | exact LeO.none _
      | refine LeO.ite ?_ ?_
      | refine LeO.bind ?_ (fun _ => ?_)
set_option maxHeartbeats 8000000 in
set_option maxRecDepth 100000 in
theorem tinderref13_Encode.calls (k : Nat) (A0 : Option Addr) (c0 : Nat) (l0 : List (S34)) (a1 : Bool) (r1 : List Int) (r2 : Int) (w : World) (hr0 : Kd.C k34 w A0 l0.length l0) (hc0 : l0.length ≤ c0) (h : tinderref13_Encode.f k l0 a1 = some (r1, r2)) :
    Calls Try.prog 16 #[.slice A0 l0.length c0, .bool a1] w fun e w' => ∃ v0_ : Value, e = .returned (.tuple #[v0_, .int .i64 r2]) ∧ Kd.R (Kd.int .u8) 5 w' w.heap.size (fun _ => True) v0_ r1 ∧ Below w.heap.size w w' := by
  have hu34 := Try.underlying34
  have HR0 := Aside0.mk hr0
  have HC0 := Aside0.mk hc0
  clear hr0 hc0
  have HB := Aside0.mk (Below.refl w.heap.size w)
  have H : (tinderref13_Encode.l0 k l0 a1 ([] : List Int) false 0) = some (r1, r2) := h
  clear h
  have H' := Aside0.mk H
  clear H
  go_enter Try.func16, Try.ntmps16
  go_wp2
  go_loopg [1, 6, 7, 8] k (fun kq v1 v6 v7 v8 w' => ∃ (x1_1 : Bool) (x6_1 : List Int) (x7_1 : Bool) (x8_1 : Int), v1 = .bool x1_1 ∧ v7 = .bool x7_1 ∧ v8 = .int .i64 x8_1 ∧ Aside0 (tinderref13_Encode.l0 kq l0 x1_1 x6_1 x7_1 x8_1 = some (r1, r2)) ∧ Aside0 (kq ≤ k) ∧ Aside0 (Kd.R (Kd.int .u8) 5 w' w.heap.size (fun _ => True) v6 x6_1) ∧ Aside0 (Below w.heap.size w w'))
  case atStart => exact ⟨(a1), (([] : List Int)), (false), (0), (by first | rfl | (simp; done) | (simp [*]; done)), (by first | rfl | (simp; done) | (simp [*]; done)), (by first | rfl | (simp; done) | (simp [*]; done)), H', ⟨Nat.le_refl _⟩, ⟨by first | exact Kd.R_nil _ _ _ _ _ | exact Kd.N_nil _ _ _ _ _ | exact Kd.V_nil _ _ _ _ _ | exact Kd.Q_nil _ _ _ _ _ | exact Kd.S_nil _ _ _ _ _⟩, ⟨by repeat (first | (with_reducible first | exact HB.out | apply below_alloc | apply pw_below_drewN | apply below_drew1) | exact HB.out)⟩⟩
  case round =>
    clear H'
    try clear c1
    try clear p2
    obtain ⟨x1_1, x6_1, x7_1, x8_1, rfl, rfl, rfl, HA, HK1, HO_6, HB⟩ := hrel
    cases gk with
    | zero => exact absurd HA.out (by simp [tinderref13_Encode.l0])
    | succ k1 =>
      have H := HA.out
      clear HA
      simp only [tinderref13_Encode.l0] at H
      by_cases c3 : x8_1 < (l0.length : Int)
      · rw [if_pos c3] at H
        have c3b0 : decide (x8_1 < (l0.length : Int)) = true := decide_eq_true c3
        clear c3
        by_cases c4 : 0 ≤ x8_1
        · rw [if_pos c4] at H
          have c4b0 : decide (0 ≤ x8_1) = true := decide_eq_true c4
          clear c4
          replace H := Option.bind_eq_some_iff.mp H
          obtain ⟨⟨t275, t278⟩, A50, H⟩ := H
          replace H : (if t278 = true then (if x1_1 = true then (if x7_1 = true then (tinderref13_Encode.l0 k1 l0 true x6_1 true (wrap64 (x8_1 + 1))) else (if ((t275.length : Int) > (wrap64 (8192 - (x6_1.length : Int)))) then (tinderref13_Encode.l0 k1 l0 true x6_1 (decide ((t275.length : Int) > (wrap64 (8192 - (x6_1.length : Int))))) (wrap64 (x8_1 + 1))) else (if x6_1.length + t275.length < 140737488355328 then (tinderref13_Encode.l0 k1 l0 true (x6_1 ++ t275) (decide ((t275.length : Int) > (wrap64 (8192 - (x6_1.length : Int))))) (wrap64 (x8_1 + 1))) else (none)))) else (if x7_1 = true then (tinderref13_Encode.l0 k1 l0 (((rd_T34 l0 x8_1).f0) == 204) x6_1 true (wrap64 (x8_1 + 1))) else (if ((t275.length : Int) > (wrap64 (8192 - (x6_1.length : Int)))) then (tinderref13_Encode.l0 k1 l0 (((rd_T34 l0 x8_1).f0) == 204) x6_1 (decide ((t275.length : Int) > (wrap64 (8192 - (x6_1.length : Int))))) (wrap64 (x8_1 + 1))) else (if x6_1.length + t275.length < 140737488355328 then (tinderref13_Encode.l0 k1 l0 (((rd_T34 l0 x8_1).f0) == 204) (x6_1 ++ t275) (decide ((t275.length : Int) > (wrap64 (8192 - (x6_1.length : Int))))) (wrap64 (x8_1 + 1))) else (none))))) else (some (([] : List Int), 16))) = some (r1, r2) := H
          have A5 := Aside0.mk A50
          clear A50
          by_cases c6 : t278 = true
          · subst c6
            have H1 : (if x1_1 = true then (if x7_1 = true then (tinderref13_Encode.l0 k1 l0 true x6_1 true (wrap64 (x8_1 + 1))) else (if ((t275.length : Int) > (wrap64 (8192 - (x6_1.length : Int)))) then (tinderref13_Encode.l0 k1 l0 true x6_1 (decide ((t275.length : Int) > (wrap64 (8192 - (x6_1.length : Int))))) (wrap64 (x8_1 + 1))) else (if x6_1.length + t275.length < 140737488355328 then (tinderref13_Encode.l0 k1 l0 true (x6_1 ++ t275) (decide ((t275.length : Int) > (wrap64 (8192 - (x6_1.length : Int))))) (wrap64 (x8_1 + 1))) else (none)))) else (if x7_1 = true then (tinderref13_Encode.l0 k1 l0 (((rd_T34 l0 x8_1).f0) == 204) x6_1 true (wrap64 (x8_1 + 1))) else (if ((t275.length : Int) > (wrap64 (8192 - (x6_1.length : Int)))) then (tinderref13_Encode.l0 k1 l0 (((rd_T34 l0 x8_1).f0) == 204) x6_1 (decide ((t275.length : Int) > (wrap64 (8192 - (x6_1.length : Int))))) (wrap64 (x8_1 + 1))) else (if x6_1.length + t275.length < 140737488355328 then (tinderref13_Encode.l0 k1 l0 (((rd_T34 l0 x8_1).f0) == 204) (x6_1 ++ t275) (decide ((t275.length : Int) > (wrap64 (8192 - (x6_1.length : Int))))) (wrap64 (x8_1 + 1))) else (none))))) = some (r1, r2) := by rw [if_pos rfl] at H; exact H
            clear H
            have H := H1
            clear H1
            by_cases c7 : x1_1 = true
            · subst c7
              have H1 : (if x7_1 = true then (tinderref13_Encode.l0 k1 l0 true x6_1 true (wrap64 (x8_1 + 1))) else (if ((t275.length : Int) > (wrap64 (8192 - (x6_1.length : Int)))) then (tinderref13_Encode.l0 k1 l0 true x6_1 (decide ((t275.length : Int) > (wrap64 (8192 - (x6_1.length : Int))))) (wrap64 (x8_1 + 1))) else (if x6_1.length + t275.length < 140737488355328 then (tinderref13_Encode.l0 k1 l0 true (x6_1 ++ t275) (decide ((t275.length : Int) > (wrap64 (8192 - (x6_1.length : Int))))) (wrap64 (x8_1 + 1))) else (none)))) = some (r1, r2) := by rw [if_pos rfl] at H; exact H
              clear H
              have H := H1
              clear H1
              by_cases c8 : x7_1 = true
              · subst c8
                have H1 : (tinderref13_Encode.l0 k1 l0 true x6_1 true (wrap64 (x8_1 + 1))) = some (r1, r2) := by rw [if_pos rfl] at H; exact H
                clear H
                have H := H1
                clear H1
                have H' := Aside0.mk H
                clear H
                have p274 : 0 ≤ (x8_1 : Int) := of_decide_eq_true (by first | (with_reducible assumption) | assumption)
                have q274 : x8_1 < (l0.length : Int) := of_decide_eq_true (by first | (with_reducible assumption) | assumption)
                obtain ⟨ad274, e274, hx274_0, hx274_1, hx274_2, hx274_3⟩ := at_T34 HR0.out x8_1 p274 q274
                cases e274
                replace hx274_0 := (HB.out.cell (World.block_lt_of_cell? w _ hx274_0)).trans hx274_0
                replace hx274_1 := (HB.out.cell (World.block_lt_of_cell? w _ hx274_1)).trans hx274_1
                replace hx274_2 := (HB.out.cell (World.block_lt_of_cell? w _ hx274_2)).trans hx274_2
                replace hx274_3 := (HB.out.cell (World.block_lt_of_cell? w _ hx274_3)).trans hx274_3
                replace p274 := eq_true p274
                replace q274 := eq_true q274
                go_wp2_with (first | ((with_reducible refine gate_callee (f := 23) rfl ?_); refine goesL_ (some 23) rfl rfl Try.func23 (by kernel_rfl) rfl #[.agg #[.int .i64 ((rd_T34 l0 x8_1).f0), .int .u32 ((rd_T34 l0 x8_1).f1), .string ((rd_T34 l0 x8_1).f2), .int .i64 ((rd_T34 l0 x8_1).f3)], .bool true] rfl (by (try simp only [List.map_toArray, List.map_cons, List.map_nil]); first | done | rfl | (simp only [List.length_drop, List.length_take]; rfl)) ?_; (with_reducible refine (tinderref13_Bytes.calls k1 ((rd_T34 l0 x8_1).f0) ((rd_T34 l0 x8_1).f1) ((rd_T34 l0 x8_1).f2) ((rd_T34 l0 x8_1).f3) true t275 true _ A5.out).mono ?_); rintro e w9 ⟨v276, rfl, ho0, hb⟩; refine ⟨_, rfl, ?_⟩; have n0_ := Aside0.mk (Kd.R_elder' (by (with_reducible repeat (first | apply Kd.R_alloc | apply Kd.R_drewN | apply Kd.R_drew)); exact HO_6.out) (Kd.R_base ho0) hb); have n1_ := Aside0.mk (Kd.R_lower (Kd.R_new' ho0 (Kd.R_lt (by (with_reducible repeat (first | apply Kd.R_alloc | apply Kd.R_drewN | apply Kd.R_drew)); exact HO_6.out))) (below_size (by repeat (first | (with_reducible first | exact HB.out | apply below_alloc | apply pw_below_drewN | apply below_drew1) | exact HB.out)))); have n2_ := Aside0.mk (below_step (by repeat (first | (with_reducible first | exact HB.out | apply below_alloc | apply pw_below_drewN | apply below_drew1) | exact HB.out)) hb); clear HO_6; clear HB; have HO_6 := n0_; have HO277 := n1_; have HB := n2_; clear n0_ n1_ n2_; (try clear hb); (try clear hb2); (try clear hk); (try clear hi); (try clear ho0)))
                go_roundg k1
                case measure => have := HK1.out; omega
                case rel => exact ⟨(true), (x6_1), (true), (wrap64 (x8_1 + 1)), (by first | rfl | (simp; done) | (simp [*]; done)), (by first | rfl | (simp; done) | (simp [*]; done)), (by first | rfl | (simp; done) | (simp [*]; done)), H', ⟨by have := HK1.out; omega⟩, ⟨by (with_reducible repeat (first | apply Kd.R_alloc | apply Kd.R_drewN | apply Kd.R_drew)); exact Kd.R_mono HO_6.out (fun _ hk => trivial)⟩, ⟨by repeat (first | (with_reducible first | exact HB.out | apply below_alloc | apply pw_below_drewN | apply below_drew1) | exact HB.out)⟩⟩
              · replace c8 := Bool.eq_false_iff.mpr c8
                subst c8
                have H1 : (if ((t275.length : Int) > (wrap64 (8192 - (x6_1.length : Int)))) then (tinderref13_Encode.l0 k1 l0 true x6_1 (decide ((t275.length : Int) > (wrap64 (8192 - (x6_1.length : Int))))) (wrap64 (x8_1 + 1))) else (if x6_1.length + t275.length < 140737488355328 then (tinderref13_Encode.l0 k1 l0 true (x6_1 ++ t275) (decide ((t275.length : Int) > (wrap64 (8192 - (x6_1.length : Int))))) (wrap64 (x8_1 + 1))) else (none))) = some (r1, r2) := by rw [if_neg (show ¬ (false = true) by decide)] at H; exact H
                clear H
                have H := H1
                clear H1
                by_cases c10 : ((t275.length : Int) > (wrap64 (8192 - (x6_1.length : Int))))
                · rw [if_pos c10] at H
                  have c10b0 : decide ((wrap64 (8192 - (x6_1.length : Int))) < (t275.length : Int)) = true := decide_eq_true c10
                  clear c10
                  have H' := Aside0.mk H
                  clear H
                  have p274 : 0 ≤ (x8_1 : Int) := of_decide_eq_true (by first | (with_reducible assumption) | assumption)
                  have q274 : x8_1 < (l0.length : Int) := of_decide_eq_true (by first | (with_reducible assumption) | assumption)
                  obtain ⟨ad274, e274, hx274_0, hx274_1, hx274_2, hx274_3⟩ := at_T34 HR0.out x8_1 p274 q274
                  cases e274
                  replace hx274_0 := (HB.out.cell (World.block_lt_of_cell? w _ hx274_0)).trans hx274_0
                  replace hx274_1 := (HB.out.cell (World.block_lt_of_cell? w _ hx274_1)).trans hx274_1
                  replace hx274_2 := (HB.out.cell (World.block_lt_of_cell? w _ hx274_2)).trans hx274_2
                  replace hx274_3 := (HB.out.cell (World.block_lt_of_cell? w _ hx274_3)).trans hx274_3
                  replace p274 := eq_true p274
                  replace q274 := eq_true q274
                  go_wp2_with (first | ((with_reducible refine gate_callee (f := 23) rfl ?_); refine goesL_ (some 23) rfl rfl Try.func23 (by kernel_rfl) rfl #[.agg #[.int .i64 ((rd_T34 l0 x8_1).f0), .int .u32 ((rd_T34 l0 x8_1).f1), .string ((rd_T34 l0 x8_1).f2), .int .i64 ((rd_T34 l0 x8_1).f3)], .bool true] rfl (by (try simp only [List.map_toArray, List.map_cons, List.map_nil]); first | done | rfl | (simp only [List.length_drop, List.length_take]; rfl)) ?_; (with_reducible refine (tinderref13_Bytes.calls k1 ((rd_T34 l0 x8_1).f0) ((rd_T34 l0 x8_1).f1) ((rd_T34 l0 x8_1).f2) ((rd_T34 l0 x8_1).f3) true t275 true _ A5.out).mono ?_); rintro e w11 ⟨v276, rfl, ho0, hb⟩; refine ⟨_, rfl, ?_⟩; have n0_ := Aside0.mk (Kd.R_elder' (by (with_reducible repeat (first | apply Kd.R_alloc | apply Kd.R_drewN | apply Kd.R_drew)); exact HO_6.out) (Kd.R_base ho0) hb); have n1_ := Aside0.mk (Kd.R_lower (Kd.R_new' ho0 (Kd.R_lt (by (with_reducible repeat (first | apply Kd.R_alloc | apply Kd.R_drewN | apply Kd.R_drew)); exact HO_6.out))) (below_size (by repeat (first | (with_reducible first | exact HB.out | apply below_alloc | apply pw_below_drewN | apply below_drew1) | exact HB.out)))); have n2_ := Aside0.mk (below_step (by repeat (first | (with_reducible first | exact HB.out | apply below_alloc | apply pw_below_drewN | apply below_drew1) | exact HB.out)) hb); clear HO_6; clear HB; have HO_6 := n0_; have HO277 := n1_; have HB := n2_; clear n0_ n1_ n2_; (try clear hb); (try clear hb2); (try clear hk); (try clear hi); (try clear ho0); obtain ⟨Ao12, co12, eo12⟩ := Kd.R_slice HO277.out; subst eo12; obtain ⟨Ao13, co13, eo13⟩ := Kd.R_slice HO_6.out; subst eo13))
                  go_roundg k1
                  case measure => have := HK1.out; omega
                  case rel => exact ⟨(true), (x6_1), (decide ((t275.length : Int) > (wrap64 (8192 - (x6_1.length : Int))))), (wrap64 (x8_1 + 1)), (by first | rfl | (simp; done) | (simp [*]; done)), (by first | rfl | (simp; done) | (simp [*]; done)), (by first | rfl | (simp; done) | (simp [*]; done)), H', ⟨by have := HK1.out; omega⟩, ⟨by (with_reducible repeat (first | apply Kd.R_alloc | apply Kd.R_drewN | apply Kd.R_drew)); exact Kd.R_mono HO_6.out (fun _ hk => trivial)⟩, ⟨by repeat (first | (with_reducible first | exact HB.out | apply below_alloc | apply pw_below_drewN | apply below_drew1) | exact HB.out)⟩⟩
                · rw [if_neg c10] at H
                  have c10b0 : decide ((wrap64 (8192 - (x6_1.length : Int))) < (t275.length : Int)) = false := decide_eq_false c10
                  clear c10
                  by_cases c14 : x6_1.length + t275.length < 140737488355328
                  · rw [if_pos c14] at H
                    have LMc14 := Aside0.mk c14
                    clear c14
                    obtain ⟨y279, hy279⟩ : ∃ y_ : List Int, y_ = (x6_1 ++ t275) := ⟨_, rfl⟩
                    replace H : (tinderref13_Encode.l0 k1 l0 true y279 (decide ((t275.length : Int) > (wrap64 (8192 - (x6_1.length : Int))))) (wrap64 (x8_1 + 1))) = some (r1, r2) := by first | (rw [hy279]; with_reducible exact H) | (have H2_ := (Option.bind_some _ _).symm.trans H; rw [hy279]; with_reducible exact H2_) | (have H2_ := (Option.bind_some _ _).symm.trans H; with_reducible exact H2_) | with_reducible exact H | (rw [hy279]; exact H) | exact H
                    have Ny279 := Aside0.mk hy279
                    clear hy279
                    have H' := Aside0.mk H
                    clear H
                    have p274 : 0 ≤ (x8_1 : Int) := of_decide_eq_true (by first | (with_reducible assumption) | assumption)
                    have q274 : x8_1 < (l0.length : Int) := of_decide_eq_true (by first | (with_reducible assumption) | assumption)
                    obtain ⟨ad274, e274, hx274_0, hx274_1, hx274_2, hx274_3⟩ := at_T34 HR0.out x8_1 p274 q274
                    cases e274
                    replace hx274_0 := (HB.out.cell (World.block_lt_of_cell? w _ hx274_0)).trans hx274_0
                    replace hx274_1 := (HB.out.cell (World.block_lt_of_cell? w _ hx274_1)).trans hx274_1
                    replace hx274_2 := (HB.out.cell (World.block_lt_of_cell? w _ hx274_2)).trans hx274_2
                    replace hx274_3 := (HB.out.cell (World.block_lt_of_cell? w _ hx274_3)).trans hx274_3
                    replace p274 := eq_true p274
                    replace q274 := eq_true q274
                    go_wp2_with (first | ((with_reducible refine gate_callee (f := 23) rfl ?_); refine goesL_ (some 23) rfl rfl Try.func23 (by kernel_rfl) rfl #[.agg #[.int .i64 ((rd_T34 l0 x8_1).f0), .int .u32 ((rd_T34 l0 x8_1).f1), .string ((rd_T34 l0 x8_1).f2), .int .i64 ((rd_T34 l0 x8_1).f3)], .bool true] rfl (by (try simp only [List.map_toArray, List.map_cons, List.map_nil]); first | done | rfl | (simp only [List.length_drop, List.length_take]; rfl)) ?_; (with_reducible refine (tinderref13_Bytes.calls k1 ((rd_T34 l0 x8_1).f0) ((rd_T34 l0 x8_1).f1) ((rd_T34 l0 x8_1).f2) ((rd_T34 l0 x8_1).f3) true t275 true _ A5.out).mono ?_); rintro e w15 ⟨v276, rfl, ho0, hb⟩; refine ⟨_, rfl, ?_⟩; have n0_ := Aside0.mk (Kd.R_elder' (by (with_reducible repeat (first | apply Kd.R_alloc | apply Kd.R_drewN | apply Kd.R_drew)); exact HO_6.out) (Kd.R_base ho0) hb); have n1_ := Aside0.mk (Kd.R_lower (Kd.R_new' ho0 (Kd.R_lt (by (with_reducible repeat (first | apply Kd.R_alloc | apply Kd.R_drewN | apply Kd.R_drew)); exact HO_6.out))) (below_size (by repeat (first | (with_reducible first | exact HB.out | apply below_alloc | apply pw_below_drewN | apply below_drew1) | exact HB.out)))); have n2_ := Aside0.mk (below_step (by repeat (first | (with_reducible first | exact HB.out | apply below_alloc | apply pw_below_drewN | apply below_drew1) | exact HB.out)) hb); clear HO_6; clear HB; have HO_6 := n0_; have HO277 := n1_; have HB := n2_; clear n0_ n1_ n2_; (try clear hb); (try clear hb2); (try clear hk); (try clear hi); (try clear ho0); obtain ⟨Ao16, co16, eo16⟩ := Kd.R_slice HO277.out; subst eo16; obtain ⟨Ao17, co17, eo17⟩ := Kd.R_slice HO_6.out; subst eo17) | ((with_reducible refine gate_builtin (b := .append) (xs := #[.tmp 48, .tmp 49]) rfl ?_); (try (refine gate_guard (by rfl) ?_; dsimp only)); at_builtin; refine Kd.R_append_rows (Kd.int .u8) (w0 := w) w.heap.size rfl (.tmp 48) (.tmp 49) 22 5 (.int .u8 0) 1 rfl Try.underlying22 info5 rfl (by decide) (by omega) (.slice Ao17 x6_1.length co17) x6_1 t275 _ _ _ (fun k_ => some k_ ≠ (.slice Ao16 t275.length co16 : Value).ownBlock) (fun _ => False) rfl rfl ?aO ?aR (fun _ _ h => h) (fun _ h => h.elim) ?aF ?aB ?aS ?aL ?_; (case aR => repeat (first | exact (Kd.R_reads' HO277.out).2.2 | (with_reducible refine Kd.C_alloc ?_ _) | (with_reducible refine Kd.C_drewN ?_ _) | (with_reducible refine Kd.C_drew ?_))); (case aB => exact (by repeat (first | (with_reducible first | exact HB.out | apply below_alloc | apply pw_below_drewN | apply below_drew1) | exact HB.out))); (case aF => exact (fun k_ hk => Kd.fresh' (Kd.R_lt (by (with_reducible repeat (first | apply Kd.R_alloc | apply Kd.R_drewN | apply Kd.R_drew)); exact HO277.out)) k_ hk)); (case aO => exact (by (with_reducible repeat (first | apply Kd.R_alloc | apply Kd.R_drewN | apply Kd.R_drew)); exact Kd.R_mono HO_6.out (fun _ hk => hk.2))); (case aS => exact (below_size (by repeat (first | (with_reducible first | exact HB.out | apply below_alloc | apply pw_below_drewN | apply below_drew1) | exact HB.out)))); (case aL => have := LMc14.out; omega); intro v280 w18 ho hb hg hat; rw [← Ny279.out] at ho; have n0_ := Aside0.mk (Kd.R_after (ok := (fun _ => True)) (by (with_reducible repeat (first | apply Kd.R_alloc | apply Kd.R_drewN | apply Kd.R_drew)); exact HO277.out) hg hat); have n1_ := Aside0.mk (hb); have n2_ := Aside0.mk (ho); clear HO277; clear HB; clear HO_6; have HO277 := n0_; have HB := n1_; have HO281 := n2_; clear n0_ n1_ n2_; clear ho hb hg hat))
                    go_roundg k1
                    case measure => have := HK1.out; omega
                    case rel => exact ⟨(true), (y279), (decide ((t275.length : Int) > (wrap64 (8192 - (x6_1.length : Int))))), (wrap64 (x8_1 + 1)), (by first | rfl | (simp; done) | (simp [*]; done)), (by first | rfl | (simp; done) | (simp [*]; done)), (by first | rfl | (simp; done) | (simp [*]; done)), H', ⟨by have := HK1.out; omega⟩, ⟨by (with_reducible repeat (first | apply Kd.R_alloc | apply Kd.R_drewN | apply Kd.R_drew)); exact Kd.R_mono HO281.out (fun _ hk => trivial)⟩, ⟨by repeat (first | (with_reducible first | exact HB.out | apply below_alloc | apply pw_below_drewN | apply below_drew1) | exact HB.out)⟩⟩
                  · rw [if_neg c14] at H
                    exact absurd H (by simp)
            · replace c7 := Bool.eq_false_iff.mpr c7
              subst c7
              have H1 : (if x7_1 = true then (tinderref13_Encode.l0 k1 l0 (((rd_T34 l0 x8_1).f0) == 204) x6_1 true (wrap64 (x8_1 + 1))) else (if ((t275.length : Int) > (wrap64 (8192 - (x6_1.length : Int)))) then (tinderref13_Encode.l0 k1 l0 (((rd_T34 l0 x8_1).f0) == 204) x6_1 (decide ((t275.length : Int) > (wrap64 (8192 - (x6_1.length : Int))))) (wrap64 (x8_1 + 1))) else (if x6_1.length + t275.length < 140737488355328 then (tinderref13_Encode.l0 k1 l0 (((rd_T34 l0 x8_1).f0) == 204) (x6_1 ++ t275) (decide ((t275.length : Int) > (wrap64 (8192 - (x6_1.length : Int))))) (wrap64 (x8_1 + 1))) else (none)))) = some (r1, r2) := by rw [if_neg (show ¬ (false = true) by decide)] at H; exact H
              clear H
              have H := H1
              clear H1
              by_cases c19 : x7_1 = true
              · subst c19
                have H1 : (tinderref13_Encode.l0 k1 l0 (((rd_T34 l0 x8_1).f0) == 204) x6_1 true (wrap64 (x8_1 + 1))) = some (r1, r2) := by rw [if_pos rfl] at H; exact H
                clear H
                have H := H1
                clear H1
                have H' := Aside0.mk H
                clear H
                have p274 : 0 ≤ (x8_1 : Int) := of_decide_eq_true (by first | (with_reducible assumption) | assumption)
                have q274 : x8_1 < (l0.length : Int) := of_decide_eq_true (by first | (with_reducible assumption) | assumption)
                obtain ⟨ad274, e274, hx274_0, hx274_1, hx274_2, hx274_3⟩ := at_T34 HR0.out x8_1 p274 q274
                cases e274
                replace hx274_0 := (HB.out.cell (World.block_lt_of_cell? w _ hx274_0)).trans hx274_0
                replace hx274_1 := (HB.out.cell (World.block_lt_of_cell? w _ hx274_1)).trans hx274_1
                replace hx274_2 := (HB.out.cell (World.block_lt_of_cell? w _ hx274_2)).trans hx274_2
                replace hx274_3 := (HB.out.cell (World.block_lt_of_cell? w _ hx274_3)).trans hx274_3
                replace p274 := eq_true p274
                replace q274 := eq_true q274
                go_wp2_with (first | ((with_reducible refine gate_callee (f := 23) rfl ?_); refine goesL_ (some 23) rfl rfl Try.func23 (by kernel_rfl) rfl #[.agg #[.int .i64 ((rd_T34 l0 x8_1).f0), .int .u32 ((rd_T34 l0 x8_1).f1), .string ((rd_T34 l0 x8_1).f2), .int .i64 ((rd_T34 l0 x8_1).f3)], .bool false] rfl (by (try simp only [List.map_toArray, List.map_cons, List.map_nil]); first | done | rfl | (simp only [List.length_drop, List.length_take]; rfl)) ?_; (with_reducible refine (tinderref13_Bytes.calls k1 ((rd_T34 l0 x8_1).f0) ((rd_T34 l0 x8_1).f1) ((rd_T34 l0 x8_1).f2) ((rd_T34 l0 x8_1).f3) false t275 true _ A5.out).mono ?_); rintro e w20 ⟨v276, rfl, ho0, hb⟩; refine ⟨_, rfl, ?_⟩; have n0_ := Aside0.mk (Kd.R_elder' (by (with_reducible repeat (first | apply Kd.R_alloc | apply Kd.R_drewN | apply Kd.R_drew)); exact HO_6.out) (Kd.R_base ho0) hb); have n1_ := Aside0.mk (Kd.R_lower (Kd.R_new' ho0 (Kd.R_lt (by (with_reducible repeat (first | apply Kd.R_alloc | apply Kd.R_drewN | apply Kd.R_drew)); exact HO_6.out))) (below_size (by repeat (first | (with_reducible first | exact HB.out | apply below_alloc | apply pw_below_drewN | apply below_drew1) | exact HB.out)))); have n2_ := Aside0.mk (below_step (by repeat (first | (with_reducible first | exact HB.out | apply below_alloc | apply pw_below_drewN | apply below_drew1) | exact HB.out)) hb); clear HO_6; clear HB; have HO_6 := n0_; have HO277 := n1_; have HB := n2_; clear n0_ n1_ n2_; (try clear hb); (try clear hb2); (try clear hk); (try clear hi); (try clear ho0); have p282 : 0 ≤ (x8_1 : Int) := of_decide_eq_true (by first | (with_reducible assumption) | assumption); have q282 : x8_1 < (l0.length : Int) := of_decide_eq_true (by first | (with_reducible assumption) | assumption); obtain ⟨ad282, e282, hx282_0, hx282_1, hx282_2, hx282_3⟩ := at_T34 HR0.out x8_1 p282 q282; obtain rfl : ad274 = ad282 := (by injection e282); replace hx282_0 := (HB.out.cell (World.block_lt_of_cell? w _ hx282_0)).trans hx282_0; replace hx282_1 := (HB.out.cell (World.block_lt_of_cell? w _ hx282_1)).trans hx282_1; replace hx282_2 := (HB.out.cell (World.block_lt_of_cell? w _ hx282_2)).trans hx282_2; replace hx282_3 := (HB.out.cell (World.block_lt_of_cell? w _ hx282_3)).trans hx282_3; replace p282 := eq_true p282; replace q282 := eq_true q282))
                go_roundg k1
                case measure => have := HK1.out; omega
                case rel => exact ⟨((((rd_T34 l0 x8_1).f0) == 204)), (x6_1), (true), (wrap64 (x8_1 + 1)), (by first | rfl | (simp; done) | (simp [*]; done)), (by first | rfl | (simp; done) | (simp [*]; done)), (by first | rfl | (simp; done) | (simp [*]; done)), H', ⟨by have := HK1.out; omega⟩, ⟨by (with_reducible repeat (first | apply Kd.R_alloc | apply Kd.R_drewN | apply Kd.R_drew)); exact Kd.R_mono HO_6.out (fun _ hk => trivial)⟩, ⟨by repeat (first | (with_reducible first | exact HB.out | apply below_alloc | apply pw_below_drewN | apply below_drew1) | exact HB.out)⟩⟩
              · replace c19 := Bool.eq_false_iff.mpr c19
                subst c19
                have H1 : (if ((t275.length : Int) > (wrap64 (8192 - (x6_1.length : Int)))) then (tinderref13_Encode.l0 k1 l0 (((rd_T34 l0 x8_1).f0) == 204) x6_1 (decide ((t275.length : Int) > (wrap64 (8192 - (x6_1.length : Int))))) (wrap64 (x8_1 + 1))) else (if x6_1.length + t275.length < 140737488355328 then (tinderref13_Encode.l0 k1 l0 (((rd_T34 l0 x8_1).f0) == 204) (x6_1 ++ t275) (decide ((t275.length : Int) > (wrap64 (8192 - (x6_1.length : Int))))) (wrap64 (x8_1 + 1))) else (none))) = some (r1, r2) := by rw [if_neg (show ¬ (false = true) by decide)] at H; exact H
                clear H
                have H := H1
                clear H1
                by_cases c21 : ((t275.length : Int) > (wrap64 (8192 - (x6_1.length : Int))))
                · rw [if_pos c21] at H
                  have c21b0 : decide ((wrap64 (8192 - (x6_1.length : Int))) < (t275.length : Int)) = true := decide_eq_true c21
                  clear c21
                  have H' := Aside0.mk H
                  clear H
                  have p274 : 0 ≤ (x8_1 : Int) := of_decide_eq_true (by first | (with_reducible assumption) | assumption)
                  have q274 : x8_1 < (l0.length : Int) := of_decide_eq_true (by first | (with_reducible assumption) | assumption)
                  obtain ⟨ad274, e274, hx274_0, hx274_1, hx274_2, hx274_3⟩ := at_T34 HR0.out x8_1 p274 q274
                  cases e274
                  replace hx274_0 := (HB.out.cell (World.block_lt_of_cell? w _ hx274_0)).trans hx274_0
                  replace hx274_1 := (HB.out.cell (World.block_lt_of_cell? w _ hx274_1)).trans hx274_1
                  replace hx274_2 := (HB.out.cell (World.block_lt_of_cell? w _ hx274_2)).trans hx274_2
                  replace hx274_3 := (HB.out.cell (World.block_lt_of_cell? w _ hx274_3)).trans hx274_3
                  replace p274 := eq_true p274
                  replace q274 := eq_true q274
                  go_wp2_with (first | ((with_reducible refine gate_callee (f := 23) rfl ?_); refine goesL_ (some 23) rfl rfl Try.func23 (by kernel_rfl) rfl #[.agg #[.int .i64 ((rd_T34 l0 x8_1).f0), .int .u32 ((rd_T34 l0 x8_1).f1), .string ((rd_T34 l0 x8_1).f2), .int .i64 ((rd_T34 l0 x8_1).f3)], .bool false] rfl (by (try simp only [List.map_toArray, List.map_cons, List.map_nil]); first | done | rfl | (simp only [List.length_drop, List.length_take]; rfl)) ?_; (with_reducible refine (tinderref13_Bytes.calls k1 ((rd_T34 l0 x8_1).f0) ((rd_T34 l0 x8_1).f1) ((rd_T34 l0 x8_1).f2) ((rd_T34 l0 x8_1).f3) false t275 true _ A5.out).mono ?_); rintro e w22 ⟨v276, rfl, ho0, hb⟩; refine ⟨_, rfl, ?_⟩; have n0_ := Aside0.mk (Kd.R_elder' (by (with_reducible repeat (first | apply Kd.R_alloc | apply Kd.R_drewN | apply Kd.R_drew)); exact HO_6.out) (Kd.R_base ho0) hb); have n1_ := Aside0.mk (Kd.R_lower (Kd.R_new' ho0 (Kd.R_lt (by (with_reducible repeat (first | apply Kd.R_alloc | apply Kd.R_drewN | apply Kd.R_drew)); exact HO_6.out))) (below_size (by repeat (first | (with_reducible first | exact HB.out | apply below_alloc | apply pw_below_drewN | apply below_drew1) | exact HB.out)))); have n2_ := Aside0.mk (below_step (by repeat (first | (with_reducible first | exact HB.out | apply below_alloc | apply pw_below_drewN | apply below_drew1) | exact HB.out)) hb); clear HO_6; clear HB; have HO_6 := n0_; have HO277 := n1_; have HB := n2_; clear n0_ n1_ n2_; (try clear hb); (try clear hb2); (try clear hk); (try clear hi); (try clear ho0); have p282 : 0 ≤ (x8_1 : Int) := of_decide_eq_true (by first | (with_reducible assumption) | assumption); have q282 : x8_1 < (l0.length : Int) := of_decide_eq_true (by first | (with_reducible assumption) | assumption); obtain ⟨ad282, e282, hx282_0, hx282_1, hx282_2, hx282_3⟩ := at_T34 HR0.out x8_1 p282 q282; obtain rfl : ad274 = ad282 := (by injection e282); replace hx282_0 := (HB.out.cell (World.block_lt_of_cell? w _ hx282_0)).trans hx282_0; replace hx282_1 := (HB.out.cell (World.block_lt_of_cell? w _ hx282_1)).trans hx282_1; replace hx282_2 := (HB.out.cell (World.block_lt_of_cell? w _ hx282_2)).trans hx282_2; replace hx282_3 := (HB.out.cell (World.block_lt_of_cell? w _ hx282_3)).trans hx282_3; replace p282 := eq_true p282; replace q282 := eq_true q282; obtain ⟨Ao23, co23, eo23⟩ := Kd.R_slice HO277.out; subst eo23; obtain ⟨Ao24, co24, eo24⟩ := Kd.R_slice HO_6.out; subst eo24))
                  go_roundg k1
                  case measure => have := HK1.out; omega
                  case rel => exact ⟨((((rd_T34 l0 x8_1).f0) == 204)), (x6_1), (decide ((t275.length : Int) > (wrap64 (8192 - (x6_1.length : Int))))), (wrap64 (x8_1 + 1)), (by first | rfl | (simp; done) | (simp [*]; done)), (by first | rfl | (simp; done) | (simp [*]; done)), (by first | rfl | (simp; done) | (simp [*]; done)), H', ⟨by have := HK1.out; omega⟩, ⟨by (with_reducible repeat (first | apply Kd.R_alloc | apply Kd.R_drewN | apply Kd.R_drew)); exact Kd.R_mono HO_6.out (fun _ hk => trivial)⟩, ⟨by repeat (first | (with_reducible first | exact HB.out | apply below_alloc | apply pw_below_drewN | apply below_drew1) | exact HB.out)⟩⟩
                · rw [if_neg c21] at H
                  have c21b0 : decide ((wrap64 (8192 - (x6_1.length : Int))) < (t275.length : Int)) = false := decide_eq_false c21
                  clear c21
                  by_cases c25 : x6_1.length + t275.length < 140737488355328
                  · rw [if_pos c25] at H
                    have LMc25 := Aside0.mk c25
                    clear c25
                    obtain ⟨y283, hy283⟩ : ∃ y_ : List Int, y_ = (x6_1 ++ t275) := ⟨_, rfl⟩
                    replace H : (tinderref13_Encode.l0 k1 l0 (((rd_T34 l0 x8_1).f0) == 204) y283 (decide ((t275.length : Int) > (wrap64 (8192 - (x6_1.length : Int))))) (wrap64 (x8_1 + 1))) = some (r1, r2) := by first | (rw [hy283]; with_reducible exact H) | (have H2_ := (Option.bind_some _ _).symm.trans H; rw [hy283]; with_reducible exact H2_) | (have H2_ := (Option.bind_some _ _).symm.trans H; with_reducible exact H2_) | with_reducible exact H | (rw [hy283]; exact H) | exact H
                    have Ny283 := Aside0.mk hy283
                    clear hy283
                    have H' := Aside0.mk H
                    clear H
                    have p274 : 0 ≤ (x8_1 : Int) := of_decide_eq_true (by first | (with_reducible assumption) | assumption)
                    have q274 : x8_1 < (l0.length : Int) := of_decide_eq_true (by first | (with_reducible assumption) | assumption)
                    obtain ⟨ad274, e274, hx274_0, hx274_1, hx274_2, hx274_3⟩ := at_T34 HR0.out x8_1 p274 q274
                    cases e274
                    replace hx274_0 := (HB.out.cell (World.block_lt_of_cell? w _ hx274_0)).trans hx274_0
                    replace hx274_1 := (HB.out.cell (World.block_lt_of_cell? w _ hx274_1)).trans hx274_1
                    replace hx274_2 := (HB.out.cell (World.block_lt_of_cell? w _ hx274_2)).trans hx274_2
                    replace hx274_3 := (HB.out.cell (World.block_lt_of_cell? w _ hx274_3)).trans hx274_3
                    replace p274 := eq_true p274
                    replace q274 := eq_true q274
                    go_wp2_with (first | ((with_reducible refine gate_callee (f := 23) rfl ?_); refine goesL_ (some 23) rfl rfl Try.func23 (by kernel_rfl) rfl #[.agg #[.int .i64 ((rd_T34 l0 x8_1).f0), .int .u32 ((rd_T34 l0 x8_1).f1), .string ((rd_T34 l0 x8_1).f2), .int .i64 ((rd_T34 l0 x8_1).f3)], .bool false] rfl (by (try simp only [List.map_toArray, List.map_cons, List.map_nil]); first | done | rfl | (simp only [List.length_drop, List.length_take]; rfl)) ?_; (with_reducible refine (tinderref13_Bytes.calls k1 ((rd_T34 l0 x8_1).f0) ((rd_T34 l0 x8_1).f1) ((rd_T34 l0 x8_1).f2) ((rd_T34 l0 x8_1).f3) false t275 true _ A5.out).mono ?_); rintro e w26 ⟨v276, rfl, ho0, hb⟩; refine ⟨_, rfl, ?_⟩; have n0_ := Aside0.mk (Kd.R_elder' (by (with_reducible repeat (first | apply Kd.R_alloc | apply Kd.R_drewN | apply Kd.R_drew)); exact HO_6.out) (Kd.R_base ho0) hb); have n1_ := Aside0.mk (Kd.R_lower (Kd.R_new' ho0 (Kd.R_lt (by (with_reducible repeat (first | apply Kd.R_alloc | apply Kd.R_drewN | apply Kd.R_drew)); exact HO_6.out))) (below_size (by repeat (first | (with_reducible first | exact HB.out | apply below_alloc | apply pw_below_drewN | apply below_drew1) | exact HB.out)))); have n2_ := Aside0.mk (below_step (by repeat (first | (with_reducible first | exact HB.out | apply below_alloc | apply pw_below_drewN | apply below_drew1) | exact HB.out)) hb); clear HO_6; clear HB; have HO_6 := n0_; have HO277 := n1_; have HB := n2_; clear n0_ n1_ n2_; (try clear hb); (try clear hb2); (try clear hk); (try clear hi); (try clear ho0); have p282 : 0 ≤ (x8_1 : Int) := of_decide_eq_true (by first | (with_reducible assumption) | assumption); have q282 : x8_1 < (l0.length : Int) := of_decide_eq_true (by first | (with_reducible assumption) | assumption); obtain ⟨ad282, e282, hx282_0, hx282_1, hx282_2, hx282_3⟩ := at_T34 HR0.out x8_1 p282 q282; obtain rfl : ad274 = ad282 := (by injection e282); replace hx282_0 := (HB.out.cell (World.block_lt_of_cell? w _ hx282_0)).trans hx282_0; replace hx282_1 := (HB.out.cell (World.block_lt_of_cell? w _ hx282_1)).trans hx282_1; replace hx282_2 := (HB.out.cell (World.block_lt_of_cell? w _ hx282_2)).trans hx282_2; replace hx282_3 := (HB.out.cell (World.block_lt_of_cell? w _ hx282_3)).trans hx282_3; replace p282 := eq_true p282; replace q282 := eq_true q282; obtain ⟨Ao27, co27, eo27⟩ := Kd.R_slice HO277.out; subst eo27; obtain ⟨Ao28, co28, eo28⟩ := Kd.R_slice HO_6.out; subst eo28) | ((with_reducible refine gate_builtin (b := .append) (xs := #[.tmp 48, .tmp 49]) rfl ?_); (try (refine gate_guard (by rfl) ?_; dsimp only)); at_builtin; refine Kd.R_append_rows (Kd.int .u8) (w0 := w) w.heap.size rfl (.tmp 48) (.tmp 49) 22 5 (.int .u8 0) 1 rfl Try.underlying22 info5 rfl (by decide) (by omega) (.slice Ao28 x6_1.length co28) x6_1 t275 _ _ _ (fun k_ => some k_ ≠ (.slice Ao27 t275.length co27 : Value).ownBlock) (fun _ => False) rfl rfl ?aO ?aR (fun _ _ h => h) (fun _ h => h.elim) ?aF ?aB ?aS ?aL ?_; (case aR => repeat (first | exact (Kd.R_reads' HO277.out).2.2 | (with_reducible refine Kd.C_alloc ?_ _) | (with_reducible refine Kd.C_drewN ?_ _) | (with_reducible refine Kd.C_drew ?_))); (case aB => exact (by repeat (first | (with_reducible first | exact HB.out | apply below_alloc | apply pw_below_drewN | apply below_drew1) | exact HB.out))); (case aF => exact (fun k_ hk => Kd.fresh' (Kd.R_lt (by (with_reducible repeat (first | apply Kd.R_alloc | apply Kd.R_drewN | apply Kd.R_drew)); exact HO277.out)) k_ hk)); (case aO => exact (by (with_reducible repeat (first | apply Kd.R_alloc | apply Kd.R_drewN | apply Kd.R_drew)); exact Kd.R_mono HO_6.out (fun _ hk => hk.2))); (case aS => exact (below_size (by repeat (first | (with_reducible first | exact HB.out | apply below_alloc | apply pw_below_drewN | apply below_drew1) | exact HB.out)))); (case aL => have := LMc25.out; omega); intro v284 w29 ho hb hg hat; rw [← Ny283.out] at ho; have n0_ := Aside0.mk (Kd.R_after (ok := (fun _ => True)) (by (with_reducible repeat (first | apply Kd.R_alloc | apply Kd.R_drewN | apply Kd.R_drew)); exact HO277.out) hg hat); have n1_ := Aside0.mk (hb); have n2_ := Aside0.mk (ho); clear HO277; clear HB; clear HO_6; have HO277 := n0_; have HB := n1_; have HO285 := n2_; clear n0_ n1_ n2_; clear ho hb hg hat))
                    go_roundg k1
                    case measure => have := HK1.out; omega
                    case rel => exact ⟨((((rd_T34 l0 x8_1).f0) == 204)), (y283), (decide ((t275.length : Int) > (wrap64 (8192 - (x6_1.length : Int))))), (wrap64 (x8_1 + 1)), (by first | rfl | (simp; done) | (simp [*]; done)), (by first | rfl | (simp; done) | (simp [*]; done)), (by first | rfl | (simp; done) | (simp [*]; done)), H', ⟨by have := HK1.out; omega⟩, ⟨by (with_reducible repeat (first | apply Kd.R_alloc | apply Kd.R_drewN | apply Kd.R_drew)); exact Kd.R_mono HO285.out (fun _ hk => trivial)⟩, ⟨by repeat (first | (with_reducible first | exact HB.out | apply below_alloc | apply pw_below_drewN | apply below_drew1) | exact HB.out)⟩⟩
                  · rw [if_neg c25] at H
                    exact absurd H (by simp)
          · replace c6 := Bool.eq_false_iff.mpr c6
            subst c6
            have H1 : (some (([] : List Int), 16)) = some (r1, r2) := by rw [if_neg (show ¬ (false = true) by decide)] at H; exact H
            clear H
            have H := H1
            clear H1
            simp only [Option.some.injEq, Prod.mk.injEq] at H
            obtain ⟨rfl, rfl⟩ := H
            have p274 : 0 ≤ (x8_1 : Int) := of_decide_eq_true (by first | (with_reducible assumption) | assumption)
            have q274 : x8_1 < (l0.length : Int) := of_decide_eq_true (by first | (with_reducible assumption) | assumption)
            obtain ⟨ad274, e274, hx274_0, hx274_1, hx274_2, hx274_3⟩ := at_T34 HR0.out x8_1 p274 q274
            cases e274
            replace hx274_0 := (HB.out.cell (World.block_lt_of_cell? w _ hx274_0)).trans hx274_0
            replace hx274_1 := (HB.out.cell (World.block_lt_of_cell? w _ hx274_1)).trans hx274_1
            replace hx274_2 := (HB.out.cell (World.block_lt_of_cell? w _ hx274_2)).trans hx274_2
            replace hx274_3 := (HB.out.cell (World.block_lt_of_cell? w _ hx274_3)).trans hx274_3
            replace p274 := eq_true p274
            replace q274 := eq_true q274
            go_wp2_with (first | ((with_reducible refine gate_callee (f := 23) rfl ?_); refine goesL_ (some 23) rfl rfl Try.func23 (by kernel_rfl) rfl #[.agg #[.int .i64 ((rd_T34 l0 x8_1).f0), .int .u32 ((rd_T34 l0 x8_1).f1), .string ((rd_T34 l0 x8_1).f2), .int .i64 ((rd_T34 l0 x8_1).f3)], .bool x1_1] rfl (by (try simp only [List.map_toArray, List.map_cons, List.map_nil]); first | done | rfl | (simp only [List.length_drop, List.length_take]; rfl)) ?_; (with_reducible refine (tinderref13_Bytes.calls k1 ((rd_T34 l0 x8_1).f0) ((rd_T34 l0 x8_1).f1) ((rd_T34 l0 x8_1).f2) ((rd_T34 l0 x8_1).f3) x1_1 t275 false _ A5.out).mono ?_); rintro e w30 ⟨v276, rfl, ho0, hb⟩; refine ⟨_, rfl, ?_⟩; have n0_ := Aside0.mk (Kd.R_elder' (by (with_reducible repeat (first | apply Kd.R_alloc | apply Kd.R_drewN | apply Kd.R_drew)); exact HO_6.out) (Kd.R_base ho0) hb); have n1_ := Aside0.mk (Kd.R_lower (Kd.R_new' ho0 (Kd.R_lt (by (with_reducible repeat (first | apply Kd.R_alloc | apply Kd.R_drewN | apply Kd.R_drew)); exact HO_6.out))) (below_size (by repeat (first | (with_reducible first | exact HB.out | apply below_alloc | apply pw_below_drewN | apply below_drew1) | exact HB.out)))); have n2_ := Aside0.mk (below_step (by repeat (first | (with_reducible first | exact HB.out | apply below_alloc | apply pw_below_drewN | apply below_drew1) | exact HB.out)) hb); clear HO_6; clear HB; have HO_6 := n0_; have HO277 := n1_; have HB := n2_; clear n0_ n1_ n2_; (try clear hb); (try clear hb2); (try clear hk); (try clear hi); (try clear ho0)))
            go_ret2
            exact ⟨_, by first | rfl | (simp [errW_none, errW_some] <;> rfl) | (simp [*, errW_none, errW_some] <;> rfl), by first | exact Kd.R_nil _ _ _ _ _ | exact Kd.N_nil _ _ _ _ _ | exact Kd.V_nil _ _ _ _ _ | exact Kd.Q_nil _ _ _ _ _ | exact Kd.S_nil _ _ _ _ _, by repeat (first | (with_reducible first | exact HB.out | apply below_alloc | apply pw_below_drewN | apply below_drew1) | exact HB.out)⟩
        · rw [if_neg c4] at H
          exact absurd H (by simp)
      · rw [if_neg c3] at H
        have c3b0 : decide (x8_1 < (l0.length : Int)) = false := decide_eq_false c3
        clear c3
        by_cases c31 : x7_1 = true
        · subst c31
          have H1 : (some (([] : List Int), 3)) = some (r1, r2) := by rw [if_pos rfl] at H; exact H
          clear H
          have H := H1
          clear H1
          simp only [Option.some.injEq, Prod.mk.injEq] at H
          obtain ⟨rfl, rfl⟩ := H
          go_wp2
          go_ret2
          exact ⟨_, by first | rfl | (simp [errW_none, errW_some] <;> rfl) | (simp [*, errW_none, errW_some] <;> rfl), by first | exact Kd.R_nil _ _ _ _ _ | exact Kd.N_nil _ _ _ _ _ | exact Kd.V_nil _ _ _ _ _ | exact Kd.Q_nil _ _ _ _ _ | exact Kd.S_nil _ _ _ _ _, by repeat (first | (with_reducible first | exact HB.out | apply below_alloc | apply pw_below_drewN | apply below_drew1) | exact HB.out)⟩
        · replace c31 := Bool.eq_false_iff.mpr c31
          subst c31
          have H1 : (some (x6_1, 0)) = some (r1, r2) := by rw [if_neg (show ¬ (false = true) by decide)] at H; exact H
          clear H
          have H := H1
          clear H1
          simp only [Option.some.injEq, Prod.mk.injEq] at H
          obtain ⟨rfl, rfl⟩ := H
          go_wp2
          go_ret2
          exact ⟨_, by first | rfl | (simp [errW_none, errW_some] <;> rfl) | (simp [*, errW_none, errW_some] <;> rfl), by (with_reducible repeat (first | apply Kd.R_alloc | apply Kd.R_drewN | apply Kd.R_drew)); exact HO_6.out, by repeat (first | (with_reducible first | exact HB.out | apply below_alloc | apply pw_below_drewN | apply below_drew1) | exact HB.out)⟩

/-! ### tinderlaw13_TokenEncodes: function 5 -/
def tinderlaw13_TokenEncodes.f (k : Nat) (l0 : List (S34)) (a1 : Bool) : Option (Bool) := (tinderlaw13_alive.f k).bind fun t286 => (if t286 = true then ((token_Encode.f k l0 a1).bind fun bt287 => ((tinderref13_Encode.f k l0 a1).bind fun bt291 => ((tinderref04_Same.f bt287.1 bt291.1).bind fun t295 => (if t295 = true then (some (bt287.2 == bt291.2)) else (some false))))) else (some false))
theorem tinderlaw13_TokenEncodes.mono : ∀ a0 a1 k, LeO (tinderlaw13_TokenEncodes.f k a0 a1) (tinderlaw13_TokenEncodes.f (k + 1) a0 a1) := by
  intro a0 a1 k
  unfold tinderlaw13_TokenEncodes.f
  repeat' first
      | (with_reducible exact tinderlaw13_alive.mono _)
      | (with_reducible exact tinderref13_Encode.mono _ _ _)
      | (with_reducible exact token_Encode.mono _ _ _)
      | (with_reducible exact LeO.refl _)
      | (with_reducible exact LeO.none _)
      | (with_reducible refine LeO.ite ?_ ?_)
      | (with_reducible refine LeO.bind ?_ (fun _ => ?_))
      | exact tinderlaw13_alive.mono _
      | exact tinderref13_Encode.mono _ _ _
      | exact token_Encode.mono _ _ _
      | exact LeO.none _
      | refine LeO.ite ?_ ?_
      | refine LeO.bind ?_ (fun _ => ?_)
set_option maxHeartbeats 8000000 in
set_option maxRecDepth 100000 in
theorem tinderlaw13_TokenEncodes.calls (k : Nat) (A0 : Option Addr) (c0 : Nat) (l0 : List (S34)) (a1 : Bool) (r : Bool) (w : World) (hr0 : Kd.C k34 w A0 l0.length l0) (hc0 : l0.length ≤ c0) (h : tinderlaw13_TokenEncodes.f k l0 a1 = some r) :
    Calls Try.prog 5 #[.slice A0 l0.length c0, .bool a1] w fun e w' => e = .returned (.bool r) ∧ Below w.heap.size w w' := by
  have HR0 := Aside0.mk hr0
  have HC0 := Aside0.mk hc0
  clear hr0 hc0
  have HB := Aside0.mk (Below.refl w.heap.size w)
  have H : ((tinderlaw13_alive.f k).bind fun t286 => (if t286 = true then ((token_Encode.f k l0 a1).bind fun bt287 => ((tinderref13_Encode.f k l0 a1).bind fun bt291 => ((tinderref04_Same.f bt287.1 bt291.1).bind fun t295 => (if t295 = true then (some (bt287.2 == bt291.2)) else (some false))))) else (some false))) = some r := h
  clear h
  replace H := Option.bind_eq_some_iff.mp H
  obtain ⟨t286, A30, H⟩ := H
  replace H : (if t286 = true then ((token_Encode.f k l0 a1).bind fun bt287 => ((tinderref13_Encode.f k l0 a1).bind fun bt291 => ((tinderref04_Same.f bt287.1 bt291.1).bind fun t295 => (if t295 = true then (some (bt287.2 == bt291.2)) else (some false))))) else (some false)) = some r := H
  have A3 := Aside0.mk A30
  clear A30
  by_cases c4 : t286 = true
  · subst c4
    have H1 : ((token_Encode.f k l0 a1).bind fun bt287 => ((tinderref13_Encode.f k l0 a1).bind fun bt291 => ((tinderref04_Same.f bt287.1 bt291.1).bind fun t295 => (if t295 = true then (some (bt287.2 == bt291.2)) else (some false))))) = some r := by rw [if_pos rfl] at H; exact H
    clear H
    have H := H1
    clear H1
    replace H := Option.bind_eq_some_iff.mp H
    obtain ⟨⟨t287, t288⟩, A50, H⟩ := H
    replace H : ((tinderref13_Encode.f k l0 a1).bind fun bt291 => ((tinderref04_Same.f t287 bt291.1).bind fun t295 => (if t295 = true then (some (t288 == bt291.2)) else (some false)))) = some r := H
    have A5 := Aside0.mk A50
    clear A50
    replace H := Option.bind_eq_some_iff.mp H
    obtain ⟨⟨t291, t292⟩, A60, H⟩ := H
    replace H : ((tinderref04_Same.f t287 t291).bind fun t295 => (if t295 = true then (some (t288 == t292)) else (some false))) = some r := H
    have A6 := Aside0.mk A60
    clear A60
    replace H := Option.bind_eq_some_iff.mp H
    obtain ⟨t295, A70, H⟩ := H
    replace H : (if t295 = true then (some (t288 == t292)) else (some false)) = some r := H
    have A7 := Aside0.mk A70
    clear A70
    by_cases c8 : t295 = true
    · subst c8
      have H1 : (some (t288 == t292)) = some r := by rw [if_pos rfl] at H; exact H
      clear H
      have H := H1
      clear H1
      obtain rfl := Option.some.inj H
      go_enter Try.func5, Try.ntmps5
      go_wp2_with (first | ((with_reducible refine gate_callee (f := 9) rfl ?_); refine goesL_ (some 9) rfl rfl Try.func9 (by kernel_rfl) rfl #[] rfl (by (try simp only [List.map_toArray, List.map_cons, List.map_nil]); first | done | rfl | (simp only [List.length_drop, List.length_take]; rfl)) ?_; (with_reducible refine (tinderlaw13_alive.calls k  true _ A3.out).mono ?_); rintro e w9 ⟨rfl, hb⟩; refine ⟨_, rfl, ?_⟩; have n0_ := Aside0.mk (below_step (by repeat (first | (with_reducible first | exact HB.out | apply below_alloc | apply pw_below_drewN | apply below_drew1) | exact HB.out)) hb); clear HB; have HB := n0_; clear n0_; (try clear hb); (try clear hb2); (try clear hk); (try clear hi)) | ((with_reducible refine gate_callee (f := 15) rfl ?_); refine goesL_ (some 14) rfl rfl Try.func15 (by kernel_rfl) rfl #[.slice A0 l0.length c0, .bool a1] rfl (by (try simp only [List.map_toArray, List.map_cons, List.map_nil]); first | done | rfl | (simp only [List.length_drop, List.length_take]; rfl)) ?_; (with_reducible refine (token_Encode.calls k _ _ l0 a1 t287 t288 _ ?side1 ?side2 A5.out).mono ?_); (case side1 => repeat (first | exact (Kd.C_below HR0.out HB.out) | (with_reducible refine Kd.C_alloc ?_ _) | (with_reducible refine Kd.C_drewN ?_ _) | (with_reducible refine Kd.C_drew ?_))); (case side2 => exact HC0.out); rintro e w10 ⟨v289, rfl, ho0, hb⟩; refine ⟨_, rfl, ?_⟩; have n0_ := Aside0.mk (Kd.R_lower ho0 (below_size (by repeat (first | (with_reducible first | exact HB.out | apply below_alloc | apply pw_below_drewN | apply below_drew1) | exact HB.out)))); have n1_ := Aside0.mk (below_step (by repeat (first | (with_reducible first | exact HB.out | apply below_alloc | apply pw_below_drewN | apply below_drew1) | exact HB.out)) hb); clear HB; have HO290 := n0_; have HB := n1_; clear n0_ n1_; (try clear hb); (try clear hb2); (try clear hk); (try clear hi); (try clear ho0)) | ((with_reducible refine gate_callee (f := 16) rfl ?_); refine goesL_ (some 20) rfl rfl Try.func16 (by kernel_rfl) rfl #[.slice A0 l0.length c0, .bool a1] rfl (by (try simp only [List.map_toArray, List.map_cons, List.map_nil]); first | done | rfl | (simp only [List.length_drop, List.length_take]; rfl)) ?_; (with_reducible refine (tinderref13_Encode.calls k _ _ l0 a1 t291 t292 _ ?side1 ?side2 A6.out).mono ?_); (case side1 => repeat (first | exact (Kd.C_below HR0.out HB.out) | (with_reducible refine Kd.C_alloc ?_ _) | (with_reducible refine Kd.C_drewN ?_ _) | (with_reducible refine Kd.C_drew ?_))); (case side2 => exact HC0.out); rintro e w11 ⟨v293, rfl, ho0, hb⟩; refine ⟨_, rfl, ?_⟩; have n0_ := Aside0.mk (Kd.R_elder' (by (with_reducible repeat (first | apply Kd.R_alloc | apply Kd.R_drewN | apply Kd.R_drew)); exact HO290.out) (Kd.R_base ho0) hb); have n1_ := Aside0.mk (Kd.R_lower (Kd.R_new' ho0 (Kd.R_lt (by (with_reducible repeat (first | apply Kd.R_alloc | apply Kd.R_drewN | apply Kd.R_drew)); exact HO290.out))) (below_size (by repeat (first | (with_reducible first | exact HB.out | apply below_alloc | apply pw_below_drewN | apply below_drew1) | exact HB.out)))); have n2_ := Aside0.mk (below_step (by repeat (first | (with_reducible first | exact HB.out | apply below_alloc | apply pw_below_drewN | apply below_drew1) | exact HB.out)) hb); clear HO290; clear HB; have HO290 := n0_; have HO294 := n1_; have HB := n2_; clear n0_ n1_ n2_; (try clear hb); (try clear hb2); (try clear hk); (try clear hi); (try clear ho0); obtain ⟨Ao12, co12, eo12⟩ := Kd.R_slice HO290.out; subst eo12; obtain ⟨Ao13, co13, eo13⟩ := Kd.R_slice HO294.out; subst eo13) | ((with_reducible refine gate_callee (f := 14) rfl ?_); refine goesL_ (some 25) rfl rfl Try.func14 (by kernel_rfl) rfl #[.slice Ao12 t287.length co12, .slice Ao13 t291.length co13] rfl (by (try simp only [List.map_toArray, List.map_cons, List.map_nil]); first | done | rfl | (simp only [List.length_drop, List.length_take]; rfl)) ?_; (with_reducible refine (tinderref04_Same.calls _ _ t287 _ _ t291 true _ ?side1 ?side2 ?side3 ?side4 A7.out).mono ?_); (case side1 => repeat (first | exact (Kd.R_reads' HO290.out).2.2 | (with_reducible refine Kd.C_alloc ?_ _) | (with_reducible refine Kd.C_drewN ?_ _) | (with_reducible refine Kd.C_drew ?_))); (case side2 => exact (Kd.R_reads' HO290.out).2.1); (case side3 => repeat (first | exact (Kd.R_reads' HO294.out).2.2 | (with_reducible refine Kd.C_alloc ?_ _) | (with_reducible refine Kd.C_drewN ?_ _) | (with_reducible refine Kd.C_drew ?_))); (case side4 => exact (Kd.R_reads' HO294.out).2.1); rintro e w' ⟨rfl, ⟨nd, rfl⟩⟩; refine ⟨_, rfl, ?_⟩))
      go_ret
      exact ⟨by first | rfl | (simp [errW_none, errW_some] <;> rfl) | (simp [*, errW_none, errW_some] <;> rfl), by repeat (first | (with_reducible first | exact HB.out | apply below_alloc | apply pw_below_drewN | apply below_drew1) | exact HB.out)⟩
    · replace c8 := Bool.eq_false_iff.mpr c8
      subst c8
      have H1 : (some false) = some r := by rw [if_neg (show ¬ (false = true) by decide)] at H; exact H
      clear H
      have H := H1
      clear H1
      obtain rfl := Option.some.inj H
      go_enter Try.func5, Try.ntmps5
      go_wp2_with (first | ((with_reducible refine gate_callee (f := 9) rfl ?_); refine goesL_ (some 9) rfl rfl Try.func9 (by kernel_rfl) rfl #[] rfl (by (try simp only [List.map_toArray, List.map_cons, List.map_nil]); first | done | rfl | (simp only [List.length_drop, List.length_take]; rfl)) ?_; (with_reducible refine (tinderlaw13_alive.calls k  true _ A3.out).mono ?_); rintro e w14 ⟨rfl, hb⟩; refine ⟨_, rfl, ?_⟩; have n0_ := Aside0.mk (below_step (by repeat (first | (with_reducible first | exact HB.out | apply below_alloc | apply pw_below_drewN | apply below_drew1) | exact HB.out)) hb); clear HB; have HB := n0_; clear n0_; (try clear hb); (try clear hb2); (try clear hk); (try clear hi)) | ((with_reducible refine gate_callee (f := 15) rfl ?_); refine goesL_ (some 14) rfl rfl Try.func15 (by kernel_rfl) rfl #[.slice A0 l0.length c0, .bool a1] rfl (by (try simp only [List.map_toArray, List.map_cons, List.map_nil]); first | done | rfl | (simp only [List.length_drop, List.length_take]; rfl)) ?_; (with_reducible refine (token_Encode.calls k _ _ l0 a1 t287 t288 _ ?side1 ?side2 A5.out).mono ?_); (case side1 => repeat (first | exact (Kd.C_below HR0.out HB.out) | (with_reducible refine Kd.C_alloc ?_ _) | (with_reducible refine Kd.C_drewN ?_ _) | (with_reducible refine Kd.C_drew ?_))); (case side2 => exact HC0.out); rintro e w15 ⟨v289, rfl, ho0, hb⟩; refine ⟨_, rfl, ?_⟩; have n0_ := Aside0.mk (Kd.R_lower ho0 (below_size (by repeat (first | (with_reducible first | exact HB.out | apply below_alloc | apply pw_below_drewN | apply below_drew1) | exact HB.out)))); have n1_ := Aside0.mk (below_step (by repeat (first | (with_reducible first | exact HB.out | apply below_alloc | apply pw_below_drewN | apply below_drew1) | exact HB.out)) hb); clear HB; have HO290 := n0_; have HB := n1_; clear n0_ n1_; (try clear hb); (try clear hb2); (try clear hk); (try clear hi); (try clear ho0)) | ((with_reducible refine gate_callee (f := 16) rfl ?_); refine goesL_ (some 20) rfl rfl Try.func16 (by kernel_rfl) rfl #[.slice A0 l0.length c0, .bool a1] rfl (by (try simp only [List.map_toArray, List.map_cons, List.map_nil]); first | done | rfl | (simp only [List.length_drop, List.length_take]; rfl)) ?_; (with_reducible refine (tinderref13_Encode.calls k _ _ l0 a1 t291 t292 _ ?side1 ?side2 A6.out).mono ?_); (case side1 => repeat (first | exact (Kd.C_below HR0.out HB.out) | (with_reducible refine Kd.C_alloc ?_ _) | (with_reducible refine Kd.C_drewN ?_ _) | (with_reducible refine Kd.C_drew ?_))); (case side2 => exact HC0.out); rintro e w16 ⟨v293, rfl, ho0, hb⟩; refine ⟨_, rfl, ?_⟩; have n0_ := Aside0.mk (Kd.R_elder' (by (with_reducible repeat (first | apply Kd.R_alloc | apply Kd.R_drewN | apply Kd.R_drew)); exact HO290.out) (Kd.R_base ho0) hb); have n1_ := Aside0.mk (Kd.R_lower (Kd.R_new' ho0 (Kd.R_lt (by (with_reducible repeat (first | apply Kd.R_alloc | apply Kd.R_drewN | apply Kd.R_drew)); exact HO290.out))) (below_size (by repeat (first | (with_reducible first | exact HB.out | apply below_alloc | apply pw_below_drewN | apply below_drew1) | exact HB.out)))); have n2_ := Aside0.mk (below_step (by repeat (first | (with_reducible first | exact HB.out | apply below_alloc | apply pw_below_drewN | apply below_drew1) | exact HB.out)) hb); clear HO290; clear HB; have HO290 := n0_; have HO294 := n1_; have HB := n2_; clear n0_ n1_ n2_; (try clear hb); (try clear hb2); (try clear hk); (try clear hi); (try clear ho0); obtain ⟨Ao17, co17, eo17⟩ := Kd.R_slice HO290.out; subst eo17; obtain ⟨Ao18, co18, eo18⟩ := Kd.R_slice HO294.out; subst eo18) | ((with_reducible refine gate_callee (f := 14) rfl ?_); refine goesL_ (some 25) rfl rfl Try.func14 (by kernel_rfl) rfl #[.slice Ao17 t287.length co17, .slice Ao18 t291.length co18] rfl (by (try simp only [List.map_toArray, List.map_cons, List.map_nil]); first | done | rfl | (simp only [List.length_drop, List.length_take]; rfl)) ?_; (with_reducible refine (tinderref04_Same.calls _ _ t287 _ _ t291 false _ ?side1 ?side2 ?side3 ?side4 A7.out).mono ?_); (case side1 => repeat (first | exact (Kd.R_reads' HO290.out).2.2 | (with_reducible refine Kd.C_alloc ?_ _) | (with_reducible refine Kd.C_drewN ?_ _) | (with_reducible refine Kd.C_drew ?_))); (case side2 => exact (Kd.R_reads' HO290.out).2.1); (case side3 => repeat (first | exact (Kd.R_reads' HO294.out).2.2 | (with_reducible refine Kd.C_alloc ?_ _) | (with_reducible refine Kd.C_drewN ?_ _) | (with_reducible refine Kd.C_drew ?_))); (case side4 => exact (Kd.R_reads' HO294.out).2.1); rintro e w' ⟨rfl, ⟨nd, rfl⟩⟩; refine ⟨_, rfl, ?_⟩))
      go_ret
      exact ⟨by first | rfl | (simp [errW_none, errW_some] <;> rfl) | (simp [*, errW_none, errW_some] <;> rfl), by repeat (first | (with_reducible first | exact HB.out | apply below_alloc | apply pw_below_drewN | apply below_drew1) | exact HB.out)⟩
  · replace c4 := Bool.eq_false_iff.mpr c4
    subst c4
    have H1 : (some false) = some r := by rw [if_neg (show ¬ (false = true) by decide)] at H; exact H
    clear H
    have H := H1
    clear H1
    obtain rfl := Option.some.inj H
    go_enter Try.func5, Try.ntmps5
    go_wp2_with (first | ((with_reducible refine gate_callee (f := 9) rfl ?_); refine goesL_ (some 9) rfl rfl Try.func9 (by kernel_rfl) rfl #[] rfl (by (try simp only [List.map_toArray, List.map_cons, List.map_nil]); first | done | rfl | (simp only [List.length_drop, List.length_take]; rfl)) ?_; (with_reducible refine (tinderlaw13_alive.calls k  false _ A3.out).mono ?_); rintro e w19 ⟨rfl, hb⟩; refine ⟨_, rfl, ?_⟩; have n0_ := Aside0.mk (below_step (by repeat (first | (with_reducible first | exact HB.out | apply below_alloc | apply pw_below_drewN | apply below_drew1) | exact HB.out)) hb); clear HB; have HB := n0_; clear n0_; (try clear hb); (try clear hb2); (try clear hk); (try clear hi)))
    go_ret
    exact ⟨by first | rfl | (simp [errW_none, errW_some] <;> rfl) | (simp [*, errW_none, errW_some] <;> rfl), by repeat (first | (with_reducible first | exact HB.out | apply below_alloc | apply pw_below_drewN | apply below_drew1) | exact HB.out)⟩

/-! ### tinderref13_Size: function 18 -/
def tinderref13_Size.f (k : Nat) (a0_0 : Int) (a0_1 : Int) (a0_2 : ByteArray) (a0_3 : Int) (a1 : Bool) : Option (Int) := (tinderref13_Bytes.f k a0_0 a0_1 a0_2 a0_3 a1).bind fun bt297 => (if bt297.2 = true then (some (bt297.1.length : Int)) else (some 0))
theorem tinderref13_Size.mono : ∀ a0 a1 a2 a3 a4 k, LeO (tinderref13_Size.f k a0 a1 a2 a3 a4) (tinderref13_Size.f (k + 1) a0 a1 a2 a3 a4) := by
  intro a0 a1 a2 a3 a4 k
  unfold tinderref13_Size.f
  repeat' first
      | (with_reducible exact tinderref13_Bytes.mono _ _ _ _ _ _)
      | (with_reducible exact LeO.refl _)
      | (with_reducible exact LeO.none _)
      | (with_reducible refine LeO.ite ?_ ?_)
      | (with_reducible refine LeO.bind ?_ (fun _ => ?_))
      | exact tinderref13_Bytes.mono _ _ _ _ _ _
      | exact LeO.none _
      | refine LeO.ite ?_ ?_
      | refine LeO.bind ?_ (fun _ => ?_)
set_option maxHeartbeats 8000000 in
set_option maxRecDepth 100000 in
theorem tinderref13_Size.calls (k : Nat) (a0_0 : Int) (a0_1 : Int) (a0_2 : ByteArray) (a0_3 : Int) (a1 : Bool) (r : Int) (w : World) (h : tinderref13_Size.f k a0_0 a0_1 a0_2 a0_3 a1 = some r) :
    Calls Try.prog 18 #[.agg #[.int .i64 a0_0, .int .u32 a0_1, .string a0_2, .int .i64 a0_3], .bool a1] w fun e w' => e = .returned (.int .i64 r) ∧ Below w.heap.size w w' := by
  have hu34 := Try.underlying34
  have HB := Aside0.mk (Below.refl w.heap.size w)
  have H : ((tinderref13_Bytes.f k a0_0 a0_1 a0_2 a0_3 a1).bind fun bt297 => (if bt297.2 = true then (some (bt297.1.length : Int)) else (some 0))) = some r := h
  clear h
  replace H := Option.bind_eq_some_iff.mp H
  obtain ⟨⟨t297, t300⟩, A30, H⟩ := H
  replace H : (if t300 = true then (some (t297.length : Int)) else (some 0)) = some r := H
  have A3 := Aside0.mk A30
  clear A30
  by_cases c4 : t300 = true
  · subst c4
    have H1 : (some (t297.length : Int)) = some r := by rw [if_pos rfl] at H; exact H
    clear H
    have H := H1
    clear H1
    obtain rfl := Option.some.inj H
    go_enter Try.func18, Try.ntmps18
    go_wp2_with (first | ((with_reducible refine gate_dst (N := 2) rfl ?_); refine box_event ?hg (N := 2) ?hd (cs := #[.int .i64 a0_0, .int .u32 a0_1, .string a0_2, .int .i64 a0_3]) (t := 34) ?hr ?_; (case hd => rfl); (case hg => rfl); (case hr => first | (go_simp; done) | (go_simp; rfl)); intro gb296 hg w5 hbox hb; have n0_ := Aside0.mk (below_step (by repeat (first | (with_reducible first | exact HB.out | apply below_alloc | apply pw_below_drewN | apply below_drew1) | exact HB.out)) hb); have n1_ := Aside0.mk (hbox); have n2_ := Aside0.mk ((by rw [hg]; exact (below_size (by repeat (first | (with_reducible first | exact HB.out | apply below_alloc | apply pw_below_drewN | apply below_drew1) | exact HB.out))) : w.heap.size ≤ gb296)); have n3_ := Aside0.mk ((by rw [hg]; exact (below_size (by repeat (first | (with_reducible first | exact HB.out | apply below_alloc | apply pw_below_drewN | apply below_drew1) | exact HB.out))) : w.heap.size ≤ gb296)); clear HB; have HB := n0_; have BK296 := n1_; have GW296 := n2_; have GE296 := n3_; clear n0_ n1_ n2_ n3_; clear hb hbox hg; have hcz6_0 : w5.cell? ⟨gb296, 0, none⟩ = some (.int .i64 a0_0) := (blk_cell BK296.out 0).trans rfl; have hcz6_1 : w5.cell? ⟨gb296, 1, none⟩ = some (.int .u32 a0_1) := (blk_cell BK296.out 1).trans rfl; have hcz6_2 : w5.cell? ⟨gb296, 2, none⟩ = some (.string a0_2) := (blk_cell BK296.out 2).trans rfl; have hcz6_3 : w5.cell? ⟨gb296, 3, none⟩ = some (.int .i64 a0_3) := (blk_cell BK296.out 3).trans rfl; have hfz6_0 := blk_frozen BK296.out 0; have hfz6_1 := blk_frozen BK296.out 1; have hfz6_2 := blk_frozen BK296.out 2; have hfz6_3 := blk_frozen BK296.out 3) | ((with_reducible refine gate_callee (f := 23) rfl ?_); refine goesL_ (some 10) rfl rfl Try.func23 (by kernel_rfl) rfl #[.agg #[.int .i64 a0_0, .int .u32 a0_1, .string a0_2, .int .i64 a0_3], .bool a1] rfl (by (try simp only [List.map_toArray, List.map_cons, List.map_nil]); first | done | rfl | (simp only [List.length_drop, List.length_take]; rfl)) ?_; (with_reducible refine (tinderref13_Bytes.calls k a0_0 a0_1 a0_2 a0_3 a1 t297 true _ A3.out).mono ?_); rintro e w7 ⟨v298, rfl, ho0, hb⟩; refine ⟨_, rfl, ?_⟩; have n0_ := Aside0.mk (Kd.R_lower ho0 (below_size (by repeat (first | (with_reducible first | exact HB.out | apply below_alloc | apply pw_below_drewN | apply below_drew1 | refine below_set ?_ GE296.out) | exact HB.out)))); have n1_ := Aside0.mk (blk_below (g := gb296) (o := .cells #[.int .i64 a0_0, .int .u32 a0_1, .string a0_2, .int .i64 a0_3] 34 (0, 0)) (by (with_reducible repeat (first | refine blk_drewN ?_ _ | refine blk_drew ?_ | refine blk_alloc ?_ _)); exact BK296.out) hb); have n2_ := Aside0.mk (below_step (by repeat (first | (with_reducible first | exact HB.out | apply below_alloc | apply pw_below_drewN | apply below_drew1 | refine below_set ?_ GE296.out) | exact HB.out)) hb); clear BK296; clear HB; have HO299 := n0_; have BK296 := n1_; have HB := n2_; clear n0_ n1_ n2_; (try clear hb); (try clear hb2); (try clear hk); (try clear hi); (try clear ho0); obtain ⟨Ao8, co8, eo8⟩ := Kd.R_slice HO299.out; subst eo8))
    go_ret
    exact ⟨by first | rfl | (simp [errW_none, errW_some] <;> rfl) | (simp [*, errW_none, errW_some] <;> rfl), by repeat (first | (with_reducible first | exact HB.out | apply below_alloc | apply pw_below_drewN | apply below_drew1 | refine below_set ?_ GE296.out) | exact HB.out)⟩
  · replace c4 := Bool.eq_false_iff.mpr c4
    subst c4
    have H1 : (some 0) = some r := by rw [if_neg (show ¬ (false = true) by decide)] at H; exact H
    clear H
    have H := H1
    clear H1
    obtain rfl := Option.some.inj H
    go_enter Try.func18, Try.ntmps18
    go_wp2_with (first | ((with_reducible refine gate_dst (N := 2) rfl ?_); refine box_event ?hg (N := 2) ?hd (cs := #[.int .i64 a0_0, .int .u32 a0_1, .string a0_2, .int .i64 a0_3]) (t := 34) ?hr ?_; (case hd => rfl); (case hg => rfl); (case hr => first | (go_simp; done) | (go_simp; rfl)); intro gb296 hg w9 hbox hb; have n0_ := Aside0.mk (below_step (by repeat (first | (with_reducible first | exact HB.out | apply below_alloc | apply pw_below_drewN | apply below_drew1) | exact HB.out)) hb); have n1_ := Aside0.mk (hbox); have n2_ := Aside0.mk ((by rw [hg]; exact (below_size (by repeat (first | (with_reducible first | exact HB.out | apply below_alloc | apply pw_below_drewN | apply below_drew1) | exact HB.out))) : w.heap.size ≤ gb296)); have n3_ := Aside0.mk ((by rw [hg]; exact (below_size (by repeat (first | (with_reducible first | exact HB.out | apply below_alloc | apply pw_below_drewN | apply below_drew1) | exact HB.out))) : w.heap.size ≤ gb296)); clear HB; have HB := n0_; have BK296 := n1_; have GW296 := n2_; have GE296 := n3_; clear n0_ n1_ n2_ n3_; clear hb hbox hg; have hcz10_0 : w9.cell? ⟨gb296, 0, none⟩ = some (.int .i64 a0_0) := (blk_cell BK296.out 0).trans rfl; have hcz10_1 : w9.cell? ⟨gb296, 1, none⟩ = some (.int .u32 a0_1) := (blk_cell BK296.out 1).trans rfl; have hcz10_2 : w9.cell? ⟨gb296, 2, none⟩ = some (.string a0_2) := (blk_cell BK296.out 2).trans rfl; have hcz10_3 : w9.cell? ⟨gb296, 3, none⟩ = some (.int .i64 a0_3) := (blk_cell BK296.out 3).trans rfl; have hfz10_0 := blk_frozen BK296.out 0; have hfz10_1 := blk_frozen BK296.out 1; have hfz10_2 := blk_frozen BK296.out 2; have hfz10_3 := blk_frozen BK296.out 3) | ((with_reducible refine gate_callee (f := 23) rfl ?_); refine goesL_ (some 10) rfl rfl Try.func23 (by kernel_rfl) rfl #[.agg #[.int .i64 a0_0, .int .u32 a0_1, .string a0_2, .int .i64 a0_3], .bool a1] rfl (by (try simp only [List.map_toArray, List.map_cons, List.map_nil]); first | done | rfl | (simp only [List.length_drop, List.length_take]; rfl)) ?_; (with_reducible refine (tinderref13_Bytes.calls k a0_0 a0_1 a0_2 a0_3 a1 t297 false _ A3.out).mono ?_); rintro e w11 ⟨v298, rfl, ho0, hb⟩; refine ⟨_, rfl, ?_⟩; have n0_ := Aside0.mk (Kd.R_lower ho0 (below_size (by repeat (first | (with_reducible first | exact HB.out | apply below_alloc | apply pw_below_drewN | apply below_drew1 | refine below_set ?_ GE296.out) | exact HB.out)))); have n1_ := Aside0.mk (blk_below (g := gb296) (o := .cells #[.int .i64 a0_0, .int .u32 a0_1, .string a0_2, .int .i64 a0_3] 34 (0, 0)) (by (with_reducible repeat (first | refine blk_drewN ?_ _ | refine blk_drew ?_ | refine blk_alloc ?_ _)); exact BK296.out) hb); have n2_ := Aside0.mk (below_step (by repeat (first | (with_reducible first | exact HB.out | apply below_alloc | apply pw_below_drewN | apply below_drew1 | refine below_set ?_ GE296.out) | exact HB.out)) hb); clear BK296; clear HB; have HO299 := n0_; have BK296 := n1_; have HB := n2_; clear n0_ n1_ n2_; (try clear hb); (try clear hb2); (try clear hk); (try clear hi); (try clear ho0)))
    go_ret
    exact ⟨by first | rfl | (simp [errW_none, errW_some] <;> rfl) | (simp [*, errW_none, errW_some] <;> rfl), by repeat (first | (with_reducible first | exact HB.out | apply below_alloc | apply pw_below_drewN | apply below_drew1 | refine below_set ?_ GE296.out) | exact HB.out)⟩

/-! ### tinderlaw13_TokenSizes: function 6 -/
def tinderlaw13_TokenSizes.f (k : Nat) (a0_0 : Int) (a0_1 : Int) (a0_2 : ByteArray) (a0_3 : Int) (a1 : Bool) : Option (Bool) := (tinderlaw13_alive.f k).bind fun t302 => (if t302 = true then ((token_Size.f k a0_0 a0_1 a0_2 a0_3 a1).bind fun t303 => ((token_Encode.f k (([(⟨a0_0, a0_1, a0_2, a0_3⟩ : S34)] : List (S34))) a1).bind fun bt307 => ((tinderref13_Size.f k a0_0 a0_1 a0_2 a0_3 a1).bind fun t311 => (if t303 = t311 then (if ((decide (t303 > 0)) == (bt307.2 == 0)) = true then (some ((bt307.1.length : Int) == t303)) else (some false)) else (some false))))) else (some false))
theorem tinderlaw13_TokenSizes.mono : ∀ a0 a1 a2 a3 a4 k, LeO (tinderlaw13_TokenSizes.f k a0 a1 a2 a3 a4) (tinderlaw13_TokenSizes.f (k + 1) a0 a1 a2 a3 a4) := by
  intro a0 a1 a2 a3 a4 k
  unfold tinderlaw13_TokenSizes.f
  repeat' first
      | (with_reducible exact tinderlaw13_alive.mono _)
      | (with_reducible exact tinderref13_Size.mono _ _ _ _ _ _)
      | (with_reducible exact token_Encode.mono _ _ _)
      | (with_reducible exact token_Size.mono _ _ _ _ _ _)
      | (with_reducible exact LeO.refl _)
      | (with_reducible exact LeO.none _)
      | (with_reducible refine LeO.ite ?_ ?_)
      | (with_reducible refine LeO.bind ?_ (fun _ => ?_))
      | exact tinderlaw13_alive.mono _
      | exact tinderref13_Size.mono _ _ _ _ _ _
      | exact token_Encode.mono _ _ _
      | exact token_Size.mono _ _ _ _ _ _
      | exact LeO.none _
      | refine LeO.ite ?_ ?_
      | refine LeO.bind ?_ (fun _ => ?_)
set_option maxHeartbeats 8000000 in
set_option maxRecDepth 100000 in
theorem tinderlaw13_TokenSizes.calls (k : Nat) (a0_0 : Int) (a0_1 : Int) (a0_2 : ByteArray) (a0_3 : Int) (a1 : Bool) (r : Bool) (w : World) (h : tinderlaw13_TokenSizes.f k a0_0 a0_1 a0_2 a0_3 a1 = some r) :
    Calls Try.prog 6 #[.agg #[.int .i64 a0_0, .int .u32 a0_1, .string a0_2, .int .i64 a0_3], .bool a1] w fun e w' => e = .returned (.bool r) ∧ Below w.heap.size w w' := by
  have hu34 := Try.underlying34
  have HB := Aside0.mk (Below.refl w.heap.size w)
  have H : ((tinderlaw13_alive.f k).bind fun t302 => (if t302 = true then ((token_Size.f k a0_0 a0_1 a0_2 a0_3 a1).bind fun t303 => ((token_Encode.f k (([(⟨a0_0, a0_1, a0_2, a0_3⟩ : S34)] : List (S34))) a1).bind fun bt307 => ((tinderref13_Size.f k a0_0 a0_1 a0_2 a0_3 a1).bind fun t311 => (if t303 = t311 then (if ((decide (t303 > 0)) == (bt307.2 == 0)) = true then (some ((bt307.1.length : Int) == t303)) else (some false)) else (some false))))) else (some false))) = some r := h
  clear h
  replace H := Option.bind_eq_some_iff.mp H
  obtain ⟨t302, A30, H⟩ := H
  replace H : (if t302 = true then ((token_Size.f k a0_0 a0_1 a0_2 a0_3 a1).bind fun t303 => ((token_Encode.f k (([(⟨a0_0, a0_1, a0_2, a0_3⟩ : S34)] : List (S34))) a1).bind fun bt307 => ((tinderref13_Size.f k a0_0 a0_1 a0_2 a0_3 a1).bind fun t311 => (if t303 = t311 then (if ((decide (t303 > 0)) == (bt307.2 == 0)) = true then (some ((bt307.1.length : Int) == t303)) else (some false)) else (some false))))) else (some false)) = some r := H
  have A3 := Aside0.mk A30
  clear A30
  by_cases c4 : t302 = true
  · subst c4
    have H1 : ((token_Size.f k a0_0 a0_1 a0_2 a0_3 a1).bind fun t303 => ((token_Encode.f k (([(⟨a0_0, a0_1, a0_2, a0_3⟩ : S34)] : List (S34))) a1).bind fun bt307 => ((tinderref13_Size.f k a0_0 a0_1 a0_2 a0_3 a1).bind fun t311 => (if t303 = t311 then (if ((decide (t303 > 0)) == (bt307.2 == 0)) = true then (some ((bt307.1.length : Int) == t303)) else (some false)) else (some false))))) = some r := by rw [if_pos rfl] at H; exact H
    clear H
    have H := H1
    clear H1
    replace H := Option.bind_eq_some_iff.mp H
    obtain ⟨t303, A50, H⟩ := H
    replace H : ((token_Encode.f k (([(⟨a0_0, a0_1, a0_2, a0_3⟩ : S34)] : List (S34))) a1).bind fun bt307 => ((tinderref13_Size.f k a0_0 a0_1 a0_2 a0_3 a1).bind fun t311 => (if t303 = t311 then (if ((decide (t303 > 0)) == (bt307.2 == 0)) = true then (some ((bt307.1.length : Int) == t303)) else (some false)) else (some false)))) = some r := H
    have A5 := Aside0.mk A50
    clear A50
    obtain ⟨y304, hy304⟩ : ∃ y_ : List (S34), y_ = (([(⟨a0_0, a0_1, a0_2, a0_3⟩ : S34)] : List (S34))) := ⟨_, rfl⟩
    replace H : ((token_Encode.f k y304 a1).bind fun bt307 => ((tinderref13_Size.f k a0_0 a0_1 a0_2 a0_3 a1).bind fun t311 => (if t303 = t311 then (if ((decide (t303 > 0)) == (bt307.2 == 0)) = true then (some ((bt307.1.length : Int) == t303)) else (some false)) else (some false)))) = some r := by first | (rw [hy304]; with_reducible exact H) | (have H2_ := (Option.bind_some _ _).symm.trans H; rw [hy304]; with_reducible exact H2_) | (have H2_ := (Option.bind_some _ _).symm.trans H; with_reducible exact H2_) | with_reducible exact H | (rw [hy304]; exact H) | exact H
    have Ny304 := Aside0.mk hy304
    clear hy304
    replace H := Option.bind_eq_some_iff.mp H
    obtain ⟨⟨t307, t308⟩, A60, H⟩ := H
    replace H : ((tinderref13_Size.f k a0_0 a0_1 a0_2 a0_3 a1).bind fun t311 => (if t303 = t311 then (if ((decide (t303 > 0)) == (t308 == 0)) = true then (some ((t307.length : Int) == t303)) else (some false)) else (some false))) = some r := H
    have A6 := Aside0.mk A60
    clear A60
    replace H := Option.bind_eq_some_iff.mp H
    obtain ⟨t311, A70, H⟩ := H
    replace H : (if t303 = t311 then (if ((decide (t303 > 0)) == (t308 == 0)) = true then (some ((t307.length : Int) == t303)) else (some false)) else (some false)) = some r := H
    have A7 := Aside0.mk A70
    clear A70
    by_cases c8 : t303 = t311
    · rw [if_pos c8] at H
      have c8b0 : (t303 == t311) = true := beq_iff_eq.mpr c8
      have c8b1 : (t303 != t311) = false := bne_eq_false_iff_eq.mpr c8
      clear c8
      by_cases c9 : ((decide (t303 > 0)) == (t308 == 0)) = true
      · rw [if_pos c9] at H
        have c9b0 : ((decide (t303 > 0)) == (t308 == 0)) = true := c9
        (try (have c9b1 : decide ((decide (t303 > 0)) = (t308 == 0)) = true := by simpa using c9))
        (try (have c9b2 : ((decide (t303 > 0)) == (t308 == 0)) = true := by simpa using c9))
        clear c9
        obtain rfl := Option.some.inj H
        go_enter Try.func6, Try.ntmps6
        go_wp2_with (first | ((with_reducible refine gate_dst (N := 2) rfl ?_); (try (refine gate_guard (by rfl) ?_; dsimp only)); refine box_event ?hg (N := 2) ?hd (cs := #[.int .i64 a0_0, .int .u32 a0_1, .string a0_2, .int .i64 a0_3]) (t := 34) ?hr ?_; (case hd => rfl); (case hg => rfl); (case hr => first | (go_simp; done) | (go_simp; rfl)); intro gb301 hg w10 hbox hb; have n0_ := Aside0.mk (below_step (by repeat (first | (with_reducible first | exact HB.out | apply below_alloc | apply pw_below_drewN | apply below_drew1) | exact HB.out)) hb); have n1_ := Aside0.mk (hbox); have n2_ := Aside0.mk ((by rw [hg]; exact (below_size (by repeat (first | (with_reducible first | exact HB.out | apply below_alloc | apply pw_below_drewN | apply below_drew1) | exact HB.out))) : w.heap.size ≤ gb301)); have n3_ := Aside0.mk ((by rw [hg]; exact (below_size (by repeat (first | (with_reducible first | exact HB.out | apply below_alloc | apply pw_below_drewN | apply below_drew1) | exact HB.out))) : w.heap.size ≤ gb301)); clear HB; have HB := n0_; have BK301 := n1_; have GW301 := n2_; have GE301 := n3_; clear n0_ n1_ n2_ n3_; clear hb hbox hg) | ((with_reducible refine gate_callee (f := 9) rfl ?_); refine goesL_ (some 8) rfl rfl Try.func9 (by kernel_rfl) rfl #[] rfl (by (try simp only [List.map_toArray, List.map_cons, List.map_nil]); first | done | rfl | (simp only [List.length_drop, List.length_take]; rfl)) ?_; (with_reducible refine (tinderlaw13_alive.calls k  true _ A3.out).mono ?_); rintro e w11 ⟨rfl, hb⟩; refine ⟨_, rfl, ?_⟩; have n0_ := Aside0.mk (blk_below (g := gb301) (o := .cells #[.int .i64 a0_0, .int .u32 a0_1, .string a0_2, .int .i64 a0_3] 34 (0, 0)) (by (with_reducible repeat (first | refine blk_drewN ?_ _ | refine blk_drew ?_ | refine blk_alloc ?_ _)); exact BK301.out) hb); have n1_ := Aside0.mk (below_step (by repeat (first | (with_reducible first | exact HB.out | apply below_alloc | apply pw_below_drewN | apply below_drew1 | refine below_set ?_ GE301.out) | exact HB.out)) hb); clear BK301; clear HB; have BK301 := n0_; have HB := n1_; clear n0_ n1_; (try clear hb); (try clear hb2); (try clear hk); (try clear hi); have hcz12_0 : w11.cell? ⟨gb301, 0, none⟩ = some (.int .i64 a0_0) := (blk_cell BK301.out 0).trans rfl; have hcz12_1 : w11.cell? ⟨gb301, 1, none⟩ = some (.int .u32 a0_1) := (blk_cell BK301.out 1).trans rfl; have hcz12_2 : w11.cell? ⟨gb301, 2, none⟩ = some (.string a0_2) := (blk_cell BK301.out 2).trans rfl; have hcz12_3 : w11.cell? ⟨gb301, 3, none⟩ = some (.int .i64 a0_3) := (blk_cell BK301.out 3).trans rfl; have hfz12_0 := blk_frozen BK301.out 0; have hfz12_1 := blk_frozen BK301.out 1; have hfz12_2 := blk_frozen BK301.out 2; have hfz12_3 := blk_frozen BK301.out 3) | ((with_reducible refine gate_callee (f := 17) rfl ?_); refine goesL_ (some 12) rfl rfl Try.func17 (by kernel_rfl) rfl #[.agg #[.int .i64 a0_0, .int .u32 a0_1, .string a0_2, .int .i64 a0_3], .bool a1] rfl (by (try simp only [List.map_toArray, List.map_cons, List.map_nil]); first | done | rfl | (simp only [List.length_drop, List.length_take]; rfl)) ?_; (with_reducible refine (token_Size.calls k a0_0 a0_1 a0_2 a0_3 a1 t303 _ A5.out).mono ?_); rintro e w13 ⟨rfl, hb⟩; refine ⟨_, rfl, ?_⟩; have n0_ := Aside0.mk (blk_below (g := gb301) (o := .cells #[.int .i64 a0_0, .int .u32 a0_1, .string a0_2, .int .i64 a0_3] 34 (0, 0)) (by (with_reducible repeat (first | refine blk_drewN ?_ _ | refine blk_drew ?_ | refine blk_alloc ?_ _)); exact BK301.out) hb); have n1_ := Aside0.mk (below_step (by repeat (first | (with_reducible first | exact HB.out | apply below_alloc | apply pw_below_drewN | apply below_drew1 | refine below_set ?_ GE301.out) | exact HB.out)) hb); clear BK301; clear HB; have BK301 := n0_; have HB := n1_; clear n0_ n1_; (try clear hb); (try clear hb2); (try clear hk); (try clear hi); have hcz14_0 : w13.cell? ⟨gb301, 0, none⟩ = some (.int .i64 a0_0) := (blk_cell BK301.out 0).trans rfl; have hcz14_1 : w13.cell? ⟨gb301, 1, none⟩ = some (.int .u32 a0_1) := (blk_cell BK301.out 1).trans rfl; have hcz14_2 : w13.cell? ⟨gb301, 2, none⟩ = some (.string a0_2) := (blk_cell BK301.out 2).trans rfl; have hcz14_3 : w13.cell? ⟨gb301, 3, none⟩ = some (.int .i64 a0_3) := (blk_cell BK301.out 3).trans rfl; have hfz14_0 := blk_frozen BK301.out 0; have hfz14_1 := blk_frozen BK301.out 1; have hfz14_2 := blk_frozen BK301.out 2; have hfz14_3 := blk_frozen BK301.out 3) | ((with_reducible refine gate_dst (N := 15) rfl ?_); (try (refine gate_guard (by rfl) ?_; dsimp only)); refine Kd.R_lit k34 _ 34 ?hg (N := 15) ?hd (xs := ([(⟨a0_0, a0_1, a0_2, a0_3⟩ : S34)] : List (S34))) (inner := [.int .i64 a0_0, .int .u32 a0_1, .string a0_2, .int .i64 a0_3]) (ok := fun _ => True) (okp := fun _ => True) ?hr ?hp (fun _ hk => hk) trivial (Below.refl _ _) (Nat.le_refl _) (by simp) ?_; (case hd => rfl); (case hg => rfl); (case hr => first | (go_simp; done) | (go_simp; rfl)); (case hp => exact (Reps.c4 (show Kd.M k34 _ _ _ (⟨a0_0, a0_1, a0_2, a0_3⟩ : S34) [.int .i64 a0_0, .int .u32 a0_1, .string a0_2, .int .i64 a0_3] from (k34_mkM _ _ _ (⟨a0_0, a0_1, a0_2, a0_3⟩ : S34) )) (Reps.none _ _))); intro v305 w15 ho16 hb hg_ hnew_; clear hg_ hnew_; (first | rw [← Ny304.out] at ho16 | (simp only [Int.reduceToNat] at ho16; rw [← Ny304.out] at ho16)); have n0_ := Aside0.mk (Kd.R_lower (Kd.R_newB ho16 (g := gb301) (o := .cells #[.int .i64 a0_0, .int .u32 a0_1, .string a0_2, .int .i64 a0_3] 34 (0, 0)) (by (with_reducible repeat (first | refine blk_drewN ?_ _ | refine blk_drew ?_ | refine blk_alloc ?_ _)); exact BK301.out)) (below_size (by repeat (first | (with_reducible first | exact HB.out | apply below_alloc | apply pw_below_drewN | apply below_drew1 | refine below_set ?_ GE301.out) | exact HB.out)))); have n1_ := Aside0.mk (blk_below (g := gb301) (o := .cells #[.int .i64 a0_0, .int .u32 a0_1, .string a0_2, .int .i64 a0_3] 34 (0, 0)) (by (with_reducible repeat (first | refine blk_drewN ?_ _ | refine blk_drew ?_ | refine blk_alloc ?_ _)); exact BK301.out) hb); have n2_ := Aside0.mk (below_step (by repeat (first | (with_reducible first | exact HB.out | apply below_alloc | apply pw_below_drewN | apply below_drew1 | refine below_set ?_ GE301.out) | exact HB.out)) hb); clear BK301; clear HB; have HO306 := n0_; have BK301 := n1_; have HB := n2_; clear n0_ n1_ n2_; clear hb ho16; obtain ⟨Ao17, co17, eo17⟩ := Kd.R_slice HO306.out; subst eo17) | ((with_reducible refine gate_callee (f := 15) rfl ?_); refine goesL_ (some 17) rfl rfl Try.func15 (by kernel_rfl) rfl #[.slice Ao17 y304.length co17, .bool a1] rfl (by (try simp only [List.map_toArray, List.map_cons, List.map_nil]); first | done | rfl | (simp only [List.length_drop, List.length_take]; rfl)) ?_; (with_reducible refine (token_Encode.calls k _ _ y304 a1 t307 t308 _ ?side1 ?side2 A6.out).mono ?_); (case side1 => repeat (first | exact (Kd.R_reads' HO306.out).2.2 | (with_reducible refine Kd.C_alloc ?_ _) | (with_reducible refine Kd.C_drewN ?_ _) | (with_reducible refine Kd.C_drew ?_))); (case side2 => exact (Kd.R_reads' HO306.out).2.1); rintro e w18 ⟨v309, rfl, ho0, hb⟩; refine ⟨_, rfl, ?_⟩; have n0_ := Aside0.mk (Kd.R_below (by (with_reducible repeat (first | apply Kd.R_alloc | apply Kd.R_drewN | apply Kd.R_drew)); exact HO306.out) hb); have n1_ := Aside0.mk (Kd.R_lower ho0 (below_size (by repeat (first | (with_reducible first | exact HB.out | apply below_alloc | apply pw_below_drewN | apply below_drew1 | refine below_set ?_ GE301.out) | exact HB.out)))); have n2_ := Aside0.mk (blk_below (g := gb301) (o := .cells #[.int .i64 a0_0, .int .u32 a0_1, .string a0_2, .int .i64 a0_3] 34 (0, 0)) (by (with_reducible repeat (first | refine blk_drewN ?_ _ | refine blk_drew ?_ | refine blk_alloc ?_ _)); exact BK301.out) hb); have n3_ := Aside0.mk (below_step (by repeat (first | (with_reducible first | exact HB.out | apply below_alloc | apply pw_below_drewN | apply below_drew1 | refine below_set ?_ GE301.out) | exact HB.out)) hb); clear HO306; clear BK301; clear HB; have HO306 := n0_; have HO310 := n1_; have BK301 := n2_; have HB := n3_; clear n0_ n1_ n2_ n3_; (try clear hb); (try clear hb2); (try clear hk); (try clear hi); (try clear ho0); have hcz19_0 : w18.cell? ⟨gb301, 0, none⟩ = some (.int .i64 a0_0) := (blk_cell BK301.out 0).trans rfl; have hcz19_1 : w18.cell? ⟨gb301, 1, none⟩ = some (.int .u32 a0_1) := (blk_cell BK301.out 1).trans rfl; have hcz19_2 : w18.cell? ⟨gb301, 2, none⟩ = some (.string a0_2) := (blk_cell BK301.out 2).trans rfl; have hcz19_3 : w18.cell? ⟨gb301, 3, none⟩ = some (.int .i64 a0_3) := (blk_cell BK301.out 3).trans rfl; have hfz19_0 := blk_frozen BK301.out 0; have hfz19_1 := blk_frozen BK301.out 1; have hfz19_2 := blk_frozen BK301.out 2; have hfz19_3 := blk_frozen BK301.out 3) | ((with_reducible refine gate_callee (f := 18) rfl ?_); refine goesL_ (some 23) rfl rfl Try.func18 (by kernel_rfl) rfl #[.agg #[.int .i64 a0_0, .int .u32 a0_1, .string a0_2, .int .i64 a0_3], .bool a1] rfl (by (try simp only [List.map_toArray, List.map_cons, List.map_nil]); first | done | rfl | (simp only [List.length_drop, List.length_take]; rfl)) ?_; (with_reducible refine (tinderref13_Size.calls k a0_0 a0_1 a0_2 a0_3 a1 t311 _ A7.out).mono ?_); rintro e w20 ⟨rfl, hb⟩; refine ⟨_, rfl, ?_⟩; have n0_ := Aside0.mk (Kd.R_below (by (with_reducible repeat (first | apply Kd.R_alloc | apply Kd.R_drewN | apply Kd.R_drew)); exact HO306.out) hb); have n1_ := Aside0.mk (Kd.R_below (by (with_reducible repeat (first | apply Kd.R_alloc | apply Kd.R_drewN | apply Kd.R_drew)); exact HO310.out) hb); have n2_ := Aside0.mk (blk_below (g := gb301) (o := .cells #[.int .i64 a0_0, .int .u32 a0_1, .string a0_2, .int .i64 a0_3] 34 (0, 0)) (by (with_reducible repeat (first | refine blk_drewN ?_ _ | refine blk_drew ?_ | refine blk_alloc ?_ _)); exact BK301.out) hb); have n3_ := Aside0.mk (below_step (by repeat (first | (with_reducible first | exact HB.out | apply below_alloc | apply pw_below_drewN | apply below_drew1 | refine below_set ?_ GE301.out) | exact HB.out)) hb); clear HO306; clear HO310; clear BK301; clear HB; have HO306 := n0_; have HO310 := n1_; have BK301 := n2_; have HB := n3_; clear n0_ n1_ n2_ n3_; (try clear hb); (try clear hb2); (try clear hk); (try clear hi); obtain ⟨Ao21, co21, eo21⟩ := Kd.R_slice HO310.out; subst eo21))
        go_ret
        exact ⟨by first | rfl | (simp [errW_none, errW_some] <;> rfl) | (simp [*, errW_none, errW_some] <;> rfl), by repeat (first | (with_reducible first | exact HB.out | apply below_alloc | apply pw_below_drewN | apply below_drew1 | refine below_set ?_ GE301.out) | exact HB.out)⟩
      · rw [if_neg c9] at H
        have c9b0 : ((decide (t303 > 0)) == (t308 == 0)) = false := by simpa using c9
        (try (have c9b1 : decide ((decide (t303 > 0)) = (t308 == 0)) = false := by simpa using c9))
        (try (have c9b2 : ((decide (t303 > 0)) == (t308 == 0)) = false := by simpa using c9))
        (try (have c9b3 : ¬ ((decide (t303 > 0)) = (t308 == 0)) := by simpa using c9))
        clear c9
        obtain rfl := Option.some.inj H
        go_enter Try.func6, Try.ntmps6
        go_wp2_with (first | ((with_reducible refine gate_dst (N := 2) rfl ?_); (try (refine gate_guard (by rfl) ?_; dsimp only)); refine box_event ?hg (N := 2) ?hd (cs := #[.int .i64 a0_0, .int .u32 a0_1, .string a0_2, .int .i64 a0_3]) (t := 34) ?hr ?_; (case hd => rfl); (case hg => rfl); (case hr => first | (go_simp; done) | (go_simp; rfl)); intro gb301 hg w22 hbox hb; have n0_ := Aside0.mk (below_step (by repeat (first | (with_reducible first | exact HB.out | apply below_alloc | apply pw_below_drewN | apply below_drew1) | exact HB.out)) hb); have n1_ := Aside0.mk (hbox); have n2_ := Aside0.mk ((by rw [hg]; exact (below_size (by repeat (first | (with_reducible first | exact HB.out | apply below_alloc | apply pw_below_drewN | apply below_drew1) | exact HB.out))) : w.heap.size ≤ gb301)); have n3_ := Aside0.mk ((by rw [hg]; exact (below_size (by repeat (first | (with_reducible first | exact HB.out | apply below_alloc | apply pw_below_drewN | apply below_drew1) | exact HB.out))) : w.heap.size ≤ gb301)); clear HB; have HB := n0_; have BK301 := n1_; have GW301 := n2_; have GE301 := n3_; clear n0_ n1_ n2_ n3_; clear hb hbox hg) | ((with_reducible refine gate_callee (f := 9) rfl ?_); refine goesL_ (some 8) rfl rfl Try.func9 (by kernel_rfl) rfl #[] rfl (by (try simp only [List.map_toArray, List.map_cons, List.map_nil]); first | done | rfl | (simp only [List.length_drop, List.length_take]; rfl)) ?_; (with_reducible refine (tinderlaw13_alive.calls k  true _ A3.out).mono ?_); rintro e w23 ⟨rfl, hb⟩; refine ⟨_, rfl, ?_⟩; have n0_ := Aside0.mk (blk_below (g := gb301) (o := .cells #[.int .i64 a0_0, .int .u32 a0_1, .string a0_2, .int .i64 a0_3] 34 (0, 0)) (by (with_reducible repeat (first | refine blk_drewN ?_ _ | refine blk_drew ?_ | refine blk_alloc ?_ _)); exact BK301.out) hb); have n1_ := Aside0.mk (below_step (by repeat (first | (with_reducible first | exact HB.out | apply below_alloc | apply pw_below_drewN | apply below_drew1 | refine below_set ?_ GE301.out) | exact HB.out)) hb); clear BK301; clear HB; have BK301 := n0_; have HB := n1_; clear n0_ n1_; (try clear hb); (try clear hb2); (try clear hk); (try clear hi); have hcz24_0 : w23.cell? ⟨gb301, 0, none⟩ = some (.int .i64 a0_0) := (blk_cell BK301.out 0).trans rfl; have hcz24_1 : w23.cell? ⟨gb301, 1, none⟩ = some (.int .u32 a0_1) := (blk_cell BK301.out 1).trans rfl; have hcz24_2 : w23.cell? ⟨gb301, 2, none⟩ = some (.string a0_2) := (blk_cell BK301.out 2).trans rfl; have hcz24_3 : w23.cell? ⟨gb301, 3, none⟩ = some (.int .i64 a0_3) := (blk_cell BK301.out 3).trans rfl; have hfz24_0 := blk_frozen BK301.out 0; have hfz24_1 := blk_frozen BK301.out 1; have hfz24_2 := blk_frozen BK301.out 2; have hfz24_3 := blk_frozen BK301.out 3) | ((with_reducible refine gate_callee (f := 17) rfl ?_); refine goesL_ (some 12) rfl rfl Try.func17 (by kernel_rfl) rfl #[.agg #[.int .i64 a0_0, .int .u32 a0_1, .string a0_2, .int .i64 a0_3], .bool a1] rfl (by (try simp only [List.map_toArray, List.map_cons, List.map_nil]); first | done | rfl | (simp only [List.length_drop, List.length_take]; rfl)) ?_; (with_reducible refine (token_Size.calls k a0_0 a0_1 a0_2 a0_3 a1 t303 _ A5.out).mono ?_); rintro e w25 ⟨rfl, hb⟩; refine ⟨_, rfl, ?_⟩; have n0_ := Aside0.mk (blk_below (g := gb301) (o := .cells #[.int .i64 a0_0, .int .u32 a0_1, .string a0_2, .int .i64 a0_3] 34 (0, 0)) (by (with_reducible repeat (first | refine blk_drewN ?_ _ | refine blk_drew ?_ | refine blk_alloc ?_ _)); exact BK301.out) hb); have n1_ := Aside0.mk (below_step (by repeat (first | (with_reducible first | exact HB.out | apply below_alloc | apply pw_below_drewN | apply below_drew1 | refine below_set ?_ GE301.out) | exact HB.out)) hb); clear BK301; clear HB; have BK301 := n0_; have HB := n1_; clear n0_ n1_; (try clear hb); (try clear hb2); (try clear hk); (try clear hi); have hcz26_0 : w25.cell? ⟨gb301, 0, none⟩ = some (.int .i64 a0_0) := (blk_cell BK301.out 0).trans rfl; have hcz26_1 : w25.cell? ⟨gb301, 1, none⟩ = some (.int .u32 a0_1) := (blk_cell BK301.out 1).trans rfl; have hcz26_2 : w25.cell? ⟨gb301, 2, none⟩ = some (.string a0_2) := (blk_cell BK301.out 2).trans rfl; have hcz26_3 : w25.cell? ⟨gb301, 3, none⟩ = some (.int .i64 a0_3) := (blk_cell BK301.out 3).trans rfl; have hfz26_0 := blk_frozen BK301.out 0; have hfz26_1 := blk_frozen BK301.out 1; have hfz26_2 := blk_frozen BK301.out 2; have hfz26_3 := blk_frozen BK301.out 3) | ((with_reducible refine gate_dst (N := 15) rfl ?_); (try (refine gate_guard (by rfl) ?_; dsimp only)); refine Kd.R_lit k34 _ 34 ?hg (N := 15) ?hd (xs := ([(⟨a0_0, a0_1, a0_2, a0_3⟩ : S34)] : List (S34))) (inner := [.int .i64 a0_0, .int .u32 a0_1, .string a0_2, .int .i64 a0_3]) (ok := fun _ => True) (okp := fun _ => True) ?hr ?hp (fun _ hk => hk) trivial (Below.refl _ _) (Nat.le_refl _) (by simp) ?_; (case hd => rfl); (case hg => rfl); (case hr => first | (go_simp; done) | (go_simp; rfl)); (case hp => exact (Reps.c4 (show Kd.M k34 _ _ _ (⟨a0_0, a0_1, a0_2, a0_3⟩ : S34) [.int .i64 a0_0, .int .u32 a0_1, .string a0_2, .int .i64 a0_3] from (k34_mkM _ _ _ (⟨a0_0, a0_1, a0_2, a0_3⟩ : S34) )) (Reps.none _ _))); intro v305 w27 ho28 hb hg_ hnew_; clear hg_ hnew_; (first | rw [← Ny304.out] at ho28 | (simp only [Int.reduceToNat] at ho28; rw [← Ny304.out] at ho28)); have n0_ := Aside0.mk (Kd.R_lower (Kd.R_newB ho28 (g := gb301) (o := .cells #[.int .i64 a0_0, .int .u32 a0_1, .string a0_2, .int .i64 a0_3] 34 (0, 0)) (by (with_reducible repeat (first | refine blk_drewN ?_ _ | refine blk_drew ?_ | refine blk_alloc ?_ _)); exact BK301.out)) (below_size (by repeat (first | (with_reducible first | exact HB.out | apply below_alloc | apply pw_below_drewN | apply below_drew1 | refine below_set ?_ GE301.out) | exact HB.out)))); have n1_ := Aside0.mk (blk_below (g := gb301) (o := .cells #[.int .i64 a0_0, .int .u32 a0_1, .string a0_2, .int .i64 a0_3] 34 (0, 0)) (by (with_reducible repeat (first | refine blk_drewN ?_ _ | refine blk_drew ?_ | refine blk_alloc ?_ _)); exact BK301.out) hb); have n2_ := Aside0.mk (below_step (by repeat (first | (with_reducible first | exact HB.out | apply below_alloc | apply pw_below_drewN | apply below_drew1 | refine below_set ?_ GE301.out) | exact HB.out)) hb); clear BK301; clear HB; have HO306 := n0_; have BK301 := n1_; have HB := n2_; clear n0_ n1_ n2_; clear hb ho28; obtain ⟨Ao29, co29, eo29⟩ := Kd.R_slice HO306.out; subst eo29) | ((with_reducible refine gate_callee (f := 15) rfl ?_); refine goesL_ (some 17) rfl rfl Try.func15 (by kernel_rfl) rfl #[.slice Ao29 y304.length co29, .bool a1] rfl (by (try simp only [List.map_toArray, List.map_cons, List.map_nil]); first | done | rfl | (simp only [List.length_drop, List.length_take]; rfl)) ?_; (with_reducible refine (token_Encode.calls k _ _ y304 a1 t307 t308 _ ?side1 ?side2 A6.out).mono ?_); (case side1 => repeat (first | exact (Kd.R_reads' HO306.out).2.2 | (with_reducible refine Kd.C_alloc ?_ _) | (with_reducible refine Kd.C_drewN ?_ _) | (with_reducible refine Kd.C_drew ?_))); (case side2 => exact (Kd.R_reads' HO306.out).2.1); rintro e w30 ⟨v309, rfl, ho0, hb⟩; refine ⟨_, rfl, ?_⟩; have n0_ := Aside0.mk (Kd.R_below (by (with_reducible repeat (first | apply Kd.R_alloc | apply Kd.R_drewN | apply Kd.R_drew)); exact HO306.out) hb); have n1_ := Aside0.mk (Kd.R_lower ho0 (below_size (by repeat (first | (with_reducible first | exact HB.out | apply below_alloc | apply pw_below_drewN | apply below_drew1 | refine below_set ?_ GE301.out) | exact HB.out)))); have n2_ := Aside0.mk (blk_below (g := gb301) (o := .cells #[.int .i64 a0_0, .int .u32 a0_1, .string a0_2, .int .i64 a0_3] 34 (0, 0)) (by (with_reducible repeat (first | refine blk_drewN ?_ _ | refine blk_drew ?_ | refine blk_alloc ?_ _)); exact BK301.out) hb); have n3_ := Aside0.mk (below_step (by repeat (first | (with_reducible first | exact HB.out | apply below_alloc | apply pw_below_drewN | apply below_drew1 | refine below_set ?_ GE301.out) | exact HB.out)) hb); clear HO306; clear BK301; clear HB; have HO306 := n0_; have HO310 := n1_; have BK301 := n2_; have HB := n3_; clear n0_ n1_ n2_ n3_; (try clear hb); (try clear hb2); (try clear hk); (try clear hi); (try clear ho0); have hcz31_0 : w30.cell? ⟨gb301, 0, none⟩ = some (.int .i64 a0_0) := (blk_cell BK301.out 0).trans rfl; have hcz31_1 : w30.cell? ⟨gb301, 1, none⟩ = some (.int .u32 a0_1) := (blk_cell BK301.out 1).trans rfl; have hcz31_2 : w30.cell? ⟨gb301, 2, none⟩ = some (.string a0_2) := (blk_cell BK301.out 2).trans rfl; have hcz31_3 : w30.cell? ⟨gb301, 3, none⟩ = some (.int .i64 a0_3) := (blk_cell BK301.out 3).trans rfl; have hfz31_0 := blk_frozen BK301.out 0; have hfz31_1 := blk_frozen BK301.out 1; have hfz31_2 := blk_frozen BK301.out 2; have hfz31_3 := blk_frozen BK301.out 3) | ((with_reducible refine gate_callee (f := 18) rfl ?_); refine goesL_ (some 23) rfl rfl Try.func18 (by kernel_rfl) rfl #[.agg #[.int .i64 a0_0, .int .u32 a0_1, .string a0_2, .int .i64 a0_3], .bool a1] rfl (by (try simp only [List.map_toArray, List.map_cons, List.map_nil]); first | done | rfl | (simp only [List.length_drop, List.length_take]; rfl)) ?_; (with_reducible refine (tinderref13_Size.calls k a0_0 a0_1 a0_2 a0_3 a1 t311 _ A7.out).mono ?_); rintro e w32 ⟨rfl, hb⟩; refine ⟨_, rfl, ?_⟩; have n0_ := Aside0.mk (Kd.R_below (by (with_reducible repeat (first | apply Kd.R_alloc | apply Kd.R_drewN | apply Kd.R_drew)); exact HO306.out) hb); have n1_ := Aside0.mk (Kd.R_below (by (with_reducible repeat (first | apply Kd.R_alloc | apply Kd.R_drewN | apply Kd.R_drew)); exact HO310.out) hb); have n2_ := Aside0.mk (blk_below (g := gb301) (o := .cells #[.int .i64 a0_0, .int .u32 a0_1, .string a0_2, .int .i64 a0_3] 34 (0, 0)) (by (with_reducible repeat (first | refine blk_drewN ?_ _ | refine blk_drew ?_ | refine blk_alloc ?_ _)); exact BK301.out) hb); have n3_ := Aside0.mk (below_step (by repeat (first | (with_reducible first | exact HB.out | apply below_alloc | apply pw_below_drewN | apply below_drew1 | refine below_set ?_ GE301.out) | exact HB.out)) hb); clear HO306; clear HO310; clear BK301; clear HB; have HO306 := n0_; have HO310 := n1_; have BK301 := n2_; have HB := n3_; clear n0_ n1_ n2_ n3_; (try clear hb); (try clear hb2); (try clear hk); (try clear hi)))
        go_ret
        exact ⟨by first | rfl | (simp [errW_none, errW_some] <;> rfl) | (simp [*, errW_none, errW_some] <;> rfl), by repeat (first | (with_reducible first | exact HB.out | apply below_alloc | apply pw_below_drewN | apply below_drew1 | refine below_set ?_ GE301.out) | exact HB.out)⟩
    · rw [if_neg c8] at H
      have c8b0 : (t303 == t311) = false := beq_eq_false_iff_ne.mpr c8
      have c8b1 : (t303 != t311) = true := bne_iff_ne.mpr c8
      obtain rfl := Option.some.inj H
      go_enter Try.func6, Try.ntmps6
      go_wp2_with (first | ((with_reducible refine gate_dst (N := 2) rfl ?_); (try (refine gate_guard (by rfl) ?_; dsimp only)); refine box_event ?hg (N := 2) ?hd (cs := #[.int .i64 a0_0, .int .u32 a0_1, .string a0_2, .int .i64 a0_3]) (t := 34) ?hr ?_; (case hd => rfl); (case hg => rfl); (case hr => first | (go_simp; done) | (go_simp; rfl)); intro gb301 hg w33 hbox hb; have n0_ := Aside0.mk (below_step (by repeat (first | (with_reducible first | exact HB.out | apply below_alloc | apply pw_below_drewN | apply below_drew1) | exact HB.out)) hb); have n1_ := Aside0.mk (hbox); have n2_ := Aside0.mk ((by rw [hg]; exact (below_size (by repeat (first | (with_reducible first | exact HB.out | apply below_alloc | apply pw_below_drewN | apply below_drew1) | exact HB.out))) : w.heap.size ≤ gb301)); have n3_ := Aside0.mk ((by rw [hg]; exact (below_size (by repeat (first | (with_reducible first | exact HB.out | apply below_alloc | apply pw_below_drewN | apply below_drew1) | exact HB.out))) : w.heap.size ≤ gb301)); clear HB; have HB := n0_; have BK301 := n1_; have GW301 := n2_; have GE301 := n3_; clear n0_ n1_ n2_ n3_; clear hb hbox hg) | ((with_reducible refine gate_callee (f := 9) rfl ?_); refine goesL_ (some 8) rfl rfl Try.func9 (by kernel_rfl) rfl #[] rfl (by (try simp only [List.map_toArray, List.map_cons, List.map_nil]); first | done | rfl | (simp only [List.length_drop, List.length_take]; rfl)) ?_; (with_reducible refine (tinderlaw13_alive.calls k  true _ A3.out).mono ?_); rintro e w34 ⟨rfl, hb⟩; refine ⟨_, rfl, ?_⟩; have n0_ := Aside0.mk (blk_below (g := gb301) (o := .cells #[.int .i64 a0_0, .int .u32 a0_1, .string a0_2, .int .i64 a0_3] 34 (0, 0)) (by (with_reducible repeat (first | refine blk_drewN ?_ _ | refine blk_drew ?_ | refine blk_alloc ?_ _)); exact BK301.out) hb); have n1_ := Aside0.mk (below_step (by repeat (first | (with_reducible first | exact HB.out | apply below_alloc | apply pw_below_drewN | apply below_drew1 | refine below_set ?_ GE301.out) | exact HB.out)) hb); clear BK301; clear HB; have BK301 := n0_; have HB := n1_; clear n0_ n1_; (try clear hb); (try clear hb2); (try clear hk); (try clear hi); have hcz35_0 : w34.cell? ⟨gb301, 0, none⟩ = some (.int .i64 a0_0) := (blk_cell BK301.out 0).trans rfl; have hcz35_1 : w34.cell? ⟨gb301, 1, none⟩ = some (.int .u32 a0_1) := (blk_cell BK301.out 1).trans rfl; have hcz35_2 : w34.cell? ⟨gb301, 2, none⟩ = some (.string a0_2) := (blk_cell BK301.out 2).trans rfl; have hcz35_3 : w34.cell? ⟨gb301, 3, none⟩ = some (.int .i64 a0_3) := (blk_cell BK301.out 3).trans rfl; have hfz35_0 := blk_frozen BK301.out 0; have hfz35_1 := blk_frozen BK301.out 1; have hfz35_2 := blk_frozen BK301.out 2; have hfz35_3 := blk_frozen BK301.out 3) | ((with_reducible refine gate_callee (f := 17) rfl ?_); refine goesL_ (some 12) rfl rfl Try.func17 (by kernel_rfl) rfl #[.agg #[.int .i64 a0_0, .int .u32 a0_1, .string a0_2, .int .i64 a0_3], .bool a1] rfl (by (try simp only [List.map_toArray, List.map_cons, List.map_nil]); first | done | rfl | (simp only [List.length_drop, List.length_take]; rfl)) ?_; (with_reducible refine (token_Size.calls k a0_0 a0_1 a0_2 a0_3 a1 t303 _ A5.out).mono ?_); rintro e w36 ⟨rfl, hb⟩; refine ⟨_, rfl, ?_⟩; have n0_ := Aside0.mk (blk_below (g := gb301) (o := .cells #[.int .i64 a0_0, .int .u32 a0_1, .string a0_2, .int .i64 a0_3] 34 (0, 0)) (by (with_reducible repeat (first | refine blk_drewN ?_ _ | refine blk_drew ?_ | refine blk_alloc ?_ _)); exact BK301.out) hb); have n1_ := Aside0.mk (below_step (by repeat (first | (with_reducible first | exact HB.out | apply below_alloc | apply pw_below_drewN | apply below_drew1 | refine below_set ?_ GE301.out) | exact HB.out)) hb); clear BK301; clear HB; have BK301 := n0_; have HB := n1_; clear n0_ n1_; (try clear hb); (try clear hb2); (try clear hk); (try clear hi); have hcz37_0 : w36.cell? ⟨gb301, 0, none⟩ = some (.int .i64 a0_0) := (blk_cell BK301.out 0).trans rfl; have hcz37_1 : w36.cell? ⟨gb301, 1, none⟩ = some (.int .u32 a0_1) := (blk_cell BK301.out 1).trans rfl; have hcz37_2 : w36.cell? ⟨gb301, 2, none⟩ = some (.string a0_2) := (blk_cell BK301.out 2).trans rfl; have hcz37_3 : w36.cell? ⟨gb301, 3, none⟩ = some (.int .i64 a0_3) := (blk_cell BK301.out 3).trans rfl; have hfz37_0 := blk_frozen BK301.out 0; have hfz37_1 := blk_frozen BK301.out 1; have hfz37_2 := blk_frozen BK301.out 2; have hfz37_3 := blk_frozen BK301.out 3) | ((with_reducible refine gate_dst (N := 15) rfl ?_); (try (refine gate_guard (by rfl) ?_; dsimp only)); refine Kd.R_lit k34 _ 34 ?hg (N := 15) ?hd (xs := ([(⟨a0_0, a0_1, a0_2, a0_3⟩ : S34)] : List (S34))) (inner := [.int .i64 a0_0, .int .u32 a0_1, .string a0_2, .int .i64 a0_3]) (ok := fun _ => True) (okp := fun _ => True) ?hr ?hp (fun _ hk => hk) trivial (Below.refl _ _) (Nat.le_refl _) (by simp) ?_; (case hd => rfl); (case hg => rfl); (case hr => first | (go_simp; done) | (go_simp; rfl)); (case hp => exact (Reps.c4 (show Kd.M k34 _ _ _ (⟨a0_0, a0_1, a0_2, a0_3⟩ : S34) [.int .i64 a0_0, .int .u32 a0_1, .string a0_2, .int .i64 a0_3] from (k34_mkM _ _ _ (⟨a0_0, a0_1, a0_2, a0_3⟩ : S34) )) (Reps.none _ _))); intro v305 w38 ho39 hb hg_ hnew_; clear hg_ hnew_; (first | rw [← Ny304.out] at ho39 | (simp only [Int.reduceToNat] at ho39; rw [← Ny304.out] at ho39)); have n0_ := Aside0.mk (Kd.R_lower (Kd.R_newB ho39 (g := gb301) (o := .cells #[.int .i64 a0_0, .int .u32 a0_1, .string a0_2, .int .i64 a0_3] 34 (0, 0)) (by (with_reducible repeat (first | refine blk_drewN ?_ _ | refine blk_drew ?_ | refine blk_alloc ?_ _)); exact BK301.out)) (below_size (by repeat (first | (with_reducible first | exact HB.out | apply below_alloc | apply pw_below_drewN | apply below_drew1 | refine below_set ?_ GE301.out) | exact HB.out)))); have n1_ := Aside0.mk (blk_below (g := gb301) (o := .cells #[.int .i64 a0_0, .int .u32 a0_1, .string a0_2, .int .i64 a0_3] 34 (0, 0)) (by (with_reducible repeat (first | refine blk_drewN ?_ _ | refine blk_drew ?_ | refine blk_alloc ?_ _)); exact BK301.out) hb); have n2_ := Aside0.mk (below_step (by repeat (first | (with_reducible first | exact HB.out | apply below_alloc | apply pw_below_drewN | apply below_drew1 | refine below_set ?_ GE301.out) | exact HB.out)) hb); clear BK301; clear HB; have HO306 := n0_; have BK301 := n1_; have HB := n2_; clear n0_ n1_ n2_; clear hb ho39; obtain ⟨Ao40, co40, eo40⟩ := Kd.R_slice HO306.out; subst eo40) | ((with_reducible refine gate_callee (f := 15) rfl ?_); refine goesL_ (some 17) rfl rfl Try.func15 (by kernel_rfl) rfl #[.slice Ao40 y304.length co40, .bool a1] rfl (by (try simp only [List.map_toArray, List.map_cons, List.map_nil]); first | done | rfl | (simp only [List.length_drop, List.length_take]; rfl)) ?_; (with_reducible refine (token_Encode.calls k _ _ y304 a1 t307 t308 _ ?side1 ?side2 A6.out).mono ?_); (case side1 => repeat (first | exact (Kd.R_reads' HO306.out).2.2 | (with_reducible refine Kd.C_alloc ?_ _) | (with_reducible refine Kd.C_drewN ?_ _) | (with_reducible refine Kd.C_drew ?_))); (case side2 => exact (Kd.R_reads' HO306.out).2.1); rintro e w41 ⟨v309, rfl, ho0, hb⟩; refine ⟨_, rfl, ?_⟩; have n0_ := Aside0.mk (Kd.R_below (by (with_reducible repeat (first | apply Kd.R_alloc | apply Kd.R_drewN | apply Kd.R_drew)); exact HO306.out) hb); have n1_ := Aside0.mk (Kd.R_lower ho0 (below_size (by repeat (first | (with_reducible first | exact HB.out | apply below_alloc | apply pw_below_drewN | apply below_drew1 | refine below_set ?_ GE301.out) | exact HB.out)))); have n2_ := Aside0.mk (blk_below (g := gb301) (o := .cells #[.int .i64 a0_0, .int .u32 a0_1, .string a0_2, .int .i64 a0_3] 34 (0, 0)) (by (with_reducible repeat (first | refine blk_drewN ?_ _ | refine blk_drew ?_ | refine blk_alloc ?_ _)); exact BK301.out) hb); have n3_ := Aside0.mk (below_step (by repeat (first | (with_reducible first | exact HB.out | apply below_alloc | apply pw_below_drewN | apply below_drew1 | refine below_set ?_ GE301.out) | exact HB.out)) hb); clear HO306; clear BK301; clear HB; have HO306 := n0_; have HO310 := n1_; have BK301 := n2_; have HB := n3_; clear n0_ n1_ n2_ n3_; (try clear hb); (try clear hb2); (try clear hk); (try clear hi); (try clear ho0); have hcz42_0 : w41.cell? ⟨gb301, 0, none⟩ = some (.int .i64 a0_0) := (blk_cell BK301.out 0).trans rfl; have hcz42_1 : w41.cell? ⟨gb301, 1, none⟩ = some (.int .u32 a0_1) := (blk_cell BK301.out 1).trans rfl; have hcz42_2 : w41.cell? ⟨gb301, 2, none⟩ = some (.string a0_2) := (blk_cell BK301.out 2).trans rfl; have hcz42_3 : w41.cell? ⟨gb301, 3, none⟩ = some (.int .i64 a0_3) := (blk_cell BK301.out 3).trans rfl; have hfz42_0 := blk_frozen BK301.out 0; have hfz42_1 := blk_frozen BK301.out 1; have hfz42_2 := blk_frozen BK301.out 2; have hfz42_3 := blk_frozen BK301.out 3) | ((with_reducible refine gate_callee (f := 18) rfl ?_); refine goesL_ (some 23) rfl rfl Try.func18 (by kernel_rfl) rfl #[.agg #[.int .i64 a0_0, .int .u32 a0_1, .string a0_2, .int .i64 a0_3], .bool a1] rfl (by (try simp only [List.map_toArray, List.map_cons, List.map_nil]); first | done | rfl | (simp only [List.length_drop, List.length_take]; rfl)) ?_; (with_reducible refine (tinderref13_Size.calls k a0_0 a0_1 a0_2 a0_3 a1 t311 _ A7.out).mono ?_); rintro e w43 ⟨rfl, hb⟩; refine ⟨_, rfl, ?_⟩; have n0_ := Aside0.mk (Kd.R_below (by (with_reducible repeat (first | apply Kd.R_alloc | apply Kd.R_drewN | apply Kd.R_drew)); exact HO306.out) hb); have n1_ := Aside0.mk (Kd.R_below (by (with_reducible repeat (first | apply Kd.R_alloc | apply Kd.R_drewN | apply Kd.R_drew)); exact HO310.out) hb); have n2_ := Aside0.mk (blk_below (g := gb301) (o := .cells #[.int .i64 a0_0, .int .u32 a0_1, .string a0_2, .int .i64 a0_3] 34 (0, 0)) (by (with_reducible repeat (first | refine blk_drewN ?_ _ | refine blk_drew ?_ | refine blk_alloc ?_ _)); exact BK301.out) hb); have n3_ := Aside0.mk (below_step (by repeat (first | (with_reducible first | exact HB.out | apply below_alloc | apply pw_below_drewN | apply below_drew1 | refine below_set ?_ GE301.out) | exact HB.out)) hb); clear HO306; clear HO310; clear BK301; clear HB; have HO306 := n0_; have HO310 := n1_; have BK301 := n2_; have HB := n3_; clear n0_ n1_ n2_ n3_; (try clear hb); (try clear hb2); (try clear hk); (try clear hi)))
      go_ret
      exact ⟨by first | rfl | (simp [errW_none, errW_some] <;> rfl) | (simp [*, errW_none, errW_some] <;> rfl), by repeat (first | (with_reducible first | exact HB.out | apply below_alloc | apply pw_below_drewN | apply below_drew1 | refine below_set ?_ GE301.out) | exact HB.out)⟩
  · replace c4 := Bool.eq_false_iff.mpr c4
    subst c4
    have H1 : (some false) = some r := by rw [if_neg (show ¬ (false = true) by decide)] at H; exact H
    clear H
    have H := H1
    clear H1
    obtain rfl := Option.some.inj H
    go_enter Try.func6, Try.ntmps6
    go_wp2_with (first | ((with_reducible refine gate_dst (N := 2) rfl ?_); (try (refine gate_guard (by rfl) ?_; dsimp only)); refine box_event ?hg (N := 2) ?hd (cs := #[.int .i64 a0_0, .int .u32 a0_1, .string a0_2, .int .i64 a0_3]) (t := 34) ?hr ?_; (case hd => rfl); (case hg => rfl); (case hr => first | (go_simp; done) | (go_simp; rfl)); intro gb301 hg w44 hbox hb; have n0_ := Aside0.mk (below_step (by repeat (first | (with_reducible first | exact HB.out | apply below_alloc | apply pw_below_drewN | apply below_drew1) | exact HB.out)) hb); have n1_ := Aside0.mk (hbox); have n2_ := Aside0.mk ((by rw [hg]; exact (below_size (by repeat (first | (with_reducible first | exact HB.out | apply below_alloc | apply pw_below_drewN | apply below_drew1) | exact HB.out))) : w.heap.size ≤ gb301)); have n3_ := Aside0.mk ((by rw [hg]; exact (below_size (by repeat (first | (with_reducible first | exact HB.out | apply below_alloc | apply pw_below_drewN | apply below_drew1) | exact HB.out))) : w.heap.size ≤ gb301)); clear HB; have HB := n0_; have BK301 := n1_; have GW301 := n2_; have GE301 := n3_; clear n0_ n1_ n2_ n3_; clear hb hbox hg) | ((with_reducible refine gate_callee (f := 9) rfl ?_); refine goesL_ (some 8) rfl rfl Try.func9 (by kernel_rfl) rfl #[] rfl (by (try simp only [List.map_toArray, List.map_cons, List.map_nil]); first | done | rfl | (simp only [List.length_drop, List.length_take]; rfl)) ?_; (with_reducible refine (tinderlaw13_alive.calls k  false _ A3.out).mono ?_); rintro e w45 ⟨rfl, hb⟩; refine ⟨_, rfl, ?_⟩; have n0_ := Aside0.mk (blk_below (g := gb301) (o := .cells #[.int .i64 a0_0, .int .u32 a0_1, .string a0_2, .int .i64 a0_3] 34 (0, 0)) (by (with_reducible repeat (first | refine blk_drewN ?_ _ | refine blk_drew ?_ | refine blk_alloc ?_ _)); exact BK301.out) hb); have n1_ := Aside0.mk (below_step (by repeat (first | (with_reducible first | exact HB.out | apply below_alloc | apply pw_below_drewN | apply below_drew1 | refine below_set ?_ GE301.out) | exact HB.out)) hb); clear BK301; clear HB; have BK301 := n0_; have HB := n1_; clear n0_ n1_; (try clear hb); (try clear hb2); (try clear hk); (try clear hi)))
    go_ret
    exact ⟨by first | rfl | (simp [errW_none, errW_some] <;> rfl) | (simp [*, errW_none, errW_some] <;> rfl), by repeat (first | (with_reducible first | exact HB.out | apply below_alloc | apply pw_below_drewN | apply below_drew1 | refine below_set ?_ GE301.out) | exact HB.out)⟩

end Go.Proofs.Ytfaebbmngplilaa.P
