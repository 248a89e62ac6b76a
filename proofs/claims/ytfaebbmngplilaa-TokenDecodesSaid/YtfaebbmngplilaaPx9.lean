/- The machine's side: functions of the translation as plain Lean functions, and that the machine's calls come to what they say. No condition. Written by a program (wip/tools/pp.py over the kit's printer); Lean checks it. -/
import Derived.Test.YtfaebbmngplilaaPx0
import Derived.Test.YtfaebbmngplilaaPx2
import Derived.Test.YtfaebbmngplilaaPx3
import Derived.Test.YtfaebbmngplilaaPx5
import Derived.Test.YtfaebbmngplilaaPx7
import Derived.Test.YtfaebbmngplilaaPx8
namespace Go.Proofs.Ytfaebbmngplilaa.P
open Go.RowKit Go.Proofs.YtfaebbmngplilaaW.PrintWords Go.Proofs.YtfaebbmngplilaaW.PrintLast Go.Proofs.YtfaebbmngplilaaW.PrintMore
attribute [local go_sem] max2_int min2_int max_two min_two max_three min_three max_four min_four   -- for this text's walks alone
set_option linter.unusedVariables false
set_option linter.unusedSimpArgs false

/-! ### tinderref13_one: function 21 -/
def Stop (p : Prop) : Prop := p
theorem stop_block {P n s Q a w} (h : Stop (Code.wp P (.block n s) Q a w)) : Code.wp P (.block n s) Q a w := h
def one.h (k : Nat) (a1 : Bool) (t : S34) : Option (Int × Int × ByteArray × Int × Int) :=
  (tinderref13_Bytes.f k t.f0 t.f1 t.f2 t.f3 a1).bind fun b => if b.2 = true then some (t.f0, t.f1, t.f2, t.f3, (b.1.length : Int)) else some (0, 0, (⟨#[]⟩ : ByteArray), 0, 0)
def one.g (k : Nat) (a1 : Bool) (c : Int) (r1 : List Int) : Option (Int × Int × ByteArray × Int × Int) :=
  (tinderref13_Behind.f k c).bind fun kd => if 0 ≤ kd ∧ kd ≤ 6 then (if (tokP kd a1 c r1 false).2.2 = true then some (0, 0, (⟨#[]⟩ : ByteArray), 0, 0) else one.h k a1 (tokP kd a1 c r1 false).1) else none
def tinderref13_one.f (k : Nat) (l0 : List Int) (a1 : Bool) : Option (Int × Int × ByteArray × Int × Int) :=
  if l0.all (fun x => decide (0 ≤ x ∧ x ≤ 255)) = true then (if l0.length = 0 then some (0, 0, (⟨#[]⟩ : ByteArray), 0, 0) else if (codeP l0 false).2.2 = true then some (0, 0, (⟨#[]⟩ : ByteArray), 0, 0) else one.g k a1 (codeP l0 false).1 (codeP l0 false).2.1) else none
theorem tinderref13_one.mono (a0 : List Int) (a1 : Bool) (k : Nat) : LeO (tinderref13_one.f k a0 a1) (tinderref13_one.f (k + 1) a0 a1) := by
  unfold tinderref13_one.f one.g one.h
  repeat' first
    | exact LeO.refl _
    | exact tinderref13_Behind.mono _ _
    | exact tinderref13_Bytes.mono _ _ _ _ _ _
    | refine LeO.ite ?_ ?_
    | refine LeO.bind ?_ (fun _ => ?_)
theorem one_end {gr : Nat} {c n : Int} {s : ByteArray} {o m : Int} {a : Act} {W : World} {post : Ending → World → Prop} (hT : TB W gr c n s o) (hd : a.defers = []) (h2 : a.tmps.getD 4 undef = .pointer (some ⟨gr, 0, none⟩)) (h5 : a.tmps.getD 5 undef = .int .i64 m)
    (hp : post (.returned (.tuple #[.agg #[.int .i64 c, .int .u32 n, .string s, .int .i64 o], .int .i64 m])) W) : bodyPost Try.prog Try.f21 post .ret a W := by
  obtain ⟨⟨q0, q1, q2, q3⟩, _⟩ := hT.cells
  have h3 : a.tmps[4]?.getD undef = .pointer (some ⟨gr, 0, none⟩) := by rw [← h2]; simp
  have h6 : a.tmps[5]?.getD undef = .int .i64 m := by rw [← h5]; simp
  exact bodyPost_ret (v := .tuple #[.agg #[.int .i64 c, .int .u32 n, .string s, .int .i64 o], .int .i64 m]) (by simp [results, Try.results21, go_sem, h3, h6, q0, q1, q2, q3]) hd hp
/-- The zero token stored into the result's block. -/
theorem TB.zero {W : World} {g : Nat} {c n : Int} {s : ByteArray} {o : Int} (h : TB W g c n s o) : TB ((((W.setCell ⟨g, 0, none⟩ (.int .i64 0)).setCell ⟨g, 1, none⟩ (.int .u32 0)).setCell ⟨g, 2, none⟩ (.string (⟨#[]⟩ : ByteArray))).setCell ⟨g, 3, none⟩ (.int .i64 0)) g 0 0 (⟨#[]⟩ : ByteArray) 0 := (((h.set0 0).set1 0).set2 (⟨#[]⟩ : ByteArray)).set3 0
theorem TB.far {W : World} {g g2 i : Nat} {c n : Int} {s : ByteArray} {o : Int} (h : TB W g c n s o) (hne : g ≠ g2) (v : Value) : TB (W.setCell ⟨g2, i, none⟩ v) g c n s o := (Below.heap_setCell W ⟨g2, i, none⟩ v g hne).trans h
theorem one_one {ra : List Int} (hB : Bys ra) (hl : ¬ ra.length < 1) : numP 1 ra false = (rd ra 0, ra.drop 1, false) := by
  match ra, hl with
  | a :: t, hl =>
    have h1 : rd (a :: t) 0 = a := rfl
    simp [numP, takeB, numB, h1]
theorem one_two {ra : List Int} (hB : Bys ra) (hl : ¬ ra.length < 2) : numP 2 ra false = (rd ra 0 * 256 + rd ra 1, ra.drop 2, false) := by
  match ra, hB, hl with
  | [], _, hl => exact absurd (by simp) hl
  | [a], _, hl => exact absurd (by simp) hl
  | a :: b :: t, hB, hl =>
    have ha := hB a (by simp)
    have h1 : rd (a :: b :: t) 0 = a := rfl
    have h2 : rd (a :: b :: t) 1 = b := rfl
    simp [numP, takeB, numB, h1, h2]
    omega
theorem one_four {ra : List Int} (hB : Bys ra) (hl : ¬ ra.length < 4) : numP 4 ra false = (((rd ra 0 * 256 + rd ra 1) * 256 + rd ra 2) * 256 + rd ra 3, ra.drop 4, false) := by
  match ra, hB, hl with
  | [], _, hl => exact absurd (by simp) hl
  | [a], _, hl => exact absurd (by simp) hl
  | [a, b], _, hl => exact absurd (by simp) hl
  | [a, b, c], _, hl => exact absurd (by simp) hl
  | a :: b :: c :: d :: t, hB, hl =>
    have ha := hB a (by simp)
    have hb := hB b (by simp)
    have hc := hB c (by simp)
    have h1 : rd (a :: b :: c :: d :: t) 0 = a := rfl
    have h2 : rd (a :: b :: c :: d :: t) 1 = b := rfl
    have h3 : rd (a :: b :: c :: d :: t) 2 = c := rfl
    have h4 : rd (a :: b :: c :: d :: t) 3 = d := rfl
    simp [numP, takeB, numB, h1, h2, h3, h4]
    omega
theorem one_lack {n : Nat} {ra : List Int} (hl : ra.length < n) : (numP n ra false).2.2 = true := by
  unfold numP
  simp [hl]
theorem one_code0 {l0 : List Int} (hl : l0.length < 1) : (codeP l0 false).2.2 = true := by
  obtain rfl : l0 = [] := by cases l0 <;> simp_all
  rfl
theorem one_code1 {l0 : List Int} {x : Int} (hB : Bys l0) (hx : x = rd l0 0) (hs : 0 < x ∧ x < 16) (hl : l0.length < 2) : (codeP l0 false).2.2 = true := by
  match l0, hB, hx, hl with
  | [], _, hx, _ => rfl
  | [a], hB, hx, _ =>
    have h := one_one hB (by simp)
    obtain rfl : a = x := hx.symm
    unfold codeP
    rw [h, show rd [a] 0 = a from rfl, if_pos hs]
    rfl
theorem one_code2 {l0 : List Int} {x : Int} (hB : Bys l0) (hx : x = rd l0 0) (hs : ¬ (0 < x ∧ x < 16)) (hl : 0 < l0.length) : codeP l0 false = (x, l0.drop (1 : Int).toNat, false) := by
  unfold codeP
  rw [one_one hB (by omega), ← hx, if_neg hs]
  rfl
theorem one_code3 {l0 : List Int} {x : Int} (hB : Bys l0) (hx : x = rd l0 0) (hs : 0 < x ∧ x < 16) (hl : ¬ l0.length < 2) : codeP l0 false = (x * 256 + rd l0 1, l0.drop (2 : Int).toNat, false) := by
  unfold codeP
  rw [one_one hB (by omega), ← hx, if_pos hs]
  match l0, hB, hl with
  | [], _, hl => exact absurd (by simp) hl
  | [a], _, hl => exact absurd (by simp) hl
  | a :: b :: t, hB, hl =>
    have h2 := one_one (ra := b :: t) (fun z hz => hB z (List.mem_cons_of_mem _ hz)) (by simp)
    show (x * 256 + (numP 1 (b :: t) false).1, (numP 1 (b :: t) false).2) = _
    rw [h2]
    rfl
theorem one_i8 {v : Int} (h : 0 ≤ v ∧ v ≤ 255) : wrap64 (IntKind.i8.wrap v) = if 128 ≤ v then v - 256 else v := by
  have h1 : IntKind.i8.wrap v = if v % 256 ≥ 128 then v % 256 - 256 else v % 256 := by simp [IntKind.wrap, IntKind.bits, IntKind.signed]
  rw [h1]
  unfold wrap64
  split <;> split <;> omega
theorem one_i16 {v : Int} (h : 0 ≤ v ∧ v ≤ 65535) : wrap64 (IntKind.i16.wrap v) = if 32768 ≤ v then v - 65536 else v := by
  have h1 : IntKind.i16.wrap v = if v % 65536 ≥ 32768 then v % 65536 - 65536 else v % 65536 := by simp [IntKind.wrap, IntKind.bits, IntKind.signed]
  rw [h1]
  unfold wrap64
  split <;> split <;> omega
theorem one_tk0 {ra : List Int} (hl : ra.length < 1) (n : Nat) : (tkP n (numP 1 ra false).2.1 (numP 1 ra false).2.2).2.2 = true := by
  have h := one_lack (n := 1) hl
  unfold tkP
  rw [h]
  rfl
theorem one_tk1 {v0 n : Int} {ra : List Int} (hB : Bys ra) (hl : ¬ ra.length < 1) (hv : v0 = rd ra 0) (hn : n = 1 + v0) (h : (ra.length : Int) < n) : (tkP (numP 1 ra false).1.toNat (numP 1 ra false).2.1 (numP 1 ra false).2.2).2.2 = true := by
  rw [one_one hB hl]
  unfold tkP
  have h1 : (ra.drop 1).length = ra.length - 1 := List.length_drop
  have h2 : 0 ≤ rd ra 0 ∧ rd ra 0 ≤ 255 := getD_by hB 0
  show (false || decide ((ra.drop 1).length < (rd ra 0).toNat)) = true
  rw [← hv] at h2 ⊢
  rw [Bool.false_or, decide_eq_true_eq]
  omega
theorem one_tk2 {v0 n : Int} {ra : List Int} (hB : Bys ra) (hl : ¬ ra.length < 1) (hv : v0 = rd ra 0) (hn : n = 1 + v0) (h : n ≤ (ra.length : Int)) : tkP (numP 1 ra false).1.toNat (numP 1 ra false).2.1 (numP 1 ra false).2.2 = ((ra.take n.toNat).drop (1 : Int).toNat, ra.drop n.toNat, false) := by
  rw [one_one hB hl]
  unfold tkP takeB
  have h1 : (ra.drop 1).length = ra.length - 1 := List.length_drop
  have h2 : 0 ≤ rd ra 0 ∧ rd ra 0 ≤ 255 := getD_by hB 0
  rw [← hv] at h2 ⊢
  show (if v0.toNat ≤ (ra.drop 1).length then (ra.drop 1).take v0.toNat else _, (ra.drop 1).drop v0.toNat, (false || decide ((ra.drop 1).length < v0.toNat))) = _
  rw [if_pos (by omega), List.drop_drop, List.drop_take, decide_eq_false (by omega)]
  rw [show n.toNat - (1 : Int).toNat = v0.toNat by omega, show n.toNat = 1 + v0.toNat by omega]
  rfl
theorem one_t3_lack1 {a1 : Bool} {c : Int} {ra : List Int} (hl : ra.length < 1) : (tokP 3 a1 c ra false).2.2 = true := one_tk0 hl _
theorem one_t3_lack2 {a1 : Bool} {c v0 n : Int} {ra : List Int} (hB : Bys ra) (hl : ¬ ra.length < 1) (hv : v0 = rd ra 0) (hn : n = 1 + v0) (h : (ra.length : Int) < n) : (tokP 3 a1 c ra false).2.2 = true := one_tk1 hB hl hv hn h
theorem one_t3 {a1 : Bool} {c v0 n : Int} {ra : List Int} (hB : Bys ra) (hl : ¬ ra.length < 1) (hv : v0 = rd ra 0) (hn : n = 1 + v0) (h : n ≤ (ra.length : Int)) : tokP 3 a1 c ra false = (⟨c, 0, strOfNums ((ra.take n.toNat).drop (1 : Int).toNat), 0⟩, ra.drop n.toNat, false) := by
  unfold tokP
  simp only [Int.reduceEq, if_true, if_false]
  rw [one_tk2 hB hl hv hn h]
theorem one_t6_lack1 {a1 : Bool} {c : Int} {ra : List Int} (hl : ra.length < 1) : (tokP 6 a1 c ra false).2.2 = true := by
  unfold tokP
  simp only [Int.reduceEq, if_true, if_false]
  unfold numP
  show ((tkP (numP 1 ra false).1.toNat (numP 1 ra false).2.1 (numP 1 ra false).2.2).2.2 || _) = true
  rw [one_tk0 hl]
  rfl
theorem one_t6_lack2 {a1 : Bool} {c v0 n : Int} {ra : List Int} (hB : Bys ra) (hl : ¬ ra.length < 1) (hv : v0 = rd ra 0) (hn : n = 1 + v0) (h : (ra.length : Int) < n) : (tokP 6 a1 c ra false).2.2 = true := by
  unfold tokP
  simp only [Int.reduceEq, if_true, if_false]
  show ((tkP (numP 1 ra false).1.toNat (numP 1 ra false).2.1 (numP 1 ra false).2.2).2.2 || _) = true
  rw [one_tk1 hB hl hv hn h]
  rfl
theorem one_t6_lack3 {a1 : Bool} {c v0 n : Int} {ra : List Int} (hB : Bys ra) (hl : ¬ ra.length < 1) (hv : v0 = rd ra 0) (hn : n = 1 + v0) (h : n ≤ (ra.length : Int)) (h3 : (ra.length : Int) < n + 2) : (tokP 6 a1 c ra false).2.2 = true := by
  unfold tokP
  simp only [Int.reduceEq, if_true, if_false]
  rw [one_tk2 hB hl hv hn h]
  exact one_lack (n := 2) (by rw [List.length_drop]; omega)
theorem one_t6 {a1 : Bool} {c v0 n : Int} {ra : List Int} (hB : Bys ra) (hl : ¬ ra.length < 1) (hv : v0 = rd ra 0) (hn : n = 1 + v0) (h : n ≤ (ra.length : Int)) (h3 : n + 2 ≤ (ra.length : Int)) : tokP 6 a1 c ra false = (⟨c, rd ra n * 256 + rd ra (n + 1), strOfNums ((ra.take n.toNat).drop (1 : Int).toNat), 0⟩, ra.drop (n.toNat + 2), false) := by
  have h2 : 0 ≤ rd ra 0 ∧ rd ra 0 ≤ 255 := getD_by hB 0
  rw [← hv] at h2
  have e0 : rd (ra.drop n.toNat) 0 = rd ra n := by
    unfold rd
    rw [List.getD_eq_getElem?_getD, List.getD_eq_getElem?_getD, List.getElem?_drop]
    rfl
  have e1 : rd (ra.drop n.toNat) 1 = rd ra (n + 1) := by
    unfold rd
    rw [List.getD_eq_getElem?_getD, List.getD_eq_getElem?_getD, List.getElem?_drop, show (n + 1).toNat = n.toNat + (1 : Int).toNat by omega]
  unfold tokP
  simp only [Int.reduceEq, if_true, if_false]
  rw [one_tk2 hB hl hv hn h, one_two (hB.drop _) (by rw [List.length_drop]; omega), e0, e1, List.drop_drop]
theorem TB.cast1 {W : World} {g : Nat} {c n n2 : Int} {s : ByteArray} {o : Int} (h : TB W g c n s o) (e : n = n2) : TB W g c n2 s o := e ▸ h
theorem TB.cast3 {W : World} {g : Nat} {c n : Int} {s : ByteArray} {o o2 : Int} (h : TB W g c n s o) (e : o = o2) : TB W g c n s o2 := e ▸ h
theorem TB.cast0 {W : World} {g : Nat} {c c2 n : Int} {s : ByteArray} {o : Int} (h : TB W g c n s o) (e : c = c2) : TB W g c2 n s o := e ▸ h
set_option maxHeartbeats 4000000 in
set_option maxRecDepth 100000 in
theorem tinderref13_one.calls (k : Nat) (A0 : Option Addr) (c0 : Nat) (l0 : List Int) (a1 : Bool) (r1 : Int) (r2 : Int) (r3 : ByteArray) (r4 : Int) (r5 : Int) (w : World) (hr0 : Kd.C (Kd.int .u8) w A0 l0.length l0) (hc0 : l0.length ≤ c0) (h : tinderref13_one.f k l0 a1 = some (r1, r2, r3, r4, r5)) :
    Calls Try.prog 21 #[.slice A0 l0.length c0, .bool a1] w fun e w' => e = .returned (.tuple #[.agg #[.int .i64 r1, .int .u32 r2, .string r3, .int .i64 r4], .int .i64 r5]) ∧ Below w.heap.size w w' := by
  have hu34 := Try.underlying34
  have HR0 := Aside0.mk hr0
  have HC0 := Aside0.mk hc0
  clear hr0 hc0
  have HB := Aside0.mk (Below.refl w.heap.size w)
  unfold tinderref13_one.f at h
  by_cases hall : l0.all (fun x => decide (0 ≤ x ∧ x ≤ 255)) = true
  rotate_left
  · rw [if_neg hall] at h; cases h
  rw [if_pos hall] at h
  have HA := Aside0.mk (show Bys l0 by
    intro x hx
    exact of_decide_eq_true (List.all_eq_true.1 hall x hx))
  clear hall
  by_cases h0 : l0.length = 0
  · rw [if_pos h0] at h
    simp only [Option.some.injEq, Prod.mk.injEq] at h
    obtain ⟨rfl, rfl, rfl, rfl, rfl⟩ := h
    have b0 : ((l0.length : Int) == 0) = true := by rw [h0]; rfl
    clear h0
    go_enter Try.func21, Try.ntmps21
    go_wp2_with (first | ((with_reducible refine gate_dst (N := 4) rfl ?_); (try (refine gate_guard (by rfl) ?_; dsimp only)); refine box_event ?hg (N := 4) ?hd (cs := #[.int .i64 0, .int .u32 0, .string (⟨#[]⟩ : ByteArray), .int .i64 0]) (t := 34) ?hr ?_; (case hd => rfl); (case hg => rfl); (case hr => first | (go_simp; done) | (go_simp; rfl)); intro gb175 hg w8 hbox hb; have n0_ := Aside0.mk (below_step (by repeat (first | (with_reducible first | exact HB.out | apply below_alloc | apply pw_below_drewN | apply below_drew1) | exact HB.out)) hb); have n1_ := Aside0.mk hbox; have n2_ := Aside0.mk ((by rw [hg]; exact (below_size (by repeat (first | (with_reducible first | exact HB.out | apply below_alloc | apply pw_below_drewN | apply below_drew1) | exact HB.out)))) : w.heap.size ≤ gb175); clear HB; have HB := n0_; have BK175 := n1_; have GE175 := n2_; clear n0_ n1_ n2_; clear hb hbox hg; (obtain ⟨z0, z1, z2, z3⟩ := TB.cells BK175.out |>.1); (obtain ⟨y0, y1, y2, y3⟩ := TB.cells BK175.out |>.2)))
    have ht := TB.zero BK175.out
    refine one_end ht rfl rfl rfl ⟨rfl, ?_⟩
    repeat (first | exact HB.out | refine below_set ?_ GE175.out)
  · rw [if_neg h0] at h
    have H := Aside0.mk h
    clear h
    have p0 : (0 : Int) < (l0.length : Int) := by omega
    have b0 : ((l0.length : Int) == 0) = false := beq_eq_false_iff_ne.mpr (by omega)
    have b1 : decide ((0 : Int) < (l0.length : Int)) = true := decide_eq_true p0
    have b2 : (0 < l0.length) = True := eq_true (by omega)
    obtain ⟨ad, e, HX⟩ := Kd.at_int HR0.out 0 (by omega) p0
    cases e
    (try rw [show ((0 : Int)).toNat = 0 from rfl] at HX)
    (try rw [Addr.add_zero'] at HX)
    have HX0 := Aside0.mk HX
    clear HX
    have hxr : 0 ≤ rd l0 0 ∧ rd l0 0 ≤ 255 := getD_by HA.out 0
    obtain ⟨x, hx⟩ : ∃ q_, q_ = rd l0 0 := ⟨_, rfl⟩
    rw [← hx] at hxr HX0
    have HXE := Aside0.mk hx
    have HXR := Aside0.mk hxr
    have w0 : wrap64 x = x := by unfold wrap64; omega
    clear hx hxr
    clear h0 p0
    go_enter Try.func21, Try.ntmps21
    go_upto_region 6 with (first | ((with_reducible refine gate_dst (N := 4) rfl ?_); (try (refine gate_guard (by rfl) ?_; dsimp only)); refine box_event ?hg (N := 4) ?hd (cs := #[.int .i64 0, .int .u32 0, .string (⟨#[]⟩ : ByteArray), .int .i64 0]) (t := 34) ?hr ?_; (case hd => rfl); (case hg => rfl); (case hr => first | (go_simp; done) | (go_simp; rfl)); intro gb175 hg w8 hbox hb; have n0_ := Aside0.mk (below_step (by repeat (first | (with_reducible first | exact HB.out | apply below_alloc | apply pw_below_drewN | apply below_drew1) | exact HB.out)) hb); have n1_ := Aside0.mk hbox; have n2_ := Aside0.mk ((by rw [hg]; exact (below_size (by repeat (first | (with_reducible first | exact HB.out | apply below_alloc | apply pw_below_drewN | apply below_drew1) | exact HB.out)))) : w.heap.size ≤ gb175); clear HB; have HB := n0_; have BK175 := n1_; have GE175 := n2_; clear n0_ n1_ n2_; clear hb hbox hg; (obtain ⟨z0, z1, z2, z3⟩ := TB.cells BK175.out |>.1); (obtain ⟨y0, y1, y2, y3⟩ := TB.cells BK175.out |>.2)) | ((with_reducible refine gate_dst (N := 6) rfl ?_); (try (refine gate_guard (by rfl) ?_; dsimp only)); refine box_event ?hg (N := 6) ?hd (cs := #[.int .i64 0, .int .u32 0, .string (⟨#[]⟩ : ByteArray), .int .i64 0]) (t := 34) ?hr ?_; (case hd => rfl); (case hg => rfl); (case hr => first | (go_simp; done) | (go_simp; rfl)); intro gb176 hg w9 hbox hb; have n0_ := Aside0.mk (blk_below (g := gb175) (o := .cells #[.int .i64 0, .int .u32 0, .string (⟨#[]⟩ : ByteArray), .int .i64 0] 34 (0, 0)) (by (with_reducible repeat (first | refine blk_drewN ?_ _ | refine blk_drew ?_ | refine blk_alloc ?_ _)); exact BK175.out) hb); have n1_ := Aside0.mk (below_step (by repeat (first | (with_reducible first | exact HB.out | apply below_alloc | apply pw_below_drewN | apply below_drew1 | refine below_set ?_ GE175.out) | exact HB.out)) hb); have n2_ := Aside0.mk hbox; have n3_ := Aside0.mk ((by rw [hg]; exact (below_size (by repeat (first | (with_reducible first | exact HB.out | apply below_alloc | apply pw_below_drewN | apply below_drew1 | refine below_set ?_ GE175.out) | exact HB.out)))) : w.heap.size ≤ gb176); have n5_ := Aside0.mk ((by rw [hg]; exact Nat.ne_of_lt (blk_lt (g := gb175) (o := .cells #[.int .i64 0, .int .u32 0, .string (⟨#[]⟩ : ByteArray), .int .i64 0] 34 (0, 0)) (by (with_reducible repeat (first | refine blk_drewN ?_ _ | refine blk_drew ?_ | refine blk_alloc ?_ _)); exact BK175.out))) : gb175 ≠ gb176); clear BK175; clear HB; have BK175 := n0_; have HB := n1_; have BK176 := n2_; have GE176 := n3_; have NB := n5_; clear n0_ n1_ n2_ n3_ n5_; clear hb hbox hg; (obtain ⟨t0, t1, t2, t3⟩ := TB.cells BK176.out |>.1); (obtain ⟨g0, g1, g2, g3⟩ := TB.cells BK176.out |>.2); have hx := (HB.out.cell (World.block_lt_of_cell? w _ HX0.out)).trans HX0.out; (obtain ⟨z0, z1, z2, z3⟩ := TB.cells BK175.out |>.1); (obtain ⟨y0, y1, y2, y3⟩ := TB.cells BK175.out |>.2)))
    (try simp only [Act.put, List.setIfInBounds_toArray, List.set_cons_zero, List.set_cons_succ])
    go_cut [29] (fun v29 wc => v29 = .bool (decide (0 < x ∧ x < 16)) ∧ Aside0 (TB wc gb175 0 0 (⟨#[]⟩ : ByteArray) 0) ∧ Aside0 (TB wc gb176 x 0 (⟨#[]⟩ : ByteArray) 0) ∧ Aside0 (Below w.heap.size w wc))
    case first =>
      by_cases x1 : 0 < x
      · by_cases x2 : x < 16
        · have c1 : decide (0 < x) = true := decide_eq_true x1
          have c2 : decide (x < 16) = true := decide_eq_true x2
          have HD : Aside0 (0 < x ∧ x < 16) := ⟨⟨x1, x2⟩⟩
          clear x1 x2
          go_wp2
          go_meet
          case rel => exact ⟨by rw [decide_eq_true HD.out], ⟨TB.far BK175.out NB.out _⟩, ⟨TB.set0 BK176.out _⟩, ⟨below_set HB.out GE176.out⟩⟩
        · have c1 : decide (0 < x) = true := decide_eq_true x1
          have c2 : decide (x < 16) = false := decide_eq_false x2
          have HD : Aside0 (¬ (0 < x ∧ x < 16)) := ⟨fun q => x2 q.2⟩
          clear x1 x2
          go_wp2
          go_meet
          case rel => exact ⟨by rw [decide_eq_false HD.out], ⟨TB.far BK175.out NB.out _⟩, ⟨TB.set0 BK176.out _⟩, ⟨below_set HB.out GE176.out⟩⟩
      · have c1 : decide (0 < x) = false := decide_eq_false x1
        have HD : Aside0 (¬ (0 < x ∧ x < 16)) := ⟨fun q => x1 q.1⟩
        clear x1
        go_wp2
        go_meet
        case rel => exact ⟨by rw [decide_eq_false HD.out], ⟨TB.far BK175.out NB.out _⟩, ⟨TB.set0 BK176.out _⟩, ⟨below_set HB.out GE176.out⟩⟩
    case rest => as_aux_lemma =>
      obtain ⟨rfl, BR, BT, HB⟩ := hcut
      try clear hx t0 t1 t2 t3 g0 g1 g2 g3 z0 z1 z2 z3 y0 y1 y2 y3
      go_upto_if 29 with (fail)
      go_cut [7] (fun v7 wc => ∃ (at_ : Int) (c : Int) (ra : List Int), v7 = .int .i64 at_ ∧ Aside0 (0 ≤ at_ ∧ at_ ≤ (l0.length : Int)) ∧ Aside0 (l0.drop at_.toNat = ra) ∧ Aside0 (Bys ra) ∧ Aside0 (one.g k a1 c ra = some (r1, r2, r3, r4, r5)) ∧ Aside0 (TB wc gb175 0 0 (⟨#[]⟩ : ByteArray) 0) ∧ Aside0 (TB wc gb176 c 0 (⟨#[]⟩ : ByteArray) 0) ∧ Aside0 (Below w.heap.size w wc))
      case first => as_aux_lemma =>
        (obtain ⟨z0, z1, z2, z3⟩ := TB.cells BR.out |>.1)
        (obtain ⟨y0, y1, y2, y3⟩ := TB.cells BR.out |>.2)
        (obtain ⟨t0, t1, t2, t3⟩ := TB.cells BT.out |>.1)
        (obtain ⟨g0, g1, g2, g3⟩ := TB.cells BT.out |>.2)
        have hx := (HB.out.cell (World.block_lt_of_cell? w _ HX0.out)).trans HX0.out
        by_cases hs : 0 < x ∧ x < 16
        · rw [decide_eq_true hs]
          by_cases hl : l0.length < 2
          · have d1 : decide ((l0.length : Int) < 2) = true := decide_eq_true (by omega)
            have HG := Aside0.mk (one_code1 HA.out HXE.out hs hl)
            clear hs hl
            go_wp2
            have ht := TB.zero BR.out
            have H2 := H.out
            rw [if_pos HG.out] at H2
            simp only [Option.some.injEq, Prod.mk.injEq] at H2
            obtain ⟨rfl, rfl, rfl, rfl, rfl⟩ := H2
            refine one_end ht rfl rfl rfl ⟨rfl, ?_⟩
            repeat (first | exact HB.out | refine below_set ?_ GE175.out)
          · have d1 : decide ((l0.length : Int) < 2) = false := decide_eq_false (by omega)
            have p1 : (1 : Int) < (l0.length : Int) := by omega
            have b3 : decide ((1 : Int) < (l0.length : Int)) = true := decide_eq_true p1
            have l1 : (1 < l0.length) = True := eq_true (by omega)
            obtain ⟨ae1, e1, hx1⟩ := Kd.at_int HR0.out 1 (by omega) p1
            obtain rfl : ad = ae1 := (by injection e1)
            clear e1
            (try rw [show ((1 : Int)).toNat = 1 from rfl] at hx1)
            (try simp only [Nat.reduceMul, Nat.reduceEqDiff, Go.Addr.add, ↓reduceIte] at hx1)
            replace hx1 := (HB.out.cell (World.block_lt_of_cell? w _ hx1)).trans hx1
            have hr1 : 0 ≤ rd l0 1 ∧ rd l0 1 ≤ 255 := getD_by HA.out 1
            obtain ⟨v1, hv1⟩ : ∃ q_, q_ = rd l0 1 := ⟨_, rfl⟩
            rw [← hv1] at hr1 hx1
            have HV1 := Aside0.mk hv1
            have HR1 := Aside0.mk hr1
            have q1 := eq_true p1
            have HS := Aside0.mk hs
            have HL := Aside0.mk hl
            clear hv1 hr1 p1 hs hl
            go_upto_region 9 with (fail)
            go_still_tail 9, (by kernel_rfl)
            repeat (first | go_skip | go_guarded | go_step | go_upon)
            go_meet
            case rel =>
              have H2 := H.out
              rw [one_code3 HA.out HXE.out HS.out HL.out, ← HV1.out] at H2
              exact ⟨2, x * 256 + v1, _, rfl, ⟨by have := HL.out; omega⟩, ⟨rfl⟩, ⟨HA.out.drop _⟩, ⟨H2⟩, ⟨TB.far BR.out NB.out _⟩, ⟨TB.cast0 (TB.set0 BT.out _) (by have := HR1.out; have := HS.out; show _ = x * 256 + v1; unfold wrap64; omega)⟩, ⟨below_drew1 (below_set HB.out GE176.out)⟩⟩
        · rw [decide_eq_false hs]
          have HG := Aside0.mk (one_code2 HA.out HXE.out hs (of_eq_true b2))
          have HL := Aside0.mk (of_eq_true b2)
          clear hs
          go_wp2
          go_meet
          case rel =>
            have H2 := H.out
            rw [HG.out] at H2
            exact ⟨1, x, _, rfl, ⟨by have := HL.out; omega⟩, ⟨rfl⟩, ⟨HA.out.drop _⟩, ⟨H2⟩, BR, BT, HB⟩
      case rest => as_aux_lemma =>
        obtain ⟨at_, c, ra, rfl, HAT, HRA, HRB, HG, BR, BT, HB⟩ := hcut
        obtain ⟨i0, hi0, _, hsz, _⟩ := info_parts info5
        obtain ⟨A1, hcut, hA1, hC1⟩ := print_drop_of (P := Try.prog) (Value.int .u8) 0 22 5 .i64 Try.underlying22 hi0 hsz (some ad) c0 l0 at_ HAT.out.1 HAT.out.2 HC0.out
        rw [HRA.out] at hcut hA1 hC1
        have HRR := Aside0.mk (Kd.C_of_reads (h1 := fun _ => rfl) (hA1 _ (Kd.reads_of_C HR0.out)))
        have HCR := Aside0.mk hC1
        generalize c0 - at_.toNat = c1 at hcut HCR
        clear hA1 hC1 hi0 hsz
        obtain ⟨kd, hkd, H2⟩ := Option.bind_eq_some_iff.1 HG.out
        by_cases hr : 0 ≤ kd ∧ kd ≤ 6
        rotate_left
        · rw [if_neg hr] at H2; cases H2
        rw [if_pos hr] at H2
        have HK := Aside0.mk hkd
        have HKR := Aside0.mk hr
        have HT := Aside0.mk H2
        clear hkd hr H2 HG H HXE HXR w0 b0 b1 b2
        (obtain ⟨t0, t1, t2, t3⟩ := TB.cells BT.out |>.1)
        go_upto_region 13 with (first | (with_reducible refine stop_block ?_) | (go_at_call 29; (with_reducible refine (tinderref13_Behind.calls _ _ _ _ HK.out).mono ?_); rintro e w2 ⟨rfl, ⟨nd, rfl⟩⟩; have n1_ := Aside0.mk (BT.out.drewN nd); have n2_ := Aside0.mk (BR.out.drewN nd); have n3_ : Aside0 (Below w.heap.size w (wc.drewN nd)) := ⟨by repeat (first | exact HB.out | apply pw_below_drewN | apply below_drewN)⟩; generalize World.drewN wc nd = w2 at n1_ n2_ n3_ ⊢))
        clear BT BR HB t0 t1 t2 t3
        have BT := n1_
        have BR := n2_
        have HB := n3_
        clear n1_ n2_ n3_
        unfold Stop
        (try simp only [Act.put, List.setIfInBounds_toArray, List.set_cons_zero, List.set_cons_succ])
        go_cut [] (fun wc => ∃ t : S34, Aside0 (one.h k a1 t = some (r1, r2, r3, r4, r5)) ∧ Aside0 (TB wc gb175 0 0 (⟨#[]⟩ : ByteArray) 0) ∧ Aside0 (TB wc gb176 t.f0 t.f1 t.f2 t.f3) ∧ Aside0 (Below w.heap.size w wc))
        case first => as_aux_lemma =>
          rcases (show kd = 0 ∨ kd = 1 ∨ kd = 2 ∨ kd = 3 ∨ kd = 4 ∨ kd = 5 ∨ kd = 6 by have := HKR.out; omega) with rfl | rfl | rfl | rfl | rfl | rfl | rfl
          · as_aux_lemma =>
              have H2 := HT.out
              unfold tokP at H2
              simp only [Int.reduceEq, if_false, Bool.false_eq_true] at H2
              have HH := Aside0.mk H2
              clear H2
              go_wp2
              go_meet
              case rel => exact ⟨⟨c, 0, (⟨#[]⟩ : ByteArray), 0⟩, HH, BR, BT, HB⟩
          · as_aux_lemma =>
              by_cases hl : ra.length < 4
              · have d1 : decide ((ra.length : Int) < 4) = true := decide_eq_true (by omega)
                have HL := Aside0.mk hl
                clear hl
                (obtain ⟨t0, t1, t2, t3⟩ := TB.cells BT.out |>.1)
                (obtain ⟨g0, g1, g2, g3⟩ := TB.cells BT.out |>.2)
                (obtain ⟨z0, z1, z2, z3⟩ := TB.cells BR.out |>.1)
                (obtain ⟨y0, y1, y2, y3⟩ := TB.cells BR.out |>.2)
                go_upto_region 15 with (fail)
                repeat (first | go_skip | go_guarded | go_step | go_upon)
                have ht := TB.zero BR.out
                have H2 := HT.out
                unfold tokP at H2
                simp only [Int.reduceEq, if_true] at H2
                rw [if_pos (one_lack HL.out)] at H2
                simp only [Option.some.injEq, Prod.mk.injEq] at H2
                obtain ⟨rfl, rfl, rfl, rfl, rfl⟩ := H2
                refine one_end ht rfl rfl rfl ⟨rfl, ?_⟩
                repeat (first | exact HB.out | refine below_set ?_ GE175.out)
              · have d1 : decide ((ra.length : Int) < 4) = false := decide_eq_false (by omega)
                have HL := Aside0.mk hl
                have p0 : (0 : Int) < (ra.length : Int) := by omega
                have b0 : decide ((0 : Int) < (ra.length : Int)) = true := decide_eq_true p0
                have l0 : (0 < ra.length) = True := eq_true (by omega)
                obtain ⟨ae0, e0, hx0⟩ := Kd.at_int HRR.out 0 (by omega) p0
                cases e0
                (try rw [show ((0 : Int)).toNat = 0 from rfl] at hx0)
                (try rw [Addr.add_zero'] at hx0)
                have HZ0 := Aside0.mk hx0
                replace hx0 := (HB.out.cell (World.block_lt_of_cell? w _ hx0)).trans hx0
                have hr0 : 0 ≤ rd ra 0 ∧ rd ra 0 ≤ 255 := getD_by HRB.out 0
                obtain ⟨v0, hv0⟩ : ∃ q_, q_ = rd ra 0 := ⟨_, rfl⟩
                rw [← hv0] at hr0 hx0
                have HV0 := Aside0.mk hv0
                have HR0 := Aside0.mk hr0
                have q0 := eq_true p0
                clear p0 hr0
                have p1 : (1 : Int) < (ra.length : Int) := by omega
                have b1 : decide ((1 : Int) < (ra.length : Int)) = true := decide_eq_true p1
                have l1 : (1 < ra.length) = True := eq_true (by omega)
                obtain ⟨ae1, e1, hx1⟩ := Kd.at_int HRR.out 1 (by omega) p1
                obtain rfl : ae0 = ae1 := (by injection e1)
                clear e1
                (try rw [show ((1 : Int)).toNat = 1 from rfl] at hx1)
                (try simp only [Nat.reduceMul, Nat.reduceEqDiff, Go.Addr.add, ↓reduceIte] at hx1)
                have HZ1 := Aside0.mk hx1
                replace hx1 := (HB.out.cell (World.block_lt_of_cell? w _ hx1)).trans hx1
                have hr1 : 0 ≤ rd ra 1 ∧ rd ra 1 ≤ 255 := getD_by HRB.out 1
                obtain ⟨v1, hv1⟩ : ∃ q_, q_ = rd ra 1 := ⟨_, rfl⟩
                rw [← hv1] at hr1 hx1
                have HV1 := Aside0.mk hv1
                have HR1 := Aside0.mk hr1
                have q1 := eq_true p1
                clear p1 hr1
                have p2 : (2 : Int) < (ra.length : Int) := by omega
                have b2 : decide ((2 : Int) < (ra.length : Int)) = true := decide_eq_true p2
                have l2 : (2 < ra.length) = True := eq_true (by omega)
                obtain ⟨ae2, e2, hx2⟩ := Kd.at_int HRR.out 2 (by omega) p2
                obtain rfl : ae0 = ae2 := (by injection e2)
                clear e2
                (try rw [show ((2 : Int)).toNat = 2 from rfl] at hx2)
                (try simp only [Nat.reduceMul, Nat.reduceEqDiff, Go.Addr.add, ↓reduceIte] at hx2)
                have HZ2 := Aside0.mk hx2
                replace hx2 := (HB.out.cell (World.block_lt_of_cell? w _ hx2)).trans hx2
                have hr2 : 0 ≤ rd ra 2 ∧ rd ra 2 ≤ 255 := getD_by HRB.out 2
                obtain ⟨v2, hv2⟩ : ∃ q_, q_ = rd ra 2 := ⟨_, rfl⟩
                rw [← hv2] at hr2 hx2
                have HV2 := Aside0.mk hv2
                have HR2 := Aside0.mk hr2
                have q2 := eq_true p2
                clear p2 hr2
                have p3 : (3 : Int) < (ra.length : Int) := by omega
                have b3 : decide ((3 : Int) < (ra.length : Int)) = true := decide_eq_true p3
                have l3 : (3 < ra.length) = True := eq_true (by omega)
                obtain ⟨ae3, e3, hx3⟩ := Kd.at_int HRR.out 3 (by omega) p3
                obtain rfl : ae0 = ae3 := (by injection e3)
                clear e3
                (try rw [show ((3 : Int)).toNat = 3 from rfl] at hx3)
                (try simp only [Nat.reduceMul, Nat.reduceEqDiff, Go.Addr.add, ↓reduceIte] at hx3)
                have HZ3 := Aside0.mk hx3
                replace hx3 := (HB.out.cell (World.block_lt_of_cell? w _ hx3)).trans hx3
                have hr3 : 0 ≤ rd ra 3 ∧ rd ra 3 ≤ 255 := getD_by HRB.out 3
                obtain ⟨v3, hv3⟩ : ∃ q_, q_ = rd ra 3 := ⟨_, rfl⟩
                rw [← hv3] at hr3 hx3
                have HV3 := Aside0.mk hv3
                have HR3 := Aside0.mk hr3
                have q3 := eq_true p3
                clear p3 hr3
                clear hv0 hv1 hv2 hv3
                clear hl
                (obtain ⟨t0, t1, t2, t3⟩ := TB.cells BT.out |>.1)
                (obtain ⟨g0, g1, g2, g3⟩ := TB.cells BT.out |>.2)
                (obtain ⟨z0, z1, z2, z3⟩ := TB.cells BR.out |>.1)
                (obtain ⟨y0, y1, y2, y3⟩ := TB.cells BR.out |>.2)
                go_upto_region 16 with (fail)
                go_still_tail 23, (by kernel_rfl)
                repeat (first | go_skip | go_guarded | go_step | go_upon)
                go_meet
                case rel =>
                  have H2 := HT.out
                  unfold tokP at H2
                  simp only [Int.reduceEq, if_true] at H2
                  rw [one_four HRB.out HL.out, if_neg Bool.false_ne_true, ← HV0.out, ← HV1.out, ← HV2.out, ← HV3.out] at H2
                  have := HR0.out
                  exact ⟨_, ⟨H2⟩, ⟨TB.far BR.out NB.out _⟩, ⟨TB.cast1 (TB.set1 BT.out _) (by have := HR0.out; have := HR1.out; have := HR2.out; have := HR3.out; show _ = (((v0 * 256 + v1) * 256 + v2) * 256 + v3); omega)⟩, ⟨below_drew1 (below_set HB.out GE176.out)⟩⟩
          · as_aux_lemma =>
              by_cases hl : ra.length < 1
              · have d1 : decide ((ra.length : Int) < 1) = true := decide_eq_true (by omega)
                have HL := Aside0.mk hl
                clear hl
                (obtain ⟨t0, t1, t2, t3⟩ := TB.cells BT.out |>.1)
                (obtain ⟨g0, g1, g2, g3⟩ := TB.cells BT.out |>.2)
                (obtain ⟨z0, z1, z2, z3⟩ := TB.cells BR.out |>.1)
                (obtain ⟨y0, y1, y2, y3⟩ := TB.cells BR.out |>.2)
                go_upto_region 19 with (fail)
                repeat (first | go_skip | go_guarded | go_step | go_upon)
                have ht := TB.zero BR.out
                have H2 := HT.out
                unfold tokP at H2
                simp only [Int.reduceEq, if_true, if_false] at H2
                rw [if_pos (one_code0 HL.out)] at H2
                simp only [Option.some.injEq, Prod.mk.injEq] at H2
                obtain ⟨rfl, rfl, rfl, rfl, rfl⟩ := H2
                refine one_end ht rfl rfl rfl ⟨rfl, ?_⟩
                repeat (first | exact HB.out | refine below_set ?_ GE175.out)
              · have d1 : decide ((ra.length : Int) < 1) = false := decide_eq_false (by omega)
                by_cases hs : 0 < rd ra 0 ∧ rd ra 0 < 16
                · have HS := Aside0.mk hs
                  clear hs
                  by_cases hl2 : ra.length < 2
                  · have hl1 : ra.length < 2 := hl2
                    have d2 : decide ((ra.length : Int) < 2) = true := decide_eq_true (by omega)
                    have HL := Aside0.mk hl1
                    have p0 : (0 : Int) < (ra.length : Int) := by omega
                    have b0 : decide ((0 : Int) < (ra.length : Int)) = true := decide_eq_true p0
                    have l0 : (0 < ra.length) = True := eq_true (by omega)
                    obtain ⟨ae0, e0, hx0⟩ := Kd.at_int HRR.out 0 (by omega) p0
                    cases e0
                    (try rw [show ((0 : Int)).toNat = 0 from rfl] at hx0)
                    (try rw [Addr.add_zero'] at hx0)
                    have HZ0 := Aside0.mk hx0
                    replace hx0 := (HB.out.cell (World.block_lt_of_cell? w _ hx0)).trans hx0
                    have hr0 : 0 ≤ rd ra 0 ∧ rd ra 0 ≤ 255 := getD_by HRB.out 0
                    obtain ⟨v0, hv0⟩ : ∃ q_, q_ = rd ra 0 := ⟨_, rfl⟩
                    rw [← hv0] at hr0 hx0
                    have HV0 := Aside0.mk hv0
                    have HR0 := Aside0.mk hr0
                    have q0 := eq_true p0
                    clear p0 hr0
                    clear hv0
                    have c1 : decide (0 < v0) = true := decide_eq_true (by have := HS.out; rw [← HV0.out] at this; exact this.1)
                    have c2 : decide (v0 < 16) = true := decide_eq_true (by have := HS.out; rw [← HV0.out] at this; exact this.2)
                    have w1 : v0 % 4294967296 = v0 := by have := HR0.out; omega
                    clear hl hl1 hl2
                    (obtain ⟨t0, t1, t2, t3⟩ := TB.cells BT.out |>.1)
                    (obtain ⟨g0, g1, g2, g3⟩ := TB.cells BT.out |>.2)
                    (obtain ⟨z0, z1, z2, z3⟩ := TB.cells BR.out |>.1)
                    (obtain ⟨y0, y1, y2, y3⟩ := TB.cells BR.out |>.2)
                    go_upto_region 21 with (fail)
                    clear hx0
                    have n1_ := Aside0.mk (TB.set1 BT.out v0)
                    have n2_ := Aside0.mk (TB.far BR.out NB.out (i := 1) (.int .u32 v0))
                    have n3_ : Aside0 (Below w.heap.size w (w2.setCell ⟨gb176, 1, none⟩ (.int .u32 v0))) := ⟨below_set HB.out GE176.out⟩
                    clear BT BR HB
                    clear t0 t1 t2 t3 g0 g1 g2 g3 z0 z1 z2 z3 y0 y1 y2 y3
                    generalize World.setCell w2 ⟨gb176, 1, none⟩ (.int .u32 v0) = w4 at n1_ n2_ n3_ ⊢
                    have BT := n1_
                    have BR := n2_
                    have HB := n3_
                    clear n1_ n2_ n3_
                    (obtain ⟨t0, t1, t2, t3⟩ := TB.cells BT.out |>.1)
                    (obtain ⟨g0, g1, g2, g3⟩ := TB.cells BT.out |>.2)
                    (obtain ⟨z0, z1, z2, z3⟩ := TB.cells BR.out |>.1)
                    (obtain ⟨y0, y1, y2, y3⟩ := TB.cells BR.out |>.2)
                    go_upto_region 23 with (fail)
                    repeat (first | go_skip | go_guarded | go_step | go_upon)
                    have ht := TB.zero BR.out
                    have H2 := HT.out
                    unfold tokP at H2
                    simp only [Int.reduceEq, if_true, if_false] at H2
                    rw [if_pos (one_code1 HRB.out rfl HS.out HL.out)] at H2
                    simp only [Option.some.injEq, Prod.mk.injEq] at H2
                    obtain ⟨rfl, rfl, rfl, rfl, rfl⟩ := H2
                    refine one_end ht rfl rfl rfl ⟨rfl, ?_⟩
                    repeat (first | exact HB.out | refine below_set ?_ GE175.out)
                  · have d2 : decide ((ra.length : Int) < 2) = false := decide_eq_false (by omega)
                    have HL := Aside0.mk hl2
                    have p0 : (0 : Int) < (ra.length : Int) := by omega
                    have b0 : decide ((0 : Int) < (ra.length : Int)) = true := decide_eq_true p0
                    have l0 : (0 < ra.length) = True := eq_true (by omega)
                    obtain ⟨ae0, e0, hx0⟩ := Kd.at_int HRR.out 0 (by omega) p0
                    cases e0
                    (try rw [show ((0 : Int)).toNat = 0 from rfl] at hx0)
                    (try rw [Addr.add_zero'] at hx0)
                    have HZ0 := Aside0.mk hx0
                    replace hx0 := (HB.out.cell (World.block_lt_of_cell? w _ hx0)).trans hx0
                    have hr0 : 0 ≤ rd ra 0 ∧ rd ra 0 ≤ 255 := getD_by HRB.out 0
                    obtain ⟨v0, hv0⟩ : ∃ q_, q_ = rd ra 0 := ⟨_, rfl⟩
                    rw [← hv0] at hr0 hx0
                    have HV0 := Aside0.mk hv0
                    have HR0 := Aside0.mk hr0
                    have q0 := eq_true p0
                    clear p0 hr0
                    have p1 : (1 : Int) < (ra.length : Int) := by omega
                    have b1 : decide ((1 : Int) < (ra.length : Int)) = true := decide_eq_true p1
                    have l1 : (1 < ra.length) = True := eq_true (by omega)
                    obtain ⟨ae1, e1, hx1⟩ := Kd.at_int HRR.out 1 (by omega) p1
                    obtain rfl : ae0 = ae1 := (by injection e1)
                    clear e1
                    (try rw [show ((1 : Int)).toNat = 1 from rfl] at hx1)
                    (try simp only [Nat.reduceMul, Nat.reduceEqDiff, Go.Addr.add, ↓reduceIte] at hx1)
                    have HZ1 := Aside0.mk hx1
                    replace hx1 := (HB.out.cell (World.block_lt_of_cell? w _ hx1)).trans hx1
                    have hr1 : 0 ≤ rd ra 1 ∧ rd ra 1 ≤ 255 := getD_by HRB.out 1
                    obtain ⟨v1, hv1⟩ : ∃ q_, q_ = rd ra 1 := ⟨_, rfl⟩
                    rw [← hv1] at hr1 hx1
                    have HV1 := Aside0.mk hv1
                    have HR1 := Aside0.mk hr1
                    have q1 := eq_true p1
                    clear p1 hr1
                    clear hv0 hv1
                    have c1 : decide (0 < v0) = true := decide_eq_true (by have := HS.out; rw [← HV0.out] at this; exact this.1)
                    have c2 : decide (v0 < 16) = true := decide_eq_true (by have := HS.out; rw [← HV0.out] at this; exact this.2)
                    have w1 : v0 % 4294967296 = v0 := by have := HR0.out; omega
                    clear hl hl2
                    (obtain ⟨t0, t1, t2, t3⟩ := TB.cells BT.out |>.1)
                    (obtain ⟨g0, g1, g2, g3⟩ := TB.cells BT.out |>.2)
                    (obtain ⟨z0, z1, z2, z3⟩ := TB.cells BR.out |>.1)
                    (obtain ⟨y0, y1, y2, y3⟩ := TB.cells BR.out |>.2)
                    go_upto_region 21 with (fail)
                    clear hx0 hx1
                    have n1_ := Aside0.mk (TB.set1 BT.out v0)
                    have n2_ := Aside0.mk (TB.far BR.out NB.out (i := 1) (.int .u32 v0))
                    have n3_ : Aside0 (Below w.heap.size w (w2.setCell ⟨gb176, 1, none⟩ (.int .u32 v0))) := ⟨below_set HB.out GE176.out⟩
                    clear BT BR HB
                    clear t0 t1 t2 t3 g0 g1 g2 g3 z0 z1 z2 z3 y0 y1 y2 y3
                    generalize World.setCell w2 ⟨gb176, 1, none⟩ (.int .u32 v0) = w4 at n1_ n2_ n3_ ⊢
                    have BT := n1_
                    have BR := n2_
                    have HB := n3_
                    clear n1_ n2_ n3_
                    (obtain ⟨t0, t1, t2, t3⟩ := TB.cells BT.out |>.1)
                    (obtain ⟨g0, g1, g2, g3⟩ := TB.cells BT.out |>.2)
                    (obtain ⟨z0, z1, z2, z3⟩ := TB.cells BR.out |>.1)
                    (obtain ⟨y0, y1, y2, y3⟩ := TB.cells BR.out |>.2)
                    have hx1 := (HB.out.cell (World.block_lt_of_cell? w _ HZ1.out)).trans HZ1.out
                    go_upto_region 24 with (fail)
                    go_still_tail 9, (by kernel_rfl)
                    repeat (first | go_skip | go_guarded | go_step | go_upon)
                    go_meet
                    case rel =>
                      have H2 := HT.out
                      unfold tokP at H2
                      simp only [Int.reduceEq, if_true, if_false] at H2
                      rw [one_code3 HRB.out rfl HS.out HL.out, if_neg Bool.false_ne_true, ← HV0.out, ← HV1.out] at H2
                      exact ⟨_, ⟨H2⟩, ⟨TB.far BR.out NB.out _⟩, ⟨TB.cast1 (TB.set1 BT.out _) (by have := HR0.out; have := HR1.out; have := HV1.out; show _ = v0 * 256 + v1; omega)⟩, ⟨below_drew1 (below_set HB.out GE176.out)⟩⟩
                · have HS := Aside0.mk hs
                  clear hs
                  by_cases hs : 0 < rd ra 0
                  · have p0 : (0 : Int) < (ra.length : Int) := by omega
                    have b0 : decide ((0 : Int) < (ra.length : Int)) = true := decide_eq_true p0
                    have l0 : (0 < ra.length) = True := eq_true (by omega)
                    obtain ⟨ae0, e0, hx0⟩ := Kd.at_int HRR.out 0 (by omega) p0
                    cases e0
                    (try rw [show ((0 : Int)).toNat = 0 from rfl] at hx0)
                    (try rw [Addr.add_zero'] at hx0)
                    have HZ0 := Aside0.mk hx0
                    replace hx0 := (HB.out.cell (World.block_lt_of_cell? w _ hx0)).trans hx0
                    have hr0 : 0 ≤ rd ra 0 ∧ rd ra 0 ≤ 255 := getD_by HRB.out 0
                    obtain ⟨v0, hv0⟩ : ∃ q_, q_ = rd ra 0 := ⟨_, rfl⟩
                    rw [← hv0] at hr0 hx0
                    have HV0 := Aside0.mk hv0
                    have HR0 := Aside0.mk hr0
                    have q0 := eq_true p0
                    clear p0 hr0
                    clear hv0
                    have HL := Aside0.mk (show 0 < ra.length by omega)
                    have w1 : v0 % 4294967296 = v0 := by have := HR0.out; omega
                    have c1 : decide (0 < v0) = true := decide_eq_true (by rw [← HV0.out] at hs; exact hs)
                    have c2 : decide (v0 < 16) = false := decide_eq_false (fun q => HS.out ⟨hs, by rw [← HV0.out]; exact q⟩)
                    clear hs
                    clear hl
                    (obtain ⟨t0, t1, t2, t3⟩ := TB.cells BT.out |>.1)
                    (obtain ⟨g0, g1, g2, g3⟩ := TB.cells BT.out |>.2)
                    (obtain ⟨z0, z1, z2, z3⟩ := TB.cells BR.out |>.1)
                    (obtain ⟨y0, y1, y2, y3⟩ := TB.cells BR.out |>.2)
                    go_upto_region 21 with (fail)
                    clear hx0
                    have n1_ := Aside0.mk (TB.set1 BT.out v0)
                    have n2_ := Aside0.mk (TB.far BR.out NB.out (i := 1) (.int .u32 v0))
                    have n3_ : Aside0 (Below w.heap.size w (w2.setCell ⟨gb176, 1, none⟩ (.int .u32 v0))) := ⟨below_set HB.out GE176.out⟩
                    clear BT BR HB
                    clear t0 t1 t2 t3 g0 g1 g2 g3 z0 z1 z2 z3 y0 y1 y2 y3
                    generalize World.setCell w2 ⟨gb176, 1, none⟩ (.int .u32 v0) = w4 at n1_ n2_ n3_ ⊢
                    have BT := n1_
                    have BR := n2_
                    have HB := n3_
                    clear n1_ n2_ n3_
                    (obtain ⟨t0, t1, t2, t3⟩ := TB.cells BT.out |>.1)
                    (obtain ⟨g0, g1, g2, g3⟩ := TB.cells BT.out |>.2)
                    (obtain ⟨z0, z1, z2, z3⟩ := TB.cells BR.out |>.1)
                    (obtain ⟨y0, y1, y2, y3⟩ := TB.cells BR.out |>.2)
                    repeat (first | go_skip | go_guarded | go_step | go_upon)
                    go_meet
                    case rel =>
                      have H2 := HT.out
                      unfold tokP at H2
                      simp only [Int.reduceEq, if_true, if_false] at H2
                      rw [one_code2 HRB.out rfl HS.out HL.out, if_neg Bool.false_ne_true, ← HV0.out] at H2
                      exact ⟨_, ⟨H2⟩, BR, BT, HB⟩
                  · have p0 : (0 : Int) < (ra.length : Int) := by omega
                    have b0 : decide ((0 : Int) < (ra.length : Int)) = true := decide_eq_true p0
                    have l0 : (0 < ra.length) = True := eq_true (by omega)
                    obtain ⟨ae0, e0, hx0⟩ := Kd.at_int HRR.out 0 (by omega) p0
                    cases e0
                    (try rw [show ((0 : Int)).toNat = 0 from rfl] at hx0)
                    (try rw [Addr.add_zero'] at hx0)
                    have HZ0 := Aside0.mk hx0
                    replace hx0 := (HB.out.cell (World.block_lt_of_cell? w _ hx0)).trans hx0
                    have hr0 : 0 ≤ rd ra 0 ∧ rd ra 0 ≤ 255 := getD_by HRB.out 0
                    obtain ⟨v0, hv0⟩ : ∃ q_, q_ = rd ra 0 := ⟨_, rfl⟩
                    rw [← hv0] at hr0 hx0
                    have HV0 := Aside0.mk hv0
                    have HR0 := Aside0.mk hr0
                    have q0 := eq_true p0
                    clear p0 hr0
                    clear hv0
                    have HL := Aside0.mk (show 0 < ra.length by omega)
                    have w1 : v0 % 4294967296 = v0 := by have := HR0.out; omega
                    have c1 : decide (0 < v0) = false := decide_eq_false (by rw [← HV0.out] at hs; exact hs)
                    clear hs
                    clear hl
                    (obtain ⟨t0, t1, t2, t3⟩ := TB.cells BT.out |>.1)
                    (obtain ⟨g0, g1, g2, g3⟩ := TB.cells BT.out |>.2)
                    (obtain ⟨z0, z1, z2, z3⟩ := TB.cells BR.out |>.1)
                    (obtain ⟨y0, y1, y2, y3⟩ := TB.cells BR.out |>.2)
                    go_upto_region 21 with (fail)
                    clear hx0
                    have n1_ := Aside0.mk (TB.set1 BT.out v0)
                    have n2_ := Aside0.mk (TB.far BR.out NB.out (i := 1) (.int .u32 v0))
                    have n3_ : Aside0 (Below w.heap.size w (w2.setCell ⟨gb176, 1, none⟩ (.int .u32 v0))) := ⟨below_set HB.out GE176.out⟩
                    clear BT BR HB
                    clear t0 t1 t2 t3 g0 g1 g2 g3 z0 z1 z2 z3 y0 y1 y2 y3
                    generalize World.setCell w2 ⟨gb176, 1, none⟩ (.int .u32 v0) = w4 at n1_ n2_ n3_ ⊢
                    have BT := n1_
                    have BR := n2_
                    have HB := n3_
                    clear n1_ n2_ n3_
                    (obtain ⟨t0, t1, t2, t3⟩ := TB.cells BT.out |>.1)
                    (obtain ⟨g0, g1, g2, g3⟩ := TB.cells BT.out |>.2)
                    (obtain ⟨z0, z1, z2, z3⟩ := TB.cells BR.out |>.1)
                    (obtain ⟨y0, y1, y2, y3⟩ := TB.cells BR.out |>.2)
                    repeat (first | go_skip | go_guarded | go_step | go_upon)
                    go_meet
                    case rel =>
                      have H2 := HT.out
                      unfold tokP at H2
                      simp only [Int.reduceEq, if_true, if_false] at H2
                      rw [one_code2 HRB.out rfl HS.out HL.out, if_neg Bool.false_ne_true, ← HV0.out] at H2
                      exact ⟨_, ⟨H2⟩, BR, BT, HB⟩
          · as_aux_lemma =>
              by_cases hl : ra.length < 1
              · have d1 : decide ((ra.length : Int) < 1) = true := decide_eq_true (by omega)
                have HL := Aside0.mk hl
                clear hl
                (obtain ⟨t0, t1, t2, t3⟩ := TB.cells BT.out |>.1)
                (obtain ⟨g0, g1, g2, g3⟩ := TB.cells BT.out |>.2)
                (obtain ⟨z0, z1, z2, z3⟩ := TB.cells BR.out |>.1)
                (obtain ⟨y0, y1, y2, y3⟩ := TB.cells BR.out |>.2)
                go_upto_region 42 with (fail)
                repeat (first | go_skip | go_guarded | go_step | go_upon)
                have ht := TB.zero BR.out
                have H2 := HT.out
                rw [if_pos (one_t3_lack1 HL.out)] at H2
                simp only [Option.some.injEq, Prod.mk.injEq] at H2
                obtain ⟨rfl, rfl, rfl, rfl, rfl⟩ := H2
                refine one_end ht rfl rfl rfl ⟨rfl, ?_⟩
                repeat (first | exact HB.out | refine below_set ?_ GE175.out)
              · have d1 : decide ((ra.length : Int) < 1) = false := decide_eq_false (by omega)
                have HL := Aside0.mk hl
                have p0 : (0 : Int) < (ra.length : Int) := by omega
                have b0 : decide ((0 : Int) < (ra.length : Int)) = true := decide_eq_true p0
                have l0 : (0 < ra.length) = True := eq_true (by omega)
                obtain ⟨ae0, e0, hx0⟩ := Kd.at_int HRR.out 0 (by omega) p0
                cases e0
                (try rw [show ((0 : Int)).toNat = 0 from rfl] at hx0)
                (try rw [Addr.add_zero'] at hx0)
                have HZ0 := Aside0.mk hx0
                replace hx0 := (HB.out.cell (World.block_lt_of_cell? w _ hx0)).trans hx0
                have hr0 : 0 ≤ rd ra 0 ∧ rd ra 0 ≤ 255 := getD_by HRB.out 0
                obtain ⟨v0, hv0⟩ : ∃ q_, q_ = rd ra 0 := ⟨_, rfl⟩
                rw [← hv0] at hr0 hx0
                have HV0 := Aside0.mk hv0
                have HR0 := Aside0.mk hr0
                have q0 := eq_true p0
                clear p0 hr0
                clear hv0
                have w1 : wrap64 v0 = v0 := by have := HR0.out; unfold wrap64; omega
                obtain ⟨n, hn⟩ : ∃ q_, q_ = 1 + v0 := ⟨_, rfl⟩
                have HN := Aside0.mk hn
                have HNR := Aside0.mk (show 1 ≤ n ∧ n ≤ 256 by have := HR0.out; omega)
                have w2 : wrap64 (1 + v0) = n := by have := HR0.out; have := HN.out; unfold wrap64; omega
                clear hn hl
                by_cases hl2 : (ra.length : Int) < n
                · have d2 : decide ((ra.length : Int) < n) = true := decide_eq_true hl2
                  have HL2 := Aside0.mk hl2
                  clear hl2
                  (obtain ⟨t0, t1, t2, t3⟩ := TB.cells BT.out |>.1)
                  (obtain ⟨g0, g1, g2, g3⟩ := TB.cells BT.out |>.2)
                  (obtain ⟨z0, z1, z2, z3⟩ := TB.cells BR.out |>.1)
                  (obtain ⟨y0, y1, y2, y3⟩ := TB.cells BR.out |>.2)
                  go_upto_region 42 with (fail)
                  repeat (first | go_skip | go_guarded | go_step | go_upon)
                  have ht := TB.zero BR.out
                  have H2 := HT.out
                  rw [if_pos (one_t3_lack2 HRB.out HL.out HV0.out HN.out HL2.out)] at H2
                  simp only [Option.some.injEq, Prod.mk.injEq] at H2
                  obtain ⟨rfl, rfl, rfl, rfl, rfl⟩ := H2
                  refine one_end ht rfl rfl rfl ⟨rfl, ?_⟩
                  repeat (first | exact HB.out | refine below_set ?_ GE175.out)
                · have d2 : decide ((ra.length : Int) < n) = false := decide_eq_false hl2
                  have HL2 := Aside0.mk (Int.not_lt.mp hl2)
                  clear hl2
                  obtain ⟨i1, hi1, _, hsz1, _⟩ := info_parts info5
                  obtain ⟨A2, hcut2, hA2, hC2⟩ := print_mid_of (P := Try.prog) (Value.int .u8) 0 22 5 .i64 .i64 Try.underlying22 hi1 hsz1 (some ae0) c1 ra 1 n (by decide) HNR.out.1 HL2.out HCR.out
                  have HS2 := Aside0.mk (Kd.C_below (Kd.C_of_reads (h1 := fun _ => rfl) (hA2 _ (Kd.reads_of_C HRR.out))) HB.out)
                  obtain ⟨sg, hsg⟩ : ∃ q_, q_ = (ra.take n.toNat).drop (1 : Int).toNat := ⟨_, rfl⟩
                  have HSG := Aside0.mk hsg
                  rw [← hsg] at hcut2 HS2
                  have hcv := Kd.C_string (P := Try.prog) (c := c1 - (1 : Int).toNat) Try.underlying22 Try.underlying5 Try.underlying9 HS2.out
                  generalize c1 - (1 : Int).toNat = c2 at hcut2 hcv
                  clear hA2 hC2 hi1 hsz1 hsg HS2
                  (obtain ⟨t0, t1, t2, t3⟩ := TB.cells BT.out |>.1)
                  (obtain ⟨g0, g1, g2, g3⟩ := TB.cells BT.out |>.2)
                  (obtain ⟨z0, z1, z2, z3⟩ := TB.cells BR.out |>.1)
                  (obtain ⟨y0, y1, y2, y3⟩ := TB.cells BR.out |>.2)
                  go_upto_region 45 with (fail)
                  clear hcut2 hcv hx0 w1 w2 d1 d2
                  have n1_ := Aside0.mk (TB.set2 BT.out (strOfNums sg))
                  have n2_ := Aside0.mk (TB.far BR.out NB.out (i := 2) (.string (strOfNums sg)))
                  have n3_ : Aside0 (Below w.heap.size w (w2.setCell ⟨gb176, 2, none⟩ (.string (strOfNums sg)))) := ⟨below_set HB.out GE176.out⟩
                  clear BT BR HB
                  clear t0 t1 t2 t3 g0 g1 g2 g3 z0 z1 z2 z3 y0 y1 y2 y3
                  generalize World.setCell w2 ⟨gb176, 2, none⟩ (.string (strOfNums sg)) = w4 at n1_ n2_ n3_ ⊢
                  have BT := n1_
                  have BR := n2_
                  have HB := n3_
                  clear n1_ n2_ n3_
                  (obtain ⟨t0, t1, t2, t3⟩ := TB.cells BT.out |>.1)
                  (obtain ⟨g0, g1, g2, g3⟩ := TB.cells BT.out |>.2)
                  (obtain ⟨z0, z1, z2, z3⟩ := TB.cells BR.out |>.1)
                  (obtain ⟨y0, y1, y2, y3⟩ := TB.cells BR.out |>.2)
                  go_wp2_with (go_at_call 29; (with_reducible refine (tinderref13_Behind.calls _ _ _ _ HK.out).mono ?_); rintro e w5 ⟨rfl, ⟨nd, rfl⟩⟩)
                  go_meet
                  case rel =>
                    have H2 := HT.out
                    rw [one_t3 HRB.out HL.out HV0.out HN.out HL2.out, if_neg Bool.false_ne_true, ← HSG.out] at H2
                    exact ⟨_, ⟨H2⟩, ⟨BR.out.drewN nd⟩, ⟨BT.out.drewN nd⟩, ⟨by repeat (first | exact HB.out | apply pw_below_drewN | apply below_drewN)⟩⟩
          · as_aux_lemma =>
              cases a1 with
              | false =>
                by_cases hl : ra.length < 1
                · have d1 : decide ((ra.length : Int) < 1) = true := decide_eq_true (by omega)
                  have HL := Aside0.mk hl
                  clear hl
                  (obtain ⟨t0, t1, t2, t3⟩ := TB.cells BT.out |>.1)
                  (obtain ⟨g0, g1, g2, g3⟩ := TB.cells BT.out |>.2)
                  (obtain ⟨z0, z1, z2, z3⟩ := TB.cells BR.out |>.1)
                  (obtain ⟨y0, y1, y2, y3⟩ := TB.cells BR.out |>.2)
                  go_upto_region 27 with (fail)
                  repeat (first | go_skip | go_guarded | go_step | go_upon)
                  have ht := TB.zero BR.out
                  have H2 := HT.out
                  unfold tokP at H2
                  simp only [Int.reduceEq, Bool.false_eq_true, if_true, if_false] at H2
                  rw [if_pos (one_lack HL.out)] at H2
                  simp only [Option.some.injEq, Prod.mk.injEq] at H2
                  obtain ⟨rfl, rfl, rfl, rfl, rfl⟩ := H2
                  refine one_end ht rfl rfl rfl ⟨rfl, ?_⟩
                  repeat (first | exact HB.out | refine below_set ?_ GE175.out)
                · have d1 : decide ((ra.length : Int) < 1) = false := decide_eq_false (by omega)
                  have HL := Aside0.mk hl
                  have p0 : (0 : Int) < (ra.length : Int) := by omega
                  have b0 : decide ((0 : Int) < (ra.length : Int)) = true := decide_eq_true p0
                  have l0 : (0 < ra.length) = True := eq_true (by omega)
                  obtain ⟨ae0, e0, hx0⟩ := Kd.at_int HRR.out 0 (by omega) p0
                  cases e0
                  (try rw [show ((0 : Int)).toNat = 0 from rfl] at hx0)
                  (try rw [Addr.add_zero'] at hx0)
                  have HZ0 := Aside0.mk hx0
                  replace hx0 := (HB.out.cell (World.block_lt_of_cell? w _ hx0)).trans hx0
                  have hr0 : 0 ≤ rd ra 0 ∧ rd ra 0 ≤ 255 := getD_by HRB.out 0
                  obtain ⟨v0, hv0⟩ : ∃ q_, q_ = rd ra 0 := ⟨_, rfl⟩
                  rw [← hv0] at hr0 hx0
                  have HV0 := Aside0.mk hv0
                  have HR0 := Aside0.mk hr0
                  have q0 := eq_true p0
                  clear p0 hr0
                  clear hv0
                  clear hl
                  (obtain ⟨t0, t1, t2, t3⟩ := TB.cells BT.out |>.1)
                  (obtain ⟨g0, g1, g2, g3⟩ := TB.cells BT.out |>.2)
                  (obtain ⟨z0, z1, z2, z3⟩ := TB.cells BR.out |>.1)
                  (obtain ⟨y0, y1, y2, y3⟩ := TB.cells BR.out |>.2)
                  by_cases hq : 128 ≤ v0
                  · have d2 : decide (128 ≤ v0) = true := decide_eq_true hq
                    have HQ := Aside0.mk hq
                    have w1 : wrap64 v0 = v0 := by have := HR0.out; unfold wrap64; omega
                    clear hq
                    go_wp2
                    go_meet
                    case rel =>
                      have H2 := HT.out
                      unfold tokP at H2
                      simp only [Int.reduceEq, Bool.false_eq_true, if_true, if_false] at H2
                      rw [one_one HRB.out HL.out, if_neg Bool.false_ne_true , ← HV0.out] at H2
                      have h0 := HR0.out
                      have h3 := HQ.out
                      rw [one_i8 (show 0 ≤ v0 ∧ v0 ≤ 255 by omega), if_pos (show 128 ≤ v0 by omega)] at H2
                      exact ⟨_, ⟨H2⟩, ⟨TB.far (TB.far (BR.out) NB.out _) NB.out _⟩, ⟨TB.cast3 (TB.set3 (TB.set3 BT.out _) _) (by show _ = v0 - 256; first | rfl | (unfold wrap64; omega))⟩, ⟨below_set (below_set (HB.out) GE176.out) GE176.out⟩⟩
                  · have d2 : decide (128 ≤ v0) = false := decide_eq_false hq
                    have HQ := Aside0.mk hq
                    have w1 : wrap64 v0 = v0 := by have := HR0.out; unfold wrap64; omega
                    clear hq
                    go_wp2
                    go_meet
                    case rel =>
                      have H2 := HT.out
                      unfold tokP at H2
                      simp only [Int.reduceEq, Bool.false_eq_true, if_true, if_false] at H2
                      rw [one_one HRB.out HL.out, if_neg Bool.false_ne_true , ← HV0.out] at H2
                      have h0 := HR0.out
                      have h3 := HQ.out
                      rw [one_i8 (show 0 ≤ v0 ∧ v0 ≤ 255 by omega), if_neg (show ¬ 128 ≤ v0 by omega)] at H2
                      exact ⟨_, ⟨H2⟩, ⟨TB.far (BR.out) NB.out _⟩, ⟨TB.cast3 (TB.set3 BT.out _) (by show _ = v0; first | rfl | (unfold wrap64; omega))⟩, ⟨below_set (HB.out) GE176.out⟩⟩
              | true =>
                by_cases hl1 : ra.length < 1
                · have hl : ra.length < 2 := by omega
                  have d1 : decide ((ra.length : Int) < 1) = true := decide_eq_true (by omega)
                  clear hl1
                  have HL := Aside0.mk hl
                  clear hl
                  (obtain ⟨t0, t1, t2, t3⟩ := TB.cells BT.out |>.1)
                  (obtain ⟨g0, g1, g2, g3⟩ := TB.cells BT.out |>.2)
                  (obtain ⟨z0, z1, z2, z3⟩ := TB.cells BR.out |>.1)
                  (obtain ⟨y0, y1, y2, y3⟩ := TB.cells BR.out |>.2)
                  go_upto_region 27 with (fail)
                  repeat (first | go_skip | go_guarded | go_step | go_upon)
                  have ht := TB.zero BR.out
                  have H2 := HT.out
                  unfold tokP at H2
                  simp only [Int.reduceEq, Bool.false_eq_true, if_true, if_false] at H2
                  rw [if_pos (one_lack HL.out)] at H2
                  simp only [Option.some.injEq, Prod.mk.injEq] at H2
                  obtain ⟨rfl, rfl, rfl, rfl, rfl⟩ := H2
                  refine one_end ht rfl rfl rfl ⟨rfl, ?_⟩
                  repeat (first | exact HB.out | refine below_set ?_ GE175.out)
                · have d1 : decide ((ra.length : Int) < 1) = false := decide_eq_false (by omega)
                  by_cases hl : ra.length < 2
                  · have d2 : decide ((ra.length : Int) < 2) = true := decide_eq_true (by omega)
                    clear hl1
                    have HL := Aside0.mk hl
                    clear hl
                    (obtain ⟨t0, t1, t2, t3⟩ := TB.cells BT.out |>.1)
                    (obtain ⟨g0, g1, g2, g3⟩ := TB.cells BT.out |>.2)
                    (obtain ⟨z0, z1, z2, z3⟩ := TB.cells BR.out |>.1)
                    (obtain ⟨y0, y1, y2, y3⟩ := TB.cells BR.out |>.2)
                    go_upto_region 27 with (fail)
                    repeat (first | go_skip | go_guarded | go_step | go_upon)
                    have ht := TB.zero BR.out
                    have H2 := HT.out
                    unfold tokP at H2
                    simp only [Int.reduceEq, Bool.false_eq_true, if_true, if_false] at H2
                    rw [if_pos (one_lack HL.out)] at H2
                    simp only [Option.some.injEq, Prod.mk.injEq] at H2
                    obtain ⟨rfl, rfl, rfl, rfl, rfl⟩ := H2
                    refine one_end ht rfl rfl rfl ⟨rfl, ?_⟩
                    repeat (first | exact HB.out | refine below_set ?_ GE175.out)
                  · have d2 : decide ((ra.length : Int) < 2) = false := decide_eq_false (by omega)
                    have HL := Aside0.mk hl
                    have p0 : (0 : Int) < (ra.length : Int) := by omega
                    have b0 : decide ((0 : Int) < (ra.length : Int)) = true := decide_eq_true p0
                    have l0 : (0 < ra.length) = True := eq_true (by omega)
                    obtain ⟨ae0, e0, hx0⟩ := Kd.at_int HRR.out 0 (by omega) p0
                    cases e0
                    (try rw [show ((0 : Int)).toNat = 0 from rfl] at hx0)
                    (try rw [Addr.add_zero'] at hx0)
                    have HZ0 := Aside0.mk hx0
                    replace hx0 := (HB.out.cell (World.block_lt_of_cell? w _ hx0)).trans hx0
                    have hr0 : 0 ≤ rd ra 0 ∧ rd ra 0 ≤ 255 := getD_by HRB.out 0
                    obtain ⟨v0, hv0⟩ : ∃ q_, q_ = rd ra 0 := ⟨_, rfl⟩
                    rw [← hv0] at hr0 hx0
                    have HV0 := Aside0.mk hv0
                    have HR0 := Aside0.mk hr0
                    have q0 := eq_true p0
                    clear p0 hr0
                    have p1 : (1 : Int) < (ra.length : Int) := by omega
                    have b1 : decide ((1 : Int) < (ra.length : Int)) = true := decide_eq_true p1
                    have l1 : (1 < ra.length) = True := eq_true (by omega)
                    obtain ⟨ae1, e1, hx1⟩ := Kd.at_int HRR.out 1 (by omega) p1
                    obtain rfl : ae0 = ae1 := (by injection e1)
                    clear e1
                    (try rw [show ((1 : Int)).toNat = 1 from rfl] at hx1)
                    (try simp only [Nat.reduceMul, Nat.reduceEqDiff, Go.Addr.add, ↓reduceIte] at hx1)
                    have HZ1 := Aside0.mk hx1
                    replace hx1 := (HB.out.cell (World.block_lt_of_cell? w _ hx1)).trans hx1
                    have hr1 : 0 ≤ rd ra 1 ∧ rd ra 1 ≤ 255 := getD_by HRB.out 1
                    obtain ⟨v1, hv1⟩ : ∃ q_, q_ = rd ra 1 := ⟨_, rfl⟩
                    rw [← hv1] at hr1 hx1
                    have HV1 := Aside0.mk hv1
                    have HR1 := Aside0.mk hr1
                    have q1 := eq_true p1
                    clear p1 hr1
                    clear hv0 hv1
                    clear hl hl1
                    (obtain ⟨t0, t1, t2, t3⟩ := TB.cells BT.out |>.1)
                    (obtain ⟨g0, g1, g2, g3⟩ := TB.cells BT.out |>.2)
                    (obtain ⟨z0, z1, z2, z3⟩ := TB.cells BR.out |>.1)
                    (obtain ⟨y0, y1, y2, y3⟩ := TB.cells BR.out |>.2)
                    have w1 : wrap64 v0 = v0 := by have := HR0.out; unfold wrap64; omega
                    go_upto_region 30 with (fail)
                    clear hx0 hx1
                    have n1_ := Aside0.mk (TB.set3 BT.out v0)
                    have n2_ := Aside0.mk (TB.far BR.out NB.out (i := 3) (.int .i64 v0))
                    have n3_ : Aside0 (Below w.heap.size w (w2.setCell ⟨gb176, 3, none⟩ (.int .i64 v0))) := ⟨below_set HB.out GE176.out⟩
                    clear BT BR HB
                    clear t0 t1 t2 t3 g0 g1 g2 g3 z0 z1 z2 z3 y0 y1 y2 y3
                    generalize World.setCell w2 ⟨gb176, 3, none⟩ (.int .i64 v0) = w4 at n1_ n2_ n3_ ⊢
                    have BT := n1_
                    have BR := n2_
                    have HB := n3_
                    clear n1_ n2_ n3_
                    (obtain ⟨t0, t1, t2, t3⟩ := TB.cells BT.out |>.1)
                    (obtain ⟨g0, g1, g2, g3⟩ := TB.cells BT.out |>.2)
                    (obtain ⟨z0, z1, z2, z3⟩ := TB.cells BR.out |>.1)
                    (obtain ⟨y0, y1, y2, y3⟩ := TB.cells BR.out |>.2)
                    have hx1 := (HB.out.cell (World.block_lt_of_cell? w _ HZ1.out)).trans HZ1.out
                    rw [← HV1.out] at hx1
                    go_upto_region 31 with (fail)
                    clear w1 d1 d2
                    go_still_tail 9, (by kernel_rfl)
                    go_upto_region 33 with (fail)
                    rw [show wrap64 (wrap64 (v0 * 256) + wrap64 v1) = v0 * 256 + v1 by have := HR0.out; have := HR1.out; unfold wrap64; omega]
                    obtain ⟨v, hv⟩ : ∃ q_, q_ = v0 * 256 + v1 := ⟨_, rfl⟩
                    have HVR := Aside0.mk (show 0 ≤ v ∧ v ≤ 65535 by have := HR0.out; have := HR1.out; omega)
                    rw [← hv]
                    have HV := Aside0.mk hv
                    clear hv hx1
                    have n1_ : Aside0 (TB (w4.setCell ⟨gb176, 3, none⟩ (.int .i64 v)).drew gb176 c 0 (⟨#[]⟩ : ByteArray) v) := ⟨TB.set3 BT.out v⟩
                    have n2_ : Aside0 (TB (w4.setCell ⟨gb176, 3, none⟩ (.int .i64 v)).drew gb175 0 0 (⟨#[]⟩ : ByteArray) 0) := ⟨TB.far BR.out NB.out (i := 3) (.int .i64 v)⟩
                    have n3_ : Aside0 (Below w.heap.size w (w4.setCell ⟨gb176, 3, none⟩ (.int .i64 v)).drew) := ⟨below_drew1 (below_set HB.out GE176.out)⟩
                    clear BT BR HB
                    clear t0 t1 t2 t3 g0 g1 g2 g3 z0 z1 z2 z3 y0 y1 y2 y3
                    generalize World.drew (World.setCell w4 ⟨gb176, 3, none⟩ (.int .i64 v)) = w5 at n1_ n2_ n3_ ⊢
                    have BT := n1_
                    have BR := n2_
                    have HB := n3_
                    clear n1_ n2_ n3_
                    (obtain ⟨t0, t1, t2, t3⟩ := TB.cells BT.out |>.1)
                    (obtain ⟨g0, g1, g2, g3⟩ := TB.cells BT.out |>.2)
                    (obtain ⟨z0, z1, z2, z3⟩ := TB.cells BR.out |>.1)
                    (obtain ⟨y0, y1, y2, y3⟩ := TB.cells BR.out |>.2)
                    by_cases hq : 32768 ≤ v
                    · have d3 : decide (32768 ≤ v) = true := decide_eq_true hq
                      have HQ := Aside0.mk hq
                      clear hq
                      repeat (first | go_skip | go_guarded | go_step | go_upon)
                      go_meet
                      case rel =>
                        have H2 := HT.out
                        unfold tokP at H2
                        simp only [Int.reduceEq, if_true, if_false] at H2
                        rw [one_two HRB.out HL.out, if_neg Bool.false_ne_true, ← HV0.out, ← HV1.out, ← HV.out] at H2
                        rw [one_i16 HVR.out, if_pos HQ.out] at H2
                        exact ⟨_, ⟨H2⟩, ⟨TB.far BR.out NB.out _⟩, ⟨TB.cast3 (TB.set3 BT.out _) (by have := HVR.out; show _ = v - 65536; unfold wrap64; omega)⟩, ⟨below_set HB.out GE176.out⟩⟩
                    · have d3 : decide (32768 ≤ v) = false := decide_eq_false hq
                      have HQ := Aside0.mk hq
                      clear hq
                      repeat (first | go_skip | go_guarded | go_step | go_upon)
                      go_meet
                      case rel =>
                        have H2 := HT.out
                        unfold tokP at H2
                        simp only [Int.reduceEq, if_true, if_false] at H2
                        rw [one_two HRB.out HL.out, if_neg Bool.false_ne_true, ← HV0.out, ← HV1.out, ← HV.out] at H2
                        rw [one_i16 HVR.out, if_neg HQ.out] at H2
                        exact ⟨_, ⟨H2⟩, BR, BT, HB⟩
          · as_aux_lemma =>
              by_cases hl : ra.length < 2
              · have d1 : decide ((ra.length : Int) < 2) = true := decide_eq_true (by omega)
                have HL := Aside0.mk hl
                clear hl
                (obtain ⟨t0, t1, t2, t3⟩ := TB.cells BT.out |>.1)
                (obtain ⟨g0, g1, g2, g3⟩ := TB.cells BT.out |>.2)
                (obtain ⟨z0, z1, z2, z3⟩ := TB.cells BR.out |>.1)
                (obtain ⟨y0, y1, y2, y3⟩ := TB.cells BR.out |>.2)
                go_upto_region 37 with (fail)
                repeat (first | go_skip | go_guarded | go_step | go_upon)
                have ht := TB.zero BR.out
                have H2 := HT.out
                unfold tokP at H2
                simp only [Int.reduceEq, if_true, if_false] at H2
                rw [if_pos (one_lack HL.out)] at H2
                simp only [Option.some.injEq, Prod.mk.injEq] at H2
                obtain ⟨rfl, rfl, rfl, rfl, rfl⟩ := H2
                refine one_end ht rfl rfl rfl ⟨rfl, ?_⟩
                repeat (first | exact HB.out | refine below_set ?_ GE175.out)
              · have d1 : decide ((ra.length : Int) < 2) = false := decide_eq_false (by omega)
                have HL := Aside0.mk hl
                have p0 : (0 : Int) < (ra.length : Int) := by omega
                have b0 : decide ((0 : Int) < (ra.length : Int)) = true := decide_eq_true p0
                have l0 : (0 < ra.length) = True := eq_true (by omega)
                obtain ⟨ae0, e0, hx0⟩ := Kd.at_int HRR.out 0 (by omega) p0
                cases e0
                (try rw [show ((0 : Int)).toNat = 0 from rfl] at hx0)
                (try rw [Addr.add_zero'] at hx0)
                have HZ0 := Aside0.mk hx0
                replace hx0 := (HB.out.cell (World.block_lt_of_cell? w _ hx0)).trans hx0
                have hr0 : 0 ≤ rd ra 0 ∧ rd ra 0 ≤ 255 := getD_by HRB.out 0
                obtain ⟨v0, hv0⟩ : ∃ q_, q_ = rd ra 0 := ⟨_, rfl⟩
                rw [← hv0] at hr0 hx0
                have HV0 := Aside0.mk hv0
                have HR0 := Aside0.mk hr0
                have q0 := eq_true p0
                clear p0 hr0
                have p1 : (1 : Int) < (ra.length : Int) := by omega
                have b1 : decide ((1 : Int) < (ra.length : Int)) = true := decide_eq_true p1
                have l1 : (1 < ra.length) = True := eq_true (by omega)
                obtain ⟨ae1, e1, hx1⟩ := Kd.at_int HRR.out 1 (by omega) p1
                obtain rfl : ae0 = ae1 := (by injection e1)
                clear e1
                (try rw [show ((1 : Int)).toNat = 1 from rfl] at hx1)
                (try simp only [Nat.reduceMul, Nat.reduceEqDiff, Go.Addr.add, ↓reduceIte] at hx1)
                have HZ1 := Aside0.mk hx1
                replace hx1 := (HB.out.cell (World.block_lt_of_cell? w _ hx1)).trans hx1
                have hr1 : 0 ≤ rd ra 1 ∧ rd ra 1 ≤ 255 := getD_by HRB.out 1
                obtain ⟨v1, hv1⟩ : ∃ q_, q_ = rd ra 1 := ⟨_, rfl⟩
                rw [← hv1] at hr1 hx1
                have HV1 := Aside0.mk hv1
                have HR1 := Aside0.mk hr1
                have q1 := eq_true p1
                clear p1 hr1
                clear hv0 hv1
                clear hl
                (obtain ⟨t0, t1, t2, t3⟩ := TB.cells BT.out |>.1)
                (obtain ⟨g0, g1, g2, g3⟩ := TB.cells BT.out |>.2)
                (obtain ⟨z0, z1, z2, z3⟩ := TB.cells BR.out |>.1)
                (obtain ⟨y0, y1, y2, y3⟩ := TB.cells BR.out |>.2)
                go_upto_region 38 with (fail)
                go_still_tail 11, (by kernel_rfl)
                repeat (first | go_skip | go_guarded | go_step | go_upon)
                go_meet
                case rel =>
                  have H2 := HT.out
                  unfold tokP at H2
                  simp only [Int.reduceEq, if_true, if_false] at H2
                  rw [one_two HRB.out HL.out, if_neg Bool.false_ne_true, ← HV0.out, ← HV1.out] at H2
                  exact ⟨_, ⟨H2⟩, ⟨TB.far BR.out NB.out _⟩, ⟨TB.cast1 (TB.set1 BT.out _) (by have := HR0.out; have := HR1.out; show _ = v0 * 256 + v1; omega)⟩, ⟨below_drew1 (below_set HB.out GE176.out)⟩⟩
          · as_aux_lemma =>
              by_cases hl : ra.length < 1
              · have d1 : decide ((ra.length : Int) < 1) = true := decide_eq_true (by omega)
                have HL := Aside0.mk hl
                clear hl
                (obtain ⟨t0, t1, t2, t3⟩ := TB.cells BT.out |>.1)
                (obtain ⟨g0, g1, g2, g3⟩ := TB.cells BT.out |>.2)
                (obtain ⟨z0, z1, z2, z3⟩ := TB.cells BR.out |>.1)
                (obtain ⟨y0, y1, y2, y3⟩ := TB.cells BR.out |>.2)
                go_upto_region 42 with (fail)
                repeat (first | go_skip | go_guarded | go_step | go_upon)
                have ht := TB.zero BR.out
                have H2 := HT.out
                rw [if_pos (one_t6_lack1 HL.out)] at H2
                simp only [Option.some.injEq, Prod.mk.injEq] at H2
                obtain ⟨rfl, rfl, rfl, rfl, rfl⟩ := H2
                refine one_end ht rfl rfl rfl ⟨rfl, ?_⟩
                repeat (first | exact HB.out | refine below_set ?_ GE175.out)
              · have d1 : decide ((ra.length : Int) < 1) = false := decide_eq_false (by omega)
                have HL := Aside0.mk hl
                have p0 : (0 : Int) < (ra.length : Int) := by omega
                have b0 : decide ((0 : Int) < (ra.length : Int)) = true := decide_eq_true p0
                have l0 : (0 < ra.length) = True := eq_true (by omega)
                obtain ⟨ae0, e0, hx0⟩ := Kd.at_int HRR.out 0 (by omega) p0
                cases e0
                (try rw [show ((0 : Int)).toNat = 0 from rfl] at hx0)
                (try rw [Addr.add_zero'] at hx0)
                have HZ0 := Aside0.mk hx0
                replace hx0 := (HB.out.cell (World.block_lt_of_cell? w _ hx0)).trans hx0
                have hr0 : 0 ≤ rd ra 0 ∧ rd ra 0 ≤ 255 := getD_by HRB.out 0
                obtain ⟨v0, hv0⟩ : ∃ q_, q_ = rd ra 0 := ⟨_, rfl⟩
                rw [← hv0] at hr0 hx0
                have HV0 := Aside0.mk hv0
                have HR0 := Aside0.mk hr0
                have q0 := eq_true p0
                clear p0 hr0
                clear hv0
                have w1 : wrap64 v0 = v0 := by have := HR0.out; unfold wrap64; omega
                obtain ⟨n, hn⟩ : ∃ q_, q_ = 1 + v0 := ⟨_, rfl⟩
                have HN := Aside0.mk hn
                have HNR := Aside0.mk (show 1 ≤ n ∧ n ≤ 256 by have := HR0.out; omega)
                have w2 : wrap64 (1 + v0) = n := by have := HR0.out; have := HN.out; unfold wrap64; omega
                clear hn hl
                by_cases hl2 : (ra.length : Int) < n
                · have d2 : decide ((ra.length : Int) < n) = true := decide_eq_true hl2
                  have HL2 := Aside0.mk hl2
                  clear hl2
                  (obtain ⟨t0, t1, t2, t3⟩ := TB.cells BT.out |>.1)
                  (obtain ⟨g0, g1, g2, g3⟩ := TB.cells BT.out |>.2)
                  (obtain ⟨z0, z1, z2, z3⟩ := TB.cells BR.out |>.1)
                  (obtain ⟨y0, y1, y2, y3⟩ := TB.cells BR.out |>.2)
                  go_upto_region 42 with (fail)
                  repeat (first | go_skip | go_guarded | go_step | go_upon)
                  have ht := TB.zero BR.out
                  have H2 := HT.out
                  rw [if_pos (one_t6_lack2 HRB.out HL.out HV0.out HN.out HL2.out)] at H2
                  simp only [Option.some.injEq, Prod.mk.injEq] at H2
                  obtain ⟨rfl, rfl, rfl, rfl, rfl⟩ := H2
                  refine one_end ht rfl rfl rfl ⟨rfl, ?_⟩
                  repeat (first | exact HB.out | refine below_set ?_ GE175.out)
                · have d2 : decide ((ra.length : Int) < n) = false := decide_eq_false hl2
                  have HL2 := Aside0.mk (Int.not_lt.mp hl2)
                  clear hl2
                  obtain ⟨i1, hi1, _, hsz1, _⟩ := info_parts info5
                  obtain ⟨A2, hcut2, hA2, hC2⟩ := print_mid_of (P := Try.prog) (Value.int .u8) 0 22 5 .i64 .i64 Try.underlying22 hi1 hsz1 (some ae0) c1 ra 1 n (by decide) HNR.out.1 HL2.out HCR.out
                  have HS2 := Aside0.mk (Kd.C_below (Kd.C_of_reads (h1 := fun _ => rfl) (hA2 _ (Kd.reads_of_C HRR.out))) HB.out)
                  obtain ⟨sg, hsg⟩ : ∃ q_, q_ = (ra.take n.toNat).drop (1 : Int).toNat := ⟨_, rfl⟩
                  have HSG := Aside0.mk hsg
                  rw [← hsg] at hcut2 HS2
                  have hcv := Kd.C_string (P := Try.prog) (c := c1 - (1 : Int).toNat) Try.underlying22 Try.underlying5 Try.underlying9 HS2.out
                  generalize c1 - (1 : Int).toNat = c2 at hcut2 hcv
                  clear hA2 hC2 hi1 hsz1 hsg HS2
                  (obtain ⟨t0, t1, t2, t3⟩ := TB.cells BT.out |>.1)
                  (obtain ⟨g0, g1, g2, g3⟩ := TB.cells BT.out |>.2)
                  (obtain ⟨z0, z1, z2, z3⟩ := TB.cells BR.out |>.1)
                  (obtain ⟨y0, y1, y2, y3⟩ := TB.cells BR.out |>.2)
                  go_upto_region 45 with (fail)
                  rw [w2]
                  clear hcut2 hcv hx0 w1 w2 d1 d2
                  have n1_ := Aside0.mk (TB.set2 BT.out (strOfNums sg))
                  have n2_ := Aside0.mk (TB.far BR.out NB.out (i := 2) (.string (strOfNums sg)))
                  have n3_ : Aside0 (Below w.heap.size w (w2.setCell ⟨gb176, 2, none⟩ (.string (strOfNums sg)))) := ⟨below_set HB.out GE176.out⟩
                  clear BT BR HB
                  clear t0 t1 t2 t3 g0 g1 g2 g3 z0 z1 z2 z3 y0 y1 y2 y3
                  generalize World.setCell w2 ⟨gb176, 2, none⟩ (.string (strOfNums sg)) = w4 at n1_ n2_ n3_ ⊢
                  have BT := n1_
                  have BR := n2_
                  have HB := n3_
                  clear n1_ n2_ n3_
                  (obtain ⟨t0, t1, t2, t3⟩ := TB.cells BT.out |>.1)
                  (obtain ⟨g0, g1, g2, g3⟩ := TB.cells BT.out |>.2)
                  (obtain ⟨z0, z1, z2, z3⟩ := TB.cells BR.out |>.1)
                  (obtain ⟨y0, y1, y2, y3⟩ := TB.cells BR.out |>.2)
                  go_upto_region 46 with (go_at_call 29; (with_reducible refine (tinderref13_Behind.calls _ _ _ _ HK.out).mono ?_); rintro e w5 ⟨rfl, ⟨nd, rfl⟩⟩; have n1_ := Aside0.mk (BT.out.drewN nd); have n2_ := Aside0.mk (BR.out.drewN nd); have n3_ : Aside0 (Below w.heap.size w (w4.drewN nd)) := ⟨by repeat (first | exact HB.out | apply pw_below_drewN | apply below_drewN)⟩; generalize World.drewN w4 nd = w6 at n1_ n2_ n3_ ⊢)
                  clear BT BR HB
                  clear t0 t1 t2 t3 g0 g1 g2 g3 z0 z1 z2 z3 y0 y1 y2 y3
                  have BT := n1_
                  have BR := n2_
                  have HB := n3_
                  clear n1_ n2_ n3_
                  (obtain ⟨t0, t1, t2, t3⟩ := TB.cells BT.out |>.1)
                  (obtain ⟨g0, g1, g2, g3⟩ := TB.cells BT.out |>.2)
                  (obtain ⟨z0, z1, z2, z3⟩ := TB.cells BR.out |>.1)
                  (obtain ⟨y0, y1, y2, y3⟩ := TB.cells BR.out |>.2)
                  have w3 : wrap64 (n + 2) = n + 2 := by have := HNR.out; unfold wrap64; omega
                  by_cases hl3 : (ra.length : Int) < n + 2
                  · have d3 : decide ((ra.length : Int) < n + 2) = true := decide_eq_true hl3
                    have HL3 := Aside0.mk hl3
                    clear hl3
                    go_upto_region 47 with (fail)
                    repeat (first | go_skip | go_guarded | go_step | go_upon)
                    have ht := TB.zero BR.out
                    have H2 := HT.out
                    rw [if_pos (one_t6_lack3 HRB.out HL.out HV0.out HN.out HL2.out HL3.out)] at H2
                    simp only [Option.some.injEq, Prod.mk.injEq] at H2
                    obtain ⟨rfl, rfl, rfl, rfl, rfl⟩ := H2
                    refine one_end ht rfl rfl rfl ⟨rfl, ?_⟩
                    repeat (first | exact HB.out | refine below_set ?_ GE175.out)
                  · have d3 : decide ((ra.length : Int) < n + 2) = false := decide_eq_false hl3
                    have HL3 := Aside0.mk (Int.not_lt.mp hl3)
                    clear hl3
                    obtain ⟨n1, hn1⟩ : ∃ q_, q_ = n + 1 := ⟨_, rfl⟩
                    have HN1 := Aside0.mk hn1
                    have w4_ : wrap64 (n + 1) = n1 := by have := HNR.out; have := HN1.out; unfold wrap64; omega
                    have w5_ : IntKind.i64.wrap (n + 1) = n1 := (i64_w _).trans w4_
                    clear hn1
                    have p0_ : 0 ≤ n := by have := HNR.out; have := HN1.out; omega
                    have q0_ : n < (ra.length : Int) := by have := HL3.out; have := HN1.out; omega
                    obtain ⟨ad0_, e0_, hy0⟩ := Kd.at_int HRR.out (n) p0_ q0_
                    obtain rfl : ae0 = ad0_ := (by injection e0_)
                    clear e0_
                    replace hy0 := (HB.out.cell (World.block_lt_of_cell? w _ hy0)).trans hy0
                    have hm0 : 0 ≤ rd ra (n) ∧ rd ra (n) ≤ 255 := getD_by HRB.out _
                    obtain ⟨m0, hmv0⟩ : ∃ q_, q_ = rd ra (n) := ⟨_, rfl⟩
                    rw [← hmv0] at hm0 hy0
                    have HM0 := Aside0.mk hmv0
                    have HMR0 := Aside0.mk hm0
                    clear hm0 hmv0
                    have p0_b : decide (0 ≤ n) = true := decide_eq_true p0_
                    have q0_b : decide (n < (ra.length : Int)) = true := decide_eq_true q0_
                    replace p0_ := eq_true p0_
                    replace q0_ := eq_true q0_
                    have p1_ : 0 ≤ n1 := by have := HNR.out; have := HN1.out; omega
                    have q1_ : n1 < (ra.length : Int) := by have := HL3.out; have := HN1.out; omega
                    obtain ⟨ad1_, e1_, hy1⟩ := Kd.at_int HRR.out (n1) p1_ q1_
                    obtain rfl : ae0 = ad1_ := (by injection e1_)
                    clear e1_
                    replace hy1 := (HB.out.cell (World.block_lt_of_cell? w _ hy1)).trans hy1
                    have hm1 : 0 ≤ rd ra (n1) ∧ rd ra (n1) ≤ 255 := getD_by HRB.out _
                    obtain ⟨m1, hmv1⟩ : ∃ q_, q_ = rd ra (n1) := ⟨_, rfl⟩
                    rw [← hmv1] at hm1 hy1
                    have HM1 := Aside0.mk hmv1
                    have HMR1 := Aside0.mk hm1
                    clear hm1 hmv1
                    have p1_b : decide (0 ≤ n1) = true := decide_eq_true p1_
                    have q1_b : decide (n1 < (ra.length : Int)) = true := decide_eq_true q1_
                    replace p1_ := eq_true p1_
                    replace q1_ := eq_true q1_
                    go_upto_region 48 with (fail)
                    go_still_tail 14, (by kernel_rfl)
                    repeat (first | go_skip | go_guarded | go_step | go_upon)
                    go_meet
                    case rel =>
                      have H2 := HT.out
                      rw [one_t6 HRB.out HL.out HV0.out HN.out HL2.out HL3.out, if_neg Bool.false_ne_true, ← HSG.out, ← HN1.out, ← HM0.out, ← HM1.out] at H2
                      exact ⟨_, ⟨H2⟩, ⟨TB.far BR.out NB.out _⟩, ⟨TB.cast1 (TB.set1 BT.out _) (by have := HMR0.out; have := HMR1.out; have := HM1.out; show _ = m0 * 256 + m1; omega)⟩, ⟨below_drew1 (below_set HB.out GE176.out)⟩⟩
        case rest => as_aux_lemma =>
          obtain ⟨t, HH, BR, BT, HB⟩ := hcut
          obtain ⟨⟨own, ok⟩, hb, H3⟩ := Option.bind_eq_some_iff.1 HH.out
          have HBY := Aside0.mk hb
          clear hb HH
          (obtain ⟨t0, t1, t2, t3⟩ := TB.cells BT.out |>.1)
          cases ok with
          | true =>
            rw [if_pos rfl] at H3
            simp only [Option.some.injEq, Prod.mk.injEq] at H3
            obtain ⟨rfl, rfl, rfl, rfl, rfl⟩ := H3
            go_upto_region 52 with (go_at_call 23; (with_reducible refine (tinderref13_Bytes.calls _ _ _ _ _ _ _ _ _ HBY.out).mono ?_); rintro e w3 ⟨v, rfl, hv, hb⟩; obtain ⟨Ao, co, eo⟩ := Kd.R_slice hv; subst eo; have BR3 := Aside0.mk (BR.out.below hb); have BT3 := Aside0.mk (BT.out.below hb); have HB3 := Aside0.mk (below_step HB.out hb); clear hv hb t0 t1 t2 t3; (obtain ⟨t0, t1, t2, t3⟩ := TB.cells BT3.out |>.1); (obtain ⟨z0, z1, z2, z3⟩ := TB.cells BR3.out |>.1); (obtain ⟨y0, y1, y2, y3⟩ := TB.cells BR3.out |>.2))
            repeat (first | go_skip | go_guarded | go_step | go_upon)
            have ht := (((BR3.out.set0 t.f0).set1 t.f1).set2 t.f2).set3 t.f3
            refine one_end ht rfl rfl rfl ⟨rfl, ?_⟩
            repeat (first | exact HB3.out | refine below_set ?_ GE175.out)
          | false =>
            rw [if_neg Bool.false_ne_true] at H3
            simp only [Option.some.injEq, Prod.mk.injEq] at H3
            obtain ⟨rfl, rfl, rfl, rfl, rfl⟩ := H3
            go_upto_region 51 with (go_at_call 23; (with_reducible refine (tinderref13_Bytes.calls _ _ _ _ _ _ _ _ _ HBY.out).mono ?_); rintro e w3 ⟨v, rfl, hv, hb⟩; obtain ⟨Ao, co, eo⟩ := Kd.R_slice hv; subst eo; have BR3 := Aside0.mk (BR.out.below hb); have BT3 := Aside0.mk (BT.out.below hb); have HB3 := Aside0.mk (below_step HB.out hb); clear hv hb t0 t1 t2 t3; (obtain ⟨t0, t1, t2, t3⟩ := TB.cells BT3.out |>.1); (obtain ⟨z0, z1, z2, z3⟩ := TB.cells BR3.out |>.1); (obtain ⟨y0, y1, y2, y3⟩ := TB.cells BR3.out |>.2))
            repeat (first | go_skip | go_guarded | go_step | go_upon)
            have ht := TB.zero BR3.out
            refine one_end ht rfl rfl rfl ⟨rfl, ?_⟩
            repeat (first | exact HB3.out | refine below_set ?_ GE175.out)

end Go.Proofs.Ytfaebbmngplilaa.P
