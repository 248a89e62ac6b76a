/- The machine's side: functions of the translation as plain Lean functions, and that the machine's calls come to what they say. No condition. Written by a program (wip/tools/pp.py over the kit's printer); Lean checks it. -/
import Derived.Test.YtdobpgomgnaleaaDoorPx0
namespace Go.Proofs.YtdobpgomgnaleaaDoor.P
open Go.RowKit Go.Proofs.YtdobpgomgnaleaaDoorW.PrintWords Go.Proofs.YtdobpgomgnaleaaDoorW.PrintLast Go.Proofs.YtdobpgomgnaleaaDoorW.PrintMore
attribute [local go_sem] max2_int min2_int max_two min_two max_three min_three max_four min_four   -- for this text's walks alone
set_option linter.unusedVariables false
set_option linter.unusedSimpArgs false

/-! ### slices_Clone_byte_byte: function 27 -/
def slices_Clone_byte_byte.f (l0 : List Int) : Option (List Int) := if l0.length < 140737488355328 then some l0 else none
set_option maxHeartbeats 800000 in
set_option maxRecDepth 100000 in
theorem slices_Clone_byte_byte.calls (A0 : Option Addr) (c0 : Nat) (l0 : List Int) (r : List Int) (w : World) (hr0 : Kd.C (Kd.int .u8) w A0 l0.length l0) (hc0 : l0.length ≤ c0) (h : slices_Clone_byte_byte.f l0 = some r) :
    Calls Tryd.prog 27 #[.slice A0 l0.length c0] w fun e w' => ∃ v0_ : Value, e = .returned (v0_) ∧ Kd.R (Kd.int .u8) 5 w' w.heap.size (fun _ => True) v0_ r ∧ Below w.heap.size w w' := by
  unfold slices_Clone_byte_byte.f at h
  by_cases c2 : l0.length < 140737488355328
  · rw [if_pos c2] at h
    obtain rfl := Option.some.inj h
    have LM := Aside0.mk c2
    clear c2
    have HB := Aside0.mk (Below.refl w.heap.size w)
    have ke := fun (w : World) (a : Option Addr) (n c : Nat) => Lib.run_eql_slice_nil (P := Tryd.prog) w 22 5 a n c 0 0 Tryd.underlying22
    cases A0 with
    | none =>
      have h0 : l0 = [] := by
        rcases Nat.eq_zero_or_pos l0.length with h0 | h0
        · exact List.eq_nil_of_length_eq_zero h0
        · obtain ⟨ad, h1, _⟩ := hr0.2.2 h0
          cases h1
      subst h0
      go_enter Tryd.func27, Tryd.ntmps27
      go_wp2
      go_ret
      exact ⟨_, rfl, Kd.R_nil _ _ _ _ _, Below.refl _ _⟩
    | some a =>
      have HR0 := Aside0.mk hr0
      have HC0 := Aside0.mk hc0
      clear hr0 hc0 h
      go_enter Tryd.func27, Tryd.ntmps27
      go_wp2_with (first
        | ((with_reducible refine gate_dst (N := 5) rfl ?_); refine Kd.R_lit (Kd.int .u8) _ 5 ?hg (N := 5) ?hd (xs := ([] : List Int)) (inner := []) (ok := fun _ => True) (okp := fun _ => True) ?hr ?hp (fun _ hk => hk) trivial (Below.refl _ _) (Nat.le_refl _) (by simp) ?_; (case hd => rfl); (case hg => rfl); (case hr => first | (go_simp; done) | (go_simp; rfl)); (case hp => exact (Reps.none _ _)); intro v1 w1 ho hb hg_ hnew_; clear hg_ hnew_; have n0_ := Aside0.mk ho; have n1_ := Aside0.mk hb; have HR1 := Aside0.mk (Kd.C_below HR0.out hb); clear hb ho; obtain ⟨A1, c1, e1⟩ := Kd.R_slice n0_.out; subst e1)
        | ((with_reducible refine gate_builtin (b := .append) (xs := #[.tmp 5, .tmp 6]) rfl ?_); at_builtin; refine Kd.R_append_rows (Kd.int .u8) (w0 := w) w.heap.size rfl (.tmp 5) (.tmp 6) 22 5 (.int .u8 0) 1 rfl Tryd.underlying22 info5 rfl (by decide) (by omega) _ ([] : List Int) l0 _ _ _ (fun _ => True) (fun _ => False) rfl rfl ?aO ?aR (fun _ _ h => h) (fun _ h => h.elim) ?aF ?aB ?aS ?aL ?_; (case aR => exact HR1.out); (case aB => exact n1_.out); (case aF => exact (fun _ _ => trivial)); (case aO => exact n0_.out); (case aS => exact below_size n1_.out); (case aL => have := LM.out; simp only [List.length_nil]; omega); intro v2 w2 ho hb hg hat; have HO2 := Aside0.mk ho; have HB2 := Aside0.mk hb; clear ho hb hg hat))
      go_ret
      exact ⟨_, rfl, HO2.out, HB2.out⟩
  · rw [if_neg c2] at h
    cases h

/-! ### nvram_four: function 38 -/
def nvram_four.f (a0 : Int) : Option (List Int) := some (([(a0 / 16777216) % 256, (a0 / 65536) % 256, (a0 / 256) % 256, (a0) % 256] : List Int))
set_option maxHeartbeats 8000000 in
set_option maxRecDepth 100000 in
theorem nvram_four.calls (a0 : Int) (r : List Int) (w : World) (h : nvram_four.f a0 = some r) :
    Calls Tryd.prog 38 #[.int .u32 a0] w fun e w' => ∃ v0_ : Value, e = .returned (v0_) ∧ Kd.R (Kd.int .u8) 5 w' w.heap.size (fun _ => True) v0_ r ∧ Below w.heap.size w w' := by
  have HB := Aside0.mk (Below.refl w.heap.size w)
  have H : (some (([(a0 / 16777216) % 256, (a0 / 65536) % 256, (a0 / 256) % 256, (a0) % 256] : List Int))) = some r := h
  clear h
  obtain ⟨y101, hy101⟩ : ∃ y_ : List Int, y_ = (([(a0 / 16777216) % 256, (a0 / 65536) % 256, (a0 / 256) % 256, (a0) % 256] : List Int)) := ⟨_, rfl⟩
  replace H : (some y101) = some r := by first | (rw [hy101]; with_reducible exact H) | (have H2_ := (Option.bind_some _ _).symm.trans H; rw [hy101]; with_reducible exact H2_) | (have H2_ := (Option.bind_some _ _).symm.trans H; with_reducible exact H2_) | with_reducible exact H | (rw [hy101]; exact H) | exact H
  have Ny101 := Aside0.mk hy101
  clear hy101
  obtain rfl := Option.some.inj H
  go_enter Tryd.func38, Tryd.ntmps38
  go_wp2_with (first | ((with_reducible refine gate_dst (N := 14) rfl ?_); refine Kd.R_lit (Kd.int .u8) _ 5 ?hg (N := 14) ?hd (xs := ([(a0 / 16777216) % 256, (a0 / 65536) % 256, (a0 / 256) % 256, (a0) % 256] : List Int)) (inner := [.int .u8 ((a0 / 16777216) % 256), .int .u8 ((a0 / 65536) % 256), .int .u8 ((a0 / 256) % 256), .int .u8 ((a0) % 256)]) (ok := fun _ => True) (okp := fun _ => True) ?hr ?hp (fun _ hk => hk) trivial (Below.refl _ _) (Nat.le_refl _) (by simp) ?_; (case hd => rfl); (case hg => rfl); (case hr => first | (go_simp; done) | (go_simp; rfl)); (case hp => exact (Reps.one (show Kd.M (Kd.int .u8) _ _ _ ((a0 / 16777216) % 256) [.int .u8 ((a0 / 16777216) % 256)] from rfl) (Reps.one (show Kd.M (Kd.int .u8) _ _ _ ((a0 / 65536) % 256) [.int .u8 ((a0 / 65536) % 256)] from rfl) (Reps.one (show Kd.M (Kd.int .u8) _ _ _ ((a0 / 256) % 256) [.int .u8 ((a0 / 256) % 256)] from rfl) (Reps.one (show Kd.M (Kd.int .u8) _ _ _ ((a0) % 256) [.int .u8 ((a0) % 256)] from rfl) (Reps.none _ _)))))); intro v102 w2 ho3 hb hg_ hnew_; clear hg_ hnew_; (first | rw [← Ny101.out] at ho3 | (simp only [Int.reduceToNat] at ho3; rw [← Ny101.out] at ho3)); have n0_ := Aside0.mk (Kd.R_lower ho3 (below_size (by repeat (first | (with_reducible first | exact HB.out | apply below_alloc | apply pw_below_drewN | apply below_drew1) | exact HB.out)))); have n1_ := Aside0.mk (below_step (by repeat (first | (with_reducible first | exact HB.out | apply below_alloc | apply pw_below_drewN | apply below_drew1) | exact HB.out)) hb); clear HB; have HO103 := n0_; have HB := n1_; clear n0_ n1_; clear hb ho3))
  go_ret
  exact ⟨_, by first | rfl | (simp [errW_none, errW_some] <;> rfl) | (simp [*, errW_none, errW_some] <;> rfl), by (with_reducible repeat (first | apply Kd.R_alloc | apply Kd.R_drewN | apply Kd.R_drew)); exact HO103.out, by repeat (first | (with_reducible first | exact HB.out | apply below_alloc | apply pw_below_drewN | apply below_drew1) | exact HB.out)⟩

/-! ### nvram_Sum: function 39 -/
section
open Go.Proofs.YtdobpgomgnaleaaDoor.G
def sumStep (h c : Int) : Int := (Go.bits .xor .u32 h c) * 16777619 % 4294967296
theorem sum1_calls (g : Nat) (h c : Int) (w0 w : World) (hc0 : 0 ≤ c) (hc1 : c ≤ 255) (hB : Below w0.heap.size w0 w) (hg : w0.heap.size ≤ g) (hh : w.heap[g]? = some (.cells #[.int .u32 h] 84 (0, 0))) :
    Calls Tryd.prog 45 #[.int .u8 c, .pointer (some ⟨g, 0, none⟩)] w fun e w' => e = .returned (.tuple #[]) ∧ w'.heap[g]? = some (.cells #[.int .u32 (sumStep h c)] 84 (0, 0)) ∧ Below w0.heap.size w0 w' := by
  have z0 : w.cell? ⟨g, 0, none⟩ = some (.int .u32 h) := (blk_cell hh 0).trans rfl
  have y0 := blk_frozen hh 0
  have hw : IntKind.u32.wrap c = c := by rw [IntKind.wrap_u32]; omega
  go_enter Tryd.func45, Tryd.ntmps45
  go_wp2
  go_end0
  exact ⟨rfl, blk_put hh 0 _ rfl, below_set hB hg⟩
def sumL (h : Int) (l : List Int) : Int := l.foldl sumStep h
def sumR (a : Int) (l : List Int) : Int := sumL (sumStep (sumStep (sumStep 2166136261 a) ((l.length : Int) / 256 % 256)) ((l.length : Int) % 256)) l
theorem drop_rd (l : List Int) (j : Nat) (h : j < l.length) : l.drop j = rd l (j : Int) :: l.drop (j + 1) := by
  show l.drop j = l.getD ((j : Int).toNat) 0 :: l.drop (j + 1)
  rw [Int.toNat_natCast, List.getD_eq_getElem?_getD, List.getElem?_eq_getElem h]
  exact List.drop_eq_getElem_cons h
theorem rd_wf (l : List Int) (j : Nat) (h : j < l.length) (hl : ∀ x ∈ l, 0 ≤ x ∧ x ≤ 255) : 0 ≤ rd l (j : Int) ∧ rd l (j : Int) ≤ 255 := by
  show 0 ≤ l.getD ((j : Int).toNat) 0 ∧ l.getD ((j : Int).toNat) 0 ≤ 255
  rw [Int.toNat_natCast, List.getD_eq_getElem?_getD, List.getElem?_eq_getElem h]
  exact hl _ (List.getElem_mem h)
set_option maxHeartbeats 4000000 in
set_option maxRecDepth 100000 in
theorem nvram_Sum.calls (a0 : Int) (A1 : Option Addr) (c1 : Nat) (l1 : List Int) (w : World) (ha0 : 0 ≤ a0) (ha1 : a0 ≤ 255) (hr1 : Kd.C (Kd.int .u8) w A1 l1.length l1) (hc1 : l1.length ≤ c1) (hl : ∀ x ∈ l1, 0 ≤ x ∧ x ≤ 255) (hn : l1.length < 65536) :
    Calls Tryd.prog 39 #[.int .u8 a0, .slice A1 l1.length c1] w fun e w' => e = .returned (.int .u32 (sumR a0 l1)) ∧ Below w.heap.size w w' := by
  have hmf : ∀ (fn : Fn) (first cap : Array Value) (w : World), (Instr.makeFunc fn first cap).run Tryd.prog w = .ok (.func fn first cap) w := fun _ _ _ _ => rfl
  have HR := Aside0.mk hr1
  have HL := Aside0.mk hl
  have HB := Aside0.mk (Below.refl w.heap.size w)
  have HA0 := Aside0.mk ha0
  have HA1 := Aside0.mk ha1
  have HN := Aside0.mk hn
  have n1 : (0 : Int) ≤ (l1.length : Int) / 256 % 256 ∧ (l1.length : Int) / 256 % 256 ≤ 255 := by omega
  have n2 : (0 : Int) ≤ (l1.length : Int) % 256 ∧ (l1.length : Int) % 256 ≤ 255 := by omega
  have N1 := Aside0.mk n1
  have N2 := Aside0.mk n2
  clear hr1 hl ha0 ha1 hn n1 n2
  go_enter Tryd.func39, Tryd.ntmps39
  go_upto_region 2 with (fail)
  have n0_ : Aside0 ((w.alloc (Obj.cells #[Value.int IntKind.u32 2166136261] 84)).heap[w.heap.size]? = some (.cells #[.int .u32 2166136261] 84 (0, 0))) := ⟨blk_new _ _⟩
  have n1_ : Aside0 (Below w.heap.size w (w.alloc (Obj.cells #[Value.int IntKind.u32 2166136261] 84))) := ⟨below_alloc HB.out _⟩
  obtain ⟨g, hg⟩ : ∃ g, w.heap.size = g := ⟨_, rfl⟩
  have GE : Aside0 (w.heap.size ≤ g) := ⟨by omega⟩
  rw [hg] at n0_ ⊢
  generalize (w.alloc (Obj.cells #[Value.int IntKind.u32 2166136261] 84)) = w2 at n0_ n1_ ⊢
  clear HB hg
  have BK := n0_
  have HB := n1_
  clear n0_ n1_
  go_upto_region 6 with (go_at_call 45; refine (sum1_calls g _ _ w _ ?c0 ?c1 HB.out GE.out BK.out).mono ?_; (case c0 => first | exact HA0.out | exact N1.out.1 | exact N2.out.1); (case c1 => first | exact HA1.out | exact N1.out.2 | exact N2.out.2); rintro e w' ⟨rfl, hb, hB2⟩; have n0_ := Aside0.mk hb; have n1_ := Aside0.mk hB2; clear BK HB hb hB2; have BK := n0_; have HB := n1_; clear n0_ n1_)
  generalize hh0 : sumStep (sumStep (sumStep 2166136261 a0) ((l1.length : Int) / 256 % 256)) ((l1.length : Int) % 256) = h0 at BK
  have HH0 := Aside0.mk hh0
  clear hh0
  go_wp2
  go_loopg [26] l1.length (fun kq v w' => ∃ (j : Nat) (h : Int), v = .int .i64 j ∧ Aside0 (j + kq = l1.length) ∧ Aside0 (sumL h (l1.drop j) = sumR a0 l1) ∧ Aside0 (w'.heap[g]? = some (.cells #[.int .u32 h] 84 (0, 0))) ∧ Aside0 (Below w.heap.size w w'))
  case atStart => exact ⟨0, h0, rfl, ⟨by omega⟩, ⟨by rw [← HH0.out]; rfl⟩, BK, HB⟩
  case round =>
    clear HB BK
    obtain ⟨j, h, rfl, HJ, HX, BK, HB⟩ := hrel
    cases gk with
    | zero =>
      have c : decide ((j : Int) < (l1.length : Int)) = false := decide_eq_false (by have := HJ.out; omega)
      have c' : (j < l1.length) = False := eq_false (by have := HJ.out; omega)
      have z0 : wr.cell? ⟨g, 0, none⟩ = some (.int .u32 h) := (blk_cell BK.out 0).trans rfl
      have hj : j = l1.length := by have := HJ.out; omega
      have HX2 := HX.out
      rw [List.drop_eq_nil_of_le (by omega)] at HX2
      have HX3 := Aside0.mk HX2
      clear HX2 HX hj
      go_wp2
      go_ret
      exact ⟨by rw [← HX3.out]; rfl, HB.out⟩
    | succ k1 =>
      have hj : j < l1.length := by have := HJ.out; omega
      have c : decide ((j : Int) < (l1.length : Int)) = true := decide_eq_true (by omega)
      have c' : (j < l1.length) = True := eq_true hj
      obtain ⟨ad, e, hx⟩ := Kd.at_int HR.out (j : Int) (by omega) (by omega)
      cases e
      rw [Int.toNat_natCast] at hx
      replace hx := (HB.out.cell (World.block_lt_of_cell? w _ hx)).trans hx
      have hb := rd_wf l1 j hj HL.out
      have HRD := Aside0.mk hb
      clear hb
      go_wp2_with (go_at_call 45; refine (sum1_calls g _ _ w _ HRD.out.1 HRD.out.2 HB.out GE.out BK.out).mono ?_; rintro e w' ⟨rfl, hb, hB2⟩; have n0_ := Aside0.mk hb; have n1_ := Aside0.mk hB2; clear BK HB hb hB2; have BK := n0_; have HB := n1_; clear n0_ n1_)
      go_roundg k1
      case measure => omega
      case rel =>
        have HX2 := HX.out
        rw [drop_rd l1 j hj] at HX2
        exact ⟨j + 1, _, by rw [show wrap64 ((j : Int) + 1) = ((j + 1 : Nat) : Int) by have := HN.out; unfold wrap64; omega], ⟨by have := HJ.out; omega⟩, ⟨HX2⟩, BK, HB⟩
end

/-! ### slices_Equal_byte_byte: function 40 -/
def slices_Equal_byte_byte.l0 : Nat → List Int → List Int → Int → Int → Option (Bool)
  | 0, _, _, _, _ => none
  | k + 1, x0, x1, x12, x13 => if x13 < x12 then (if 0 ≤ x13 then (if x13 < (x0.length : Int) then (if x13 < (x1.length : Int) then (if (rd x0 x13) = (rd x1 x13) then (slices_Equal_byte_byte.l0 k x0 x1 x12 (wrap64 (x13 + 1))) else (some false)) else (none)) else (none)) else (none)) else (some true)
def slices_Equal_byte_byte.f (k : Nat) (l0 : List Int) (l1 : List Int) : Option (Bool) := if (l0.length : Int) = (l1.length : Int) then (slices_Equal_byte_byte.l0 k l0 l1 (l0.length : Int) 0) else (some false)
theorem slices_Equal_byte_byte.mono_l : ∀ k, (∀ y0 y1 y2 y3, LeO (slices_Equal_byte_byte.l0 k y0 y1 y2 y3) (slices_Equal_byte_byte.l0 (k + 1) y0 y1 y2 y3))
  | 0 => fun _ _ _ _ r h => by simp [slices_Equal_byte_byte.l0] at h
  | k + 1 => by
    have ih0 := slices_Equal_byte_byte.mono_l k
    · intro y0 y1 y2 y3
      unfold slices_Equal_byte_byte.l0
      repeat' first
      | (with_reducible exact ih0 _ _ _ _)
      | (with_reducible exact LeO.refl _)
      | (with_reducible exact LeO.none _)
      | (with_reducible refine LeO.ite ?_ ?_)
      | (with_reducible refine LeO.bind ?_ (fun _ => ?_))
      | exact ih0 _ _ _ _
      | exact LeO.none _
      | refine LeO.ite ?_ ?_
      | refine LeO.bind ?_ (fun _ => ?_)
theorem slices_Equal_byte_byte.mono : ∀ a0 a1 k, LeO (slices_Equal_byte_byte.f k a0 a1) (slices_Equal_byte_byte.f (k + 1) a0 a1) := by
  intro a0 a1 k
  have ih0 := slices_Equal_byte_byte.mono_l k
  unfold slices_Equal_byte_byte.f
  repeat' first
      | (with_reducible exact ih0 _ _ _ _)
      | (with_reducible exact LeO.refl _)
      | (with_reducible exact LeO.none _)
      | (with_reducible refine LeO.ite ?_ ?_)
      | (with_reducible refine LeO.bind ?_ (fun _ => ?_))
      | exact ih0 _ _ _ _
      | exact LeO.none _
      | refine LeO.ite ?_ ?_
      | refine LeO.bind ?_ (fun _ => ?_)
set_option maxHeartbeats 8000000 in
set_option maxRecDepth 100000 in
theorem slices_Equal_byte_byte.calls (k : Nat) (A0 : Option Addr) (c0 : Nat) (l0 : List Int) (A1 : Option Addr) (c1 : Nat) (l1 : List Int) (r : Bool) (w : World) (hr0 : Kd.C (Kd.int .u8) w A0 l0.length l0) (hc0 : l0.length ≤ c0) (hr1 : Kd.C (Kd.int .u8) w A1 l1.length l1) (hc1 : l1.length ≤ c1) (h : slices_Equal_byte_byte.f k l0 l1 = some r) :
    Calls Tryd.prog 40 #[.slice A0 l0.length c0, .slice A1 l1.length c1] w fun e w' => e = .returned (.bool r) ∧ Drawn0 w w' := by
  have HR0 := Aside0.mk hr0
  have HC0 := Aside0.mk hc0
  clear hr0 hc0
  have HR1 := Aside0.mk hr1
  have HC1 := Aside0.mk hc1
  clear hr1 hc1
  have H : (if (l0.length : Int) = (l1.length : Int) then (slices_Equal_byte_byte.l0 k l0 l1 (l0.length : Int) 0) else (some false)) = some r := h
  clear h
  by_cases c3 : (l0.length : Int) = (l1.length : Int)
  · rw [if_pos c3] at H
    have c3b0 : ((l0.length : Int) == (l1.length : Int)) = true := beq_iff_eq.mpr c3
    have c3b1 : ((l0.length : Int) != (l1.length : Int)) = false := bne_eq_false_iff_eq.mpr c3
    have c3b2 : (l0.length == l1.length) = true := by first | simpa using c3 | (simp at c3 ⊢; omega)
    clear c3
    have H' := Aside0.mk H
    clear H
    go_enter Tryd.func40, Tryd.ntmps40
    go_wp2
    repeat (go_quiet (fail); try go_wp2)
    go_loopg [13] k (fun kq v13 w' => ∃ (x13_1 : Int), v13 = .int .i64 x13_1 ∧ Aside0 (slices_Equal_byte_byte.l0 kq l0 l1 (l0.length : Int) x13_1 = some r) ∧ Aside0 (kq ≤ k) ∧ Drawn0 w w')
    case atStart => exact ⟨(0), (by first | rfl | (simp; done) | (simp [*]; done)), H', ⟨Nat.le_refl _⟩, by repeat (first | exact Drawn0.refl _ | apply Drawn0.step)⟩
    case round =>
      clear H'
      try clear c1
      try clear p2
      try clear c3
      try clear c3b0
      try clear c3b1
      try clear c3b2
      obtain ⟨x13_1, rfl, HA, HK1, ⟨m1, rfl⟩⟩ := hrel
      cases gk with
      | zero => exact absurd HA.out (by simp [slices_Equal_byte_byte.l0])
      | succ k1 =>
        have H := HA.out
        clear HA
        simp only [slices_Equal_byte_byte.l0] at H
        by_cases c4 : x13_1 < (l0.length : Int)
        · rw [if_pos c4] at H
          have c4b0 : decide (x13_1 < (l0.length : Int)) = true := decide_eq_true c4
          clear c4
          by_cases c5 : 0 ≤ x13_1
          · rw [if_pos c5] at H
            have c5b0 : decide (0 ≤ x13_1) = true := decide_eq_true c5
            clear c5
            by_cases c6 : x13_1 < (l0.length : Int)
            · rw [if_pos c6] at H
              have c6b0 : decide (x13_1 < (l0.length : Int)) = true := decide_eq_true c6
              clear c6
              by_cases c7 : x13_1 < (l1.length : Int)
              · rw [if_pos c7] at H
                have c7b0 : decide (x13_1 < (l1.length : Int)) = true := decide_eq_true c7
                clear c7
                by_cases c8 : (rd l0 x13_1) = (rd l1 x13_1)
                · rw [if_pos c8] at H
                  have c8b0 : ((rd l0 x13_1) == (rd l1 x13_1)) = true := beq_iff_eq.mpr c8
                  have c8b1 : ((rd l0 x13_1) != (rd l1 x13_1)) = false := bne_eq_false_iff_eq.mpr c8
                  clear c8
                  have H' := Aside0.mk H
                  clear H
                  have p104 : 0 ≤ (x13_1 : Int) := of_decide_eq_true (by first | (with_reducible assumption) | assumption)
                  have q104 : x13_1 < (l0.length : Int) := of_decide_eq_true (by first | (with_reducible assumption) | assumption)
                  obtain ⟨ad104, e104, hx104_0⟩ := Kd.at_int HR0.out x13_1 p104 q104
                  cases e104
                  replace p104 := eq_true p104
                  replace q104 := eq_true q104
                  have p105 : 0 ≤ (x13_1 : Int) := of_decide_eq_true (by first | (with_reducible assumption) | assumption)
                  have q105 : x13_1 < (l1.length : Int) := of_decide_eq_true (by first | (with_reducible assumption) | assumption)
                  obtain ⟨ad105, e105, hx105_0⟩ := Kd.at_int HR1.out x13_1 p105 q105
                  cases e105
                  replace p105 := eq_true p105
                  replace q105 := eq_true q105
                  go_wp2
                  repeat (go_quiet (fail); try go_wp2)
                  go_roundg k1
                  case measure => have := HK1.out; omega
                  case rel => exact ⟨(wrap64 (x13_1 + 1)), (by first | rfl | (simp; done) | (simp [*]; done)), H', ⟨by have := HK1.out; omega⟩, by repeat (first | exact Drawn0.refl _ | apply Drawn0.step)⟩
                · rw [if_neg c8] at H
                  have c8b0 : ((rd l0 x13_1) == (rd l1 x13_1)) = false := beq_eq_false_iff_ne.mpr c8
                  have c8b1 : ((rd l0 x13_1) != (rd l1 x13_1)) = true := bne_iff_ne.mpr c8
                  obtain rfl := Option.some.inj H
                  have p104 : 0 ≤ (x13_1 : Int) := of_decide_eq_true (by first | (with_reducible assumption) | assumption)
                  have q104 : x13_1 < (l0.length : Int) := of_decide_eq_true (by first | (with_reducible assumption) | assumption)
                  obtain ⟨ad104, e104, hx104_0⟩ := Kd.at_int HR0.out x13_1 p104 q104
                  cases e104
                  replace p104 := eq_true p104
                  replace q104 := eq_true q104
                  have p105 : 0 ≤ (x13_1 : Int) := of_decide_eq_true (by first | (with_reducible assumption) | assumption)
                  have q105 : x13_1 < (l1.length : Int) := of_decide_eq_true (by first | (with_reducible assumption) | assumption)
                  obtain ⟨ad105, e105, hx105_0⟩ := Kd.at_int HR1.out x13_1 p105 q105
                  cases e105
                  replace p105 := eq_true p105
                  replace q105 := eq_true q105
                  go_wp2
                  repeat (go_quiet (fail); try go_wp2)
                  go_ret
                  exact ⟨by first | rfl | (simp; done) | (simp [*]; done), by repeat (first | exact Drawn0.refl _ | apply Drawn0.step)⟩
              · rw [if_neg c7] at H
                exact absurd H (by simp)
            · rw [if_neg c6] at H
              exact absurd H (by simp)
          · rw [if_neg c5] at H
            exact absurd H (by simp)
        · rw [if_neg c4] at H
          have c4b0 : decide (x13_1 < (l0.length : Int)) = false := decide_eq_false c4
          clear c4
          obtain rfl := Option.some.inj H
          go_wp2
          repeat (go_quiet (fail); try go_wp2)
          go_ret
          exact ⟨by first | rfl | (simp; done) | (simp [*]; done), by repeat (first | exact Drawn0.refl _ | apply Drawn0.step)⟩
  · rw [if_neg c3] at H
    have c3b0 : ((l0.length : Int) == (l1.length : Int)) = false := beq_eq_false_iff_ne.mpr c3
    have c3b1 : ((l0.length : Int) != (l1.length : Int)) = true := bne_iff_ne.mpr c3
    have c3b2 : (l0.length == l1.length) = false := by first | simpa using c3 | (simp at c3 ⊢; omega)
    obtain rfl := Option.some.inj H
    go_enter Tryd.func40, Tryd.ntmps40
    go_wp2
    repeat (go_quiet (fail); try go_wp2)
    go_ret
    exact ⟨by first | rfl | (simp; done) | (simp [*]; done), by repeat (first | exact Drawn0.refl _ | apply Drawn0.step)⟩

/-! ### nvram_bank_data: function 31 -/
section
open Go.Proofs.YtdobpgomgnaleaaDoor.G
theorem bank_cell {w : World} {g off : Nat} {b : List Int} (h : Kd.C (Kd.int .u8) w (some ⟨g, off, none⟩) b.length b) (i : Nat) (hi : i < b.length) : w.cell? ⟨g, off + i, none⟩ = some (.int .u8 (rd b (i : Int))) := by
  obtain ⟨ad, e, hx⟩ := Kd.at_int h (i : Int) (by omega) (by omega)
  cases e
  rw [Int.toNat_natCast, show (Addr.add ⟨g, off, none⟩ i : Addr) = ⟨g, off + i, none⟩ from add_at g off i] at hx
  exact hx
theorem cut_arr (w : World) (g off : Nat) (lo hi : Nat) (h1 : 0 < lo) (h2 : lo ≤ hi) (h3 : hi ≤ 256) (h4 : lo < 256) :
    (Instr.sliceAt 68 (.pointer (some ⟨g, off, none⟩)) (some (.int .i64 (lo : Int))) (some (.int .i64 (hi : Int))) none).run Tryd.prog w = .ok (.slice (some ⟨g, off + lo, none⟩) (hi - lo) (256 - lo)) w := by
  have hu := Tryd.underlying68
  have ha : Tryd.prog.arrayLen 68 = 256 := by simp only [Program.arrayLen, hu]
  have he : Tryd.prog.elem 68 = 5 := by simp only [Program.elem, hu]
  have ht : Tryd.prog.underlying 68 = some (.array (Tryd.prog.arrayLen 68) (Tryd.prog.elem 68)) := by rw [ha, he, hu]
  rw [run_sliceAt_array_lh w 68 ⟨g, off, none⟩ ht .i64 .i64 lo hi (by omega) (by omega) (by rw [ha]; omega)]
  obtain ⟨i0, hi0, _, hs, _⟩ := info_parts info5
  simp [sizeOf, typeInfo, he, hi0, hs, Result.andThen, slicedAt, ha]
  rw [if_neg (show ¬ (256 = lo) by omega)]
  exact add_at _ _ _
theorem C_mid8 {w : World} {g off : Nat} {b : List Int} (lo n : Nat) (h : Kd.C (Kd.int .u8) w (some ⟨g, off, none⟩) b.length b) (hh : lo + n ≤ b.length) : Kd.C (Kd.int .u8) w (some ⟨g, off + lo, none⟩) n ((b.drop lo).take n) := by
  have h2 := Kd.C_mid (c := b.length + lo + 1) h (lo := lo) (hi := lo + n) (by omega) hh (by omega)
  rw [if_neg (by omega), show (b.take (lo + n)).drop lo = (b.drop lo).take n by rw [List.drop_take, Nat.add_sub_cancel_left]] at h2
  have hl : ((b.drop lo).take n).length = n := by rw [List.length_take, List.length_drop]; omega
  rw [hl] at h2
  have e : ((some ⟨g, off, none⟩ : Option Addr).map (·.add (lo * (Kd.int IntKind.u8).sz))) = some ⟨g, off + lo, none⟩ := by
    show some (Addr.add ⟨g, off, none⟩ (lo * 1)) = _
    rw [Nat.mul_one, add_at]
  rw [e] at h2
  exact h2
theorem equal_loop (l0 l1 : List Int) (hl : l0.length = l1.length) (hn : l0.length < 1000) (d : Nat) : ∀ (k i : Nat), i ≤ l0.length → l0.length - i = d → d < k → slices_Equal_byte_byte.l0 k l0 l1 (l0.length : Int) (i : Int) = some (l0.drop i == l1.drop i) := by
  induction d with
  | zero =>
    intro k i hi hd hk
    obtain ⟨k, rfl⟩ : ∃ m, k = m + 1 := ⟨k - 1, by omega⟩
    rw [slices_Equal_byte_byte.l0, if_neg (by omega), List.drop_eq_nil_of_le (by omega), List.drop_eq_nil_of_le (by omega)]
    rfl
  | succ d ih =>
    intro k i hi hd hk
    obtain ⟨k, rfl⟩ : ∃ m, k = m + 1 := ⟨k - 1, by omega⟩
    have h2 := ih k (i + 1) (by omega) (by omega) (by omega)
    have e : wrap64 ((i : Int) + 1) = ((i + 1 : Nat) : Int) := by rw [w64 (by omega) (by omega)]; omega
    rw [slices_Equal_byte_byte.l0, if_pos (by omega), if_pos (by omega), if_pos (by omega), if_pos (by omega), e, h2, drop_rd l0 i (by omega), drop_rd l1 i (by omega)]
    by_cases hx : rd l0 (i : Int) = rd l1 (i : Int)
    · rw [if_pos hx, hx]
      simp
    · rw [if_neg hx]
      simp [hx]
theorem equal_eq (l0 l1 : List Int) (hl : l0.length = l1.length) (hn : l0.length < 1000) : slices_Equal_byte_byte.f 1001 l0 l1 = some (l0 == l1) := by
  unfold slices_Equal_byte_byte.f
  rw [if_pos (by omega)]
  exact equal_loop l0 l1 hl hn l0.length 1001 0 (by omega) (by omega) (by omega)
theorem equal4 (A0 : Option Addr) (c0 : Nat) (x : List Int) (A1 : Option Addr) (c1 : Nat) (l1 : List Int) (w : World) (hx : x.length = 4) (hl : l1.length = 4) (h0 : Kd.C (Kd.int .u8) w A0 x.length x) (hc0 : 4 ≤ c0) (h1 : Kd.C (Kd.int .u8) w A1 4 l1) (hc1 : 4 ≤ c1) :
    Calls Tryd.prog 40 #[.slice A0 4 c0, .slice A1 4 c1] w fun e w' => e = .returned (.bool (x == l1)) ∧ Drawn0 w w' := by
  have h := slices_Equal_byte_byte.calls 1001 A0 c0 x A1 c1 l1 (x == l1) w h0 (by omega) (by rw [hl]; exact h1) (by omega) (equal_eq _ _ (by omega) (by omega))
  rw [hl, hx] at h
  exact h
def dLen (b : List Int) : Int := rd b 2 * 256 + rd b 3
def dDat (b : List Int) : List Int := (b.drop 8).take (dLen b).toNat
def fourR (a0 : Int) : List Int := [(a0 / 16777216) % 256, (a0 / 65536) % 256, (a0 / 256) % 256, a0 % 256]
def dOk (b : List Int) : Bool := rd b 0 == 165 && decide (dLen b ≤ 248) && (fourR (sumR (rd b 1) (dDat b)) == (b.drop 4).take 4)
set_option maxHeartbeats 4000000 in
set_option maxRecDepth 100000 in
theorem bank_data.calls (b : List Int) (g off : Nat) (w : World) (hl : b.length = 256) (hb : ∀ x ∈ b, 0 ≤ x ∧ x ≤ 255) (hC : Kd.C (Kd.int .u8) w (some ⟨g, off, none⟩) b.length b) :
    Calls Tryd.prog 31 #[.pointer (some ⟨g, off, none⟩)] w fun e w' => ∃ A n c, e = .returned (.tuple #[.slice A n c, .bool (dOk b)]) ∧ (dOk b = true → A = some ⟨g, off + 8, none⟩ ∧ n = (dLen b).toNat ∧ c = 248) ∧ Below w.heap.size w w' := by
  have HB := Aside0.mk (Below.refl w.heap.size w)
  have z0 := bank_cell hC 0 (by omega)
  have z1 := bank_cell hC 1 (by omega)
  have z2 := bank_cell hC 2 (by omega)
  have z3 := bank_cell hC 3 (by omega)
  have HC := Aside0.mk hC
  have HBY := Aside0.mk hb
  have HL := Aside0.mk hl
  have hu := Tryd.underlying68
  clear hC hb hl
  go_enter Tryd.func31, Tryd.ntmps31
  go_upto_region 1 with (fail)
  go_quiet (fail)
  have y0 := rd_by HBY.out 0
  have y1 := rd_by HBY.out 1
  have y2 := rd_by HBY.out 2
  have y3 := rd_by HBY.out 3
  have hd0 : 0 ≤ dLen b := by unfold dLen; omega
  have hd1 : dLen b ≤ 65535 := by unfold dLen; omega
  rw [show wrap64 (rd b 2) = rd b 2 from w64 (by omega) (by omega), show wrap64 (rd b 3) = rd b 3 from w64 (by omega) (by omega), show wrap64 (rd b 2 * 256) = rd b 2 * 256 from w64 (by omega) (by omega),
    show bits BinOp.or IntKind.i64 (rd b 2 * 256) (rd b 3) = dLen b from or_i64 8 (by omega) (by omega) (by omega) (by omega) (by omega) (by omega)]
  generalize hq : w.drewN nq = w1
  have HB1 : Aside0 (Below w.heap.size w w1) := ⟨by rw [← hq]; exact pw_below_drewN HB.out _⟩
  have HC1 : Aside0 (Kd.C (Kd.int .u8) w1 (some ⟨g, off, none⟩) b.length b) := ⟨by rw [← hq]; exact Kd.C_drewN HC.out _⟩
  clear z0 z1 z2 z3 hq HB
  have z0 : w1.cell? ⟨g, off, none⟩ = some (.int .u8 (rd b 0)) := bank_cell HC1.out 0 (by have := HL.out; omega)
  have z1 : w1.cell? ⟨g, off + 1, none⟩ = some (.int .u8 (rd b 1)) := bank_cell HC1.out 1 (by have := HL.out; omega)
  by_cases h0 : rd b 0 = 165
  · have h0b : (rd b 0 != 165) = false := bne_eq_false_iff_eq.mpr h0
    have h0c : (rd b 0 == 165) = true := beq_iff_eq.mpr h0
    by_cases hn : dLen b ≤ 248
    · have hnb : decide (248 < dLen b) = false := decide_eq_false (by omega)
      have hnd : decide (dLen b ≤ 248) = true := decide_eq_true hn
      obtain ⟨n, hnn⟩ : ∃ n : Nat, dLen b = n := ⟨(dLen b).toNat, by omega⟩
      have hn8 : wrap64 (8 + (n : Int)) = ((8 + n : Nat) : Int) := by rw [w64 (by omega) (by omega)]; omega
      have hn9 : n ≤ 248 := by omega
      have ho : dOk b = (fourR (sumR (rd b 1) (dDat b)) == (b.drop 4).take 4) := by unfold dOk; rw [h0c, hnd]; rfl
      have hdd : dDat b = (b.drop 8).take n := by unfold dDat; rw [hnn, Int.toNat_natCast]
      have HO := Aside0.mk ho
      have HDD := Aside0.mk hdd
      have HNN := Aside0.mk hnn
      rw [hnn] at hnb ⊢
      clear hd0 hd1 h0 h0c hnd hn ho hdd hnn
      have hs8 : ∀ W, (Instr.sliceAt 68 (.pointer (some ⟨g, off, none⟩)) (some (.int .i64 8)) (some (.int .i64 (8 + (n : Int)))) none).run Tryd.prog W = .ok (.slice (some ⟨g, off + 8, none⟩) n 248) W := fun W => by
        have h := cut_arr W g off 8 (8 + n) (by omega) (by omega) (by omega) (by omega)
        rw [show 8 + n - 8 = n by omega, show ((8 + n : Nat) : Int) = 8 + (n : Int) by omega] at h
        exact h
      have hs4 : ∀ W, (Instr.sliceAt 68 (.pointer (some ⟨g, off, none⟩)) (some (.int .i64 4)) (some (.int .i64 8)) none).run Tryd.prog W = .ok (.slice (some ⟨g, off + 4, none⟩) 4 252) W := fun W => cut_arr W g off 4 8 (by omega) (by omega) (by omega) (by omega)
      go_upto_region 5 with (fail)
      clear hs8 hn8 z0 hnb h0b y0 y1 y2 y3
      have hSum := fun (W : World) (hB : Below w1.heap.size w1 W) => nvram_Sum.calls (rd b 1) (some ⟨g, off + 8, none⟩) 248 (dDat b) W (rd_by HBY.out 1).1 (rd_by HBY.out 1).2 (by rw [HDD.out]; have h := C_mid8 8 n (Kd.C_below HC1.out hB) (by have := HL.out; omega); rw [show ((b.drop 8).take n).length = n by have := HL.out; rw [List.length_take, List.length_drop]; omega]; exact h) (by rw [HDD.out, List.length_take]; omega) (by rw [HDD.out]; exact fun x hx => HBY.out x (List.mem_of_mem_drop (List.mem_of_mem_take hx))) (by rw [HDD.out, List.length_take]; omega)
      rw [show (dDat b).length = n by have := HL.out; rw [HDD.out, List.length_take, List.length_drop]; omega] at hSum
      have hSum2 := fun (W : World) (hB : Below w1.heap.size w1 W) => (hSum W hB).mono (R' := fun e w' => e = .returned (.int .u32 (sumR (rd b 1) (dDat b))) ∧ Below w1.heap.size w1 w') (fun e w' h => ⟨h.1, below_step hB h.2⟩)
      have HSum := Aside0.mk hSum2
      clear hSum hSum2
      have hFour := fun (W : World) (hB : Below w1.heap.size w1 W) => (nvram_four.calls (sumR (rd b 1) (dDat b)) (fourR (sumR (rd b 1) (dDat b))) W rfl).mono (R' := fun e w' => (∃ A c, e = .returned (.slice A 4 c) ∧ 4 ≤ c ∧ Kd.C (Kd.int .u8) w' A 4 (fourR (sumR (rd b 1) (dDat b)))) ∧ Below w1.heap.size w1 w') (fun e w' h => by
        obtain ⟨v, rfl, hR, hb⟩ := h
        obtain ⟨A, c, rfl, hc, hC⟩ := Kd.R_reads hR
        exact ⟨⟨A, c, rfl, hc, hC⟩, below_step hB hb⟩)
      have HFour := Aside0.mk hFour
      clear hFour
      have hEq := fun (W : World) (hB : Below w1.heap.size w1 W) (A : Option Addr) (c : Nat) (h0 : Kd.C (Kd.int .u8) W A 4 (fourR (sumR (rd b 1) (dDat b)))) (hc : 4 ≤ c) => (equal4 A c (fourR (sumR (rd b 1) (dDat b))) (some ⟨g, off + 4, none⟩) 252 ((b.drop 4).take 4) W rfl (by have := HL.out; rw [List.length_take, List.length_drop]; omega) h0 hc (C_mid8 4 4 (Kd.C_below HC1.out hB) (by have := HL.out; omega)) (by omega)).mono (R' := fun e w' => e = .returned (.bool (dOk b)) ∧ Below w1.heap.size w1 w') (fun e w' h => by
        obtain ⟨rfl, n, rfl⟩ := h
        exact ⟨by rw [HO.out], pw_below_drewN hB _⟩)
      have HEq := Aside0.mk hEq
      clear hEq
      go_region_held3 (fun w' => w'.cell? ⟨g, off + 1, none⟩ = some (.int .u8 (rd b 1)) ∧ Below w1.heap.size w1 w') (first | exact ⟨z1, below_drew (Below.refl _ _)⟩ | (refine ⟨?_, by assumption⟩; exact (Below.cell (w := w1) (by assumption) (World.block_lt_of_cell? w1 _ z1)).trans z1))
        (first | (go_at_call 39; refine (HSum.out _ (And.right (by assumption))).mono ?_; rintro e w3 ⟨rfl, hb3⟩) | (go_at_call 38; refine (HFour.out _ (And.right (by assumption))).mono ?_; rintro e w4 ⟨⟨A4, c4, rfl, hc4, hC4⟩, hb4⟩) | (go_at_call 40; refine (HEq.out _ (And.right (by assumption)) _ _ ?_ ?_).mono ?_; (assumption); (assumption); rintro e w5 ⟨rfl, hb5⟩))
      go_wp2
      go_ret2
      exact ⟨_, _, _, rfl, fun _ => ⟨rfl, by rw [HNN.out, Int.toNat_natCast], rfl⟩, below_step HB1.out hb5⟩
    · have hnb : decide (248 < dLen b) = true := decide_eq_true (by omega)
      have ho : dOk b = false := by unfold dOk; rw [decide_eq_false hn, Bool.and_false, Bool.false_and]
      clear h0 h0c hn
      go_wp2
      go_ret2
      exact ⟨none, 0, 0, by rw [ho]; rfl, (fun h => by rw [ho] at h; cases h), HB1.out⟩
  · have h0b : (rd b 0 != 165) = true := bne_iff_ne.mpr h0
    have h0c : (rd b 0 == 165) = false := beq_eq_false_iff_ne.mpr h0
    have ho : dOk b = false := by unfold dOk; rw [h0c]; rfl
    clear h0 h0c
    go_wp2
    go_ret2
    exact ⟨none, 0, 0, by rw [ho]; rfl, (fun h => by rw [ho] at h; cases h), HB1.out⟩
end

end Go.Proofs.YtdobpgomgnaleaaDoor.P
