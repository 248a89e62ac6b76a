/- The machine's side: functions of the translation as plain Lean functions, and that the machine's calls come to what they say. No condition. Written by a program (wip/tools/pp.py over the kit's printer); Lean checks it. -/
import Derived.Test.YtngfijkageapgaaPx0
import Derived.Test.YtngfijkageapgaaPx1
import Derived.Test.YtngfijkageapgaaPx2
import Derived.Test.YtngfijkageapgaaPx5
import Derived.Test.YtngfijkageapgaaPx10
namespace Go.Proofs.Ytngfijkageapgaa.P
open Go.RowKit Go.Proofs.YtngfijkageapgaaW.PrintWords Go.Proofs.YtngfijkageapgaaW.PrintLast Go.Proofs.YtngfijkageapgaaW.PrintMore
attribute [local go_sem] max2_int min2_int max_two min_two max_three min_three max_four min_four   -- for this text's walks alone
set_option linter.unusedVariables false
set_option linter.unusedSimpArgs false

/-! ### screen_Mirror: function 21 -/
section
theorem cutR_cell {W : World} {base : Nat} {ok : Nat → Prop} {g N cap : Nat} {pre xs post : List Int} (h : Kd.R (Kd.int .u8) 5 W base ok (.slice (some ⟨g, 0, none⟩) N cap) (pre ++ xs ++ post)) (i : Int) (h0 : 0 ≤ i) (hi : i < xs.length) :
    W.cell? ⟨g, pre.length + i.toNat, none⟩ = some (.int .u8 (rd xs i)) ∧ W.frozen? ⟨g, pre.length + i.toNat, none⟩ = false := by
  have hn : N = (pre ++ xs ++ post).length := by
    obtain ⟨A, c, e⟩ := Kd.R_slice h
    injection e
  have hl : (pre ++ xs ++ post).length = pre.length + xs.length + post.length := by simp only [List.length_append]
  obtain ⟨h1, h2⟩ := Kd.R_celln 0 h ((pre.length : Int) + i) (by omega) (by omega)
  have e : ((pre.length : Int) + i).toNat = pre.length + i.toNat := by omega
  rw [e] at h1 h2
  refine ⟨h1.trans ?_, h2⟩
  have : rdOf 0 (pre ++ xs ++ post) ((pre.length : Int) + i) = rd xs i := by
    show (pre ++ xs ++ post).getD ((pre.length : Int) + i).toNat 0 = xs.getD i.toNat 0
    rw [e, List.getD_eq_getElem?_getD, List.getD_eq_getElem?_getD, List.getElem?_append_left (by rw [List.length_append]; omega), List.getElem?_append_right (by omega)]
    congr 2
    omega
  rw [this]
theorem cutR_put {W : World} {base : Nat} {ok : Nat → Prop} {g N cap : Nat} {pre xs post : List Int} (h : Kd.R (Kd.int .u8) 5 W base ok (.slice (some ⟨g, 0, none⟩) N cap) (pre ++ xs ++ post)) (i x : Int) (h0 : 0 ≤ i) (hi : i < xs.length) :
    Kd.R (Kd.int .u8) 5 (W.setCell ⟨g, pre.length + i.toNat, none⟩ (.int .u8 x)) base ok (.slice (some ⟨g, 0, none⟩) N cap) (pre ++ xs.set i.toNat x ++ post) := by
  have h1 := Kd.R_putn h ((pre.length : Int) + i) x
  have e : ((pre.length : Int) + i).toNat = pre.length + i.toNat := by omega
  rw [e] at h1
  have e2 : (pre ++ xs ++ post).set (pre.length + i.toNat) x = pre ++ xs.set i.toNat x ++ post := by
    rw [List.set_append_left _ _ (by rw [List.length_append]; omega), List.set_append_right _ _ (by omega)]
    congr 3
    omega
  rw [e2] at h1
  exact h1
set_option maxHeartbeats 8000000 in
set_option maxRecDepth 100000 in
theorem reverse_cut.calls (k : Nat) (go8 NN co8 c9 : Nat) (pre post : List Int) (ok : Nat → Prop) (base : Nat) (l0 : List Int) (r : List Int) (w0 w : World) (hB : Below w0.heap.size w0 w) (hg : w0.heap.size ≤ go8) (ho0 : Kd.R (Kd.int .u8) 5 w base ok (.slice (some ⟨go8, 0, none⟩) NN co8) (pre ++ l0 ++ post)) (h : slices_Reverse_byte_byte.f k l0 = some r) :
    Calls Try.prog 34 #[.slice (some ⟨go8, pre.length, none⟩) l0.length c9] w fun e w' => e = .returned (.tuple #[]) ∧ Kd.R (Kd.int .u8) 5 w' base ok (.slice (some ⟨go8, 0, none⟩) NN co8) (pre ++ r ++ post) ∧ Below w0.heap.size w0 w' ∧ Kept w w' (fun k_ => k_ = go8) := by
  have HO0 := Aside0.mk ho0
  have HB := Aside0.mk hB
  have GB := Aside0.mk hg
  clear hB hg
  have HK := Aside0.mk (Kept.refl w (fun k_ => k_ = go8))
  have H : (slices_Reverse_byte_byte.l0 k l0 0 (wrap64 ((l0.length : Int) - 1))) = some r := h
  clear h
  have H' := Aside0.mk H
  clear H
  go_enter Try.func34, Try.ntmps34
  go_wp2
  go_loopg [2, 3] k (fun kq v2 v3 w' => ∃ (x0_1 : List Int) (x2_1 : Int) (x3_1 : Int), v2 = .int .i64 x2_1 ∧ v3 = .int .i64 x3_1 ∧ Aside0 (slices_Reverse_byte_byte.l0 kq x0_1 x2_1 x3_1 = some r) ∧ Aside0 (kq ≤ k) ∧ Aside0 (Kd.R (Kd.int .u8) 5 w' base ok (.slice (some ⟨go8, 0, none⟩) NN co8) (pre ++ x0_1 ++ post)) ∧ Aside0 (x0_1.length = l0.length) ∧ Aside0 (Below w0.heap.size w0 w') ∧ Aside0 (Kept w w' (fun k_ => k_ = go8)))
  case atStart => exact ⟨(l0), (0), (wrap64 ((l0.length : Int) - 1)), (by first | rfl | (simp; done) | (simp [*]; done)), (by first | rfl | (simp; done) | (simp [*]; done)), H', ⟨Nat.le_refl _⟩, HO0, ⟨rfl⟩, HB, HK⟩
  case round =>
    clear H'
    try clear p2
    obtain ⟨x0_1, x2_1, x3_1, rfl, rfl, HA, HK1, HO_0, HLN, HB, HK⟩ := hrel
    have hl0_1 := HLN.out.symm
    (try simp only [hl0_1])
    cases gk with
    | zero => exact absurd HA.out (by simp [slices_Reverse_byte_byte.l0])
    | succ k1 =>
      have H := HA.out
      clear HA
      simp only [slices_Reverse_byte_byte.l0] at H
      by_cases c3 : x2_1 < x3_1
      · rw [if_pos c3] at H
        have c3b0 : decide (x2_1 < x3_1) = true := decide_eq_true c3
        clear c3
        by_cases c4 : 0 ≤ x3_1
        · rw [if_pos c4] at H
          have c4b0 : decide (0 ≤ x3_1) = true := decide_eq_true c4
          clear c4
          by_cases c5 : x3_1 < (x0_1.length : Int)
          · rw [if_pos c5] at H
            have c5b0 : decide (x3_1 < (x0_1.length : Int)) = true := decide_eq_true c5
            clear c5
            by_cases c6 : 0 ≤ x2_1
            · rw [if_pos c6] at H
              have c6b0 : decide (0 ≤ x2_1) = true := decide_eq_true c6
              clear c6
              by_cases c7 : x2_1 < (x0_1.length : Int)
              · rw [if_pos c7] at H
                have c7b0 : decide (x2_1 < (x0_1.length : Int)) = true := decide_eq_true c7
                clear c7
                obtain ⟨y263, hy263⟩ : ∃ y_ : List Int, y_ = (x0_1.set (x2_1 : Int).toNat (rd x0_1 x3_1)) := ⟨_, rfl⟩
                replace H : (slices_Reverse_byte_byte.l0 k1 (y263.set (x3_1 : Int).toNat (rd x0_1 x2_1)) (wrap64 (x2_1 + 1)) (wrap64 (x3_1 - 1))) = some r := by first | (rw [hy263]; with_reducible exact H) | (have H2_ := (Option.bind_some _ _).symm.trans H; rw [hy263]; with_reducible exact H2_) | (have H2_ := (Option.bind_some _ _).symm.trans H; with_reducible exact H2_) | with_reducible exact H | (rw [hy263]; exact H) | exact H
                have Ny263 := Aside0.mk hy263
                clear hy263
                obtain ⟨y264, hy264⟩ : ∃ y_ : List Int, y_ = (y263.set (x3_1 : Int).toNat (rd x0_1 x2_1)) := ⟨_, rfl⟩
                replace H : (slices_Reverse_byte_byte.l0 k1 y264 (wrap64 (x2_1 + 1)) (wrap64 (x3_1 - 1))) = some r := by first | (rw [hy264]; with_reducible exact H) | (have H2_ := (Option.bind_some _ _).symm.trans H; rw [hy264]; with_reducible exact H2_) | (have H2_ := (Option.bind_some _ _).symm.trans H; with_reducible exact H2_) | with_reducible exact H | (rw [hy264]; exact H) | exact H
                have Ny264 := Aside0.mk hy264
                clear hy264
                have H' := Aside0.mk H
                clear H
                try go_wp2
                have n0_ := Aside0.mk (Kd.R_drew HO_0.out)
                have n1_ := Aside0.mk (Kept.drew HK.out)
                have n2_ := Aside0.mk (below_drew1 HB.out)
                clear HO_0
                clear HK
                clear HB
                have HO_0 := n0_
                have HK := n1_
                have HB := n2_
                clear n0_ n1_ n2_
                have p261 : 0 ≤ (x3_1 : Int) := of_decide_eq_true (by first | (with_reducible assumption) | assumption)
                have q261 : x3_1 < (x0_1.length : Int) := of_decide_eq_true (by first | (with_reducible assumption) | assumption)
                have hx261_0 := (cutR_cell HO_0.out x3_1 p261 q261).1
                replace p261 := eq_true p261
                replace q261 := eq_true q261
                have p262 : 0 ≤ (x2_1 : Int) := of_decide_eq_true (by first | (with_reducible assumption) | assumption)
                have q262 : x2_1 < (x0_1.length : Int) := of_decide_eq_true (by first | (with_reducible assumption) | assumption)
                have hx262_0 := (cutR_cell HO_0.out x2_1 p262 q262).1
                replace p262 := eq_true p262
                replace q262 := eq_true q262
                have p8 : 0 ≤ (x2_1 : Int) := of_decide_eq_true (by first | (with_reducible assumption) | assumption)
                have q8 : (x2_1 : Int) < ((x0_1.length : Int) : Int) := of_decide_eq_true (by first | (with_reducible assumption) | assumption)
                obtain ⟨hx8_0, hf8_0⟩ := cutR_cell HO_0.out x2_1 p8 q8
                replace p8 := eq_true p8
                replace q8 := eq_true q8
                have HP11 := cutR_put HO_0.out x2_1 (rd x0_1 x3_1) (of_eq_true p8) (of_eq_true q8)
                rw [← Ny263.out] at HP11
                have HQ11 := Aside0.mk HP11
                clear HP11
                have p9 : 0 ≤ (x3_1 : Int) := of_decide_eq_true (by first | (with_reducible assumption) | assumption)
                have q9 : (x3_1 : Int) < ((x0_1.length : Int) : Int) := of_decide_eq_true (by first | (with_reducible assumption) | assumption)
                have l9 : y263.length = x0_1.length := by rw [Ny263.out, List.length_set]
                obtain ⟨hx9_0, hf9_0⟩ := cutR_cell HQ11.out x3_1 p9 (by rw [l9]; exact q9)
                replace p9 := eq_true p9
                replace q9 := eq_true q9
                have HP12 := cutR_put HQ11.out x3_1 (rd x0_1 x2_1) (of_eq_true p9) (by rw [l9]; exact of_eq_true q9)
                have l10 : y264.length = l0.length := by rw [Ny264.out, List.length_set, l9]; exact HLN.out
                rw [← Ny264.out] at HP12
                have HQ12 := Aside0.mk HP12
                clear HP12
                refine start_ (n := 16) (S := fun w' => w'.cell? ⟨go8, pre.length + (x3_1).toNat, none⟩ = some (.int .u8 (rd x0_1 x3_1)) ∧ w'.cell? ⟨go8, pre.length + (x2_1).toNat, none⟩ = some (.int .u8 (rd x0_1 x2_1))) (ds := [13, 15]) #[false, false, false, false, false, false, false, false, false, false, false, false, false, false, false, false] (by kernel_rfl) rfl rfl ⟨hx261_0, hx262_0⟩ (fun hHeld => ?_); refine with_tabW slices_Reverse_byte_byte.tab3 slices_Reverse_byte_byte.bits3 (fun HT_ HW_ => ?_)
                generalize wr.drew = w10 at HO_0 HK HB HQ11 HQ12 hf8_0 hf9_0 hx261_0 hx262_0 hx8_0 hx9_0 hHeld ⊢
                refine pure_ (i := 0) (N := some 14) (v := ?_) (a' := ?_) #[true, false, false, false, false, false, false, false, false, false, false, false, false, false, false, false] rfl rfl (any_of HT_.out (by kernel_rfl)) (fun _ _ _ h => h) (Or.inl ⟨by rfl, ?_⟩) ?_ ?_
                rotate_left
                · intro w'
                  go_simp
                  with_reducible rfl
                rotate_left
                · simp only [Act.put, List.setIfInBounds_toArray, List.set_cons_zero, List.set_cons_succ, i64_w, i32_w]
                  rfl
                refine pure_ (i := 1) (N := some 15) (v := ?_) (a' := ?_) #[true, true, false, false, false, false, false, false, false, false, false, false, false, false, false, false] rfl rfl (any_of HT_.out (by kernel_rfl)) (fun _ _ _ h => h) (Or.inl ⟨by rfl, ?_⟩) ?_ ?_
                rotate_left
                · intro w'
                  go_simp
                  with_reducible rfl
                rotate_left
                · simp only [Act.put, List.setIfInBounds_toArray, List.set_cons_zero, List.set_cons_succ, i64_w, i32_w]
                  rfl
                refine pure_ (i := 2) (N := some 16) (v := ?_) (a' := ?_) #[true, true, true, false, false, false, false, false, false, false, false, false, false, false, false, false] rfl rfl (any_of HT_.out (by kernel_rfl)) (fun _ _ _ h => h) (Or.inl ⟨by rfl, ?_⟩) ?_ ?_
                rotate_left
                · intro w'
                  go_simp
                  with_reducible rfl
                rotate_left
                · simp only [Act.put, List.setIfInBounds_toArray, List.set_cons_zero, List.set_cons_succ, i64_w, i32_w]
                  rfl
                refine pure_ (i := 3) (N := some 17) (v := ?_) (a' := ?_) #[true, true, true, true, false, false, false, false, false, false, false, false, false, false, false, false] rfl rfl (any_of HT_.out (by kernel_rfl)) (fun _ _ _ h => h) (Or.inl ⟨by rfl, ?_⟩) ?_ ?_
                rotate_left
                · intro w'
                  go_simp
                  with_reducible rfl
                rotate_left
                · simp only [Act.put, List.setIfInBounds_toArray, List.set_cons_zero, List.set_cons_succ, i64_w, i32_w]
                  rfl
                refine pure_ (i := 4) (N := some 18) (v := ?_) (a' := ?_) #[true, true, true, true, true, false, false, false, false, false, false, false, false, false, false, false] rfl rfl (any_of HT_.out (by kernel_rfl)) (fun _ _ _ h => h) (Or.inl ⟨by rfl, ?_⟩) ?_ ?_
                rotate_left
                · intro w'
                  go_simp
                  with_reducible rfl
                rotate_left
                · simp only [Act.put, List.setIfInBounds_toArray, List.set_cons_zero, List.set_cons_succ, i64_w, i32_w]
                  rfl
                refine pure_ (i := 5) (N := some 19) (v := ?_) (a' := ?_) #[true, true, true, true, true, true, false, false, false, false, false, false, false, false, false, false] rfl rfl (any_of HT_.out (by kernel_rfl)) (fun _ _ _ h => h) (Or.inl ⟨by rfl, ?_⟩) ?_ ?_
                rotate_left
                · intro w'
                  go_simp
                  with_reducible rfl
                rotate_left
                · simp only [Act.put, List.setIfInBounds_toArray, List.set_cons_zero, List.set_cons_succ, i64_w, i32_w]
                  rfl
                refine pure_ (i := 6) (N := some 20) (v := ?_) (a' := ?_) #[true, true, true, true, true, true, true, false, false, false, false, false, false, false, false, false] rfl rfl (any_of HT_.out (by kernel_rfl)) (fun _ _ _ h => h) (Or.inl ⟨by rfl, ?_⟩) ?_ ?_
                rotate_left
                · intro w'
                  go_simp
                  with_reducible rfl
                rotate_left
                · simp only [Act.put, List.setIfInBounds_toArray, List.set_cons_zero, List.set_cons_succ, i64_w, i32_w]
                  rfl
                refine pure_ (i := 8) (N := some 22) (v := ?_) (a' := ?_) #[true, true, true, true, true, true, true, false, true, false, false, false, false, false, false, false] rfl rfl (any_of HT_.out (by kernel_rfl)) (fun _ _ _ h => h) (Or.inl ⟨by rfl, ?_⟩) ?_ ?_
                rotate_left
                · intro w'
                  go_simp
                  with_reducible rfl
                rotate_left
                · simp only [Act.put, List.setIfInBounds_toArray, List.set_cons_zero, List.set_cons_succ, i64_w, i32_w]
                  rfl
                refine pure_ (i := 9) (N := some 23) (v := ?_) (a' := ?_) #[true, true, true, true, true, true, true, false, true, true, false, false, false, false, false, false] rfl rfl (any_of HT_.out (by kernel_rfl)) (fun _ _ _ h => h) (Or.inl ⟨by rfl, ?_⟩) ?_ ?_
                rotate_left
                · intro w'
                  go_simp
                  with_reducible rfl
                rotate_left
                · simp only [Act.put, List.setIfInBounds_toArray, List.set_cons_zero, List.set_cons_succ, i64_w, i32_w]
                  rfl
                refine pure_ (i := 10) (N := some 24) (v := ?_) (a' := ?_) #[true, true, true, true, true, true, true, false, true, true, true, false, false, false, false, false] rfl rfl (any_of HT_.out (by kernel_rfl)) (fun _ _ _ h => h) (Or.inl ⟨by rfl, ?_⟩) ?_ ?_
                rotate_left
                · intro w'
                  go_simp
                  with_reducible rfl
                rotate_left
                · simp only [Act.put, List.setIfInBounds_toArray, List.set_cons_zero, List.set_cons_succ, i64_w, i32_w]
                  rfl
                refine take_ (i := 7) (N := some 21) (v := ?_) (a' := ?_) #[true, true, true, true, true, true, true, true, true, true, true, false, false, false, false, false] rfl rfl (take_ofW HT_.out HW_.out (by kernel_rfl)) (fun _ _ _ h => h) (Or.inl ⟨by rfl, ?_⟩) hHeld ?_ ?_
                rotate_left
                · rintro w' ⟨s0, s1⟩
                  go_simp
                  with_reducible rfl
                rotate_left
                · simp only [Act.put, List.setIfInBounds_toArray, List.set_cons_zero, List.set_cons_succ, i64_w, i32_w]
                  rfl
                refine take_ (i := 11) (N := some 25) (v := ?_) (a' := ?_) #[true, true, true, true, true, true, true, true, true, true, true, true, false, false, false, false] rfl rfl (take_ofW HT_.out HW_.out (by kernel_rfl)) (fun _ _ _ h => h) (Or.inl ⟨by rfl, ?_⟩) hHeld ?_ ?_
                rotate_left
                · rintro w' ⟨s0, s1⟩
                  go_simp
                  with_reducible rfl
                rotate_left
                · simp only [Act.put, List.setIfInBounds_toArray, List.set_cons_zero, List.set_cons_succ, i64_w, i32_w]
                  rfl
                refine pure_ (i := 12) (N := some 26) (v := ?_) (a' := ?_) #[true, true, true, true, true, true, true, true, true, true, true, true, true, false, false, false] rfl rfl (any_of HT_.out (by kernel_rfl)) (fun _ _ _ h => h) (Or.inl ⟨by rfl, ?_⟩) ?_ ?_
                rotate_left
                · intro w'
                  go_simp
                  with_reducible rfl
                rotate_left
                · simp only [Act.put, List.setIfInBounds_toArray, List.set_cons_zero, List.set_cons_succ, i64_w, i32_w]
                  rfl
                refine last_ (i := 13) (N := none) #[true, true, true, true, true, true, true, true, true, true, true, true, true, true, false, false] rfl rfl (one_of HT_.out (by kernel_rfl)) (by decide) (fun K hK => ?_)
                refine skip_ (w1 := ?_) (by rfl) rfl ?_ ?_
                rotate_left
                · go_simp
                  rfl
                refine hK.out _ _ ?_
                clear hK K
                refine pure_ (i := 14) (N := some 27) (v := ?_) (a' := ?_) #[true, true, true, true, true, true, true, true, true, true, true, true, true, true, true, false] rfl rfl (any_of HT_.out (by kernel_rfl)) (fun _ _ _ h => h) (Or.inl ⟨by rfl, ?_⟩) ?_ ?_
                rotate_left
                · intro w'
                  go_simp
                  with_reducible rfl
                rotate_left
                · simp only [Act.put, List.setIfInBounds_toArray, List.set_cons_zero, List.set_cons_succ, i64_w, i32_w]
                  rfl
                refine last_ (i := 15) (N := none) #[true, true, true, true, true, true, true, true, true, true, true, true, true, true, true, true] rfl rfl (one_of HT_.out (by kernel_rfl)) (by decide) (fun K hK => ?_)
                refine skip_ (w1 := ?_) (by rfl) rfl ?_ ?_
                rotate_left
                · go_simp
                  rfl
                refine hK.out _ _ ?_
                clear hK K
                refine done_ (done_of HT_.out (by kernel_rfl)) ?_
                try go_wp2
                (try simp only [← hl0_1])
                go_roundg k1
                case measure => have := HK1.out; omega
                case rel => exact ⟨(y264), (wrap64 (x2_1 + 1)), (wrap64 (x3_1 - 1)), (by first | rfl | (simp; done) | (simp [*]; done)), (by first | rfl | (simp; done) | (simp [*]; done)), H', ⟨by have := HK1.out; omega⟩, HQ12, ⟨l10⟩, ⟨below_set (below_set HB.out GB.out) GB.out⟩, ⟨Kept.setCell (Kept.setCell HK.out (.inl rfl) _) (.inl rfl) _⟩⟩
              · rw [if_neg c7] at H
                exact absurd H (by simp)
            · rw [if_neg c6] at H
              exact absurd H (by simp)
          · rw [if_neg c5] at H
            exact absurd H (by simp)
        · rw [if_neg c4] at H
          exact absurd H (by simp)
      · rw [if_neg c3] at H
        have c3b0 : decide (x2_1 < x3_1) = false := decide_eq_false c3
        clear c3
        obtain rfl := Option.some.inj H
        go_wp2
        first | go_end0 | ((try simp only [Exit.inBlock, Exit.then]); refine bodyPost_ret (results_none rfl _ _ _) rfl ?_)
        exact ⟨rfl, by first | exact HO_0.out | (rw [← List.append_assoc]; exact HO_0.out), HB.out, HK.out⟩

set_option maxHeartbeats 8000000 in
set_option maxRecDepth 100000 in
theorem reverse_none.calls (A : Option Addr) (c : Nat) (w : World) : Calls Try.prog 34 #[.slice A 0 c] w fun e w' => e = .returned (.tuple #[]) ∧ w' = w := by
  go_enter Try.func34, Try.ntmps34
  go_wp2
  go_loopg [2, 3] 1 (fun kq v2 v3 w' => v2 = .int .i64 0 ∧ v3 = .int .i64 (-1) ∧ w' = w)
  case atStart => exact ⟨rfl, rfl, rfl⟩
  case round =>
    obtain ⟨rfl, rfl, rfl⟩ := hrel
    go_wp2
    first | go_end0 | ((try simp only [Exit.inBlock, Exit.then]); refine bodyPost_ret (results_none rfl _ _ _) rfl ?_)
    exact ⟨rfl, rfl⟩
/-- The first j rows turned round. -/
def mirTo (w : Nat) (l : List Int) : Nat → List Int
  | 0 => l
  | j + 1 => (mirTo w l j).take (j * w) ++ (((mirTo w l j).drop (j * w)).take w).reverse ++ ((mirTo w l j).drop (j * w)).drop w
theorem mirTo_len (w : Nat) (l : List Int) : ∀ j, (mirTo w l j).length = l.length
  | 0 => rfl
  | j + 1 => by
    have ih := mirTo_len w l j
    simp only [mirTo, List.length_append, List.length_reverse, List.length_take, List.length_drop]
    omega
theorem getD_set_ne (l : List Int) (i t : Nat) (v : Int) (h : i ≠ t) : (l.set i v).getD t 0 = l.getD t 0 := by
  rw [List.getD_eq_getElem?_getD, List.getD_eq_getElem?_getD, List.getElem?_set_ne h]
theorem getD_set_eq (l : List Int) (i : Nat) (v : Int) (h : i < l.length) : (l.set i v).getD i 0 = v := by
  rw [List.getD_eq_getElem?_getD, List.getElem?_set_self h]; rfl
theorem ext_getD {l m : List Int} (hl : l.length = m.length) (h : ∀ t, t < l.length → l.getD t 0 = m.getD t 0) : l = m := by
  apply List.ext_getElem hl
  intro t h1 h2
  have := h t h1
  rwa [List.getD_eq_getElem?_getD, List.getD_eq_getElem?_getD, List.getElem?_eq_getElem h1, List.getElem?_eq_getElem h2] at this
theorem rev_l0 : ∀ (k : Nat) (xs : List Int) (i j : Int), 0 ≤ i → j < xs.length → j - i < 2 * k → (xs.length : Int) < 100000 → -1 ≤ j → i ≤ xs.length →
    ∃ r, slices_Reverse_byte_byte.l0 (k + 1) xs i j = some r ∧ r.length = xs.length ∧ ∀ t : Nat, t < xs.length → r.getD t 0 = if i ≤ t ∧ (t : Int) ≤ j then xs.getD (i + j - t).toNat 0 else xs.getD t 0 := by
  intro k
  induction k with
  | zero =>
    intro xs i j h0 h1 h2 h3 h4 h5
    refine ⟨xs, ?_, rfl, fun t ht => ?_⟩
    · simp only [slices_Reverse_byte_byte.l0]
      rw [if_neg (by omega)]
    · split
      · rw [show (i + j - t).toNat = t by omega]
      · rfl
  | succ k ih =>
    intro xs i j h0 h1 h2 h3 h4 h5
    rw [slices_Reverse_byte_byte.l0]
    by_cases hij : i < j
    · rw [if_pos hij, if_pos (by omega), if_pos h1, if_pos h0, if_pos (by omega)]
      have w1 : wrap64 (i + 1) = i + 1 := by unfold wrap64; omega
      have w2 : wrap64 (j - 1) = j - 1 := by unfold wrap64; omega
      rw [w1, w2]
      obtain ⟨r, hr, hl, ht⟩ := ih ((xs.set i.toNat (rd xs j)).set j.toNat (rd xs i)) (i + 1) (j - 1) (by omega) (by simp only [List.length_set]; omega) (by omega) (by simp only [List.length_set]; omega) (by omega) (by simp only [List.length_set]; omega)
      simp only [List.length_set] at hl ht
      refine ⟨r, hr, hl, fun t htt => ?_⟩
      rw [ht t htt]
      have rdx : ∀ q : Int, rd xs q = xs.getD q.toNat 0 := fun q => rfl
      by_cases e1 : (t : Int) = i
      · rw [if_neg (by omega), if_pos (by omega), getD_set_ne _ _ _ _ (by omega), show t = i.toNat by omega, getD_set_eq _ _ _ (by omega), rdx, show (i + j - (i.toNat : Int)).toNat = j.toNat by omega]
      · by_cases e2 : (t : Int) = j
        · rw [if_neg (by omega), if_pos (by omega), show t = j.toNat by omega, getD_set_eq _ _ _ (by rw [List.length_set]; omega), rdx, show (i + j - (j.toNat : Int)).toNat = i.toNat by omega]
        · by_cases e3 : i ≤ t ∧ (t : Int) ≤ j
          · rw [if_pos (by omega), if_pos e3, getD_set_ne _ _ _ _ (by omega), getD_set_ne _ _ _ _ (by omega), show (i + 1 + (j - 1) - (t : Int)) = i + j - t by omega]
          · rw [if_neg (by omega), if_neg e3, getD_set_ne _ _ _ _ (by omega), getD_set_ne _ _ _ _ (by omega)]
    · rw [if_neg hij]
      refine ⟨xs, rfl, rfl, fun t htt => ?_⟩
      split
      · rw [show (i + j - t).toNat = t by omega]
      · rfl
theorem rev_eq (xs : List Int) (h : xs.length ≤ 64) : slices_Reverse_byte_byte.f 66 xs = some xs.reverse := by
  unfold slices_Reverse_byte_byte.f
  have w2 : wrap64 ((xs.length : Int) - 1) = (xs.length : Int) - 1 := by unfold wrap64; omega
  rw [w2]
  obtain ⟨r, hr, hl, ht⟩ := rev_l0 65 xs 0 ((xs.length : Int) - 1) (by omega) (by omega) (by omega) (by omega) (by omega) (by omega)
  rw [hr]
  congr 1
  apply ext_getD (by rw [hl, List.length_reverse])
  intro t htl
  rw [hl] at htl
  rw [ht t htl, if_pos (by omega), List.getD_eq_getElem?_getD, List.getD_eq_getElem?_getD, List.getElem?_reverse htl, show (0 + ((xs.length : Int) - 1) - (t : Int)).toNat = xs.length - 1 - t by omega]
def screen_Mirror.f (a0_0 a0_1 : Int) (l0_2 : List Int) : Option (Int × Int × List Int × Int) :=
  (screen_Formed.f a0_0 a0_1 l0_2).bind fun fm => if fm = true then (if 0 ≤ a0_0 ∧ a0_0 ≤ 64 ∧ 0 ≤ a0_1 ∧ a0_1 ≤ 64 ∧ (l0_2.length : Int) = a0_0 * a0_1 then some (a0_0, a0_1, mirTo a0_0.toNat l0_2 a0_1.toNat, 0) else none) else some (0, 0, [], 1)
set_option maxHeartbeats 8000000 in
set_option maxRecDepth 100000 in
theorem screen_Mirror.calls (a0_0 a0_1 : Int) (A0_2 : Option Addr) (c0_2 : Nat) (l0_2 : List Int) (r1 r2 : Int) (r3 : List Int) (r4 : Int) (w : World) (hr0_2 : Kd.C (Kd.int .u8) w A0_2 l0_2.length l0_2) (hc0_2 : l0_2.length ≤ c0_2) (h : screen_Mirror.f a0_0 a0_1 l0_2 = some (r1, r2, r3, r4)) :
    Calls Try.prog 21 #[.agg #[.int .i64 a0_0, .int .i64 a0_1, .slice A0_2 l0_2.length c0_2]] w fun e w' => ∃ v2_ : Value, e = .returned (.tuple #[.agg #[.int .i64 r1, .int .i64 r2, v2_], .int .i64 r4]) ∧ Kd.R (Kd.int .u8) 5 w' w.heap.size (fun _ => True) v2_ r3 ∧ Below w.heap.size w w' := by
  have hu28 := Try.underlying28
  have HR0_2 := Aside0.mk hr0_2
  have HC0_2 := Aside0.mk hc0_2
  clear hr0_2 hc0_2
  have HB := Aside0.mk (Below.refl w.heap.size w)
  unfold screen_Mirror.f at h
  obtain ⟨fm, A60, H⟩ := Option.bind_eq_some_iff.mp h
  clear h
  have A6 := Aside0.mk A60
  clear A60
  cases fm with
  | false =>
    rw [if_neg Bool.false_ne_true] at H
    simp only [Option.some.injEq, Prod.mk.injEq] at H
    obtain ⟨rfl, rfl, rfl, rfl⟩ := H
    go_enter Try.func21, Try.ntmps21
    go_wp2_with (first | ((with_reducible refine gate_dst (N := 1) rfl ?_); (try (refine gate_guard (by rfl) ?_; dsimp only)); refine box_event ?hg (N := 1) ?hd (cs := #[.int .i64 a0_0, .int .i64 a0_1, .slice A0_2 l0_2.length c0_2]) (t := 28) ?hr ?_; (case hd => rfl); (case hg => rfl); (case hr => first | (go_simp; done) | (go_simp; rfl)); intro gb1 hg w2 hbox hb; have n0_ := Aside0.mk (below_step (by repeat (first | (with_reducible first | exact HB.out | apply below_alloc | apply pw_below_drewN | apply below_drew1) | exact HB.out)) hb); have g_ := Aside0.mk ((by rw [hg]; exact (below_size (by repeat (first | (with_reducible first | exact HB.out | apply below_alloc | apply pw_below_drewN | apply below_drew1) | exact HB.out)))) : w.heap.size ≤ gb1); have b_ := Aside0.mk hbox; clear HB; have HB := n0_; clear n0_; have BK1 := b_; have GE1 := g_; clear b_ g_; clear hg hbox hb; have z1_0 : w2.cell? ⟨gb1, 0, none⟩ = some (.int .i64 a0_0) := (blk_cell BK1.out 0).trans rfl; have z1_1 : w2.cell? ⟨gb1, 1, none⟩ = some (.int .i64 a0_1) := (blk_cell BK1.out 1).trans rfl; have z1_2 : w2.cell? ⟨gb1, 2, none⟩ = some (.slice A0_2 l0_2.length c0_2) := (blk_cell BK1.out 2).trans rfl; have y1_0 := blk_frozen BK1.out 0; have y1_1 := blk_frozen BK1.out 1; have y1_2 := blk_frozen BK1.out 2) | ((with_reducible refine gate_dst (N := 2) rfl ?_); (try (refine gate_guard (by rfl) ?_; dsimp only)); refine box_event ?hg (N := 2) ?hd (cs := #[.int .i64 0, .int .i64 0, .slice none 0 0]) (t := 28) ?hr ?_; (case hd => rfl); (case hg => rfl); (case hr => first | (go_simp; done) | (go_simp; rfl)); intro gb3 hg w3 hbox hb; have m1_ : Aside0 (w3.heap[gb1]? = some (.cells #[.int .i64 a0_0, .int .i64 a0_1, .slice A0_2 l0_2.length c0_2] 28 (0, 0))) := ⟨blk_below (by (with_reducible repeat (first | refine blk_drewN ?_ _ | refine blk_drew ?_ | refine blk_alloc ?_ _)); exact BK1.out) hb⟩; have n0_ := Aside0.mk (below_step (by repeat (first | (with_reducible first | exact HB.out | apply below_alloc | apply pw_below_drewN | apply below_drew1 | refine below_set ?_ GE1.out) | exact HB.out)) hb); have o1_ := Aside0.mk ((by rw [hg]; exact Nat.ne_of_lt (blk_lt (o := .cells #[.int .i64 a0_0, .int .i64 a0_1, .slice A0_2 l0_2.length c0_2] 28 (0, 0)) (by (with_reducible repeat (first | refine blk_drewN ?_ _ | refine blk_drew ?_ | refine blk_alloc ?_ _)); exact BK1.out))) : gb1 ≠ gb3); have g_ := Aside0.mk ((by rw [hg]; exact (below_size (by repeat (first | (with_reducible first | exact HB.out | apply below_alloc | apply pw_below_drewN | apply below_drew1 | refine below_set ?_ GE1.out) | exact HB.out)))) : w.heap.size ≤ gb3); have b_ := Aside0.mk hbox; clear HB; have HB := n0_; clear n0_; clear BK1; have BK1 := m1_; clear m1_; have NB1_3 := o1_; clear o1_; have hnb1_3 := NB1_3.out; have hnc1_3 := fun e_ : gb3 = gb1 => NB1_3.out e_.symm; have BK3 := b_; have GE3 := g_; clear b_ g_; clear hg hbox hb; clear z1_0 z1_1 z1_2 y1_0 y1_1 y1_2; have z1_0 : w3.cell? ⟨gb1, 0, none⟩ = some (.int .i64 a0_0) := (blk_cell BK1.out 0).trans rfl; have z1_1 : w3.cell? ⟨gb1, 1, none⟩ = some (.int .i64 a0_1) := (blk_cell BK1.out 1).trans rfl; have z1_2 : w3.cell? ⟨gb1, 2, none⟩ = some (.slice A0_2 l0_2.length c0_2) := (blk_cell BK1.out 2).trans rfl; have y1_0 := blk_frozen BK1.out 0; have y1_1 := blk_frozen BK1.out 1; have y1_2 := blk_frozen BK1.out 2; have z3_0 : w3.cell? ⟨gb3, 0, none⟩ = some (.int .i64 0) := (blk_cell BK3.out 0).trans rfl; have z3_1 : w3.cell? ⟨gb3, 1, none⟩ = some (.int .i64 0) := (blk_cell BK3.out 1).trans rfl; have z3_2 : w3.cell? ⟨gb3, 2, none⟩ = some (.slice none 0 0) := (blk_cell BK3.out 2).trans rfl; have y3_0 := blk_frozen BK3.out 0; have y3_1 := blk_frozen BK3.out 1; have y3_2 := blk_frozen BK3.out 2) | (go_at_call 24; (with_reducible refine (screen_Formed.calls a0_0 a0_1 A0_2 c0_2 l0_2 false _ (Kd.C_below HR0_2.out (by repeat (first | (with_reducible first | exact HB.out | apply below_alloc | apply pw_below_drewN | apply below_drew1 | refine below_set ?_ GE1.out | refine below_set ?_ GE3.out) | exact HB.out))) HC0_2.out A6.out).mono ?_); rintro e w5 ⟨rfl, hb⟩; have m1_ : Aside0 (w5.heap[gb1]? = some (.cells #[.int .i64 a0_0, .int .i64 a0_1, .slice A0_2 l0_2.length c0_2] 28 (0, 0))) := ⟨blk_below (by (with_reducible repeat (first | refine blk_drewN ?_ _ | refine blk_drew ?_ | refine blk_alloc ?_ _)); exact BK1.out) hb⟩; have m3_ : Aside0 (w5.heap[gb3]? = some (.cells #[.int .i64 0, .int .i64 0, .slice none 0 0] 28 (0, 0))) := ⟨blk_below (by (with_reducible repeat (first | refine blk_drewN ?_ _ | refine blk_drew ?_ | refine blk_alloc ?_ _)); exact BK3.out) hb⟩; have n0_ := Aside0.mk (below_step (by repeat (first | (with_reducible first | exact HB.out | apply below_alloc | apply pw_below_drewN | apply below_drew1 | refine below_set ?_ GE1.out | refine below_set ?_ GE3.out) | exact HB.out)) hb); clear HB; have HB := n0_; clear n0_; clear BK1; have BK1 := m1_; clear m1_; clear BK3; have BK3 := m3_; clear m3_; clear hb; clear z1_0 z1_1 z1_2 y1_0 y1_1 y1_2; clear z3_0 z3_1 z3_2 y3_0 y3_1 y3_2; have z1_0 : w5.cell? ⟨gb1, 0, none⟩ = some (.int .i64 a0_0) := (blk_cell BK1.out 0).trans rfl; have z1_1 : w5.cell? ⟨gb1, 1, none⟩ = some (.int .i64 a0_1) := (blk_cell BK1.out 1).trans rfl; have z1_2 : w5.cell? ⟨gb1, 2, none⟩ = some (.slice A0_2 l0_2.length c0_2) := (blk_cell BK1.out 2).trans rfl; have y1_0 := blk_frozen BK1.out 0; have y1_1 := blk_frozen BK1.out 1; have y1_2 := blk_frozen BK1.out 2; have z3_0 : w5.cell? ⟨gb3, 0, none⟩ = some (.int .i64 0) := (blk_cell BK3.out 0).trans rfl; have z3_1 : w5.cell? ⟨gb3, 1, none⟩ = some (.int .i64 0) := (blk_cell BK3.out 1).trans rfl; have z3_2 : w5.cell? ⟨gb3, 2, none⟩ = some (.slice none 0 0) := (blk_cell BK3.out 2).trans rfl; have y3_0 := blk_frozen BK3.out 0; have y3_1 := blk_frozen BK3.out 1; have y3_2 := blk_frozen BK3.out 2))
    refine bodyPost_ret (results_ct rfl _ _ gb3 28 #[.int .i64 0, .int .i64 0, .slice none 0 0] (0, 0) _ rfl (by (with_reducible repeat (first | refine blk_drewN ?_ _ | refine blk_drew ?_ | refine blk_alloc ?_ _)); refine blk_put (cs := #[.int .i64 0, .int .i64 0, .slice none 0 0]) ?_ 2 _ rfl; (with_reducible repeat (first | refine blk_drewN ?_ _ | refine blk_drew ?_ | refine blk_alloc ?_ _)); refine blk_put (cs := #[.int .i64 0, .int .i64 0, .slice none 0 0]) ?_ 1 _ rfl; (with_reducible repeat (first | refine blk_drewN ?_ _ | refine blk_drew ?_ | refine blk_alloc ?_ _)); refine blk_put (cs := #[.int .i64 0, .int .i64 0, .slice none 0 0]) ?_ 0 _ rfl; (with_reducible repeat (first | refine blk_drewN ?_ _ | refine blk_drew ?_ | refine blk_alloc ?_ _)); exact BK3.out) Try.underlying28 rfl (by kernel_rfl)) rfl ?_
    exact ⟨_, rfl, Kd.R_nil _ _ _ _ _, (by repeat (first | (with_reducible first | exact HB.out | apply below_alloc | apply pw_below_drewN | apply below_drew1 | refine below_set ?_ GE1.out | refine below_set ?_ GE3.out) | exact HB.out))⟩
  | true =>
    rw [if_pos rfl] at H
    by_cases c5 : 0 ≤ a0_0 ∧ a0_0 ≤ 64 ∧ 0 ≤ a0_1 ∧ a0_1 ≤ 64 ∧ (l0_2.length : Int) = a0_0 * a0_1
    rotate_left
    · rw [if_neg c5] at H; cases H
    rw [if_pos c5] at H
    simp only [Option.some.injEq, Prod.mk.injEq] at H
    obtain ⟨rfl, rfl, rfl, rfl⟩ := H
    have HL := Aside0.mk (show l0_2.length ≤ 4096 by
      have h1 : a0_0 * a0_1 ≤ 64 * 64 := Int.mul_le_mul c5.2.1 c5.2.2.2.1 c5.2.2.1 (by decide)
      omega)
    have HG := Aside0.mk c5
    have HCL := Aside0.mk (show slices_Clone_byte_byte.f l0_2 = some l0_2 by have := HL.out; unfold slices_Clone_byte_byte.f; rw [if_pos (by omega)])
    have HW := Aside0.mk (Int.toNat_of_nonneg c5.1)
    have HHn := Aside0.mk (Int.toNat_of_nonneg c5.2.2.1)
    clear c5
    go_enter Try.func21, Try.ntmps21
    go_upto_region 4 with (first | ((with_reducible refine gate_dst (N := 1) rfl ?_); (try (refine gate_guard (by rfl) ?_; dsimp only)); refine box_event ?hg (N := 1) ?hd (cs := #[.int .i64 a0_0, .int .i64 a0_1, .slice A0_2 l0_2.length c0_2]) (t := 28) ?hr ?_; (case hd => rfl); (case hg => rfl); (case hr => first | (go_simp; done) | (go_simp; rfl)); intro gb1 hg w2 hbox hb; have n0_ := Aside0.mk (below_step (by repeat (first | (with_reducible first | exact HB.out | apply below_alloc | apply pw_below_drewN | apply below_drew1) | exact HB.out)) hb); have g_ := Aside0.mk ((by rw [hg]; exact (below_size (by repeat (first | (with_reducible first | exact HB.out | apply below_alloc | apply pw_below_drewN | apply below_drew1) | exact HB.out)))) : w.heap.size ≤ gb1); have b_ := Aside0.mk hbox; clear HB; have HB := n0_; clear n0_; have BK1 := b_; have GE1 := g_; clear b_ g_; clear hg hbox hb; have z1_0 : w2.cell? ⟨gb1, 0, none⟩ = some (.int .i64 a0_0) := (blk_cell BK1.out 0).trans rfl; have z1_1 : w2.cell? ⟨gb1, 1, none⟩ = some (.int .i64 a0_1) := (blk_cell BK1.out 1).trans rfl; have z1_2 : w2.cell? ⟨gb1, 2, none⟩ = some (.slice A0_2 l0_2.length c0_2) := (blk_cell BK1.out 2).trans rfl; have y1_0 := blk_frozen BK1.out 0; have y1_1 := blk_frozen BK1.out 1; have y1_2 := blk_frozen BK1.out 2) | ((with_reducible refine gate_dst (N := 2) rfl ?_); (try (refine gate_guard (by rfl) ?_; dsimp only)); refine box_event ?hg (N := 2) ?hd (cs := #[.int .i64 0, .int .i64 0, .slice none 0 0]) (t := 28) ?hr ?_; (case hd => rfl); (case hg => rfl); (case hr => first | (go_simp; done) | (go_simp; rfl)); intro gb3 hg w3 hbox hb; have m1_ : Aside0 (w3.heap[gb1]? = some (.cells #[.int .i64 a0_0, .int .i64 a0_1, .slice A0_2 l0_2.length c0_2] 28 (0, 0))) := ⟨blk_below (by (with_reducible repeat (first | refine blk_drewN ?_ _ | refine blk_drew ?_ | refine blk_alloc ?_ _)); exact BK1.out) hb⟩; have n0_ := Aside0.mk (below_step (by repeat (first | (with_reducible first | exact HB.out | apply below_alloc | apply pw_below_drewN | apply below_drew1 | refine below_set ?_ GE1.out) | exact HB.out)) hb); have o1_ := Aside0.mk ((by rw [hg]; exact Nat.ne_of_lt (blk_lt (o := .cells #[.int .i64 a0_0, .int .i64 a0_1, .slice A0_2 l0_2.length c0_2] 28 (0, 0)) (by (with_reducible repeat (first | refine blk_drewN ?_ _ | refine blk_drew ?_ | refine blk_alloc ?_ _)); exact BK1.out))) : gb1 ≠ gb3); have g_ := Aside0.mk ((by rw [hg]; exact (below_size (by repeat (first | (with_reducible first | exact HB.out | apply below_alloc | apply pw_below_drewN | apply below_drew1 | refine below_set ?_ GE1.out) | exact HB.out)))) : w.heap.size ≤ gb3); have b_ := Aside0.mk hbox; clear HB; have HB := n0_; clear n0_; clear BK1; have BK1 := m1_; clear m1_; have NB1_3 := o1_; clear o1_; have hnb1_3 := NB1_3.out; have hnc1_3 := fun e_ : gb3 = gb1 => NB1_3.out e_.symm; have BK3 := b_; have GE3 := g_; clear b_ g_; clear hg hbox hb; clear z1_0 z1_1 z1_2 y1_0 y1_1 y1_2; have z1_0 : w3.cell? ⟨gb1, 0, none⟩ = some (.int .i64 a0_0) := (blk_cell BK1.out 0).trans rfl; have z1_1 : w3.cell? ⟨gb1, 1, none⟩ = some (.int .i64 a0_1) := (blk_cell BK1.out 1).trans rfl; have z1_2 : w3.cell? ⟨gb1, 2, none⟩ = some (.slice A0_2 l0_2.length c0_2) := (blk_cell BK1.out 2).trans rfl; have y1_0 := blk_frozen BK1.out 0; have y1_1 := blk_frozen BK1.out 1; have y1_2 := blk_frozen BK1.out 2; have z3_0 : w3.cell? ⟨gb3, 0, none⟩ = some (.int .i64 0) := (blk_cell BK3.out 0).trans rfl; have z3_1 : w3.cell? ⟨gb3, 1, none⟩ = some (.int .i64 0) := (blk_cell BK3.out 1).trans rfl; have z3_2 : w3.cell? ⟨gb3, 2, none⟩ = some (.slice none 0 0) := (blk_cell BK3.out 2).trans rfl; have y3_0 := blk_frozen BK3.out 0; have y3_1 := blk_frozen BK3.out 1; have y3_2 := blk_frozen BK3.out 2) | (go_at_call 24; (with_reducible refine (screen_Formed.calls a0_0 a0_1 A0_2 c0_2 l0_2 true _ (Kd.C_below HR0_2.out (by repeat (first | (with_reducible first | exact HB.out | apply below_alloc | apply pw_below_drewN | apply below_drew1 | refine below_set ?_ GE1.out | refine below_set ?_ GE3.out) | exact HB.out))) HC0_2.out A6.out).mono ?_); rintro e w5 ⟨rfl, hb⟩; have m1_ : Aside0 (w5.heap[gb1]? = some (.cells #[.int .i64 a0_0, .int .i64 a0_1, .slice A0_2 l0_2.length c0_2] 28 (0, 0))) := ⟨blk_below (by (with_reducible repeat (first | refine blk_drewN ?_ _ | refine blk_drew ?_ | refine blk_alloc ?_ _)); exact BK1.out) hb⟩; have m3_ : Aside0 (w5.heap[gb3]? = some (.cells #[.int .i64 0, .int .i64 0, .slice none 0 0] 28 (0, 0))) := ⟨blk_below (by (with_reducible repeat (first | refine blk_drewN ?_ _ | refine blk_drew ?_ | refine blk_alloc ?_ _)); exact BK3.out) hb⟩; have n0_ := Aside0.mk (below_step (by repeat (first | (with_reducible first | exact HB.out | apply below_alloc | apply pw_below_drewN | apply below_drew1 | refine below_set ?_ GE1.out | refine below_set ?_ GE3.out) | exact HB.out)) hb); clear HB; have HB := n0_; clear n0_; clear BK1; have BK1 := m1_; clear m1_; clear BK3; have BK3 := m3_; clear m3_; clear hb; clear z1_0 z1_1 z1_2 y1_0 y1_1 y1_2; clear z3_0 z3_1 z3_2 y3_0 y3_1 y3_2; have z1_0 : w5.cell? ⟨gb1, 0, none⟩ = some (.int .i64 a0_0) := (blk_cell BK1.out 0).trans rfl; have z1_1 : w5.cell? ⟨gb1, 1, none⟩ = some (.int .i64 a0_1) := (blk_cell BK1.out 1).trans rfl; have z1_2 : w5.cell? ⟨gb1, 2, none⟩ = some (.slice A0_2 l0_2.length c0_2) := (blk_cell BK1.out 2).trans rfl; have y1_0 := blk_frozen BK1.out 0; have y1_1 := blk_frozen BK1.out 1; have y1_2 := blk_frozen BK1.out 2; have z3_0 : w5.cell? ⟨gb3, 0, none⟩ = some (.int .i64 0) := (blk_cell BK3.out 0).trans rfl; have z3_1 : w5.cell? ⟨gb3, 1, none⟩ = some (.int .i64 0) := (blk_cell BK3.out 1).trans rfl; have z3_2 : w5.cell? ⟨gb3, 2, none⟩ = some (.slice none 0 0) := (blk_cell BK3.out 2).trans rfl; have y3_0 := blk_frozen BK3.out 0; have y3_1 := blk_frozen BK3.out 1; have y3_2 := blk_frozen BK3.out 2) | (go_at_call 33; (with_reducible refine (slices_Clone_byte_byte.calls A0_2 c0_2 l0_2 l0_2 _ (Kd.C_below HR0_2.out (by repeat (first | (with_reducible first | exact HB.out | apply below_alloc | apply pw_below_drewN | apply below_drew1 | refine below_set ?_ GE1.out | refine below_set ?_ GE3.out) | exact HB.out))) HC0_2.out HCL.out).mono ?_); rintro e w9 ⟨vp, rfl, hp, hb⟩; have p_ : Aside0 (Kd.R (Kd.int .u8) 5 w9 w.heap.size (fun _ => True) vp l0_2) := ⟨Kd.R_lower hp (below_size (by repeat (first | (with_reducible first | exact HB.out | apply below_alloc | apply pw_below_drewN | apply below_drew1 | refine below_set ?_ GE1.out | refine below_set ?_ GE3.out) | exact HB.out)))⟩; have m1_ : Aside0 (w9.heap[gb1]? = some (.cells #[.int .i64 a0_0, .int .i64 a0_1, .slice A0_2 l0_2.length c0_2] 28 (0, 0))) := ⟨blk_below (by (with_reducible repeat (first | refine blk_drewN ?_ _ | refine blk_drew ?_ | refine blk_alloc ?_ _)); exact BK1.out) hb⟩; have m3_ : Aside0 (w9.heap[gb3]? = some (.cells #[.int .i64 0, .int .i64 0, .slice none 0 0] 28 (0, 0))) := ⟨blk_below (by (with_reducible repeat (first | refine blk_drewN ?_ _ | refine blk_drew ?_ | refine blk_alloc ?_ _)); exact BK3.out) hb⟩; have n0_ := Aside0.mk (below_step (by repeat (first | (with_reducible first | exact HB.out | apply below_alloc | apply pw_below_drewN | apply below_drew1 | refine below_set ?_ GE1.out | refine below_set ?_ GE3.out) | exact HB.out)) hb); clear HB; have HB := n0_; clear n0_; clear BK1; have BK1 := m1_; clear m1_; clear BK3; have BK3 := m3_; clear m3_; clear hp hb; have HP := p_; clear p_; obtain ⟨Ap, cp, ep⟩ := Kd.R_slice HP.out; subst ep; clear z1_0 z1_1 z1_2 y1_0 y1_1 y1_2; clear z3_0 z3_1 z3_2 y3_0 y3_1 y3_2; have z1_0 : w9.cell? ⟨gb1, 0, none⟩ = some (.int .i64 a0_0) := (blk_cell BK1.out 0).trans rfl; have z1_1 : w9.cell? ⟨gb1, 1, none⟩ = some (.int .i64 a0_1) := (blk_cell BK1.out 1).trans rfl; have z1_2 : w9.cell? ⟨gb1, 2, none⟩ = some (.slice A0_2 l0_2.length c0_2) := (blk_cell BK1.out 2).trans rfl; have y1_0 := blk_frozen BK1.out 0; have y1_1 := blk_frozen BK1.out 1; have y1_2 := blk_frozen BK1.out 2))
    go_wp2
    go_loopg [15] a0_1.toNat (fun kq v15 w' => ∃ (j : Nat), v15 = .int .i64 j ∧ Aside0 (j + kq = a0_1.toNat) ∧ Aside0 (Kd.R (Kd.int .u8) 5 w' w.heap.size (fun _ => True) (.slice Ap l0_2.length cp) (mirTo a0_0.toNat l0_2 j)) ∧ Aside0 (w'.heap[gb1]? = some (.cells #[.int .i64 a0_0, .int .i64 a0_1, .slice Ap l0_2.length cp] 28 (0, 0))) ∧ Aside0 (w'.heap[gb3]? = some (.cells #[.int .i64 0, .int .i64 0, .slice none 0 0] 28 (0, 0))) ∧ Aside0 (Below w.heap.size w w'))
    case atStart => exact ⟨0, rfl, ⟨by omega⟩, ⟨(Kd.R_mono (Kd.R_far (p := ⟨gb1, 2, none⟩) (Kd.R_types HP.out BK1.out (by decide)) (fun _ hk => hk.2) _) (fun _ hk => hk.1))⟩, ⟨blk_put BK1.out 2 _ rfl⟩, ⟨blk_far BK3.out (fun e_ => NB1_3.out e_.symm) _⟩, ⟨below_set HB.out GE1.out⟩⟩
    case round =>
      clear HP BK1 BK3 HB z1_0 z1_1 z1_2 y1_0 y1_1 y1_2
      obtain ⟨j, rfl, HJ, HP, BK1, BK3, HB⟩ := hrel
      have z1_0 : wr.cell? ⟨gb1, 0, none⟩ = some ((.int .i64 a0_0)) := (blk_cell BK1.out 0).trans rfl
      have z1_1 : wr.cell? ⟨gb1, 1, none⟩ = some ((.int .i64 a0_1)) := (blk_cell BK1.out 1).trans rfl
      have z1_2 : wr.cell? ⟨gb1, 2, none⟩ = some ((.slice Ap l0_2.length cp)) := (blk_cell BK1.out 2).trans rfl
      have y1_0 := blk_frozen BK1.out 0
      have y1_1 := blk_frozen BK1.out 1
      have y1_2 := blk_frozen BK1.out 2
      cases gk with
      | zero =>
        have c : decide ((j : Int) < a0_1) = false := decide_eq_false (by have := HJ.out; have := HHn.out; omega)
        have z3_0 : wr.cell? ⟨gb3, 0, none⟩ = some (.int .i64 0) := (blk_cell BK3.out 0).trans rfl
        have z3_1 : wr.cell? ⟨gb3, 1, none⟩ = some (.int .i64 0) := (blk_cell BK3.out 1).trans rfl
        have z3_2 : wr.cell? ⟨gb3, 2, none⟩ = some (.slice none 0 0) := (blk_cell BK3.out 2).trans rfl
        have y3_0 := blk_frozen BK3.out 0
        have y3_1 := blk_frozen BK3.out 1
        have y3_2 := blk_frozen BK3.out 2
        have hnb1_3 := NB1_3.out
        have hnc1_3 := fun e_ : gb3 = gb1 => NB1_3.out e_.symm
        go_wp2
        have hj : j = a0_1.toNat := by have := HJ.out; omega
        subst hj
        refine bodyPost_ret (results_ct rfl _ _ gb3 28 #[.int .i64 a0_0, .int .i64 a0_1, .slice Ap l0_2.length cp] (0, 0) _ rfl (by (with_reducible repeat (first | refine blk_drewN ?_ _ | refine blk_drew ?_ | refine blk_alloc ?_ _)); refine blk_put (cs := #[.int .i64 a0_0, .int .i64 a0_1, .slice none 0 0]) ?_ 2 _ rfl; (with_reducible repeat (first | refine blk_drewN ?_ _ | refine blk_drew ?_ | refine blk_alloc ?_ _)); refine blk_put (cs := #[.int .i64 a0_0, .int .i64 0, .slice none 0 0]) ?_ 1 _ rfl; (with_reducible repeat (first | refine blk_drewN ?_ _ | refine blk_drew ?_ | refine blk_alloc ?_ _)); refine blk_put (cs := #[.int .i64 0, .int .i64 0, .slice none 0 0]) ?_ 0 _ rfl; (with_reducible repeat (first | refine blk_drewN ?_ _ | refine blk_drew ?_ | refine blk_alloc ?_ _)); exact BK3.out) Try.underlying28 rfl (by kernel_rfl)) rfl ?_
        exact ⟨_, rfl, Kd.R_mono (Kd.R_far (p := ⟨gb3, 2, none⟩) (Kd.R_far (p := ⟨gb3, 1, none⟩) (Kd.R_far (p := ⟨gb3, 0, none⟩) (Kd.R_types HP.out BK3.out (by decide)) (fun _ hk => hk.2) _) (fun _ hk => hk.2) _) (fun _ hk => hk.2) _) (fun _ hk => trivial), (by repeat (first | (with_reducible first | exact HB.out | apply below_alloc | apply pw_below_drewN | apply below_drew1 | refine below_set ?_ GE1.out | refine below_set ?_ GE3.out) | exact HB.out))⟩
      | succ k1 =>
        have cj : (j : Int) < a0_1 := by have := HJ.out; have := HHn.out; omega
        have c : decide ((j : Int) < a0_1) = true := decide_eq_true cj
        obtain ⟨g0, g1, g2, g3, gl⟩ := HG.out
        have hm0 : 0 ≤ (j : Int) * a0_0 := Int.mul_nonneg (Int.natCast_nonneg j) g0
        have hm1 : ((j : Int) + 1) * a0_0 = (j : Int) * a0_0 + a0_0 := by rw [Int.add_mul, Int.one_mul]
        have hm2 : ((j : Int) + 1) * a0_0 ≤ (l0_2.length : Int) := by
          rw [gl, Int.mul_comm a0_0 a0_1]
          exact Int.mul_le_mul_of_nonneg_right (by omega) g0
        have hl4 := HL.out
        have hN : wrap64 ((j : Int) + 1) = ((j + 1 : Nat) : Int) := w64_succ (by omega)
        have hq : wrap64 ((j : Int) * a0_0) = (j : Int) * a0_0 := w64_id hm0 (by omega)
        have hr : wrap64 (((j + 1 : Nat) : Int) * a0_0) = (j : Int) * a0_0 + a0_0 := by
          rw [show (((j + 1 : Nat) : Int)) = (j : Int) + 1 by omega, hm1]
          exact w64_id (by omega) (by omega)
        have hjw : ((j * a0_0.toNat : Nat) : Int) = (j : Int) * a0_0 := by rw [Int.natCast_mul, HW.out]
        rw [hm1] at hm2
        obtain ⟨i0, hi0, _, hsz, _⟩ := info_parts info5
        have hcp : l0_2.length ≤ cp := (Kd.R_reads' HP.out).2.1
        have hcut := cut_mid (P := Try.prog) 26 5 .i64 .i64 Try.underlying26 hi0 1 hsz Ap l0_2.length cp ((j : Int) * a0_0) ((j : Int) * a0_0 + a0_0) hm0 (by omega) hm2 hcp
        have hQ3 : IntKind.i64.wrap ((j : Int) * a0_0) = (j : Int) * a0_0 := (i64_w _).trans hq
        have hR3 : IntKind.i64.wrap (((j + 1 : Nat) : Int) * a0_0) = (j : Int) * a0_0 + a0_0 := (i64_w _).trans hr
        have hr2 : wrap64 (((j : Int) + 1) * a0_0) = (j : Int) * a0_0 + a0_0 := by rw [show ((j : Int) + 1) = (((j + 1 : Nat) : Int)) by omega]; exact hr
        have hR4 : IntKind.i64.wrap (((j : Int) + 1) * a0_0) = (j : Int) * a0_0 + a0_0 := (i64_w _).trans hr2
        have hN2 : IntKind.i64.wrap ((j : Int) + 1) = ((j + 1 : Nat) : Int) := (i64_w _).trans hN
        have ml := mirTo_len a0_0.toNat l0_2 j
        by_cases hw0 : a0_0 = 0
        · subst hw0
          have e0 : ((j : Int) * 0 + 0).toNat - ((j : Int) * 0).toNat = 0 := by omega
          rw [e0] at hcut
          have HE := Aside0.mk (show mirTo (0 : Int).toNat l0_2 (j + 1) = mirTo (0 : Int).toNat l0_2 j by
            show (mirTo 0 l0_2 j).take (j * 0) ++ (((mirTo 0 l0_2 j).drop (j * 0)).take 0).reverse ++ ((mirTo 0 l0_2 j).drop (j * 0)).drop 0 = _
            simp)
          clear hm0 hm1 hm2 hjw hcp ml e0 g0 g1 g2 g3 gl hl4 cj
          generalize (j : Int) * 0 + 0 = Hi at hcut hr hR3 hr2 hR4
          generalize (j : Int) * 0 = Lo at hcut hq hQ3
          go_wp2_with (go_at_call 34; (with_reducible refine (reverse_none.calls _ _ _).mono ?_); rintro e w3 ⟨rfl, rfl⟩)
          go_roundg k1
          case measure => have := HJ.out; omega
          case rel => exact ⟨j + 1, by first | rfl | (simp [hN2]; done), ⟨by have := HJ.out; omega⟩, ⟨by rw [HE.out]; exact HP.out⟩, BK1, BK3, HB⟩
        · have hwp : 0 < a0_0.toNat := by omega
          obtain ⟨go, co2, eo, gb, gl2, cl, HGn⟩ := Kd.R_form HP.out (by rw [ml]; omega)
          (first | cases eo | (injection eo with ea_ en_ ec_; (first | subst ea_ | (injection ea_ with ea_; subst ea_)); subst ec_; clear en_))
          have GB := Aside0.mk gb
          clear gb gl2 HGn
          obtain ⟨pre, hpre⟩ : ∃ q, q = (mirTo a0_0.toNat l0_2 j).take (j * a0_0.toNat) := ⟨_, rfl⟩
          obtain ⟨mid, hmid⟩ : ∃ q, q = ((mirTo a0_0.toNat l0_2 j).drop (j * a0_0.toNat)).take a0_0.toNat := ⟨_, rfl⟩
          obtain ⟨post, hpost⟩ : ∃ q, q = ((mirTo a0_0.toNat l0_2 j).drop (j * a0_0.toNat)).drop a0_0.toNat := ⟨_, rfl⟩
          have e1 : pre ++ mid ++ post = mirTo a0_0.toNat l0_2 j := by rw [hpre, hmid, hpost, List.append_assoc, List.take_append_drop, List.take_append_drop]
          have lp : pre.length = j * a0_0.toNat := by rw [hpre, List.length_take, ml]; omega
          have lm : mid.length = a0_0.toNat := by rw [hmid, List.length_take, List.length_drop, ml]; omega
          have HE := Aside0.mk (show mirTo a0_0.toNat l0_2 (j + 1) = pre ++ mid.reverse ++ post by rw [mirTo, ← hpre, ← hmid, ← hpost])
          have elo : ((j : Int) * a0_0).toNat = pre.length := by rw [lp, ← hjw]; exact Int.toNat_natCast _
          have ehi : ((j : Int) * a0_0 + a0_0).toNat - ((j : Int) * a0_0).toNat = mid.length := by rw [lm]; omega
          rw [ehi, elo, if_neg (by omega)] at hcut
          have HP2 := Aside0.mk (show Kd.R (Kd.int .u8) 5 wr w.heap.size (fun _ => True) (.slice (some ⟨go, 0, none⟩) l0_2.length cp) (pre ++ mid ++ post) by rw [e1]; exact HP.out)
          have HRV := Aside0.mk (rev_eq mid (by rw [lm]; omega))
          have hcut2 : ∀ W : World, (Instr.slice 26 (.slice (some ⟨go, 0, none⟩) l0_2.length cp) (some (.int .i64 ((j : Int) * a0_0))) (some (.int .i64 ((j : Int) * a0_0 + a0_0))) none).run Try.prog W = .ok (.slice (some ⟨go, pre.length, none⟩) mid.length (cp - pre.length)) W := by
            intro W
            rw [hcut W]
            simp [Addr.add]
            try (intro h_; rw [h_]; rfl)
          clear hcut hm0 hm1 hm2 hjw hcp ml g0 g1 g2 g3 gl hl4 cj hpre hmid hpost e1 lp lm elo ehi hwp hw0
          generalize (j : Int) * a0_0 + a0_0 = Hi at hcut2 hr hR3 hr2 hR4
          generalize hLo : (j : Int) * a0_0 = Lo at hcut2 hq hQ3
          rw [← hLo] at hq hQ3
          replace hq : wrap64 ((j : Int) * a0_0) = Lo := hq.trans hLo
          replace hQ3 : IntKind.i64.wrap ((j : Int) * a0_0) = Lo := hQ3.trans hLo
          clear hLo
          have zz1_0 : wr.cell? ⟨gb1, 0, none⟩ = some ((.int .i64 a0_0)) := (blk_cell BK1.out 0).trans rfl
          have zz1_1 : wr.cell? ⟨gb1, 1, none⟩ = some ((.int .i64 a0_1)) := (blk_cell BK1.out 1).trans rfl
          have zz1_2 : wr.cell? ⟨gb1, 2, none⟩ = some ((.slice (some ⟨go, 0, none⟩) l0_2.length cp)) := (blk_cell BK1.out 2).trans rfl
          have yy1_0 := blk_frozen BK1.out 0
          have yy1_1 := blk_frozen BK1.out 1
          have yy1_2 := blk_frozen BK1.out 2
          go_wp2_with (go_at_call 34; (with_reducible refine (reverse_cut.calls 66 go l0_2.length cp _ pre post _ _ mid mid.reverse w _ HB.out GB.out HP2.out HRV.out).mono ?_); rintro e w3 ⟨rfl, hp3, hb3, hk3⟩; have HP3 := Aside0.mk hp3; have HB3 := Aside0.mk hb3; have HK3 := Aside0.mk hk3; clear hp3 hb3 hk3)
          go_roundg k1
          case measure => have := HJ.out; omega
          case rel => exact ⟨j + 1, by first | rfl | (simp [hN2]; done), ⟨by have := HJ.out; omega⟩, ⟨by rw [HE.out]; exact HP3.out⟩, ⟨blk_kept BK1.out HK3.out (by have h_ := Kd.R_ne HP.out BK1.out (by decide); intro e_; exact h_ (by rw [e_]; rfl))⟩, ⟨blk_kept BK3.out HK3.out (by have h_ := Kd.R_ne HP.out BK3.out (by decide); intro e_; exact h_ (by rw [e_]; rfl))⟩, HB3⟩
end

end Go.Proofs.Ytngfijkageapgaa.P
