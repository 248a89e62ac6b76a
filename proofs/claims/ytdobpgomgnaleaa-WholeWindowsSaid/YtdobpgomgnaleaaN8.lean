/- The machine's side: functions of the translation as plain Lean functions, and that the machine's calls come to what they say. No condition. Written by a program (wip/tools/pp.py over the kit's printer); Lean checks it. -/
import Derived.Test.YtdobpgomgnaleaaPx0
namespace Go.Proofs.Ytdobpgomgnaleaa.P
open Go.RowKit Go.Proofs.YtdobpgomgnaleaaW.PrintWords Go.Proofs.YtdobpgomgnaleaaW.PrintLast Go.Proofs.YtdobpgomgnaleaaW.PrintMore
attribute [local go_sem] max2_int min2_int max_two min_two max_three min_three max_four min_four   -- for this text's walks alone
set_option linter.unusedVariables false
set_option linter.unusedSimpArgs false

/-! ### block_pieces: function 24 -/
def block_pieces.l0 : Nat → Int → Int → List (S66) → Option ((List (S66)))
  | 0, _, _, _ => none
  | k + 1, x0, x1, x4 => if x1 > 0 then (if x4.length < 5864062014805 then (block_pieces.l0 k (wrap64 (x0 + (mn x1 (wrap64 (512 - (Int.tmod x0 512)))))) (wrap64 (x1 - (mn x1 (wrap64 (512 - (Int.tmod x0 512)))))) (x4 ++ [(⟨wrap64 (Int.tdiv x0 512), Int.tmod x0 512, mn x1 (wrap64 (512 - (Int.tmod x0 512)))⟩ : S66)])) else (none)) else (some x4)
def block_pieces.f (k : Nat) (a0 : Int) (a1 : Int) : Option ((List (S66))) := block_pieces.l0 k a0 a1 ([] : List (S66))
theorem block_pieces.mono_l : ∀ k, (∀ y0 y1 y2, LeO (block_pieces.l0 k y0 y1 y2) (block_pieces.l0 (k + 1) y0 y1 y2))
  | 0 => fun _ _ _ r h => by simp [block_pieces.l0] at h
  | k + 1 => by
    have ih0 := block_pieces.mono_l k
    · intro y0 y1 y2
      unfold block_pieces.l0
      repeat' first
      | (with_reducible exact ih0 _ _ _)
      | (with_reducible exact LeO.refl _)
      | (with_reducible exact LeO.none _)
      | (with_reducible refine LeO.ite ?_ ?_)
      | (with_reducible refine LeO.bind ?_ (fun _ => ?_))
      | exact ih0 _ _ _
      | exact LeO.none _
      | refine LeO.ite ?_ ?_
      | refine LeO.bind ?_ (fun _ => ?_)
theorem block_pieces.mono : ∀ a0 a1 k, LeO (block_pieces.f k a0 a1) (block_pieces.f (k + 1) a0 a1) := by
  intro a0 a1 k
  have ih0 := block_pieces.mono_l k
  unfold block_pieces.f
  repeat' first
      | (with_reducible exact ih0 _ _ _)
      | (with_reducible exact LeO.refl _)
      | (with_reducible exact LeO.none _)
      | (with_reducible refine LeO.ite ?_ ?_)
      | (with_reducible refine LeO.bind ?_ (fun _ => ?_))
      | exact ih0 _ _ _
      | exact LeO.none _
      | refine LeO.ite ?_ ?_
      | refine LeO.bind ?_ (fun _ => ?_)
set_option maxHeartbeats 8000000 in
set_option maxRecDepth 100000 in
theorem block_pieces.calls (k : Nat) (a0 : Int) (a1 : Int) (r : List (S66)) (w : World) (h : block_pieces.f k a0 a1 = some r) :
    Calls Try.prog 24 #[.int .i64 a0, .int .i64 a1] w fun e w' => ∃ v0_ : Value, e = .returned (v0_) ∧ Kd.R k66 66 w' w.heap.size (fun _ => True) v0_ r ∧ Below w.heap.size w w' := by
  have hu66 := Try.underlying66
  have HB := Aside0.mk (Below.refl w.heap.size w)
  have H : (block_pieces.l0 k a0 a1 ([] : List (S66))) = some r := h
  clear h
  have H' := Aside0.mk H
  clear H
  go_enter Try.func24, Try.ntmps24
  go_wp2
  go_loopg [0, 1, 4] k (fun kq v0 v1 v4 w' => ∃ (x0_1 : Int) (x1_1 : Int) (x4_1 : List (S66)), v0 = .int .i64 x0_1 ∧ v1 = .int .i64 x1_1 ∧ Aside0 (block_pieces.l0 kq x0_1 x1_1 x4_1 = some r) ∧ Aside0 (kq ≤ k) ∧ Aside0 (Kd.R k66 66 w' w.heap.size (fun _ => True) v4 x4_1) ∧ Aside0 (Below w.heap.size w w'))
  case atStart => exact ⟨(a0), (a1), (([] : List (S66))), (by first | rfl | (simp; done) | (simp [*]; done)), (by first | rfl | (simp; done) | (simp [*]; done)), H', ⟨Nat.le_refl _⟩, ⟨by first | exact Kd.R_nil _ _ _ _ _ | exact Kd.N_nil _ _ _ _ _ | exact Kd.V_nil _ _ _ _ _ | exact Kd.Q_nil _ _ _ _ _ | exact Kd.S_nil _ _ _ _ _⟩, ⟨by repeat (first | (with_reducible first | exact HB.out | apply below_alloc | apply pw_below_drewN | apply below_drew1) | exact HB.out)⟩⟩
  case round =>
    clear H'
    try clear c2
    try clear p2
    obtain ⟨x0_1, x1_1, x4_1, rfl, rfl, HA, HK1, HO_4, HB⟩ := hrel
    cases gk with
    | zero => exact absurd HA.out (by simp [block_pieces.l0])
    | succ k1 =>
      have H := HA.out
      clear HA
      simp only [block_pieces.l0] at H
      by_cases c3 : x1_1 > 0
      · rw [if_pos c3] at H
        have c3b0 : decide (0 < x1_1) = true := decide_eq_true c3
        clear c3
        obtain ⟨ji4, hji4⟩ : ∃ j_ : Int, (mn x1_1 (wrap64 (512 - (Int.tmod x0_1 512)))) = j_ := ⟨_, rfl⟩
        replace H : (if x4_1.length < 5864062014805 then (block_pieces.l0 k1 (wrap64 (x0_1 + (ji4))) (wrap64 (x1_1 - (ji4))) (x4_1 ++ [(⟨wrap64 (Int.tdiv x0_1 512), Int.tmod x0_1 512, ji4⟩ : S66)])) else (none)) = some r := by first | (rw [hji4] at H; exact H) | (simp only [hji4] at H ⊢; exact H)
        have hji4_ : (if (wrap64 (512 - (Int.tmod x0_1 512))) < x1_1 then (wrap64 (512 - (Int.tmod x0_1 512))) else x1_1) = ji4 := hji4
        by_cases c5 : x4_1.length < 5864062014805
        · rw [if_pos c5] at H
          have LMc5 := Aside0.mk c5
          clear c5
          obtain ⟨y124, hy124⟩ : ∃ y_ : List (S66), y_ = (x4_1 ++ [(⟨wrap64 (Int.tdiv x0_1 512), Int.tmod x0_1 512, ji4⟩ : S66)]) := ⟨_, rfl⟩
          replace H : (block_pieces.l0 k1 (wrap64 (x0_1 + (ji4))) (wrap64 (x1_1 - (ji4))) y124) = some r := by first | (rw [hy124]; with_reducible exact H) | (have H2_ := (Option.bind_some _ _).symm.trans H; rw [hy124]; with_reducible exact H2_) | (have H2_ := (Option.bind_some _ _).symm.trans H; with_reducible exact H2_) | with_reducible exact H | (rw [hy124]; exact H) | exact H
          have Ny124 := Aside0.mk hy124
          clear hy124
          have H' := Aside0.mk H
          clear H
          go_upto_region 4 with (((with_reducible refine gate_dst (N := 5) rfl ?_); refine box_event ?hg (N := 5) ?hd (cs := #[.int .i64 0, .int .i64 0, .int .i64 0]) (t := 66) ?hr ?_; (case hd => rfl); (case hg => rfl); (case hr => first | (go_simp; done) | (go_simp; rfl)); intro gb123 hg w6 hbox hb; have n0_ := Aside0.mk (Kd.R_below (Kd.R_elderB (by (with_reducible repeat (first | apply Kd.R_alloc | apply Kd.R_drewN | apply Kd.R_drew)); exact HO_4.out) gb123 (Nat.le_of_eq hg.symm)) hb); have n1_ := Aside0.mk (below_step (by repeat (first | (with_reducible first | exact HB.out | apply below_alloc | apply pw_below_drewN | apply below_drew1) | exact HB.out)) hb); have n2_ := Aside0.mk (hbox); have n3_ := Aside0.mk ((by rw [hg]; exact (below_size (by repeat (first | (with_reducible first | exact HB.out | apply below_alloc | apply pw_below_drewN | apply below_drew1) | exact HB.out))) : w.heap.size ≤ gb123)); have n4_ := Aside0.mk ((by rw [hg]; exact (below_size (by repeat (first | (with_reducible first | exact HB.out | apply below_alloc | apply pw_below_drewN | apply below_drew1) | exact HB.out))) : w.heap.size ≤ gb123)); clear HO_4; clear HB; have HO_4 := n0_; have HB := n1_; have BK123 := n2_; have GW123 := n3_; have GE123 := n4_; clear n0_ n1_ n2_ n3_ n4_; clear hb hbox hg; have hcz7_0 : w6.cell? ⟨gb123, 0, none⟩ = some (.int .i64 0) := (blk_cell BK123.out 0).trans rfl; have hcz7_1 : w6.cell? ⟨gb123, 1, none⟩ = some (.int .i64 0) := (blk_cell BK123.out 1).trans rfl; have hcz7_2 : w6.cell? ⟨gb123, 2, none⟩ = some (.int .i64 0) := (blk_cell BK123.out 2).trans rfl; have hfz7_0 := blk_frozen BK123.out 0; have hfz7_1 := blk_frozen BK123.out 1; have hfz7_2 := blk_frozen BK123.out 2))
          have n0_ : Aside0 (((((w6.setCell ⟨gb123, 0, none⟩ (.int .i64 (wrap64 (Int.tdiv x0_1 512)))).setCell ⟨gb123, 1, none⟩ (.int .i64 (Int.tmod x0_1 512))).setCell ⟨gb123, 2, none⟩ (.int .i64 0)).setCell ⟨gb123, 2, none⟩ (.int .i64 ji4)).heap[gb123]? = some (.cells #[.int .i64 (wrap64 (Int.tdiv x0_1 512)), .int .i64 (Int.tmod x0_1 512), .int .i64 ji4] 66 (0, 0))) := ⟨by refine blk_put (cs := #[.int .i64 (wrap64 (Int.tdiv x0_1 512)), .int .i64 (Int.tmod x0_1 512), .int .i64 0]) ?_ 2 _ rfl; refine blk_put (cs := #[.int .i64 (wrap64 (Int.tdiv x0_1 512)), .int .i64 (Int.tmod x0_1 512), .int .i64 0]) ?_ 2 _ rfl; refine blk_put (cs := #[.int .i64 (wrap64 (Int.tdiv x0_1 512)), .int .i64 0, .int .i64 0]) ?_ 1 _ rfl; refine blk_put (cs := #[.int .i64 0, .int .i64 0, .int .i64 0]) ?_ 0 _ rfl; exact BK123.out⟩
          have n1_ : Aside0 (Kd.R k66 66 ((((w6.setCell ⟨gb123, 0, none⟩ (.int .i64 (wrap64 (Int.tdiv x0_1 512)))).setCell ⟨gb123, 1, none⟩ (.int .i64 (Int.tmod x0_1 512))).setCell ⟨gb123, 2, none⟩ (.int .i64 0)).setCell ⟨gb123, 2, none⟩ (.int .i64 ji4)) w.heap.size (fun k_ => k_ ≠ gb123) u4 x4_1) := ⟨Kd.R_far (p := ⟨gb123, 2, none⟩) (Kd.R_far (p := ⟨gb123, 2, none⟩) (Kd.R_far (p := ⟨gb123, 1, none⟩) (Kd.R_far (p := ⟨gb123, 0, none⟩) (Kd.R_mono HO_4.out (fun k_ hk => hk.2)) (fun _ hk => hk) (.int .i64 (wrap64 (Int.tdiv x0_1 512)))) (fun _ hk => hk) (.int .i64 (Int.tmod x0_1 512))) (fun _ hk => hk) (.int .i64 0)) (fun _ hk => hk) (.int .i64 ji4)⟩
          have n2_ : Aside0 (Below w.heap.size w ((((w6.setCell ⟨gb123, 0, none⟩ (.int .i64 (wrap64 (Int.tdiv x0_1 512)))).setCell ⟨gb123, 1, none⟩ (.int .i64 (Int.tmod x0_1 512))).setCell ⟨gb123, 2, none⟩ (.int .i64 0)).setCell ⟨gb123, 2, none⟩ (.int .i64 ji4))) := ⟨by repeat (first | exact HB.out | refine below_set ?_ GE123.out)⟩
          generalize ((((w6.setCell ⟨gb123, 0, none⟩ (.int .i64 (wrap64 (Int.tdiv x0_1 512)))).setCell ⟨gb123, 1, none⟩ (.int .i64 (Int.tmod x0_1 512))).setCell ⟨gb123, 2, none⟩ (.int .i64 0)).setCell ⟨gb123, 2, none⟩ (.int .i64 ji4)) = w7 at n0_ n1_ n2_ ⊢
          clear HO_4 HB BK123 hcz7_0 hcz7_1 hcz7_2 hfz7_0 hfz7_1 hfz7_2
          have BK123 := n0_
          have HO_4 := n1_
          have HB := n2_
          clear n0_ n1_ n2_
          have hcz8_0 : w7.cell? ⟨gb123, 0, none⟩ = some (.int .i64 (wrap64 (Int.tdiv x0_1 512))) := (blk_cell BK123.out 0).trans rfl
          have hcz8_1 : w7.cell? ⟨gb123, 1, none⟩ = some (.int .i64 (Int.tmod x0_1 512)) := (blk_cell BK123.out 1).trans rfl
          have hcz8_2 : w7.cell? ⟨gb123, 2, none⟩ = some (.int .i64 ji4) := (blk_cell BK123.out 2).trans rfl
          go_wp2_with ((with_reducible refine gate_builtin (b := .append) (xs := #[.tmp 19, .tmp 21]) rfl ?_); at_builtin; refine Kd.R_append k66 (w0 := w) w.heap.size rfl (.tmp 19) (.tmp 21) 63 66 (.agg #[(.int .i64 0), (.int .i64 0), (.int .i64 0)]) 24 rfl Try.underlying63 info66 rfl (by decide) (by omega) u4 x4_1 (⟨wrap64 (Int.tdiv x0_1 512), Int.tmod x0_1 512, ji4⟩ : S66) [.int .i64 (wrap64 (Int.tdiv x0_1 512)), .int .i64 (Int.tmod x0_1 512), .int .i64 ji4] (fun k_ => k_ ≠ gb123) (fun _ => False) rfl (by first | (go_simp; done) | (go_simp; rfl)) ?aP (fun _ hk => hk.elim) ?aF ?aO ?aB ?aS ?aL ?_; (case aP => exact k66_mkM _ _ _ (⟨wrap64 (Int.tdiv x0_1 512), Int.tmod x0_1 512, ji4⟩ : S66)); (case aB => exact HB.out); (case aF => exact (fun k_ hk => Kd.freshB (g := gb123) (o := (.cells #[.int .i64 (wrap64 (Int.tdiv x0_1 512)), .int .i64 (Int.tmod x0_1 512), .int .i64 ji4] 66 (0, 0))) BK123.out k_ hk)); (case aO => exact HO_4.out); (case aS => exact below_size HB.out); (case aL => have := LMc5.out; omega); intro v125 w8 ho hb hg hat; rw [← Ny124.out] at ho; have n0_ := Aside0.mk (blk_grown (g := gb123) (o := (.cells #[.int .i64 (wrap64 (Int.tdiv x0_1 512)), .int .i64 (Int.tmod x0_1 512), .int .i64 ji4] 66 (0, 0))) BK123.out hg (Kd.R_away HO_4.out (fun _ hk => hk))); have n1_ := Aside0.mk hb; have n2_ := Aside0.mk ho; clear BK123; clear HB; clear HO_4; have BK123 := n0_; have HB := n1_; have HO126 := n2_; clear n0_ n1_ n2_; clear ho hb hg hat hcz8_0 hcz8_1 hcz8_2; have hcz9_0 : w8.cell? ⟨gb123, 0, none⟩ = some (.int .i64 (wrap64 (Int.tdiv x0_1 512))) := (blk_cell BK123.out 0).trans rfl; have hcz9_1 : w8.cell? ⟨gb123, 1, none⟩ = some (.int .i64 (Int.tmod x0_1 512)) := (blk_cell BK123.out 1).trans rfl; have hcz9_2 : w8.cell? ⟨gb123, 2, none⟩ = some (.int .i64 ji4) := (blk_cell BK123.out 2).trans rfl)
          go_roundg k1
          case measure => have := HK1.out; omega
          case rel => exact ⟨(wrap64 (x0_1 + (ji4))), (wrap64 (x1_1 - (ji4))), (y124), (by first | rfl | (simp; done) | (simp only [← hji4] <;> (first | rfl | simp)) | (simp [*]; done)), (by first | rfl | (simp; done) | (simp only [← hji4] <;> (first | rfl | simp)) | (simp [*]; done)), H', ⟨by have := HK1.out; omega⟩, ⟨by (with_reducible repeat (first | apply Kd.R_alloc | apply Kd.R_drewN | apply Kd.R_drew)); exact Kd.R_mono HO126.out (fun _ hk => trivial)⟩, ⟨by repeat (first | (with_reducible first | exact HB.out | apply below_alloc | apply pw_below_drewN | apply below_drew1 | refine below_set ?_ GE123.out) | exact HB.out)⟩⟩
        · rw [if_neg c5] at H
          exact absurd H (by simp)
      · rw [if_neg c3] at H
        have c3b0 : decide (0 < x1_1) = false := decide_eq_false c3
        clear c3
        obtain rfl := Option.some.inj H
        go_wp2
        go_ret
        exact ⟨_, by first | rfl | (simp [errW_none, errW_some] <;> rfl) | (simp [*, errW_none, errW_some] <;> rfl), by (with_reducible repeat (first | apply Kd.R_alloc | apply Kd.R_drewN | apply Kd.R_drew)); exact HO_4.out, by repeat (first | (with_reducible first | exact HB.out | apply below_alloc | apply pw_below_drewN | apply below_drew1) | exact HB.out)⟩


-- NOT PRINTED: function 15 (block_Put)

-- NOT PRINTED: function 6 (label_Put)

-- NOT PRINTED: function 16 (block_Get)

-- NOT PRINTED: function 7 (label_Get)

-- NOT PRINTED: function 3 (tindertop_WholeWindows)

end Go.Proofs.Ytdobpgomgnaleaa.P
