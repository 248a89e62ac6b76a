/- The machine's side: functions of the translation as plain Lean functions, and that the machine's calls come to what they say. No condition. Written by a program (wip/tools/pp.py over the kit's printer); Lean checks it. -/
import Derived.Test.YtlpohjpiipkpiaaPx0
import Derived.Test.YtlpohjpiipkpiaaPx1
import Derived.Test.YtlpohjpiipkpiaaPx2
import Derived.Test.YtlpohjpiipkpiaaPx3
import Derived.Test.YtlpohjpiipkpiaaPx4
import Derived.Test.YtlpohjpiipkpiaaPx5
namespace Go.Proofs.Ytlpohjpiipkpiaa.P
open Go.RowKit Go.Proofs.YtlpohjpiipkpiaaW.PrintWords Go.Proofs.YtlpohjpiipkpiaaW.PrintLast Go.Proofs.YtlpohjpiipkpiaaW.PrintMore
attribute [local go_sem] max2_int min2_int max_two min_two max_three min_three max_four min_four   -- for this text's walks alone
set_option linter.unusedVariables false
set_option linter.unusedSimpArgs false

/-! ### tinderlaw04_MemCarries: function 8 -/
def tinderlaw04_MemCarries.f (k : Nat) (l0 : List Int) (a1_0 : Int) (a1_1 : Int) (a1_2 : Int) : Option (Bool) := (tinderlaw04_alive.f k).bind fun t265 => (if t265 = true then ((mem_Text.f l0 a1_0 a1_2).bind fun bt266 => ((mem_Move.f l0 a1_0 a1_1 a1_2).bind fun bt268 => (if bt268.2 = 0 then ((mem_Text.f bt268.1 a1_1 a1_2).bind fun bt272 => ((mem_Put.f l0 a1_1 bt266.1).bind fun bt274 => (if bt266.2 = 0 then (if bt272.2 = 0 then (if bt272.1.toList = bt266.1.toList then (if bt274.2 = 0 then ((tinderref04_Same.f bt268.1 bt274.1).bind fun t278 => (some t278)) else (some false)) else (some false)) else (some false)) else (some false)))) else (if bt266.2 = 0 then (if (wrap64 (a1_1)) > (l0.length : Int) then (some true) else (some (decide ((wrap64 (a1_2)) > (wrap64 ((l0.length : Int) - (wrap64 (a1_1)))))))) else (some true))))) else (some false))
theorem tinderlaw04_MemCarries.mono : ∀ a0 a1 a2 a3 k, LeO (tinderlaw04_MemCarries.f k a0 a1 a2 a3) (tinderlaw04_MemCarries.f (k + 1) a0 a1 a2 a3) := by
  intro a0 a1 a2 a3 k
  unfold tinderlaw04_MemCarries.f
  repeat' first
      | (with_reducible exact tinderlaw04_alive.mono _)
      | (with_reducible exact LeO.refl _)
      | (with_reducible exact LeO.none _)
      | (with_reducible refine LeO.ite ?_ ?_)
      | (with_reducible refine LeO.bind ?_ (fun _ => ?_))
      | exact tinderlaw04_alive.mono _
      | exact LeO.none _
      | refine LeO.ite ?_ ?_
      | refine LeO.bind ?_ (fun _ => ?_)
set_option maxHeartbeats 8000000 in
set_option maxRecDepth 100000 in
theorem tinderlaw04_MemCarries.calls (k : Nat) (A0 : Option Addr) (c0 : Nat) (l0 : List Int) (a1_0 : Int) (a1_1 : Int) (a1_2 : Int) (r : Bool) (w : World) (hr0 : Kd.C (Kd.int .u8) w A0 l0.length l0) (hc0 : l0.length ≤ c0) (h : tinderlaw04_MemCarries.f k l0 a1_0 a1_1 a1_2 = some r) :
    Calls Try.prog 8 #[.slice A0 l0.length c0, .agg #[.int .u32 a1_0, .int .u32 a1_1, .int .u32 a1_2]] w fun e w' => e = .returned (.bool r) ∧ Below w.heap.size w w' := by
  have hu30 := Try.underlying30
  have HR0 := Aside0.mk hr0
  have HC0 := Aside0.mk hc0
  clear hr0 hc0
  have HB := Aside0.mk (Below.refl w.heap.size w)
  have H : ((tinderlaw04_alive.f k).bind fun t265 => (if t265 = true then ((mem_Text.f l0 a1_0 a1_2).bind fun bt266 => ((mem_Move.f l0 a1_0 a1_1 a1_2).bind fun bt268 => (if bt268.2 = 0 then ((mem_Text.f bt268.1 a1_1 a1_2).bind fun bt272 => ((mem_Put.f l0 a1_1 bt266.1).bind fun bt274 => (if bt266.2 = 0 then (if bt272.2 = 0 then (if bt272.1.toList = bt266.1.toList then (if bt274.2 = 0 then ((tinderref04_Same.f bt268.1 bt274.1).bind fun t278 => (some t278)) else (some false)) else (some false)) else (some false)) else (some false)))) else (if bt266.2 = 0 then (if (wrap64 (a1_1)) > (l0.length : Int) then (some true) else (some (decide ((wrap64 (a1_2)) > (wrap64 ((l0.length : Int) - (wrap64 (a1_1)))))))) else (some true))))) else (some false))) = some r := h
  clear h
  replace H := Option.bind_eq_some_iff.mp H
  obtain ⟨t265, A30, H⟩ := H
  replace H : (if t265 = true then ((mem_Text.f l0 a1_0 a1_2).bind fun bt266 => ((mem_Move.f l0 a1_0 a1_1 a1_2).bind fun bt268 => (if bt268.2 = 0 then ((mem_Text.f bt268.1 a1_1 a1_2).bind fun bt272 => ((mem_Put.f l0 a1_1 bt266.1).bind fun bt274 => (if bt266.2 = 0 then (if bt272.2 = 0 then (if bt272.1.toList = bt266.1.toList then (if bt274.2 = 0 then ((tinderref04_Same.f bt268.1 bt274.1).bind fun t278 => (some t278)) else (some false)) else (some false)) else (some false)) else (some false)))) else (if bt266.2 = 0 then (if (wrap64 (a1_1)) > (l0.length : Int) then (some true) else (some (decide ((wrap64 (a1_2)) > (wrap64 ((l0.length : Int) - (wrap64 (a1_1)))))))) else (some true))))) else (some false)) = some r := H
  have A3 := Aside0.mk A30
  clear A30
  by_cases c4 : t265 = true
  · subst c4
    have H1 : ((mem_Text.f l0 a1_0 a1_2).bind fun bt266 => ((mem_Move.f l0 a1_0 a1_1 a1_2).bind fun bt268 => (if bt268.2 = 0 then ((mem_Text.f bt268.1 a1_1 a1_2).bind fun bt272 => ((mem_Put.f l0 a1_1 bt266.1).bind fun bt274 => (if bt266.2 = 0 then (if bt272.2 = 0 then (if bt272.1.toList = bt266.1.toList then (if bt274.2 = 0 then ((tinderref04_Same.f bt268.1 bt274.1).bind fun t278 => (some t278)) else (some false)) else (some false)) else (some false)) else (some false)))) else (if bt266.2 = 0 then (if (wrap64 (a1_1)) > (l0.length : Int) then (some true) else (some (decide ((wrap64 (a1_2)) > (wrap64 ((l0.length : Int) - (wrap64 (a1_1)))))))) else (some true))))) = some r := by rw [if_pos rfl] at H; exact H
    clear H
    have H := H1
    clear H1
    replace H := Option.bind_eq_some_iff.mp H
    obtain ⟨⟨t266, t267⟩, A50, H⟩ := H
    replace H : ((mem_Move.f l0 a1_0 a1_1 a1_2).bind fun bt268 => (if bt268.2 = 0 then ((mem_Text.f bt268.1 a1_1 a1_2).bind fun bt272 => ((mem_Put.f l0 a1_1 t266).bind fun bt274 => (if t267 = 0 then (if bt272.2 = 0 then (if bt272.1.toList = t266.toList then (if bt274.2 = 0 then ((tinderref04_Same.f bt268.1 bt274.1).bind fun t278 => (some t278)) else (some false)) else (some false)) else (some false)) else (some false)))) else (if t267 = 0 then (if (wrap64 (a1_1)) > (l0.length : Int) then (some true) else (some (decide ((wrap64 (a1_2)) > (wrap64 ((l0.length : Int) - (wrap64 (a1_1)))))))) else (some true)))) = some r := H
    have A5 := Aside0.mk A50
    clear A50
    replace H := Option.bind_eq_some_iff.mp H
    obtain ⟨⟨t268, t269⟩, A60, H⟩ := H
    replace H : (if t269 = 0 then ((mem_Text.f t268 a1_1 a1_2).bind fun bt272 => ((mem_Put.f l0 a1_1 t266).bind fun bt274 => (if t267 = 0 then (if bt272.2 = 0 then (if bt272.1.toList = t266.toList then (if bt274.2 = 0 then ((tinderref04_Same.f t268 bt274.1).bind fun t278 => (some t278)) else (some false)) else (some false)) else (some false)) else (some false)))) else (if t267 = 0 then (if (wrap64 (a1_1)) > (l0.length : Int) then (some true) else (some (decide ((wrap64 (a1_2)) > (wrap64 ((l0.length : Int) - (wrap64 (a1_1)))))))) else (some true))) = some r := H
    have A6 := Aside0.mk A60
    clear A60
    by_cases c7 : t269 = 0
    · rw [if_pos c7] at H
      have c7b0 : (t269 == 0) = true := beq_iff_eq.mpr c7
      have c7b1 : (t269 != 0) = false := bne_eq_false_iff_eq.mpr c7
      clear c7
      replace H := Option.bind_eq_some_iff.mp H
      obtain ⟨⟨t272, t273⟩, A80, H⟩ := H
      replace H : ((mem_Put.f l0 a1_1 t266).bind fun bt274 => (if t267 = 0 then (if t273 = 0 then (if t272.toList = t266.toList then (if bt274.2 = 0 then ((tinderref04_Same.f t268 bt274.1).bind fun t278 => (some t278)) else (some false)) else (some false)) else (some false)) else (some false))) = some r := H
      have A8 := Aside0.mk A80
      clear A80
      replace H := Option.bind_eq_some_iff.mp H
      obtain ⟨⟨t274, t275⟩, A90, H⟩ := H
      replace H : (if t267 = 0 then (if t273 = 0 then (if t272.toList = t266.toList then (if t275 = 0 then ((tinderref04_Same.f t268 t274).bind fun t278 => (some t278)) else (some false)) else (some false)) else (some false)) else (some false)) = some r := H
      have A9 := Aside0.mk A90
      clear A90
      by_cases c10 : t267 = 0
      · rw [if_pos c10] at H
        have c10b0 : (t267 == 0) = true := beq_iff_eq.mpr c10
        have c10b1 : (t267 != 0) = false := bne_eq_false_iff_eq.mpr c10
        clear c10
        by_cases c11 : t273 = 0
        · rw [if_pos c11] at H
          have c11b0 : (t273 == 0) = true := beq_iff_eq.mpr c11
          have c11b1 : (t273 != 0) = false := bne_eq_false_iff_eq.mpr c11
          clear c11
          by_cases c12 : t272.toList = t266.toList
          · rw [if_pos c12] at H
            have c12b0 : (t272.toList == t266.toList) = true := beq_iff_eq.mpr c12
            have c12b1 : (t272.toList != t266.toList) = false := bne_eq_false_iff_eq.mpr c12
            clear c12
            by_cases c13 : t275 = 0
            · rw [if_pos c13] at H
              have c13b0 : (t275 == 0) = true := beq_iff_eq.mpr c13
              have c13b1 : (t275 != 0) = false := bne_eq_false_iff_eq.mpr c13
              clear c13
              replace H := Option.bind_eq_some_iff.mp H
              obtain ⟨t278, A140, H⟩ := H
              replace H : (some t278) = some r := H
              have A14 := Aside0.mk A140
              clear A140
              obtain rfl := Option.some.inj H
              go_enter Try.func8, Try.ntmps8
              go_wp2_with (first | ((with_reducible refine gate_dst (N := 3) rfl ?_); (try (refine gate_guard (by rfl) ?_; dsimp only)); refine box_event ?hg (N := 3) ?hd (cs := #[.int .u32 a1_0, .int .u32 a1_1, .int .u32 a1_2]) (t := 30) ?hr ?_; (case hd => rfl); (case hg => rfl); (case hr => first | (go_simp; done) | (go_simp; rfl)); intro gb264 hg w15 hbox hb; have n0_ := Aside0.mk (below_step (by repeat (first | (with_reducible first | exact HB.out | apply below_alloc | apply pw_below_drewN | apply below_drew1) | exact HB.out)) hb); have n1_ := Aside0.mk (hbox); have n2_ := Aside0.mk ((by rw [hg]; exact (below_size (by repeat (first | (with_reducible first | exact HB.out | apply below_alloc | apply pw_below_drewN | apply below_drew1) | exact HB.out))) : w.heap.size ≤ gb264)); have n3_ := Aside0.mk ((by rw [hg]; exact (below_size (by repeat (first | (with_reducible first | exact HB.out | apply below_alloc | apply pw_below_drewN | apply below_drew1) | exact HB.out))) : w.heap.size ≤ gb264)); clear HB; have HB := n0_; have BK264 := n1_; have GW264 := n2_; have GE264 := n3_; clear n0_ n1_ n2_ n3_; clear hb hbox hg) | ((with_reducible refine gate_callee (f := 10) rfl ?_); refine goesL_ (some 13) rfl rfl Try.func10 (by kernel_rfl) rfl #[] rfl (by (try simp only [List.map_toArray, List.map_cons, List.map_nil]); first | done | rfl | (simp only [List.length_drop, List.length_take]; rfl)) ?_; (with_reducible refine (tinderlaw04_alive.calls k  true _ A3.out).mono ?_); rintro e w16 ⟨rfl, hb⟩; refine ⟨_, rfl, ?_⟩; have n0_ := Aside0.mk (blk_below (g := gb264) (o := .cells #[.int .u32 a1_0, .int .u32 a1_1, .int .u32 a1_2] 30 (0, 0)) (by (with_reducible repeat (first | refine blk_drewN ?_ _ | refine blk_drew ?_ | refine blk_alloc ?_ _)); exact BK264.out) hb); have n1_ := Aside0.mk (below_step (by repeat (first | (with_reducible first | exact HB.out | apply below_alloc | apply pw_below_drewN | apply below_drew1 | refine below_set ?_ GE264.out) | exact HB.out)) hb); clear BK264; clear HB; have BK264 := n0_; have HB := n1_; clear n0_ n1_; (try clear hb); (try clear hb2); (try clear hk); (try clear hi); have hcz17_0 : w16.cell? ⟨gb264, 0, none⟩ = some (.int .u32 a1_0) := (blk_cell BK264.out 0).trans rfl; have hcz17_1 : w16.cell? ⟨gb264, 1, none⟩ = some (.int .u32 a1_1) := (blk_cell BK264.out 1).trans rfl; have hcz17_2 : w16.cell? ⟨gb264, 2, none⟩ = some (.int .u32 a1_2) := (blk_cell BK264.out 2).trans rfl; have hfz17_0 := blk_frozen BK264.out 0; have hfz17_1 := blk_frozen BK264.out 1; have hfz17_2 := blk_frozen BK264.out 2) | ((with_reducible refine gate_callee (f := 21) rfl ?_); refine goesL_ (some 21) rfl rfl Try.func21 (by kernel_rfl) rfl #[.slice A0 l0.length c0, .int .u32 a1_0, .int .u32 a1_2] rfl (by (try simp only [List.map_toArray, List.map_cons, List.map_nil]); first | done | rfl | (simp only [List.length_drop, List.length_take]; rfl)) ?_; (with_reducible refine (mem_Text.calls _ _ l0 a1_0 a1_2 t266 t267 _ ?side1 ?side2 A5.out).mono ?_); (case side1 => repeat (first | exact (Kd.C_below HR0.out HB.out) | (with_reducible refine Kd.C_alloc ?_ _) | (with_reducible refine Kd.C_drewN ?_ _) | (with_reducible refine Kd.C_drew ?_))); (case side2 => exact HC0.out); rintro e w18 ⟨rfl, hb⟩; refine ⟨_, rfl, ?_⟩; have n0_ := Aside0.mk (blk_below (g := gb264) (o := .cells #[.int .u32 a1_0, .int .u32 a1_1, .int .u32 a1_2] 30 (0, 0)) (by (with_reducible repeat (first | refine blk_drewN ?_ _ | refine blk_drew ?_ | refine blk_alloc ?_ _)); exact BK264.out) hb); have n1_ := Aside0.mk (below_step (by repeat (first | (with_reducible first | exact HB.out | apply below_alloc | apply pw_below_drewN | apply below_drew1 | refine below_set ?_ GE264.out) | exact HB.out)) hb); clear BK264; clear HB; have BK264 := n0_; have HB := n1_; clear n0_ n1_; (try clear hb); (try clear hb2); (try clear hk); (try clear hi); have hcz19_0 : w18.cell? ⟨gb264, 0, none⟩ = some (.int .u32 a1_0) := (blk_cell BK264.out 0).trans rfl; have hcz19_1 : w18.cell? ⟨gb264, 1, none⟩ = some (.int .u32 a1_1) := (blk_cell BK264.out 1).trans rfl; have hcz19_2 : w18.cell? ⟨gb264, 2, none⟩ = some (.int .u32 a1_2) := (blk_cell BK264.out 2).trans rfl; have hfz19_0 := blk_frozen BK264.out 0; have hfz19_1 := blk_frozen BK264.out 1; have hfz19_2 := blk_frozen BK264.out 2) | ((with_reducible refine gate_callee (f := 25) rfl ?_); refine goesL_ (some 32) rfl rfl Try.func25 (by kernel_rfl) rfl #[.slice A0 l0.length c0, .int .u32 a1_0, .int .u32 a1_1, .int .u32 a1_2] rfl (by (try simp only [List.map_toArray, List.map_cons, List.map_nil]); first | done | rfl | (simp only [List.length_drop, List.length_take]; rfl)) ?_; (with_reducible refine (mem_Move.calls _ _ l0 a1_0 a1_1 a1_2 t268 t269 _ ?side1 ?side2 A6.out).mono ?_); (case side1 => repeat (first | exact (Kd.C_below HR0.out HB.out) | (with_reducible refine Kd.C_alloc ?_ _) | (with_reducible refine Kd.C_drewN ?_ _) | (with_reducible refine Kd.C_drew ?_))); (case side2 => exact HC0.out); rintro e w20 ⟨v270, rfl, ho0, hb⟩; refine ⟨_, rfl, ?_⟩; have n0_ := Aside0.mk (Kd.R_lower ho0 (below_size (by repeat (first | (with_reducible first | exact HB.out | apply below_alloc | apply pw_below_drewN | apply below_drew1 | refine below_set ?_ GE264.out) | exact HB.out)))); have n1_ := Aside0.mk (blk_below (g := gb264) (o := .cells #[.int .u32 a1_0, .int .u32 a1_1, .int .u32 a1_2] 30 (0, 0)) (by (with_reducible repeat (first | refine blk_drewN ?_ _ | refine blk_drew ?_ | refine blk_alloc ?_ _)); exact BK264.out) hb); have n2_ := Aside0.mk (below_step (by repeat (first | (with_reducible first | exact HB.out | apply below_alloc | apply pw_below_drewN | apply below_drew1 | refine below_set ?_ GE264.out) | exact HB.out)) hb); clear BK264; clear HB; have HO271 := n0_; have BK264 := n1_; have HB := n2_; clear n0_ n1_ n2_; (try clear hb); (try clear hb2); (try clear hk); (try clear hi); (try clear ho0); have hcz21_0 : w20.cell? ⟨gb264, 0, none⟩ = some (.int .u32 a1_0) := (blk_cell BK264.out 0).trans rfl; have hcz21_1 : w20.cell? ⟨gb264, 1, none⟩ = some (.int .u32 a1_1) := (blk_cell BK264.out 1).trans rfl; have hcz21_2 : w20.cell? ⟨gb264, 2, none⟩ = some (.int .u32 a1_2) := (blk_cell BK264.out 2).trans rfl; have hfz21_0 := blk_frozen BK264.out 0; have hfz21_1 := blk_frozen BK264.out 1; have hfz21_2 := blk_frozen BK264.out 2; obtain ⟨Ao22, co22, eo22⟩ := Kd.R_slice HO271.out; subst eo22) | ((with_reducible refine gate_callee (f := 21) rfl ?_); refine goesL_ (some 65) rfl rfl Try.func21 (by kernel_rfl) rfl #[.slice Ao22 t268.length co22, .int .u32 a1_1, .int .u32 a1_2] rfl (by (try simp only [List.map_toArray, List.map_cons, List.map_nil]); first | done | rfl | (simp only [List.length_drop, List.length_take]; rfl)) ?_; (with_reducible refine (mem_Text.calls _ _ t268 a1_1 a1_2 t272 t273 _ ?side1 ?side2 A8.out).mono ?_); (case side1 => repeat (first | exact (Kd.R_reads' HO271.out).2.2 | (with_reducible refine Kd.C_alloc ?_ _) | (with_reducible refine Kd.C_drewN ?_ _) | (with_reducible refine Kd.C_drew ?_))); (case side2 => exact (Kd.R_reads' HO271.out).2.1); rintro e w23 ⟨rfl, hb⟩; refine ⟨_, rfl, ?_⟩; have n0_ := Aside0.mk (Kd.R_below (by (with_reducible repeat (first | apply Kd.R_alloc | apply Kd.R_drewN | apply Kd.R_drew)); exact HO271.out) hb); have n1_ := Aside0.mk (blk_below (g := gb264) (o := .cells #[.int .u32 a1_0, .int .u32 a1_1, .int .u32 a1_2] 30 (0, 0)) (by (with_reducible repeat (first | refine blk_drewN ?_ _ | refine blk_drew ?_ | refine blk_alloc ?_ _)); exact BK264.out) hb); have n2_ := Aside0.mk (below_step (by repeat (first | (with_reducible first | exact HB.out | apply below_alloc | apply pw_below_drewN | apply below_drew1 | refine below_set ?_ GE264.out) | exact HB.out)) hb); clear HO271; clear BK264; clear HB; have HO271 := n0_; have BK264 := n1_; have HB := n2_; clear n0_ n1_ n2_; (try clear hb); (try clear hb2); (try clear hk); (try clear hi); have hcz24_0 : w23.cell? ⟨gb264, 0, none⟩ = some (.int .u32 a1_0) := (blk_cell BK264.out 0).trans rfl; have hcz24_1 : w23.cell? ⟨gb264, 1, none⟩ = some (.int .u32 a1_1) := (blk_cell BK264.out 1).trans rfl; have hcz24_2 : w23.cell? ⟨gb264, 2, none⟩ = some (.int .u32 a1_2) := (blk_cell BK264.out 2).trans rfl; have hfz24_0 := blk_frozen BK264.out 0; have hfz24_1 := blk_frozen BK264.out 1; have hfz24_2 := blk_frozen BK264.out 2) | ((with_reducible refine gate_callee (f := 23) rfl ?_); refine goesL_ (some 73) rfl rfl Try.func23 (by kernel_rfl) rfl #[.slice A0 l0.length c0, .int .u32 a1_1, .string t266] rfl (by (try simp only [List.map_toArray, List.map_cons, List.map_nil]); first | done | rfl | (simp only [List.length_drop, List.length_take]; rfl)) ?_; (with_reducible refine (mem_Put.calls _ _ l0 a1_1 t266 t274 t275 _ ?side1 ?side2 A9.out).mono ?_); (case side1 => repeat (first | exact (Kd.C_below HR0.out HB.out) | (with_reducible refine Kd.C_alloc ?_ _) | (with_reducible refine Kd.C_drewN ?_ _) | (with_reducible refine Kd.C_drew ?_))); (case side2 => exact HC0.out); rintro e w25 ⟨v276, rfl, ho0, hb⟩; refine ⟨_, rfl, ?_⟩; have n0_ := Aside0.mk (Kd.R_elder' (by (with_reducible repeat (first | apply Kd.R_alloc | apply Kd.R_drewN | apply Kd.R_drew)); exact HO271.out) (Kd.R_base ho0) hb); have n1_ := Aside0.mk (Kd.R_lower (Kd.R_new' ho0 (Kd.R_lt (by (with_reducible repeat (first | apply Kd.R_alloc | apply Kd.R_drewN | apply Kd.R_drew)); exact HO271.out))) (below_size (by repeat (first | (with_reducible first | exact HB.out | apply below_alloc | apply pw_below_drewN | apply below_drew1 | refine below_set ?_ GE264.out) | exact HB.out)))); have n2_ := Aside0.mk (blk_below (g := gb264) (o := .cells #[.int .u32 a1_0, .int .u32 a1_1, .int .u32 a1_2] 30 (0, 0)) (by (with_reducible repeat (first | refine blk_drewN ?_ _ | refine blk_drew ?_ | refine blk_alloc ?_ _)); exact BK264.out) hb); have n3_ := Aside0.mk (below_step (by repeat (first | (with_reducible first | exact HB.out | apply below_alloc | apply pw_below_drewN | apply below_drew1 | refine below_set ?_ GE264.out) | exact HB.out)) hb); clear HO271; clear BK264; clear HB; have HO271 := n0_; have HO277 := n1_; have BK264 := n2_; have HB := n3_; clear n0_ n1_ n2_ n3_; (try clear hb); (try clear hb2); (try clear hk); (try clear hi); (try clear ho0); obtain ⟨Ao26, co26, eo26⟩ := Kd.R_slice HO277.out; subst eo26) | (go_at_call 13; (with_reducible refine (tinderref04_Same.calls _ _ t268 _ _ t274 t278 _ ?side1 ?side2 ?side3 ?side4 A14.out).mono ?_); (case side1 => repeat (first | exact (Kd.R_reads' HO271.out).2.2 | (with_reducible refine Kd.C_alloc ?_ _) | (with_reducible refine Kd.C_drewN ?_ _) | (with_reducible refine Kd.C_drew ?_))); (case side2 => exact (Kd.R_reads' HO271.out).2.1); (case side3 => repeat (first | exact (Kd.R_reads' HO277.out).2.2 | (with_reducible refine Kd.C_alloc ?_ _) | (with_reducible refine Kd.C_drewN ?_ _) | (with_reducible refine Kd.C_drew ?_))); (case side4 => exact (Kd.R_reads' HO277.out).2.1); rintro e w' ⟨rfl, ⟨nd, rfl⟩⟩))
              go_ret
              exact ⟨by first | rfl | (simp [errW_none, errW_some] <;> rfl) | (simp [*, errW_none, errW_some] <;> rfl), by repeat (first | (with_reducible first | exact HB.out | apply below_alloc | apply pw_below_drewN | apply below_drew1 | refine below_set ?_ GE264.out) | exact HB.out)⟩
            · rw [if_neg c13] at H
              have c13b0 : (t275 == 0) = false := beq_eq_false_iff_ne.mpr c13
              have c13b1 : (t275 != 0) = true := bne_iff_ne.mpr c13
              obtain rfl := Option.some.inj H
              go_enter Try.func8, Try.ntmps8
              go_wp2_with (first | ((with_reducible refine gate_dst (N := 3) rfl ?_); (try (refine gate_guard (by rfl) ?_; dsimp only)); refine box_event ?hg (N := 3) ?hd (cs := #[.int .u32 a1_0, .int .u32 a1_1, .int .u32 a1_2]) (t := 30) ?hr ?_; (case hd => rfl); (case hg => rfl); (case hr => first | (go_simp; done) | (go_simp; rfl)); intro gb264 hg w27 hbox hb; have n0_ := Aside0.mk (below_step (by repeat (first | (with_reducible first | exact HB.out | apply below_alloc | apply pw_below_drewN | apply below_drew1) | exact HB.out)) hb); have n1_ := Aside0.mk (hbox); have n2_ := Aside0.mk ((by rw [hg]; exact (below_size (by repeat (first | (with_reducible first | exact HB.out | apply below_alloc | apply pw_below_drewN | apply below_drew1) | exact HB.out))) : w.heap.size ≤ gb264)); have n3_ := Aside0.mk ((by rw [hg]; exact (below_size (by repeat (first | (with_reducible first | exact HB.out | apply below_alloc | apply pw_below_drewN | apply below_drew1) | exact HB.out))) : w.heap.size ≤ gb264)); clear HB; have HB := n0_; have BK264 := n1_; have GW264 := n2_; have GE264 := n3_; clear n0_ n1_ n2_ n3_; clear hb hbox hg) | ((with_reducible refine gate_callee (f := 10) rfl ?_); refine goesL_ (some 13) rfl rfl Try.func10 (by kernel_rfl) rfl #[] rfl (by (try simp only [List.map_toArray, List.map_cons, List.map_nil]); first | done | rfl | (simp only [List.length_drop, List.length_take]; rfl)) ?_; (with_reducible refine (tinderlaw04_alive.calls k  true _ A3.out).mono ?_); rintro e w28 ⟨rfl, hb⟩; refine ⟨_, rfl, ?_⟩; have n0_ := Aside0.mk (blk_below (g := gb264) (o := .cells #[.int .u32 a1_0, .int .u32 a1_1, .int .u32 a1_2] 30 (0, 0)) (by (with_reducible repeat (first | refine blk_drewN ?_ _ | refine blk_drew ?_ | refine blk_alloc ?_ _)); exact BK264.out) hb); have n1_ := Aside0.mk (below_step (by repeat (first | (with_reducible first | exact HB.out | apply below_alloc | apply pw_below_drewN | apply below_drew1 | refine below_set ?_ GE264.out) | exact HB.out)) hb); clear BK264; clear HB; have BK264 := n0_; have HB := n1_; clear n0_ n1_; (try clear hb); (try clear hb2); (try clear hk); (try clear hi); have hcz29_0 : w28.cell? ⟨gb264, 0, none⟩ = some (.int .u32 a1_0) := (blk_cell BK264.out 0).trans rfl; have hcz29_1 : w28.cell? ⟨gb264, 1, none⟩ = some (.int .u32 a1_1) := (blk_cell BK264.out 1).trans rfl; have hcz29_2 : w28.cell? ⟨gb264, 2, none⟩ = some (.int .u32 a1_2) := (blk_cell BK264.out 2).trans rfl; have hfz29_0 := blk_frozen BK264.out 0; have hfz29_1 := blk_frozen BK264.out 1; have hfz29_2 := blk_frozen BK264.out 2) | ((with_reducible refine gate_callee (f := 21) rfl ?_); refine goesL_ (some 21) rfl rfl Try.func21 (by kernel_rfl) rfl #[.slice A0 l0.length c0, .int .u32 a1_0, .int .u32 a1_2] rfl (by (try simp only [List.map_toArray, List.map_cons, List.map_nil]); first | done | rfl | (simp only [List.length_drop, List.length_take]; rfl)) ?_; (with_reducible refine (mem_Text.calls _ _ l0 a1_0 a1_2 t266 t267 _ ?side1 ?side2 A5.out).mono ?_); (case side1 => repeat (first | exact (Kd.C_below HR0.out HB.out) | (with_reducible refine Kd.C_alloc ?_ _) | (with_reducible refine Kd.C_drewN ?_ _) | (with_reducible refine Kd.C_drew ?_))); (case side2 => exact HC0.out); rintro e w30 ⟨rfl, hb⟩; refine ⟨_, rfl, ?_⟩; have n0_ := Aside0.mk (blk_below (g := gb264) (o := .cells #[.int .u32 a1_0, .int .u32 a1_1, .int .u32 a1_2] 30 (0, 0)) (by (with_reducible repeat (first | refine blk_drewN ?_ _ | refine blk_drew ?_ | refine blk_alloc ?_ _)); exact BK264.out) hb); have n1_ := Aside0.mk (below_step (by repeat (first | (with_reducible first | exact HB.out | apply below_alloc | apply pw_below_drewN | apply below_drew1 | refine below_set ?_ GE264.out) | exact HB.out)) hb); clear BK264; clear HB; have BK264 := n0_; have HB := n1_; clear n0_ n1_; (try clear hb); (try clear hb2); (try clear hk); (try clear hi); have hcz31_0 : w30.cell? ⟨gb264, 0, none⟩ = some (.int .u32 a1_0) := (blk_cell BK264.out 0).trans rfl; have hcz31_1 : w30.cell? ⟨gb264, 1, none⟩ = some (.int .u32 a1_1) := (blk_cell BK264.out 1).trans rfl; have hcz31_2 : w30.cell? ⟨gb264, 2, none⟩ = some (.int .u32 a1_2) := (blk_cell BK264.out 2).trans rfl; have hfz31_0 := blk_frozen BK264.out 0; have hfz31_1 := blk_frozen BK264.out 1; have hfz31_2 := blk_frozen BK264.out 2) | ((with_reducible refine gate_callee (f := 25) rfl ?_); refine goesL_ (some 32) rfl rfl Try.func25 (by kernel_rfl) rfl #[.slice A0 l0.length c0, .int .u32 a1_0, .int .u32 a1_1, .int .u32 a1_2] rfl (by (try simp only [List.map_toArray, List.map_cons, List.map_nil]); first | done | rfl | (simp only [List.length_drop, List.length_take]; rfl)) ?_; (with_reducible refine (mem_Move.calls _ _ l0 a1_0 a1_1 a1_2 t268 t269 _ ?side1 ?side2 A6.out).mono ?_); (case side1 => repeat (first | exact (Kd.C_below HR0.out HB.out) | (with_reducible refine Kd.C_alloc ?_ _) | (with_reducible refine Kd.C_drewN ?_ _) | (with_reducible refine Kd.C_drew ?_))); (case side2 => exact HC0.out); rintro e w32 ⟨v270, rfl, ho0, hb⟩; refine ⟨_, rfl, ?_⟩; have n0_ := Aside0.mk (Kd.R_lower ho0 (below_size (by repeat (first | (with_reducible first | exact HB.out | apply below_alloc | apply pw_below_drewN | apply below_drew1 | refine below_set ?_ GE264.out) | exact HB.out)))); have n1_ := Aside0.mk (blk_below (g := gb264) (o := .cells #[.int .u32 a1_0, .int .u32 a1_1, .int .u32 a1_2] 30 (0, 0)) (by (with_reducible repeat (first | refine blk_drewN ?_ _ | refine blk_drew ?_ | refine blk_alloc ?_ _)); exact BK264.out) hb); have n2_ := Aside0.mk (below_step (by repeat (first | (with_reducible first | exact HB.out | apply below_alloc | apply pw_below_drewN | apply below_drew1 | refine below_set ?_ GE264.out) | exact HB.out)) hb); clear BK264; clear HB; have HO271 := n0_; have BK264 := n1_; have HB := n2_; clear n0_ n1_ n2_; (try clear hb); (try clear hb2); (try clear hk); (try clear hi); (try clear ho0); have hcz33_0 : w32.cell? ⟨gb264, 0, none⟩ = some (.int .u32 a1_0) := (blk_cell BK264.out 0).trans rfl; have hcz33_1 : w32.cell? ⟨gb264, 1, none⟩ = some (.int .u32 a1_1) := (blk_cell BK264.out 1).trans rfl; have hcz33_2 : w32.cell? ⟨gb264, 2, none⟩ = some (.int .u32 a1_2) := (blk_cell BK264.out 2).trans rfl; have hfz33_0 := blk_frozen BK264.out 0; have hfz33_1 := blk_frozen BK264.out 1; have hfz33_2 := blk_frozen BK264.out 2; obtain ⟨Ao34, co34, eo34⟩ := Kd.R_slice HO271.out; subst eo34) | ((with_reducible refine gate_callee (f := 21) rfl ?_); refine goesL_ (some 65) rfl rfl Try.func21 (by kernel_rfl) rfl #[.slice Ao34 t268.length co34, .int .u32 a1_1, .int .u32 a1_2] rfl (by (try simp only [List.map_toArray, List.map_cons, List.map_nil]); first | done | rfl | (simp only [List.length_drop, List.length_take]; rfl)) ?_; (with_reducible refine (mem_Text.calls _ _ t268 a1_1 a1_2 t272 t273 _ ?side1 ?side2 A8.out).mono ?_); (case side1 => repeat (first | exact (Kd.R_reads' HO271.out).2.2 | (with_reducible refine Kd.C_alloc ?_ _) | (with_reducible refine Kd.C_drewN ?_ _) | (with_reducible refine Kd.C_drew ?_))); (case side2 => exact (Kd.R_reads' HO271.out).2.1); rintro e w35 ⟨rfl, hb⟩; refine ⟨_, rfl, ?_⟩; have n0_ := Aside0.mk (Kd.R_below (by (with_reducible repeat (first | apply Kd.R_alloc | apply Kd.R_drewN | apply Kd.R_drew)); exact HO271.out) hb); have n1_ := Aside0.mk (blk_below (g := gb264) (o := .cells #[.int .u32 a1_0, .int .u32 a1_1, .int .u32 a1_2] 30 (0, 0)) (by (with_reducible repeat (first | refine blk_drewN ?_ _ | refine blk_drew ?_ | refine blk_alloc ?_ _)); exact BK264.out) hb); have n2_ := Aside0.mk (below_step (by repeat (first | (with_reducible first | exact HB.out | apply below_alloc | apply pw_below_drewN | apply below_drew1 | refine below_set ?_ GE264.out) | exact HB.out)) hb); clear HO271; clear BK264; clear HB; have HO271 := n0_; have BK264 := n1_; have HB := n2_; clear n0_ n1_ n2_; (try clear hb); (try clear hb2); (try clear hk); (try clear hi); have hcz36_0 : w35.cell? ⟨gb264, 0, none⟩ = some (.int .u32 a1_0) := (blk_cell BK264.out 0).trans rfl; have hcz36_1 : w35.cell? ⟨gb264, 1, none⟩ = some (.int .u32 a1_1) := (blk_cell BK264.out 1).trans rfl; have hcz36_2 : w35.cell? ⟨gb264, 2, none⟩ = some (.int .u32 a1_2) := (blk_cell BK264.out 2).trans rfl; have hfz36_0 := blk_frozen BK264.out 0; have hfz36_1 := blk_frozen BK264.out 1; have hfz36_2 := blk_frozen BK264.out 2) | ((with_reducible refine gate_callee (f := 23) rfl ?_); refine goesL_ (some 73) rfl rfl Try.func23 (by kernel_rfl) rfl #[.slice A0 l0.length c0, .int .u32 a1_1, .string t266] rfl (by (try simp only [List.map_toArray, List.map_cons, List.map_nil]); first | done | rfl | (simp only [List.length_drop, List.length_take]; rfl)) ?_; (with_reducible refine (mem_Put.calls _ _ l0 a1_1 t266 t274 t275 _ ?side1 ?side2 A9.out).mono ?_); (case side1 => repeat (first | exact (Kd.C_below HR0.out HB.out) | (with_reducible refine Kd.C_alloc ?_ _) | (with_reducible refine Kd.C_drewN ?_ _) | (with_reducible refine Kd.C_drew ?_))); (case side2 => exact HC0.out); rintro e w37 ⟨v276, rfl, ho0, hb⟩; refine ⟨_, rfl, ?_⟩; have n0_ := Aside0.mk (Kd.R_elder' (by (with_reducible repeat (first | apply Kd.R_alloc | apply Kd.R_drewN | apply Kd.R_drew)); exact HO271.out) (Kd.R_base ho0) hb); have n1_ := Aside0.mk (Kd.R_lower (Kd.R_new' ho0 (Kd.R_lt (by (with_reducible repeat (first | apply Kd.R_alloc | apply Kd.R_drewN | apply Kd.R_drew)); exact HO271.out))) (below_size (by repeat (first | (with_reducible first | exact HB.out | apply below_alloc | apply pw_below_drewN | apply below_drew1 | refine below_set ?_ GE264.out) | exact HB.out)))); have n2_ := Aside0.mk (blk_below (g := gb264) (o := .cells #[.int .u32 a1_0, .int .u32 a1_1, .int .u32 a1_2] 30 (0, 0)) (by (with_reducible repeat (first | refine blk_drewN ?_ _ | refine blk_drew ?_ | refine blk_alloc ?_ _)); exact BK264.out) hb); have n3_ := Aside0.mk (below_step (by repeat (first | (with_reducible first | exact HB.out | apply below_alloc | apply pw_below_drewN | apply below_drew1 | refine below_set ?_ GE264.out) | exact HB.out)) hb); clear HO271; clear BK264; clear HB; have HO271 := n0_; have HO277 := n1_; have BK264 := n2_; have HB := n3_; clear n0_ n1_ n2_ n3_; (try clear hb); (try clear hb2); (try clear hk); (try clear hi); (try clear ho0)))
              go_ret
              exact ⟨by first | rfl | (simp [errW_none, errW_some] <;> rfl) | (simp [*, errW_none, errW_some] <;> rfl), by repeat (first | (with_reducible first | exact HB.out | apply below_alloc | apply pw_below_drewN | apply below_drew1 | refine below_set ?_ GE264.out) | exact HB.out)⟩
          · rw [if_neg c12] at H
            have c12b0 : (t272.toList == t266.toList) = false := beq_eq_false_iff_ne.mpr c12
            have c12b1 : (t272.toList != t266.toList) = true := bne_iff_ne.mpr c12
            obtain rfl := Option.some.inj H
            go_enter Try.func8, Try.ntmps8
            go_wp2_with (first | ((with_reducible refine gate_dst (N := 3) rfl ?_); (try (refine gate_guard (by rfl) ?_; dsimp only)); refine box_event ?hg (N := 3) ?hd (cs := #[.int .u32 a1_0, .int .u32 a1_1, .int .u32 a1_2]) (t := 30) ?hr ?_; (case hd => rfl); (case hg => rfl); (case hr => first | (go_simp; done) | (go_simp; rfl)); intro gb264 hg w38 hbox hb; have n0_ := Aside0.mk (below_step (by repeat (first | (with_reducible first | exact HB.out | apply below_alloc | apply pw_below_drewN | apply below_drew1) | exact HB.out)) hb); have n1_ := Aside0.mk (hbox); have n2_ := Aside0.mk ((by rw [hg]; exact (below_size (by repeat (first | (with_reducible first | exact HB.out | apply below_alloc | apply pw_below_drewN | apply below_drew1) | exact HB.out))) : w.heap.size ≤ gb264)); have n3_ := Aside0.mk ((by rw [hg]; exact (below_size (by repeat (first | (with_reducible first | exact HB.out | apply below_alloc | apply pw_below_drewN | apply below_drew1) | exact HB.out))) : w.heap.size ≤ gb264)); clear HB; have HB := n0_; have BK264 := n1_; have GW264 := n2_; have GE264 := n3_; clear n0_ n1_ n2_ n3_; clear hb hbox hg) | ((with_reducible refine gate_callee (f := 10) rfl ?_); refine goesL_ (some 13) rfl rfl Try.func10 (by kernel_rfl) rfl #[] rfl (by (try simp only [List.map_toArray, List.map_cons, List.map_nil]); first | done | rfl | (simp only [List.length_drop, List.length_take]; rfl)) ?_; (with_reducible refine (tinderlaw04_alive.calls k  true _ A3.out).mono ?_); rintro e w39 ⟨rfl, hb⟩; refine ⟨_, rfl, ?_⟩; have n0_ := Aside0.mk (blk_below (g := gb264) (o := .cells #[.int .u32 a1_0, .int .u32 a1_1, .int .u32 a1_2] 30 (0, 0)) (by (with_reducible repeat (first | refine blk_drewN ?_ _ | refine blk_drew ?_ | refine blk_alloc ?_ _)); exact BK264.out) hb); have n1_ := Aside0.mk (below_step (by repeat (first | (with_reducible first | exact HB.out | apply below_alloc | apply pw_below_drewN | apply below_drew1 | refine below_set ?_ GE264.out) | exact HB.out)) hb); clear BK264; clear HB; have BK264 := n0_; have HB := n1_; clear n0_ n1_; (try clear hb); (try clear hb2); (try clear hk); (try clear hi); have hcz40_0 : w39.cell? ⟨gb264, 0, none⟩ = some (.int .u32 a1_0) := (blk_cell BK264.out 0).trans rfl; have hcz40_1 : w39.cell? ⟨gb264, 1, none⟩ = some (.int .u32 a1_1) := (blk_cell BK264.out 1).trans rfl; have hcz40_2 : w39.cell? ⟨gb264, 2, none⟩ = some (.int .u32 a1_2) := (blk_cell BK264.out 2).trans rfl; have hfz40_0 := blk_frozen BK264.out 0; have hfz40_1 := blk_frozen BK264.out 1; have hfz40_2 := blk_frozen BK264.out 2) | ((with_reducible refine gate_callee (f := 21) rfl ?_); refine goesL_ (some 21) rfl rfl Try.func21 (by kernel_rfl) rfl #[.slice A0 l0.length c0, .int .u32 a1_0, .int .u32 a1_2] rfl (by (try simp only [List.map_toArray, List.map_cons, List.map_nil]); first | done | rfl | (simp only [List.length_drop, List.length_take]; rfl)) ?_; (with_reducible refine (mem_Text.calls _ _ l0 a1_0 a1_2 t266 t267 _ ?side1 ?side2 A5.out).mono ?_); (case side1 => repeat (first | exact (Kd.C_below HR0.out HB.out) | (with_reducible refine Kd.C_alloc ?_ _) | (with_reducible refine Kd.C_drewN ?_ _) | (with_reducible refine Kd.C_drew ?_))); (case side2 => exact HC0.out); rintro e w41 ⟨rfl, hb⟩; refine ⟨_, rfl, ?_⟩; have n0_ := Aside0.mk (blk_below (g := gb264) (o := .cells #[.int .u32 a1_0, .int .u32 a1_1, .int .u32 a1_2] 30 (0, 0)) (by (with_reducible repeat (first | refine blk_drewN ?_ _ | refine blk_drew ?_ | refine blk_alloc ?_ _)); exact BK264.out) hb); have n1_ := Aside0.mk (below_step (by repeat (first | (with_reducible first | exact HB.out | apply below_alloc | apply pw_below_drewN | apply below_drew1 | refine below_set ?_ GE264.out) | exact HB.out)) hb); clear BK264; clear HB; have BK264 := n0_; have HB := n1_; clear n0_ n1_; (try clear hb); (try clear hb2); (try clear hk); (try clear hi); have hcz42_0 : w41.cell? ⟨gb264, 0, none⟩ = some (.int .u32 a1_0) := (blk_cell BK264.out 0).trans rfl; have hcz42_1 : w41.cell? ⟨gb264, 1, none⟩ = some (.int .u32 a1_1) := (blk_cell BK264.out 1).trans rfl; have hcz42_2 : w41.cell? ⟨gb264, 2, none⟩ = some (.int .u32 a1_2) := (blk_cell BK264.out 2).trans rfl; have hfz42_0 := blk_frozen BK264.out 0; have hfz42_1 := blk_frozen BK264.out 1; have hfz42_2 := blk_frozen BK264.out 2) | ((with_reducible refine gate_callee (f := 25) rfl ?_); refine goesL_ (some 32) rfl rfl Try.func25 (by kernel_rfl) rfl #[.slice A0 l0.length c0, .int .u32 a1_0, .int .u32 a1_1, .int .u32 a1_2] rfl (by (try simp only [List.map_toArray, List.map_cons, List.map_nil]); first | done | rfl | (simp only [List.length_drop, List.length_take]; rfl)) ?_; (with_reducible refine (mem_Move.calls _ _ l0 a1_0 a1_1 a1_2 t268 t269 _ ?side1 ?side2 A6.out).mono ?_); (case side1 => repeat (first | exact (Kd.C_below HR0.out HB.out) | (with_reducible refine Kd.C_alloc ?_ _) | (with_reducible refine Kd.C_drewN ?_ _) | (with_reducible refine Kd.C_drew ?_))); (case side2 => exact HC0.out); rintro e w43 ⟨v270, rfl, ho0, hb⟩; refine ⟨_, rfl, ?_⟩; have n0_ := Aside0.mk (Kd.R_lower ho0 (below_size (by repeat (first | (with_reducible first | exact HB.out | apply below_alloc | apply pw_below_drewN | apply below_drew1 | refine below_set ?_ GE264.out) | exact HB.out)))); have n1_ := Aside0.mk (blk_below (g := gb264) (o := .cells #[.int .u32 a1_0, .int .u32 a1_1, .int .u32 a1_2] 30 (0, 0)) (by (with_reducible repeat (first | refine blk_drewN ?_ _ | refine blk_drew ?_ | refine blk_alloc ?_ _)); exact BK264.out) hb); have n2_ := Aside0.mk (below_step (by repeat (first | (with_reducible first | exact HB.out | apply below_alloc | apply pw_below_drewN | apply below_drew1 | refine below_set ?_ GE264.out) | exact HB.out)) hb); clear BK264; clear HB; have HO271 := n0_; have BK264 := n1_; have HB := n2_; clear n0_ n1_ n2_; (try clear hb); (try clear hb2); (try clear hk); (try clear hi); (try clear ho0); have hcz44_0 : w43.cell? ⟨gb264, 0, none⟩ = some (.int .u32 a1_0) := (blk_cell BK264.out 0).trans rfl; have hcz44_1 : w43.cell? ⟨gb264, 1, none⟩ = some (.int .u32 a1_1) := (blk_cell BK264.out 1).trans rfl; have hcz44_2 : w43.cell? ⟨gb264, 2, none⟩ = some (.int .u32 a1_2) := (blk_cell BK264.out 2).trans rfl; have hfz44_0 := blk_frozen BK264.out 0; have hfz44_1 := blk_frozen BK264.out 1; have hfz44_2 := blk_frozen BK264.out 2; obtain ⟨Ao45, co45, eo45⟩ := Kd.R_slice HO271.out; subst eo45) | ((with_reducible refine gate_callee (f := 21) rfl ?_); refine goesL_ (some 65) rfl rfl Try.func21 (by kernel_rfl) rfl #[.slice Ao45 t268.length co45, .int .u32 a1_1, .int .u32 a1_2] rfl (by (try simp only [List.map_toArray, List.map_cons, List.map_nil]); first | done | rfl | (simp only [List.length_drop, List.length_take]; rfl)) ?_; (with_reducible refine (mem_Text.calls _ _ t268 a1_1 a1_2 t272 t273 _ ?side1 ?side2 A8.out).mono ?_); (case side1 => repeat (first | exact (Kd.R_reads' HO271.out).2.2 | (with_reducible refine Kd.C_alloc ?_ _) | (with_reducible refine Kd.C_drewN ?_ _) | (with_reducible refine Kd.C_drew ?_))); (case side2 => exact (Kd.R_reads' HO271.out).2.1); rintro e w46 ⟨rfl, hb⟩; refine ⟨_, rfl, ?_⟩; have n0_ := Aside0.mk (Kd.R_below (by (with_reducible repeat (first | apply Kd.R_alloc | apply Kd.R_drewN | apply Kd.R_drew)); exact HO271.out) hb); have n1_ := Aside0.mk (blk_below (g := gb264) (o := .cells #[.int .u32 a1_0, .int .u32 a1_1, .int .u32 a1_2] 30 (0, 0)) (by (with_reducible repeat (first | refine blk_drewN ?_ _ | refine blk_drew ?_ | refine blk_alloc ?_ _)); exact BK264.out) hb); have n2_ := Aside0.mk (below_step (by repeat (first | (with_reducible first | exact HB.out | apply below_alloc | apply pw_below_drewN | apply below_drew1 | refine below_set ?_ GE264.out) | exact HB.out)) hb); clear HO271; clear BK264; clear HB; have HO271 := n0_; have BK264 := n1_; have HB := n2_; clear n0_ n1_ n2_; (try clear hb); (try clear hb2); (try clear hk); (try clear hi); have hcz47_0 : w46.cell? ⟨gb264, 0, none⟩ = some (.int .u32 a1_0) := (blk_cell BK264.out 0).trans rfl; have hcz47_1 : w46.cell? ⟨gb264, 1, none⟩ = some (.int .u32 a1_1) := (blk_cell BK264.out 1).trans rfl; have hcz47_2 : w46.cell? ⟨gb264, 2, none⟩ = some (.int .u32 a1_2) := (blk_cell BK264.out 2).trans rfl; have hfz47_0 := blk_frozen BK264.out 0; have hfz47_1 := blk_frozen BK264.out 1; have hfz47_2 := blk_frozen BK264.out 2) | ((with_reducible refine gate_callee (f := 23) rfl ?_); refine goesL_ (some 73) rfl rfl Try.func23 (by kernel_rfl) rfl #[.slice A0 l0.length c0, .int .u32 a1_1, .string t266] rfl (by (try simp only [List.map_toArray, List.map_cons, List.map_nil]); first | done | rfl | (simp only [List.length_drop, List.length_take]; rfl)) ?_; (with_reducible refine (mem_Put.calls _ _ l0 a1_1 t266 t274 t275 _ ?side1 ?side2 A9.out).mono ?_); (case side1 => repeat (first | exact (Kd.C_below HR0.out HB.out) | (with_reducible refine Kd.C_alloc ?_ _) | (with_reducible refine Kd.C_drewN ?_ _) | (with_reducible refine Kd.C_drew ?_))); (case side2 => exact HC0.out); rintro e w48 ⟨v276, rfl, ho0, hb⟩; refine ⟨_, rfl, ?_⟩; have n0_ := Aside0.mk (Kd.R_elder' (by (with_reducible repeat (first | apply Kd.R_alloc | apply Kd.R_drewN | apply Kd.R_drew)); exact HO271.out) (Kd.R_base ho0) hb); have n1_ := Aside0.mk (Kd.R_lower (Kd.R_new' ho0 (Kd.R_lt (by (with_reducible repeat (first | apply Kd.R_alloc | apply Kd.R_drewN | apply Kd.R_drew)); exact HO271.out))) (below_size (by repeat (first | (with_reducible first | exact HB.out | apply below_alloc | apply pw_below_drewN | apply below_drew1 | refine below_set ?_ GE264.out) | exact HB.out)))); have n2_ := Aside0.mk (blk_below (g := gb264) (o := .cells #[.int .u32 a1_0, .int .u32 a1_1, .int .u32 a1_2] 30 (0, 0)) (by (with_reducible repeat (first | refine blk_drewN ?_ _ | refine blk_drew ?_ | refine blk_alloc ?_ _)); exact BK264.out) hb); have n3_ := Aside0.mk (below_step (by repeat (first | (with_reducible first | exact HB.out | apply below_alloc | apply pw_below_drewN | apply below_drew1 | refine below_set ?_ GE264.out) | exact HB.out)) hb); clear HO271; clear BK264; clear HB; have HO271 := n0_; have HO277 := n1_; have BK264 := n2_; have HB := n3_; clear n0_ n1_ n2_ n3_; (try clear hb); (try clear hb2); (try clear hk); (try clear hi); (try clear ho0)))
            go_ret
            exact ⟨by first | rfl | (simp [errW_none, errW_some] <;> rfl) | (simp [*, errW_none, errW_some] <;> rfl), by repeat (first | (with_reducible first | exact HB.out | apply below_alloc | apply pw_below_drewN | apply below_drew1 | refine below_set ?_ GE264.out) | exact HB.out)⟩
        · rw [if_neg c11] at H
          have c11b0 : (t273 == 0) = false := beq_eq_false_iff_ne.mpr c11
          have c11b1 : (t273 != 0) = true := bne_iff_ne.mpr c11
          obtain rfl := Option.some.inj H
          go_enter Try.func8, Try.ntmps8
          go_wp2_with (first | ((with_reducible refine gate_dst (N := 3) rfl ?_); (try (refine gate_guard (by rfl) ?_; dsimp only)); refine box_event ?hg (N := 3) ?hd (cs := #[.int .u32 a1_0, .int .u32 a1_1, .int .u32 a1_2]) (t := 30) ?hr ?_; (case hd => rfl); (case hg => rfl); (case hr => first | (go_simp; done) | (go_simp; rfl)); intro gb264 hg w49 hbox hb; have n0_ := Aside0.mk (below_step (by repeat (first | (with_reducible first | exact HB.out | apply below_alloc | apply pw_below_drewN | apply below_drew1) | exact HB.out)) hb); have n1_ := Aside0.mk (hbox); have n2_ := Aside0.mk ((by rw [hg]; exact (below_size (by repeat (first | (with_reducible first | exact HB.out | apply below_alloc | apply pw_below_drewN | apply below_drew1) | exact HB.out))) : w.heap.size ≤ gb264)); have n3_ := Aside0.mk ((by rw [hg]; exact (below_size (by repeat (first | (with_reducible first | exact HB.out | apply below_alloc | apply pw_below_drewN | apply below_drew1) | exact HB.out))) : w.heap.size ≤ gb264)); clear HB; have HB := n0_; have BK264 := n1_; have GW264 := n2_; have GE264 := n3_; clear n0_ n1_ n2_ n3_; clear hb hbox hg) | ((with_reducible refine gate_callee (f := 10) rfl ?_); refine goesL_ (some 13) rfl rfl Try.func10 (by kernel_rfl) rfl #[] rfl (by (try simp only [List.map_toArray, List.map_cons, List.map_nil]); first | done | rfl | (simp only [List.length_drop, List.length_take]; rfl)) ?_; (with_reducible refine (tinderlaw04_alive.calls k  true _ A3.out).mono ?_); rintro e w50 ⟨rfl, hb⟩; refine ⟨_, rfl, ?_⟩; have n0_ := Aside0.mk (blk_below (g := gb264) (o := .cells #[.int .u32 a1_0, .int .u32 a1_1, .int .u32 a1_2] 30 (0, 0)) (by (with_reducible repeat (first | refine blk_drewN ?_ _ | refine blk_drew ?_ | refine blk_alloc ?_ _)); exact BK264.out) hb); have n1_ := Aside0.mk (below_step (by repeat (first | (with_reducible first | exact HB.out | apply below_alloc | apply pw_below_drewN | apply below_drew1 | refine below_set ?_ GE264.out) | exact HB.out)) hb); clear BK264; clear HB; have BK264 := n0_; have HB := n1_; clear n0_ n1_; (try clear hb); (try clear hb2); (try clear hk); (try clear hi); have hcz51_0 : w50.cell? ⟨gb264, 0, none⟩ = some (.int .u32 a1_0) := (blk_cell BK264.out 0).trans rfl; have hcz51_1 : w50.cell? ⟨gb264, 1, none⟩ = some (.int .u32 a1_1) := (blk_cell BK264.out 1).trans rfl; have hcz51_2 : w50.cell? ⟨gb264, 2, none⟩ = some (.int .u32 a1_2) := (blk_cell BK264.out 2).trans rfl; have hfz51_0 := blk_frozen BK264.out 0; have hfz51_1 := blk_frozen BK264.out 1; have hfz51_2 := blk_frozen BK264.out 2) | ((with_reducible refine gate_callee (f := 21) rfl ?_); refine goesL_ (some 21) rfl rfl Try.func21 (by kernel_rfl) rfl #[.slice A0 l0.length c0, .int .u32 a1_0, .int .u32 a1_2] rfl (by (try simp only [List.map_toArray, List.map_cons, List.map_nil]); first | done | rfl | (simp only [List.length_drop, List.length_take]; rfl)) ?_; (with_reducible refine (mem_Text.calls _ _ l0 a1_0 a1_2 t266 t267 _ ?side1 ?side2 A5.out).mono ?_); (case side1 => repeat (first | exact (Kd.C_below HR0.out HB.out) | (with_reducible refine Kd.C_alloc ?_ _) | (with_reducible refine Kd.C_drewN ?_ _) | (with_reducible refine Kd.C_drew ?_))); (case side2 => exact HC0.out); rintro e w52 ⟨rfl, hb⟩; refine ⟨_, rfl, ?_⟩; have n0_ := Aside0.mk (blk_below (g := gb264) (o := .cells #[.int .u32 a1_0, .int .u32 a1_1, .int .u32 a1_2] 30 (0, 0)) (by (with_reducible repeat (first | refine blk_drewN ?_ _ | refine blk_drew ?_ | refine blk_alloc ?_ _)); exact BK264.out) hb); have n1_ := Aside0.mk (below_step (by repeat (first | (with_reducible first | exact HB.out | apply below_alloc | apply pw_below_drewN | apply below_drew1 | refine below_set ?_ GE264.out) | exact HB.out)) hb); clear BK264; clear HB; have BK264 := n0_; have HB := n1_; clear n0_ n1_; (try clear hb); (try clear hb2); (try clear hk); (try clear hi); have hcz53_0 : w52.cell? ⟨gb264, 0, none⟩ = some (.int .u32 a1_0) := (blk_cell BK264.out 0).trans rfl; have hcz53_1 : w52.cell? ⟨gb264, 1, none⟩ = some (.int .u32 a1_1) := (blk_cell BK264.out 1).trans rfl; have hcz53_2 : w52.cell? ⟨gb264, 2, none⟩ = some (.int .u32 a1_2) := (blk_cell BK264.out 2).trans rfl; have hfz53_0 := blk_frozen BK264.out 0; have hfz53_1 := blk_frozen BK264.out 1; have hfz53_2 := blk_frozen BK264.out 2) | ((with_reducible refine gate_callee (f := 25) rfl ?_); refine goesL_ (some 32) rfl rfl Try.func25 (by kernel_rfl) rfl #[.slice A0 l0.length c0, .int .u32 a1_0, .int .u32 a1_1, .int .u32 a1_2] rfl (by (try simp only [List.map_toArray, List.map_cons, List.map_nil]); first | done | rfl | (simp only [List.length_drop, List.length_take]; rfl)) ?_; (with_reducible refine (mem_Move.calls _ _ l0 a1_0 a1_1 a1_2 t268 t269 _ ?side1 ?side2 A6.out).mono ?_); (case side1 => repeat (first | exact (Kd.C_below HR0.out HB.out) | (with_reducible refine Kd.C_alloc ?_ _) | (with_reducible refine Kd.C_drewN ?_ _) | (with_reducible refine Kd.C_drew ?_))); (case side2 => exact HC0.out); rintro e w54 ⟨v270, rfl, ho0, hb⟩; refine ⟨_, rfl, ?_⟩; have n0_ := Aside0.mk (Kd.R_lower ho0 (below_size (by repeat (first | (with_reducible first | exact HB.out | apply below_alloc | apply pw_below_drewN | apply below_drew1 | refine below_set ?_ GE264.out) | exact HB.out)))); have n1_ := Aside0.mk (blk_below (g := gb264) (o := .cells #[.int .u32 a1_0, .int .u32 a1_1, .int .u32 a1_2] 30 (0, 0)) (by (with_reducible repeat (first | refine blk_drewN ?_ _ | refine blk_drew ?_ | refine blk_alloc ?_ _)); exact BK264.out) hb); have n2_ := Aside0.mk (below_step (by repeat (first | (with_reducible first | exact HB.out | apply below_alloc | apply pw_below_drewN | apply below_drew1 | refine below_set ?_ GE264.out) | exact HB.out)) hb); clear BK264; clear HB; have HO271 := n0_; have BK264 := n1_; have HB := n2_; clear n0_ n1_ n2_; (try clear hb); (try clear hb2); (try clear hk); (try clear hi); (try clear ho0); have hcz55_0 : w54.cell? ⟨gb264, 0, none⟩ = some (.int .u32 a1_0) := (blk_cell BK264.out 0).trans rfl; have hcz55_1 : w54.cell? ⟨gb264, 1, none⟩ = some (.int .u32 a1_1) := (blk_cell BK264.out 1).trans rfl; have hcz55_2 : w54.cell? ⟨gb264, 2, none⟩ = some (.int .u32 a1_2) := (blk_cell BK264.out 2).trans rfl; have hfz55_0 := blk_frozen BK264.out 0; have hfz55_1 := blk_frozen BK264.out 1; have hfz55_2 := blk_frozen BK264.out 2; obtain ⟨Ao56, co56, eo56⟩ := Kd.R_slice HO271.out; subst eo56) | ((with_reducible refine gate_callee (f := 21) rfl ?_); refine goesL_ (some 65) rfl rfl Try.func21 (by kernel_rfl) rfl #[.slice Ao56 t268.length co56, .int .u32 a1_1, .int .u32 a1_2] rfl (by (try simp only [List.map_toArray, List.map_cons, List.map_nil]); first | done | rfl | (simp only [List.length_drop, List.length_take]; rfl)) ?_; (with_reducible refine (mem_Text.calls _ _ t268 a1_1 a1_2 t272 t273 _ ?side1 ?side2 A8.out).mono ?_); (case side1 => repeat (first | exact (Kd.R_reads' HO271.out).2.2 | (with_reducible refine Kd.C_alloc ?_ _) | (with_reducible refine Kd.C_drewN ?_ _) | (with_reducible refine Kd.C_drew ?_))); (case side2 => exact (Kd.R_reads' HO271.out).2.1); rintro e w57 ⟨rfl, hb⟩; refine ⟨_, rfl, ?_⟩; have n0_ := Aside0.mk (Kd.R_below (by (with_reducible repeat (first | apply Kd.R_alloc | apply Kd.R_drewN | apply Kd.R_drew)); exact HO271.out) hb); have n1_ := Aside0.mk (blk_below (g := gb264) (o := .cells #[.int .u32 a1_0, .int .u32 a1_1, .int .u32 a1_2] 30 (0, 0)) (by (with_reducible repeat (first | refine blk_drewN ?_ _ | refine blk_drew ?_ | refine blk_alloc ?_ _)); exact BK264.out) hb); have n2_ := Aside0.mk (below_step (by repeat (first | (with_reducible first | exact HB.out | apply below_alloc | apply pw_below_drewN | apply below_drew1 | refine below_set ?_ GE264.out) | exact HB.out)) hb); clear HO271; clear BK264; clear HB; have HO271 := n0_; have BK264 := n1_; have HB := n2_; clear n0_ n1_ n2_; (try clear hb); (try clear hb2); (try clear hk); (try clear hi); have hcz58_0 : w57.cell? ⟨gb264, 0, none⟩ = some (.int .u32 a1_0) := (blk_cell BK264.out 0).trans rfl; have hcz58_1 : w57.cell? ⟨gb264, 1, none⟩ = some (.int .u32 a1_1) := (blk_cell BK264.out 1).trans rfl; have hcz58_2 : w57.cell? ⟨gb264, 2, none⟩ = some (.int .u32 a1_2) := (blk_cell BK264.out 2).trans rfl; have hfz58_0 := blk_frozen BK264.out 0; have hfz58_1 := blk_frozen BK264.out 1; have hfz58_2 := blk_frozen BK264.out 2) | ((with_reducible refine gate_callee (f := 23) rfl ?_); refine goesL_ (some 73) rfl rfl Try.func23 (by kernel_rfl) rfl #[.slice A0 l0.length c0, .int .u32 a1_1, .string t266] rfl (by (try simp only [List.map_toArray, List.map_cons, List.map_nil]); first | done | rfl | (simp only [List.length_drop, List.length_take]; rfl)) ?_; (with_reducible refine (mem_Put.calls _ _ l0 a1_1 t266 t274 t275 _ ?side1 ?side2 A9.out).mono ?_); (case side1 => repeat (first | exact (Kd.C_below HR0.out HB.out) | (with_reducible refine Kd.C_alloc ?_ _) | (with_reducible refine Kd.C_drewN ?_ _) | (with_reducible refine Kd.C_drew ?_))); (case side2 => exact HC0.out); rintro e w59 ⟨v276, rfl, ho0, hb⟩; refine ⟨_, rfl, ?_⟩; have n0_ := Aside0.mk (Kd.R_elder' (by (with_reducible repeat (first | apply Kd.R_alloc | apply Kd.R_drewN | apply Kd.R_drew)); exact HO271.out) (Kd.R_base ho0) hb); have n1_ := Aside0.mk (Kd.R_lower (Kd.R_new' ho0 (Kd.R_lt (by (with_reducible repeat (first | apply Kd.R_alloc | apply Kd.R_drewN | apply Kd.R_drew)); exact HO271.out))) (below_size (by repeat (first | (with_reducible first | exact HB.out | apply below_alloc | apply pw_below_drewN | apply below_drew1 | refine below_set ?_ GE264.out) | exact HB.out)))); have n2_ := Aside0.mk (blk_below (g := gb264) (o := .cells #[.int .u32 a1_0, .int .u32 a1_1, .int .u32 a1_2] 30 (0, 0)) (by (with_reducible repeat (first | refine blk_drewN ?_ _ | refine blk_drew ?_ | refine blk_alloc ?_ _)); exact BK264.out) hb); have n3_ := Aside0.mk (below_step (by repeat (first | (with_reducible first | exact HB.out | apply below_alloc | apply pw_below_drewN | apply below_drew1 | refine below_set ?_ GE264.out) | exact HB.out)) hb); clear HO271; clear BK264; clear HB; have HO271 := n0_; have HO277 := n1_; have BK264 := n2_; have HB := n3_; clear n0_ n1_ n2_ n3_; (try clear hb); (try clear hb2); (try clear hk); (try clear hi); (try clear ho0)))
          go_ret
          exact ⟨by first | rfl | (simp [errW_none, errW_some] <;> rfl) | (simp [*, errW_none, errW_some] <;> rfl), by repeat (first | (with_reducible first | exact HB.out | apply below_alloc | apply pw_below_drewN | apply below_drew1 | refine below_set ?_ GE264.out) | exact HB.out)⟩
      · rw [if_neg c10] at H
        have c10b0 : (t267 == 0) = false := beq_eq_false_iff_ne.mpr c10
        have c10b1 : (t267 != 0) = true := bne_iff_ne.mpr c10
        obtain rfl := Option.some.inj H
        go_enter Try.func8, Try.ntmps8
        go_wp2_with (first | ((with_reducible refine gate_dst (N := 3) rfl ?_); (try (refine gate_guard (by rfl) ?_; dsimp only)); refine box_event ?hg (N := 3) ?hd (cs := #[.int .u32 a1_0, .int .u32 a1_1, .int .u32 a1_2]) (t := 30) ?hr ?_; (case hd => rfl); (case hg => rfl); (case hr => first | (go_simp; done) | (go_simp; rfl)); intro gb264 hg w60 hbox hb; have n0_ := Aside0.mk (below_step (by repeat (first | (with_reducible first | exact HB.out | apply below_alloc | apply pw_below_drewN | apply below_drew1) | exact HB.out)) hb); have n1_ := Aside0.mk (hbox); have n2_ := Aside0.mk ((by rw [hg]; exact (below_size (by repeat (first | (with_reducible first | exact HB.out | apply below_alloc | apply pw_below_drewN | apply below_drew1) | exact HB.out))) : w.heap.size ≤ gb264)); have n3_ := Aside0.mk ((by rw [hg]; exact (below_size (by repeat (first | (with_reducible first | exact HB.out | apply below_alloc | apply pw_below_drewN | apply below_drew1) | exact HB.out))) : w.heap.size ≤ gb264)); clear HB; have HB := n0_; have BK264 := n1_; have GW264 := n2_; have GE264 := n3_; clear n0_ n1_ n2_ n3_; clear hb hbox hg) | ((with_reducible refine gate_callee (f := 10) rfl ?_); refine goesL_ (some 13) rfl rfl Try.func10 (by kernel_rfl) rfl #[] rfl (by (try simp only [List.map_toArray, List.map_cons, List.map_nil]); first | done | rfl | (simp only [List.length_drop, List.length_take]; rfl)) ?_; (with_reducible refine (tinderlaw04_alive.calls k  true _ A3.out).mono ?_); rintro e w61 ⟨rfl, hb⟩; refine ⟨_, rfl, ?_⟩; have n0_ := Aside0.mk (blk_below (g := gb264) (o := .cells #[.int .u32 a1_0, .int .u32 a1_1, .int .u32 a1_2] 30 (0, 0)) (by (with_reducible repeat (first | refine blk_drewN ?_ _ | refine blk_drew ?_ | refine blk_alloc ?_ _)); exact BK264.out) hb); have n1_ := Aside0.mk (below_step (by repeat (first | (with_reducible first | exact HB.out | apply below_alloc | apply pw_below_drewN | apply below_drew1 | refine below_set ?_ GE264.out) | exact HB.out)) hb); clear BK264; clear HB; have BK264 := n0_; have HB := n1_; clear n0_ n1_; (try clear hb); (try clear hb2); (try clear hk); (try clear hi); have hcz62_0 : w61.cell? ⟨gb264, 0, none⟩ = some (.int .u32 a1_0) := (blk_cell BK264.out 0).trans rfl; have hcz62_1 : w61.cell? ⟨gb264, 1, none⟩ = some (.int .u32 a1_1) := (blk_cell BK264.out 1).trans rfl; have hcz62_2 : w61.cell? ⟨gb264, 2, none⟩ = some (.int .u32 a1_2) := (blk_cell BK264.out 2).trans rfl; have hfz62_0 := blk_frozen BK264.out 0; have hfz62_1 := blk_frozen BK264.out 1; have hfz62_2 := blk_frozen BK264.out 2) | ((with_reducible refine gate_callee (f := 21) rfl ?_); refine goesL_ (some 21) rfl rfl Try.func21 (by kernel_rfl) rfl #[.slice A0 l0.length c0, .int .u32 a1_0, .int .u32 a1_2] rfl (by (try simp only [List.map_toArray, List.map_cons, List.map_nil]); first | done | rfl | (simp only [List.length_drop, List.length_take]; rfl)) ?_; (with_reducible refine (mem_Text.calls _ _ l0 a1_0 a1_2 t266 t267 _ ?side1 ?side2 A5.out).mono ?_); (case side1 => repeat (first | exact (Kd.C_below HR0.out HB.out) | (with_reducible refine Kd.C_alloc ?_ _) | (with_reducible refine Kd.C_drewN ?_ _) | (with_reducible refine Kd.C_drew ?_))); (case side2 => exact HC0.out); rintro e w63 ⟨rfl, hb⟩; refine ⟨_, rfl, ?_⟩; have n0_ := Aside0.mk (blk_below (g := gb264) (o := .cells #[.int .u32 a1_0, .int .u32 a1_1, .int .u32 a1_2] 30 (0, 0)) (by (with_reducible repeat (first | refine blk_drewN ?_ _ | refine blk_drew ?_ | refine blk_alloc ?_ _)); exact BK264.out) hb); have n1_ := Aside0.mk (below_step (by repeat (first | (with_reducible first | exact HB.out | apply below_alloc | apply pw_below_drewN | apply below_drew1 | refine below_set ?_ GE264.out) | exact HB.out)) hb); clear BK264; clear HB; have BK264 := n0_; have HB := n1_; clear n0_ n1_; (try clear hb); (try clear hb2); (try clear hk); (try clear hi); have hcz64_0 : w63.cell? ⟨gb264, 0, none⟩ = some (.int .u32 a1_0) := (blk_cell BK264.out 0).trans rfl; have hcz64_1 : w63.cell? ⟨gb264, 1, none⟩ = some (.int .u32 a1_1) := (blk_cell BK264.out 1).trans rfl; have hcz64_2 : w63.cell? ⟨gb264, 2, none⟩ = some (.int .u32 a1_2) := (blk_cell BK264.out 2).trans rfl; have hfz64_0 := blk_frozen BK264.out 0; have hfz64_1 := blk_frozen BK264.out 1; have hfz64_2 := blk_frozen BK264.out 2) | ((with_reducible refine gate_callee (f := 25) rfl ?_); refine goesL_ (some 32) rfl rfl Try.func25 (by kernel_rfl) rfl #[.slice A0 l0.length c0, .int .u32 a1_0, .int .u32 a1_1, .int .u32 a1_2] rfl (by (try simp only [List.map_toArray, List.map_cons, List.map_nil]); first | done | rfl | (simp only [List.length_drop, List.length_take]; rfl)) ?_; (with_reducible refine (mem_Move.calls _ _ l0 a1_0 a1_1 a1_2 t268 t269 _ ?side1 ?side2 A6.out).mono ?_); (case side1 => repeat (first | exact (Kd.C_below HR0.out HB.out) | (with_reducible refine Kd.C_alloc ?_ _) | (with_reducible refine Kd.C_drewN ?_ _) | (with_reducible refine Kd.C_drew ?_))); (case side2 => exact HC0.out); rintro e w65 ⟨v270, rfl, ho0, hb⟩; refine ⟨_, rfl, ?_⟩; have n0_ := Aside0.mk (Kd.R_lower ho0 (below_size (by repeat (first | (with_reducible first | exact HB.out | apply below_alloc | apply pw_below_drewN | apply below_drew1 | refine below_set ?_ GE264.out) | exact HB.out)))); have n1_ := Aside0.mk (blk_below (g := gb264) (o := .cells #[.int .u32 a1_0, .int .u32 a1_1, .int .u32 a1_2] 30 (0, 0)) (by (with_reducible repeat (first | refine blk_drewN ?_ _ | refine blk_drew ?_ | refine blk_alloc ?_ _)); exact BK264.out) hb); have n2_ := Aside0.mk (below_step (by repeat (first | (with_reducible first | exact HB.out | apply below_alloc | apply pw_below_drewN | apply below_drew1 | refine below_set ?_ GE264.out) | exact HB.out)) hb); clear BK264; clear HB; have HO271 := n0_; have BK264 := n1_; have HB := n2_; clear n0_ n1_ n2_; (try clear hb); (try clear hb2); (try clear hk); (try clear hi); (try clear ho0); have hcz66_0 : w65.cell? ⟨gb264, 0, none⟩ = some (.int .u32 a1_0) := (blk_cell BK264.out 0).trans rfl; have hcz66_1 : w65.cell? ⟨gb264, 1, none⟩ = some (.int .u32 a1_1) := (blk_cell BK264.out 1).trans rfl; have hcz66_2 : w65.cell? ⟨gb264, 2, none⟩ = some (.int .u32 a1_2) := (blk_cell BK264.out 2).trans rfl; have hfz66_0 := blk_frozen BK264.out 0; have hfz66_1 := blk_frozen BK264.out 1; have hfz66_2 := blk_frozen BK264.out 2; obtain ⟨Ao67, co67, eo67⟩ := Kd.R_slice HO271.out; subst eo67) | ((with_reducible refine gate_callee (f := 21) rfl ?_); refine goesL_ (some 65) rfl rfl Try.func21 (by kernel_rfl) rfl #[.slice Ao67 t268.length co67, .int .u32 a1_1, .int .u32 a1_2] rfl (by (try simp only [List.map_toArray, List.map_cons, List.map_nil]); first | done | rfl | (simp only [List.length_drop, List.length_take]; rfl)) ?_; (with_reducible refine (mem_Text.calls _ _ t268 a1_1 a1_2 t272 t273 _ ?side1 ?side2 A8.out).mono ?_); (case side1 => repeat (first | exact (Kd.R_reads' HO271.out).2.2 | (with_reducible refine Kd.C_alloc ?_ _) | (with_reducible refine Kd.C_drewN ?_ _) | (with_reducible refine Kd.C_drew ?_))); (case side2 => exact (Kd.R_reads' HO271.out).2.1); rintro e w68 ⟨rfl, hb⟩; refine ⟨_, rfl, ?_⟩; have n0_ := Aside0.mk (Kd.R_below (by (with_reducible repeat (first | apply Kd.R_alloc | apply Kd.R_drewN | apply Kd.R_drew)); exact HO271.out) hb); have n1_ := Aside0.mk (blk_below (g := gb264) (o := .cells #[.int .u32 a1_0, .int .u32 a1_1, .int .u32 a1_2] 30 (0, 0)) (by (with_reducible repeat (first | refine blk_drewN ?_ _ | refine blk_drew ?_ | refine blk_alloc ?_ _)); exact BK264.out) hb); have n2_ := Aside0.mk (below_step (by repeat (first | (with_reducible first | exact HB.out | apply below_alloc | apply pw_below_drewN | apply below_drew1 | refine below_set ?_ GE264.out) | exact HB.out)) hb); clear HO271; clear BK264; clear HB; have HO271 := n0_; have BK264 := n1_; have HB := n2_; clear n0_ n1_ n2_; (try clear hb); (try clear hb2); (try clear hk); (try clear hi); have hcz69_0 : w68.cell? ⟨gb264, 0, none⟩ = some (.int .u32 a1_0) := (blk_cell BK264.out 0).trans rfl; have hcz69_1 : w68.cell? ⟨gb264, 1, none⟩ = some (.int .u32 a1_1) := (blk_cell BK264.out 1).trans rfl; have hcz69_2 : w68.cell? ⟨gb264, 2, none⟩ = some (.int .u32 a1_2) := (blk_cell BK264.out 2).trans rfl; have hfz69_0 := blk_frozen BK264.out 0; have hfz69_1 := blk_frozen BK264.out 1; have hfz69_2 := blk_frozen BK264.out 2) | ((with_reducible refine gate_callee (f := 23) rfl ?_); refine goesL_ (some 73) rfl rfl Try.func23 (by kernel_rfl) rfl #[.slice A0 l0.length c0, .int .u32 a1_1, .string t266] rfl (by (try simp only [List.map_toArray, List.map_cons, List.map_nil]); first | done | rfl | (simp only [List.length_drop, List.length_take]; rfl)) ?_; (with_reducible refine (mem_Put.calls _ _ l0 a1_1 t266 t274 t275 _ ?side1 ?side2 A9.out).mono ?_); (case side1 => repeat (first | exact (Kd.C_below HR0.out HB.out) | (with_reducible refine Kd.C_alloc ?_ _) | (with_reducible refine Kd.C_drewN ?_ _) | (with_reducible refine Kd.C_drew ?_))); (case side2 => exact HC0.out); rintro e w70 ⟨v276, rfl, ho0, hb⟩; refine ⟨_, rfl, ?_⟩; have n0_ := Aside0.mk (Kd.R_elder' (by (with_reducible repeat (first | apply Kd.R_alloc | apply Kd.R_drewN | apply Kd.R_drew)); exact HO271.out) (Kd.R_base ho0) hb); have n1_ := Aside0.mk (Kd.R_lower (Kd.R_new' ho0 (Kd.R_lt (by (with_reducible repeat (first | apply Kd.R_alloc | apply Kd.R_drewN | apply Kd.R_drew)); exact HO271.out))) (below_size (by repeat (first | (with_reducible first | exact HB.out | apply below_alloc | apply pw_below_drewN | apply below_drew1 | refine below_set ?_ GE264.out) | exact HB.out)))); have n2_ := Aside0.mk (blk_below (g := gb264) (o := .cells #[.int .u32 a1_0, .int .u32 a1_1, .int .u32 a1_2] 30 (0, 0)) (by (with_reducible repeat (first | refine blk_drewN ?_ _ | refine blk_drew ?_ | refine blk_alloc ?_ _)); exact BK264.out) hb); have n3_ := Aside0.mk (below_step (by repeat (first | (with_reducible first | exact HB.out | apply below_alloc | apply pw_below_drewN | apply below_drew1 | refine below_set ?_ GE264.out) | exact HB.out)) hb); clear HO271; clear BK264; clear HB; have HO271 := n0_; have HO277 := n1_; have BK264 := n2_; have HB := n3_; clear n0_ n1_ n2_ n3_; (try clear hb); (try clear hb2); (try clear hk); (try clear hi); (try clear ho0)))
        go_ret
        exact ⟨by first | rfl | (simp [errW_none, errW_some] <;> rfl) | (simp [*, errW_none, errW_some] <;> rfl), by repeat (first | (with_reducible first | exact HB.out | apply below_alloc | apply pw_below_drewN | apply below_drew1 | refine below_set ?_ GE264.out) | exact HB.out)⟩
    · rw [if_neg c7] at H
      have c7b0 : (t269 == 0) = false := beq_eq_false_iff_ne.mpr c7
      have c7b1 : (t269 != 0) = true := bne_iff_ne.mpr c7
      by_cases c71 : t267 = 0
      · rw [if_pos c71] at H
        have c71b0 : (t267 == 0) = true := beq_iff_eq.mpr c71
        have c71b1 : (t267 != 0) = false := bne_eq_false_iff_eq.mpr c71
        clear c71
        by_cases c72 : (wrap64 (a1_1)) > (l0.length : Int)
        · rw [if_pos c72] at H
          have c72b0 : decide ((l0.length : Int) < (wrap64 (a1_1))) = true := decide_eq_true c72
          clear c72
          obtain rfl := Option.some.inj H
          go_enter Try.func8, Try.ntmps8
          go_wp2_with (first | ((with_reducible refine gate_dst (N := 3) rfl ?_); (try (refine gate_guard (by rfl) ?_; dsimp only)); refine box_event ?hg (N := 3) ?hd (cs := #[.int .u32 a1_0, .int .u32 a1_1, .int .u32 a1_2]) (t := 30) ?hr ?_; (case hd => rfl); (case hg => rfl); (case hr => first | (go_simp; done) | (go_simp; rfl)); intro gb264 hg w73 hbox hb; have n0_ := Aside0.mk (below_step (by repeat (first | (with_reducible first | exact HB.out | apply below_alloc | apply pw_below_drewN | apply below_drew1) | exact HB.out)) hb); have n1_ := Aside0.mk (hbox); have n2_ := Aside0.mk ((by rw [hg]; exact (below_size (by repeat (first | (with_reducible first | exact HB.out | apply below_alloc | apply pw_below_drewN | apply below_drew1) | exact HB.out))) : w.heap.size ≤ gb264)); have n3_ := Aside0.mk ((by rw [hg]; exact (below_size (by repeat (first | (with_reducible first | exact HB.out | apply below_alloc | apply pw_below_drewN | apply below_drew1) | exact HB.out))) : w.heap.size ≤ gb264)); clear HB; have HB := n0_; have BK264 := n1_; have GW264 := n2_; have GE264 := n3_; clear n0_ n1_ n2_ n3_; clear hb hbox hg) | ((with_reducible refine gate_callee (f := 10) rfl ?_); refine goesL_ (some 13) rfl rfl Try.func10 (by kernel_rfl) rfl #[] rfl (by (try simp only [List.map_toArray, List.map_cons, List.map_nil]); first | done | rfl | (simp only [List.length_drop, List.length_take]; rfl)) ?_; (with_reducible refine (tinderlaw04_alive.calls k  true _ A3.out).mono ?_); rintro e w74 ⟨rfl, hb⟩; refine ⟨_, rfl, ?_⟩; have n0_ := Aside0.mk (blk_below (g := gb264) (o := .cells #[.int .u32 a1_0, .int .u32 a1_1, .int .u32 a1_2] 30 (0, 0)) (by (with_reducible repeat (first | refine blk_drewN ?_ _ | refine blk_drew ?_ | refine blk_alloc ?_ _)); exact BK264.out) hb); have n1_ := Aside0.mk (below_step (by repeat (first | (with_reducible first | exact HB.out | apply below_alloc | apply pw_below_drewN | apply below_drew1 | refine below_set ?_ GE264.out) | exact HB.out)) hb); clear BK264; clear HB; have BK264 := n0_; have HB := n1_; clear n0_ n1_; (try clear hb); (try clear hb2); (try clear hk); (try clear hi); have hcz75_0 : w74.cell? ⟨gb264, 0, none⟩ = some (.int .u32 a1_0) := (blk_cell BK264.out 0).trans rfl; have hcz75_1 : w74.cell? ⟨gb264, 1, none⟩ = some (.int .u32 a1_1) := (blk_cell BK264.out 1).trans rfl; have hcz75_2 : w74.cell? ⟨gb264, 2, none⟩ = some (.int .u32 a1_2) := (blk_cell BK264.out 2).trans rfl; have hfz75_0 := blk_frozen BK264.out 0; have hfz75_1 := blk_frozen BK264.out 1; have hfz75_2 := blk_frozen BK264.out 2) | ((with_reducible refine gate_callee (f := 21) rfl ?_); refine goesL_ (some 21) rfl rfl Try.func21 (by kernel_rfl) rfl #[.slice A0 l0.length c0, .int .u32 a1_0, .int .u32 a1_2] rfl (by (try simp only [List.map_toArray, List.map_cons, List.map_nil]); first | done | rfl | (simp only [List.length_drop, List.length_take]; rfl)) ?_; (with_reducible refine (mem_Text.calls _ _ l0 a1_0 a1_2 t266 t267 _ ?side1 ?side2 A5.out).mono ?_); (case side1 => repeat (first | exact (Kd.C_below HR0.out HB.out) | (with_reducible refine Kd.C_alloc ?_ _) | (with_reducible refine Kd.C_drewN ?_ _) | (with_reducible refine Kd.C_drew ?_))); (case side2 => exact HC0.out); rintro e w76 ⟨rfl, hb⟩; refine ⟨_, rfl, ?_⟩; have n0_ := Aside0.mk (blk_below (g := gb264) (o := .cells #[.int .u32 a1_0, .int .u32 a1_1, .int .u32 a1_2] 30 (0, 0)) (by (with_reducible repeat (first | refine blk_drewN ?_ _ | refine blk_drew ?_ | refine blk_alloc ?_ _)); exact BK264.out) hb); have n1_ := Aside0.mk (below_step (by repeat (first | (with_reducible first | exact HB.out | apply below_alloc | apply pw_below_drewN | apply below_drew1 | refine below_set ?_ GE264.out) | exact HB.out)) hb); clear BK264; clear HB; have BK264 := n0_; have HB := n1_; clear n0_ n1_; (try clear hb); (try clear hb2); (try clear hk); (try clear hi); have hcz77_0 : w76.cell? ⟨gb264, 0, none⟩ = some (.int .u32 a1_0) := (blk_cell BK264.out 0).trans rfl; have hcz77_1 : w76.cell? ⟨gb264, 1, none⟩ = some (.int .u32 a1_1) := (blk_cell BK264.out 1).trans rfl; have hcz77_2 : w76.cell? ⟨gb264, 2, none⟩ = some (.int .u32 a1_2) := (blk_cell BK264.out 2).trans rfl; have hfz77_0 := blk_frozen BK264.out 0; have hfz77_1 := blk_frozen BK264.out 1; have hfz77_2 := blk_frozen BK264.out 2) | ((with_reducible refine gate_callee (f := 25) rfl ?_); refine goesL_ (some 32) rfl rfl Try.func25 (by kernel_rfl) rfl #[.slice A0 l0.length c0, .int .u32 a1_0, .int .u32 a1_1, .int .u32 a1_2] rfl (by (try simp only [List.map_toArray, List.map_cons, List.map_nil]); first | done | rfl | (simp only [List.length_drop, List.length_take]; rfl)) ?_; (with_reducible refine (mem_Move.calls _ _ l0 a1_0 a1_1 a1_2 t268 t269 _ ?side1 ?side2 A6.out).mono ?_); (case side1 => repeat (first | exact (Kd.C_below HR0.out HB.out) | (with_reducible refine Kd.C_alloc ?_ _) | (with_reducible refine Kd.C_drewN ?_ _) | (with_reducible refine Kd.C_drew ?_))); (case side2 => exact HC0.out); rintro e w78 ⟨v270, rfl, ho0, hb⟩; refine ⟨_, rfl, ?_⟩; have n0_ := Aside0.mk (Kd.R_lower ho0 (below_size (by repeat (first | (with_reducible first | exact HB.out | apply below_alloc | apply pw_below_drewN | apply below_drew1 | refine below_set ?_ GE264.out) | exact HB.out)))); have n1_ := Aside0.mk (blk_below (g := gb264) (o := .cells #[.int .u32 a1_0, .int .u32 a1_1, .int .u32 a1_2] 30 (0, 0)) (by (with_reducible repeat (first | refine blk_drewN ?_ _ | refine blk_drew ?_ | refine blk_alloc ?_ _)); exact BK264.out) hb); have n2_ := Aside0.mk (below_step (by repeat (first | (with_reducible first | exact HB.out | apply below_alloc | apply pw_below_drewN | apply below_drew1 | refine below_set ?_ GE264.out) | exact HB.out)) hb); clear BK264; clear HB; have HO271 := n0_; have BK264 := n1_; have HB := n2_; clear n0_ n1_ n2_; (try clear hb); (try clear hb2); (try clear hk); (try clear hi); (try clear ho0); have hcz79_0 : w78.cell? ⟨gb264, 0, none⟩ = some (.int .u32 a1_0) := (blk_cell BK264.out 0).trans rfl; have hcz79_1 : w78.cell? ⟨gb264, 1, none⟩ = some (.int .u32 a1_1) := (blk_cell BK264.out 1).trans rfl; have hcz79_2 : w78.cell? ⟨gb264, 2, none⟩ = some (.int .u32 a1_2) := (blk_cell BK264.out 2).trans rfl; have hfz79_0 := blk_frozen BK264.out 0; have hfz79_1 := blk_frozen BK264.out 1; have hfz79_2 := blk_frozen BK264.out 2))
          go_ret
          exact ⟨by first | rfl | (simp [errW_none, errW_some] <;> rfl) | (simp [*, errW_none, errW_some] <;> rfl), by repeat (first | (with_reducible first | exact HB.out | apply below_alloc | apply pw_below_drewN | apply below_drew1 | refine below_set ?_ GE264.out) | exact HB.out)⟩
        · rw [if_neg c72] at H
          have c72b0 : decide ((l0.length : Int) < (wrap64 (a1_1))) = false := decide_eq_false c72
          clear c72
          obtain rfl := Option.some.inj H
          go_enter Try.func8, Try.ntmps8
          go_wp2_with (first | ((with_reducible refine gate_dst (N := 3) rfl ?_); (try (refine gate_guard (by rfl) ?_; dsimp only)); refine box_event ?hg (N := 3) ?hd (cs := #[.int .u32 a1_0, .int .u32 a1_1, .int .u32 a1_2]) (t := 30) ?hr ?_; (case hd => rfl); (case hg => rfl); (case hr => first | (go_simp; done) | (go_simp; rfl)); intro gb264 hg w80 hbox hb; have n0_ := Aside0.mk (below_step (by repeat (first | (with_reducible first | exact HB.out | apply below_alloc | apply pw_below_drewN | apply below_drew1) | exact HB.out)) hb); have n1_ := Aside0.mk (hbox); have n2_ := Aside0.mk ((by rw [hg]; exact (below_size (by repeat (first | (with_reducible first | exact HB.out | apply below_alloc | apply pw_below_drewN | apply below_drew1) | exact HB.out))) : w.heap.size ≤ gb264)); have n3_ := Aside0.mk ((by rw [hg]; exact (below_size (by repeat (first | (with_reducible first | exact HB.out | apply below_alloc | apply pw_below_drewN | apply below_drew1) | exact HB.out))) : w.heap.size ≤ gb264)); clear HB; have HB := n0_; have BK264 := n1_; have GW264 := n2_; have GE264 := n3_; clear n0_ n1_ n2_ n3_; clear hb hbox hg) | ((with_reducible refine gate_callee (f := 10) rfl ?_); refine goesL_ (some 13) rfl rfl Try.func10 (by kernel_rfl) rfl #[] rfl (by (try simp only [List.map_toArray, List.map_cons, List.map_nil]); first | done | rfl | (simp only [List.length_drop, List.length_take]; rfl)) ?_; (with_reducible refine (tinderlaw04_alive.calls k  true _ A3.out).mono ?_); rintro e w81 ⟨rfl, hb⟩; refine ⟨_, rfl, ?_⟩; have n0_ := Aside0.mk (blk_below (g := gb264) (o := .cells #[.int .u32 a1_0, .int .u32 a1_1, .int .u32 a1_2] 30 (0, 0)) (by (with_reducible repeat (first | refine blk_drewN ?_ _ | refine blk_drew ?_ | refine blk_alloc ?_ _)); exact BK264.out) hb); have n1_ := Aside0.mk (below_step (by repeat (first | (with_reducible first | exact HB.out | apply below_alloc | apply pw_below_drewN | apply below_drew1 | refine below_set ?_ GE264.out) | exact HB.out)) hb); clear BK264; clear HB; have BK264 := n0_; have HB := n1_; clear n0_ n1_; (try clear hb); (try clear hb2); (try clear hk); (try clear hi); have hcz82_0 : w81.cell? ⟨gb264, 0, none⟩ = some (.int .u32 a1_0) := (blk_cell BK264.out 0).trans rfl; have hcz82_1 : w81.cell? ⟨gb264, 1, none⟩ = some (.int .u32 a1_1) := (blk_cell BK264.out 1).trans rfl; have hcz82_2 : w81.cell? ⟨gb264, 2, none⟩ = some (.int .u32 a1_2) := (blk_cell BK264.out 2).trans rfl; have hfz82_0 := blk_frozen BK264.out 0; have hfz82_1 := blk_frozen BK264.out 1; have hfz82_2 := blk_frozen BK264.out 2) | ((with_reducible refine gate_callee (f := 21) rfl ?_); refine goesL_ (some 21) rfl rfl Try.func21 (by kernel_rfl) rfl #[.slice A0 l0.length c0, .int .u32 a1_0, .int .u32 a1_2] rfl (by (try simp only [List.map_toArray, List.map_cons, List.map_nil]); first | done | rfl | (simp only [List.length_drop, List.length_take]; rfl)) ?_; (with_reducible refine (mem_Text.calls _ _ l0 a1_0 a1_2 t266 t267 _ ?side1 ?side2 A5.out).mono ?_); (case side1 => repeat (first | exact (Kd.C_below HR0.out HB.out) | (with_reducible refine Kd.C_alloc ?_ _) | (with_reducible refine Kd.C_drewN ?_ _) | (with_reducible refine Kd.C_drew ?_))); (case side2 => exact HC0.out); rintro e w83 ⟨rfl, hb⟩; refine ⟨_, rfl, ?_⟩; have n0_ := Aside0.mk (blk_below (g := gb264) (o := .cells #[.int .u32 a1_0, .int .u32 a1_1, .int .u32 a1_2] 30 (0, 0)) (by (with_reducible repeat (first | refine blk_drewN ?_ _ | refine blk_drew ?_ | refine blk_alloc ?_ _)); exact BK264.out) hb); have n1_ := Aside0.mk (below_step (by repeat (first | (with_reducible first | exact HB.out | apply below_alloc | apply pw_below_drewN | apply below_drew1 | refine below_set ?_ GE264.out) | exact HB.out)) hb); clear BK264; clear HB; have BK264 := n0_; have HB := n1_; clear n0_ n1_; (try clear hb); (try clear hb2); (try clear hk); (try clear hi); have hcz84_0 : w83.cell? ⟨gb264, 0, none⟩ = some (.int .u32 a1_0) := (blk_cell BK264.out 0).trans rfl; have hcz84_1 : w83.cell? ⟨gb264, 1, none⟩ = some (.int .u32 a1_1) := (blk_cell BK264.out 1).trans rfl; have hcz84_2 : w83.cell? ⟨gb264, 2, none⟩ = some (.int .u32 a1_2) := (blk_cell BK264.out 2).trans rfl; have hfz84_0 := blk_frozen BK264.out 0; have hfz84_1 := blk_frozen BK264.out 1; have hfz84_2 := blk_frozen BK264.out 2) | ((with_reducible refine gate_callee (f := 25) rfl ?_); refine goesL_ (some 32) rfl rfl Try.func25 (by kernel_rfl) rfl #[.slice A0 l0.length c0, .int .u32 a1_0, .int .u32 a1_1, .int .u32 a1_2] rfl (by (try simp only [List.map_toArray, List.map_cons, List.map_nil]); first | done | rfl | (simp only [List.length_drop, List.length_take]; rfl)) ?_; (with_reducible refine (mem_Move.calls _ _ l0 a1_0 a1_1 a1_2 t268 t269 _ ?side1 ?side2 A6.out).mono ?_); (case side1 => repeat (first | exact (Kd.C_below HR0.out HB.out) | (with_reducible refine Kd.C_alloc ?_ _) | (with_reducible refine Kd.C_drewN ?_ _) | (with_reducible refine Kd.C_drew ?_))); (case side2 => exact HC0.out); rintro e w85 ⟨v270, rfl, ho0, hb⟩; refine ⟨_, rfl, ?_⟩; have n0_ := Aside0.mk (Kd.R_lower ho0 (below_size (by repeat (first | (with_reducible first | exact HB.out | apply below_alloc | apply pw_below_drewN | apply below_drew1 | refine below_set ?_ GE264.out) | exact HB.out)))); have n1_ := Aside0.mk (blk_below (g := gb264) (o := .cells #[.int .u32 a1_0, .int .u32 a1_1, .int .u32 a1_2] 30 (0, 0)) (by (with_reducible repeat (first | refine blk_drewN ?_ _ | refine blk_drew ?_ | refine blk_alloc ?_ _)); exact BK264.out) hb); have n2_ := Aside0.mk (below_step (by repeat (first | (with_reducible first | exact HB.out | apply below_alloc | apply pw_below_drewN | apply below_drew1 | refine below_set ?_ GE264.out) | exact HB.out)) hb); clear BK264; clear HB; have HO271 := n0_; have BK264 := n1_; have HB := n2_; clear n0_ n1_ n2_; (try clear hb); (try clear hb2); (try clear hk); (try clear hi); (try clear ho0); have hcz86_0 : w85.cell? ⟨gb264, 0, none⟩ = some (.int .u32 a1_0) := (blk_cell BK264.out 0).trans rfl; have hcz86_1 : w85.cell? ⟨gb264, 1, none⟩ = some (.int .u32 a1_1) := (blk_cell BK264.out 1).trans rfl; have hcz86_2 : w85.cell? ⟨gb264, 2, none⟩ = some (.int .u32 a1_2) := (blk_cell BK264.out 2).trans rfl; have hfz86_0 := blk_frozen BK264.out 0; have hfz86_1 := blk_frozen BK264.out 1; have hfz86_2 := blk_frozen BK264.out 2))
          go_ret
          exact ⟨by first | rfl | (simp [errW_none, errW_some] <;> rfl) | (simp [*, errW_none, errW_some] <;> rfl), by repeat (first | (with_reducible first | exact HB.out | apply below_alloc | apply pw_below_drewN | apply below_drew1 | refine below_set ?_ GE264.out) | exact HB.out)⟩
      · rw [if_neg c71] at H
        have c71b0 : (t267 == 0) = false := beq_eq_false_iff_ne.mpr c71
        have c71b1 : (t267 != 0) = true := bne_iff_ne.mpr c71
        obtain rfl := Option.some.inj H
        go_enter Try.func8, Try.ntmps8
        go_wp2_with (first | ((with_reducible refine gate_dst (N := 3) rfl ?_); (try (refine gate_guard (by rfl) ?_; dsimp only)); refine box_event ?hg (N := 3) ?hd (cs := #[.int .u32 a1_0, .int .u32 a1_1, .int .u32 a1_2]) (t := 30) ?hr ?_; (case hd => rfl); (case hg => rfl); (case hr => first | (go_simp; done) | (go_simp; rfl)); intro gb264 hg w87 hbox hb; have n0_ := Aside0.mk (below_step (by repeat (first | (with_reducible first | exact HB.out | apply below_alloc | apply pw_below_drewN | apply below_drew1) | exact HB.out)) hb); have n1_ := Aside0.mk (hbox); have n2_ := Aside0.mk ((by rw [hg]; exact (below_size (by repeat (first | (with_reducible first | exact HB.out | apply below_alloc | apply pw_below_drewN | apply below_drew1) | exact HB.out))) : w.heap.size ≤ gb264)); have n3_ := Aside0.mk ((by rw [hg]; exact (below_size (by repeat (first | (with_reducible first | exact HB.out | apply below_alloc | apply pw_below_drewN | apply below_drew1) | exact HB.out))) : w.heap.size ≤ gb264)); clear HB; have HB := n0_; have BK264 := n1_; have GW264 := n2_; have GE264 := n3_; clear n0_ n1_ n2_ n3_; clear hb hbox hg) | ((with_reducible refine gate_callee (f := 10) rfl ?_); refine goesL_ (some 13) rfl rfl Try.func10 (by kernel_rfl) rfl #[] rfl (by (try simp only [List.map_toArray, List.map_cons, List.map_nil]); first | done | rfl | (simp only [List.length_drop, List.length_take]; rfl)) ?_; (with_reducible refine (tinderlaw04_alive.calls k  true _ A3.out).mono ?_); rintro e w88 ⟨rfl, hb⟩; refine ⟨_, rfl, ?_⟩; have n0_ := Aside0.mk (blk_below (g := gb264) (o := .cells #[.int .u32 a1_0, .int .u32 a1_1, .int .u32 a1_2] 30 (0, 0)) (by (with_reducible repeat (first | refine blk_drewN ?_ _ | refine blk_drew ?_ | refine blk_alloc ?_ _)); exact BK264.out) hb); have n1_ := Aside0.mk (below_step (by repeat (first | (with_reducible first | exact HB.out | apply below_alloc | apply pw_below_drewN | apply below_drew1 | refine below_set ?_ GE264.out) | exact HB.out)) hb); clear BK264; clear HB; have BK264 := n0_; have HB := n1_; clear n0_ n1_; (try clear hb); (try clear hb2); (try clear hk); (try clear hi); have hcz89_0 : w88.cell? ⟨gb264, 0, none⟩ = some (.int .u32 a1_0) := (blk_cell BK264.out 0).trans rfl; have hcz89_1 : w88.cell? ⟨gb264, 1, none⟩ = some (.int .u32 a1_1) := (blk_cell BK264.out 1).trans rfl; have hcz89_2 : w88.cell? ⟨gb264, 2, none⟩ = some (.int .u32 a1_2) := (blk_cell BK264.out 2).trans rfl; have hfz89_0 := blk_frozen BK264.out 0; have hfz89_1 := blk_frozen BK264.out 1; have hfz89_2 := blk_frozen BK264.out 2) | ((with_reducible refine gate_callee (f := 21) rfl ?_); refine goesL_ (some 21) rfl rfl Try.func21 (by kernel_rfl) rfl #[.slice A0 l0.length c0, .int .u32 a1_0, .int .u32 a1_2] rfl (by (try simp only [List.map_toArray, List.map_cons, List.map_nil]); first | done | rfl | (simp only [List.length_drop, List.length_take]; rfl)) ?_; (with_reducible refine (mem_Text.calls _ _ l0 a1_0 a1_2 t266 t267 _ ?side1 ?side2 A5.out).mono ?_); (case side1 => repeat (first | exact (Kd.C_below HR0.out HB.out) | (with_reducible refine Kd.C_alloc ?_ _) | (with_reducible refine Kd.C_drewN ?_ _) | (with_reducible refine Kd.C_drew ?_))); (case side2 => exact HC0.out); rintro e w90 ⟨rfl, hb⟩; refine ⟨_, rfl, ?_⟩; have n0_ := Aside0.mk (blk_below (g := gb264) (o := .cells #[.int .u32 a1_0, .int .u32 a1_1, .int .u32 a1_2] 30 (0, 0)) (by (with_reducible repeat (first | refine blk_drewN ?_ _ | refine blk_drew ?_ | refine blk_alloc ?_ _)); exact BK264.out) hb); have n1_ := Aside0.mk (below_step (by repeat (first | (with_reducible first | exact HB.out | apply below_alloc | apply pw_below_drewN | apply below_drew1 | refine below_set ?_ GE264.out) | exact HB.out)) hb); clear BK264; clear HB; have BK264 := n0_; have HB := n1_; clear n0_ n1_; (try clear hb); (try clear hb2); (try clear hk); (try clear hi); have hcz91_0 : w90.cell? ⟨gb264, 0, none⟩ = some (.int .u32 a1_0) := (blk_cell BK264.out 0).trans rfl; have hcz91_1 : w90.cell? ⟨gb264, 1, none⟩ = some (.int .u32 a1_1) := (blk_cell BK264.out 1).trans rfl; have hcz91_2 : w90.cell? ⟨gb264, 2, none⟩ = some (.int .u32 a1_2) := (blk_cell BK264.out 2).trans rfl; have hfz91_0 := blk_frozen BK264.out 0; have hfz91_1 := blk_frozen BK264.out 1; have hfz91_2 := blk_frozen BK264.out 2) | ((with_reducible refine gate_callee (f := 25) rfl ?_); refine goesL_ (some 32) rfl rfl Try.func25 (by kernel_rfl) rfl #[.slice A0 l0.length c0, .int .u32 a1_0, .int .u32 a1_1, .int .u32 a1_2] rfl (by (try simp only [List.map_toArray, List.map_cons, List.map_nil]); first | done | rfl | (simp only [List.length_drop, List.length_take]; rfl)) ?_; (with_reducible refine (mem_Move.calls _ _ l0 a1_0 a1_1 a1_2 t268 t269 _ ?side1 ?side2 A6.out).mono ?_); (case side1 => repeat (first | exact (Kd.C_below HR0.out HB.out) | (with_reducible refine Kd.C_alloc ?_ _) | (with_reducible refine Kd.C_drewN ?_ _) | (with_reducible refine Kd.C_drew ?_))); (case side2 => exact HC0.out); rintro e w92 ⟨v270, rfl, ho0, hb⟩; refine ⟨_, rfl, ?_⟩; have n0_ := Aside0.mk (Kd.R_lower ho0 (below_size (by repeat (first | (with_reducible first | exact HB.out | apply below_alloc | apply pw_below_drewN | apply below_drew1 | refine below_set ?_ GE264.out) | exact HB.out)))); have n1_ := Aside0.mk (blk_below (g := gb264) (o := .cells #[.int .u32 a1_0, .int .u32 a1_1, .int .u32 a1_2] 30 (0, 0)) (by (with_reducible repeat (first | refine blk_drewN ?_ _ | refine blk_drew ?_ | refine blk_alloc ?_ _)); exact BK264.out) hb); have n2_ := Aside0.mk (below_step (by repeat (first | (with_reducible first | exact HB.out | apply below_alloc | apply pw_below_drewN | apply below_drew1 | refine below_set ?_ GE264.out) | exact HB.out)) hb); clear BK264; clear HB; have HO271 := n0_; have BK264 := n1_; have HB := n2_; clear n0_ n1_ n2_; (try clear hb); (try clear hb2); (try clear hk); (try clear hi); (try clear ho0)))
        go_ret
        exact ⟨by first | rfl | (simp [errW_none, errW_some] <;> rfl) | (simp [*, errW_none, errW_some] <;> rfl), by repeat (first | (with_reducible first | exact HB.out | apply below_alloc | apply pw_below_drewN | apply below_drew1 | refine below_set ?_ GE264.out) | exact HB.out)⟩
  · replace c4 := Bool.eq_false_iff.mpr c4
    subst c4
    have H1 : (some false) = some r := by rw [if_neg (show ¬ (false = true) by decide)] at H; exact H
    clear H
    have H := H1
    clear H1
    obtain rfl := Option.some.inj H
    go_enter Try.func8, Try.ntmps8
    go_wp2_with (first | ((with_reducible refine gate_dst (N := 3) rfl ?_); (try (refine gate_guard (by rfl) ?_; dsimp only)); refine box_event ?hg (N := 3) ?hd (cs := #[.int .u32 a1_0, .int .u32 a1_1, .int .u32 a1_2]) (t := 30) ?hr ?_; (case hd => rfl); (case hg => rfl); (case hr => first | (go_simp; done) | (go_simp; rfl)); intro gb264 hg w93 hbox hb; have n0_ := Aside0.mk (below_step (by repeat (first | (with_reducible first | exact HB.out | apply below_alloc | apply pw_below_drewN | apply below_drew1) | exact HB.out)) hb); have n1_ := Aside0.mk (hbox); have n2_ := Aside0.mk ((by rw [hg]; exact (below_size (by repeat (first | (with_reducible first | exact HB.out | apply below_alloc | apply pw_below_drewN | apply below_drew1) | exact HB.out))) : w.heap.size ≤ gb264)); have n3_ := Aside0.mk ((by rw [hg]; exact (below_size (by repeat (first | (with_reducible first | exact HB.out | apply below_alloc | apply pw_below_drewN | apply below_drew1) | exact HB.out))) : w.heap.size ≤ gb264)); clear HB; have HB := n0_; have BK264 := n1_; have GW264 := n2_; have GE264 := n3_; clear n0_ n1_ n2_ n3_; clear hb hbox hg) | ((with_reducible refine gate_callee (f := 10) rfl ?_); refine goesL_ (some 13) rfl rfl Try.func10 (by kernel_rfl) rfl #[] rfl (by (try simp only [List.map_toArray, List.map_cons, List.map_nil]); first | done | rfl | (simp only [List.length_drop, List.length_take]; rfl)) ?_; (with_reducible refine (tinderlaw04_alive.calls k  false _ A3.out).mono ?_); rintro e w94 ⟨rfl, hb⟩; refine ⟨_, rfl, ?_⟩; have n0_ := Aside0.mk (blk_below (g := gb264) (o := .cells #[.int .u32 a1_0, .int .u32 a1_1, .int .u32 a1_2] 30 (0, 0)) (by (with_reducible repeat (first | refine blk_drewN ?_ _ | refine blk_drew ?_ | refine blk_alloc ?_ _)); exact BK264.out) hb); have n1_ := Aside0.mk (below_step (by repeat (first | (with_reducible first | exact HB.out | apply below_alloc | apply pw_below_drewN | apply below_drew1 | refine below_set ?_ GE264.out) | exact HB.out)) hb); clear BK264; clear HB; have BK264 := n0_; have HB := n1_; clear n0_ n1_; (try clear hb); (try clear hb2); (try clear hk); (try clear hi)))
    go_ret
    exact ⟨by first | rfl | (simp [errW_none, errW_some] <;> rfl) | (simp [*, errW_none, errW_some] <;> rfl), by repeat (first | (with_reducible first | exact HB.out | apply below_alloc | apply pw_below_drewN | apply below_drew1 | refine below_set ?_ GE264.out) | exact HB.out)⟩

/-- THE ONE PURE STATEMENT of tinderlaw04_MemCarries. -/
def tinderlaw04_MemCarries.Pure : Prop := ∀ (l0 : List Int) (a1_0 : Int) (a1_1 : Int) (a1_2 : Int), l0.length ≤ maxLen → l0.length * 1 ≤ 140737488351232 → (∀ x ∈ l0, (Lit.int .u8 x).wf = true) → (Lit.int .u32 a1_0).wf = true → (Lit.int .u32 a1_1).wf = true → (Lit.int .u32 a1_2).wf = true → ∃ k, tinderlaw04_MemCarries.f k l0 a1_0 a1_1 a1_2 = some true
theorem tinderlaw04_MemCarries.walk (P : tinderlaw04_MemCarries.Pure) (a0 : Option Addr) (len0 cap0 : Nat) (z0 : List Int) (a1_0 : Int) (a1_1 : Int) (a1_2 : Int) (w : World) (w0 : (a0 = none ∧ len0 = 0 ∧ cap0 = 0 ∧ z0 = []) ∨ ∃ x, a0 = some x ∧ len0 ≤ cap0 ∧ cap0 ≤ maxLen ∧ z0.length = cap0 ∧ (∀ i, i < z0.length → w.cell? (x.add i) = some (.int .u8 (z0.getD i 0))) ∧ ∀ n ∈ z0, (Lit.int .u8 n).wf = true) (y0 : len0 * 1 ≤ 140737488351232) (w1_0 : (Lit.int .u32 a1_0).wf = true) (w1_1 : (Lit.int .u32 a1_1).wf = true) (w1_2 : (Lit.int .u32 a1_2).wf = true) :
    Calls Try.prog 8 #[.slice a0 len0 cap0, .agg #[.int .u32 a1_0, .int .u32 a1_1, .int .u32 a1_2]] w fun e w' => e = .returned (.bool true) ∧ Below w.heap.size w w' := by
  obtain ⟨l0, rfl, hr0, hm0, hw0, hc0⟩ := ReadsInt.ofRowC w0
  obtain ⟨k, h⟩ := P l0 a1_0 a1_1 a1_2 hm0 y0 hw0 w1_0 w1_1 w1_2
  refine (tinderlaw04_MemCarries.calls k _ _ l0 a1_0 a1_1 a1_2 true w (Kd.C_of_reads (d := (0 : Int)) (h1 := fun _ => rfl) hr0) hc0 h).mono ?_
  rintro e w' ⟨rfl, hd⟩
  exact ⟨rfl, hd⟩

/-! ### tinderref04_Move: function 26 -/
def tinderref04_Move.f (l0 : List Int) (a1 : Int) (a2 : Int) (a3 : Int) : Option (List Int × Int) := (tinderref04_Text.f l0 a1 a3).bind fun bt279 => (if bt279.2 = 0 then ((tinderref04_In.f l0 a2 a3).bind fun t281 => (if t281 = true then ((tinderref04_Put.f l0 a2 bt279.1).bind fun bt282 => (some (bt282.1, bt282.2))) else (some (([] : List Int), 9)))) else (some (([] : List Int), 9)))
set_option maxHeartbeats 8000000 in
set_option maxRecDepth 100000 in
theorem tinderref04_Move.calls (A0 : Option Addr) (c0 : Nat) (l0 : List Int) (a1 : Int) (a2 : Int) (a3 : Int) (r1 : List Int) (r2 : Int) (w : World) (hr0 : Kd.C (Kd.int .u8) w A0 l0.length l0) (hc0 : l0.length ≤ c0) (h : tinderref04_Move.f l0 a1 a2 a3 = some (r1, r2)) :
    Calls Try.prog 26 #[.slice A0 l0.length c0, .int .u32 a1, .int .u32 a2, .int .u32 a3] w fun e w' => ∃ v0_ : Value, e = .returned (.tuple #[v0_, .int .i64 r2]) ∧ Kd.R (Kd.int .u8) 5 w' w.heap.size (fun _ => True) v0_ r1 ∧ Below w.heap.size w w' := by
  have HR0 := Aside0.mk hr0
  have HC0 := Aside0.mk hc0
  clear hr0 hc0
  have HB := Aside0.mk (Below.refl w.heap.size w)
  have H : ((tinderref04_Text.f l0 a1 a3).bind fun bt279 => (if bt279.2 = 0 then ((tinderref04_In.f l0 a2 a3).bind fun t281 => (if t281 = true then ((tinderref04_Put.f l0 a2 bt279.1).bind fun bt282 => (some (bt282.1, bt282.2))) else (some (([] : List Int), 9)))) else (some (([] : List Int), 9)))) = some (r1, r2) := h
  clear h
  replace H := Option.bind_eq_some_iff.mp H
  obtain ⟨⟨t279, t280⟩, A50, H⟩ := H
  replace H : (if t280 = 0 then ((tinderref04_In.f l0 a2 a3).bind fun t281 => (if t281 = true then ((tinderref04_Put.f l0 a2 t279).bind fun bt282 => (some (bt282.1, bt282.2))) else (some (([] : List Int), 9)))) else (some (([] : List Int), 9))) = some (r1, r2) := H
  have A5 := Aside0.mk A50
  clear A50
  by_cases c6 : t280 = 0
  · rw [if_pos c6] at H
    have c6b0 : (t280 == 0) = true := beq_iff_eq.mpr c6
    have c6b1 : (t280 != 0) = false := bne_eq_false_iff_eq.mpr c6
    clear c6
    replace H := Option.bind_eq_some_iff.mp H
    obtain ⟨t281, A70, H⟩ := H
    replace H : (if t281 = true then ((tinderref04_Put.f l0 a2 t279).bind fun bt282 => (some (bt282.1, bt282.2))) else (some (([] : List Int), 9))) = some (r1, r2) := H
    have A7 := Aside0.mk A70
    clear A70
    by_cases c8 : t281 = true
    · subst c8
      have H1 : ((tinderref04_Put.f l0 a2 t279).bind fun bt282 => (some (bt282.1, bt282.2))) = some (r1, r2) := by rw [if_pos rfl] at H; exact H
      clear H
      have H := H1
      clear H1
      replace H := Option.bind_eq_some_iff.mp H
      obtain ⟨⟨t282, t283⟩, A90, H⟩ := H
      replace H : (some (t282, t283)) = some (r1, r2) := H
      have A9 := Aside0.mk A90
      clear A90
      simp only [Option.some.injEq, Prod.mk.injEq] at H
      obtain ⟨rfl, rfl⟩ := H
      go_enter Try.func26, Try.ntmps26
      go_wp2_with (first | ((with_reducible refine gate_callee (f := 22) rfl ?_); refine goesL_ (some 16) rfl rfl Try.func22 (by kernel_rfl) rfl #[.slice A0 l0.length c0, .int .u32 a1, .int .u32 a3] rfl (by (try simp only [List.map_toArray, List.map_cons, List.map_nil]); first | done | rfl | (simp only [List.length_drop, List.length_take]; rfl)) ?_; (with_reducible refine (tinderref04_Text.calls _ _ l0 a1 a3 t279 t280 _ ?side1 ?side2 A5.out).mono ?_); (case side1 => repeat (first | exact HR0.out | (with_reducible refine Kd.C_alloc ?_ _) | (with_reducible refine Kd.C_drewN ?_ _) | (with_reducible refine Kd.C_drew ?_))); (case side2 => exact HC0.out); rintro e w' ⟨rfl, ⟨nd, rfl⟩⟩; refine ⟨_, rfl, ?_⟩) | (go_at_call 31; (with_reducible refine (tinderref04_In.calls _ _ l0 a2 a3 true _ ?side1 ?side2 A7.out).mono ?_); (case side1 => repeat (first | exact HR0.out | (with_reducible refine Kd.C_alloc ?_ _) | (with_reducible refine Kd.C_drewN ?_ _) | (with_reducible refine Kd.C_drew ?_))); (case side2 => exact HC0.out); rintro e w' ⟨rfl, ⟨nd, rfl⟩⟩) | ((with_reducible refine gate_callee (f := 24) rfl ?_); refine goesL_ (some 31) rfl rfl Try.func24 (by kernel_rfl) rfl #[.slice A0 l0.length c0, .int .u32 a2, .string t279] rfl (by (try simp only [List.map_toArray, List.map_cons, List.map_nil]); first | done | rfl | (simp only [List.length_drop, List.length_take]; rfl)) ?_; (with_reducible refine (tinderref04_Put.calls _ _ l0 a2 t279 t282 t283 _ ?side1 ?side2 A9.out).mono ?_); (case side1 => repeat (first | exact HR0.out | (with_reducible refine Kd.C_alloc ?_ _) | (with_reducible refine Kd.C_drewN ?_ _) | (with_reducible refine Kd.C_drew ?_))); (case side2 => exact HC0.out); rintro e w10 ⟨v284, rfl, ho0, hb⟩; refine ⟨_, rfl, ?_⟩; have n0_ := Aside0.mk (Kd.R_lower ho0 (below_size (by repeat (first | (with_reducible first | exact HB.out | apply below_alloc | apply pw_below_drewN | apply below_drew1) | exact HB.out)))); have n1_ := Aside0.mk (below_step (by repeat (first | (with_reducible first | exact HB.out | apply below_alloc | apply pw_below_drewN | apply below_drew1) | exact HB.out)) hb); clear HB; have HO285 := n0_; have HB := n1_; clear n0_ n1_; (try clear hb); (try clear hb2); (try clear hk); (try clear hi); (try clear ho0)))
      go_ret2
      exact ⟨_, by first | rfl | (simp [errW_none, errW_some] <;> rfl) | (simp [*, errW_none, errW_some] <;> rfl), by (with_reducible repeat (first | apply Kd.R_alloc | apply Kd.R_drewN | apply Kd.R_drew)); exact HO285.out, by repeat (first | (with_reducible first | exact HB.out | apply below_alloc | apply pw_below_drewN | apply below_drew1) | exact HB.out)⟩
    · replace c8 := Bool.eq_false_iff.mpr c8
      subst c8
      have H1 : (some (([] : List Int), 9)) = some (r1, r2) := by rw [if_neg (show ¬ (false = true) by decide)] at H; exact H
      clear H
      have H := H1
      clear H1
      simp only [Option.some.injEq, Prod.mk.injEq] at H
      obtain ⟨rfl, rfl⟩ := H
      go_enter Try.func26, Try.ntmps26
      go_wp2_with (first | ((with_reducible refine gate_callee (f := 22) rfl ?_); refine goesL_ (some 16) rfl rfl Try.func22 (by kernel_rfl) rfl #[.slice A0 l0.length c0, .int .u32 a1, .int .u32 a3] rfl (by (try simp only [List.map_toArray, List.map_cons, List.map_nil]); first | done | rfl | (simp only [List.length_drop, List.length_take]; rfl)) ?_; (with_reducible refine (tinderref04_Text.calls _ _ l0 a1 a3 t279 t280 _ ?side1 ?side2 A5.out).mono ?_); (case side1 => repeat (first | exact HR0.out | (with_reducible refine Kd.C_alloc ?_ _) | (with_reducible refine Kd.C_drewN ?_ _) | (with_reducible refine Kd.C_drew ?_))); (case side2 => exact HC0.out); rintro e w' ⟨rfl, ⟨nd, rfl⟩⟩; refine ⟨_, rfl, ?_⟩) | (go_at_call 31; (with_reducible refine (tinderref04_In.calls _ _ l0 a2 a3 false _ ?side1 ?side2 A7.out).mono ?_); (case side1 => repeat (first | exact HR0.out | (with_reducible refine Kd.C_alloc ?_ _) | (with_reducible refine Kd.C_drewN ?_ _) | (with_reducible refine Kd.C_drew ?_))); (case side2 => exact HC0.out); rintro e w' ⟨rfl, ⟨nd, rfl⟩⟩))
      go_ret2
      exact ⟨_, by first | rfl | (simp [errW_none, errW_some] <;> rfl) | (simp [*, errW_none, errW_some] <;> rfl), by first | exact Kd.R_nil _ _ _ _ _ | exact Kd.N_nil _ _ _ _ _ | exact Kd.V_nil _ _ _ _ _ | exact Kd.Q_nil _ _ _ _ _ | exact Kd.S_nil _ _ _ _ _, by repeat (first | (with_reducible first | exact HB.out | apply below_alloc | apply pw_below_drewN | apply below_drew1) | exact HB.out)⟩
  · rw [if_neg c6] at H
    have c6b0 : (t280 == 0) = false := beq_eq_false_iff_ne.mpr c6
    have c6b1 : (t280 != 0) = true := bne_iff_ne.mpr c6
    simp only [Option.some.injEq, Prod.mk.injEq] at H
    obtain ⟨rfl, rfl⟩ := H
    go_enter Try.func26, Try.ntmps26
    go_wp2_with (first | ((with_reducible refine gate_callee (f := 22) rfl ?_); refine goesL_ (some 16) rfl rfl Try.func22 (by kernel_rfl) rfl #[.slice A0 l0.length c0, .int .u32 a1, .int .u32 a3] rfl (by (try simp only [List.map_toArray, List.map_cons, List.map_nil]); first | done | rfl | (simp only [List.length_drop, List.length_take]; rfl)) ?_; (with_reducible refine (tinderref04_Text.calls _ _ l0 a1 a3 t279 t280 _ ?side1 ?side2 A5.out).mono ?_); (case side1 => repeat (first | exact HR0.out | (with_reducible refine Kd.C_alloc ?_ _) | (with_reducible refine Kd.C_drewN ?_ _) | (with_reducible refine Kd.C_drew ?_))); (case side2 => exact HC0.out); rintro e w' ⟨rfl, ⟨nd, rfl⟩⟩; refine ⟨_, rfl, ?_⟩))
    go_ret2
    exact ⟨_, by first | rfl | (simp [errW_none, errW_some] <;> rfl) | (simp [*, errW_none, errW_some] <;> rfl), by first | exact Kd.R_nil _ _ _ _ _ | exact Kd.N_nil _ _ _ _ _ | exact Kd.V_nil _ _ _ _ _ | exact Kd.Q_nil _ _ _ _ _ | exact Kd.S_nil _ _ _ _ _, by repeat (first | (with_reducible first | exact HB.out | apply below_alloc | apply pw_below_drewN | apply below_drew1) | exact HB.out)⟩

/-! ### bits_Mul32: function 39 -/
def bits_Mul32.f (a0 : Int) (a1 : Int) : Option (Int × Int) := some (((IntKind.u64.wrap ((IntKind.u64.wrap (a0)) * (IntKind.u64.wrap (a1)))) / 4294967296) % 4294967296, (IntKind.u64.wrap ((IntKind.u64.wrap (a0)) * (IntKind.u64.wrap (a1)))) % 4294967296)
set_option maxHeartbeats 8000000 in
set_option maxRecDepth 100000 in
theorem bits_Mul32.calls (a0 : Int) (a1 : Int) (r1 : Int) (r2 : Int) (w : World) (h : bits_Mul32.f a0 a1 = some (r1, r2)) :
    Calls Try.prog 39 #[.int .u32 a0, .int .u32 a1] w fun e w' => e = .returned (.tuple #[.int .u32 r1, .int .u32 r2]) ∧ Drawn0 w w' := by
  have H : (some (((IntKind.u64.wrap ((IntKind.u64.wrap (a0)) * (IntKind.u64.wrap (a1)))) / 4294967296) % 4294967296, (IntKind.u64.wrap ((IntKind.u64.wrap (a0)) * (IntKind.u64.wrap (a1)))) % 4294967296)) = some (r1, r2) := h
  clear h
  simp only [Option.some.injEq, Prod.mk.injEq] at H
  obtain ⟨rfl, rfl⟩ := H
  go_enter Try.func39, Try.ntmps39
  go_wp2
  go_ret2
  exact ⟨by first | rfl | (simp; done) | (simp [*]; done), by repeat (first | exact Drawn0.refl _ | apply Drawn0.step)⟩

/-! ### bits_Mul64: function 40 -/
def bits_Mul64.f (a0 : Int) (a1 : Int) : Option (Int × Int) := some (IntKind.u64.wrap ((IntKind.u64.wrap ((IntKind.u64.wrap ((a0 / 4294967296) * (a1 / 4294967296))) + ((IntKind.u64.wrap ((IntKind.u64.wrap ((a0 / 4294967296) * (Go.bits .and .u64 a1 4294967295))) + ((IntKind.u64.wrap ((Go.bits .and .u64 a0 4294967295) * (Go.bits .and .u64 a1 4294967295))) / 4294967296))) / 4294967296))) + ((IntKind.u64.wrap ((Go.bits .and .u64 (IntKind.u64.wrap ((IntKind.u64.wrap ((a0 / 4294967296) * (Go.bits .and .u64 a1 4294967295))) + ((IntKind.u64.wrap ((Go.bits .and .u64 a0 4294967295) * (Go.bits .and .u64 a1 4294967295))) / 4294967296))) 4294967295) + (IntKind.u64.wrap ((Go.bits .and .u64 a0 4294967295) * (a1 / 4294967296))))) / 4294967296)), IntKind.u64.wrap (a0 * a1))
set_option maxHeartbeats 8000000 in
set_option maxRecDepth 100000 in
theorem bits_Mul64.calls (a0 : Int) (a1 : Int) (r1 : Int) (r2 : Int) (w : World) (h : bits_Mul64.f a0 a1 = some (r1, r2)) :
    Calls Try.prog 40 #[.int .u64 a0, .int .u64 a1] w fun e w' => e = .returned (.tuple #[.int .u64 r1, .int .u64 r2]) ∧ Drawn0 w w' := by
  have H : (some (IntKind.u64.wrap ((IntKind.u64.wrap ((IntKind.u64.wrap ((a0 / 4294967296) * (a1 / 4294967296))) + ((IntKind.u64.wrap ((IntKind.u64.wrap ((a0 / 4294967296) * (Go.bits .and .u64 a1 4294967295))) + ((IntKind.u64.wrap ((Go.bits .and .u64 a0 4294967295) * (Go.bits .and .u64 a1 4294967295))) / 4294967296))) / 4294967296))) + ((IntKind.u64.wrap ((Go.bits .and .u64 (IntKind.u64.wrap ((IntKind.u64.wrap ((a0 / 4294967296) * (Go.bits .and .u64 a1 4294967295))) + ((IntKind.u64.wrap ((Go.bits .and .u64 a0 4294967295) * (Go.bits .and .u64 a1 4294967295))) / 4294967296))) 4294967295) + (IntKind.u64.wrap ((Go.bits .and .u64 a0 4294967295) * (a1 / 4294967296))))) / 4294967296)), IntKind.u64.wrap (a0 * a1))) = some (r1, r2) := h
  clear h
  simp only [Option.some.injEq, Prod.mk.injEq] at H
  obtain ⟨rfl, rfl⟩ := H
  go_enter Try.func40, Try.ntmps40
  go_wp2
  go_ret2
  exact ⟨by first | rfl | (simp; done) | (simp [*]; done), by repeat (first | exact Drawn0.refl _ | apply Drawn0.step)⟩

/-! ### bits_Mul: function 37 -/
def bits_Mul.f (a0 : Int) (a1 : Int) : Option (Int × Int) := (bits_Mul64.f a0 a1).bind fun bt286 => (some (bt286.1, bt286.2))
set_option maxHeartbeats 8000000 in
set_option maxRecDepth 100000 in
theorem bits_Mul.calls (a0 : Int) (a1 : Int) (r1 : Int) (r2 : Int) (w : World) (h : bits_Mul.f a0 a1 = some (r1, r2)) :
    Calls Try.prog 37 #[.int .u64 a0, .int .u64 a1] w fun e w' => e = .returned (.tuple #[.int .u64 r1, .int .u64 r2]) ∧ Drawn0 w w' := by
  have H : ((bits_Mul64.f a0 a1).bind fun bt286 => (some (bt286.1, bt286.2))) = some (r1, r2) := h
  clear h
  replace H := Option.bind_eq_some_iff.mp H
  obtain ⟨⟨t286, t287⟩, A30, H⟩ := H
  replace H : (some (t286, t287)) = some (r1, r2) := H
  have A3 := Aside0.mk A30
  clear A30
  simp only [Option.some.injEq, Prod.mk.injEq] at H
  obtain ⟨rfl, rfl⟩ := H
  go_enter Try.func37, Try.ntmps37
  go_wp2_with (first | ((with_reducible refine gate_callee (f := 40) rfl ?_); refine goesL_ (some 25) rfl rfl Try.func40 (by kernel_rfl) rfl #[.int .u64 a0, .int .u64 a1] rfl (by (try simp only [List.map_toArray, List.map_cons, List.map_nil]); first | done | rfl | (simp only [List.length_drop, List.length_take]; rfl)) ?_; (with_reducible refine (bits_Mul64.calls a0 a1 t286 t287 _ A3.out).mono ?_); rintro e w' ⟨rfl, ⟨nd, rfl⟩⟩; refine ⟨_, rfl, ?_⟩))
  go_ret2
  exact ⟨by first | rfl | (simp; done) | (simp [*]; done), by repeat (first | exact Drawn0.refl _ | apply Drawn0.step)⟩

/-! ### mem_Fill: function 27 -/
/-! bytes.Repeat of one byte: the row that MakeNoZero makes is filled by copies of its own beginning. -/
theorem rep_copy {P : Program} {W : World} {ops : Array Oper} {rest : List Oper} {o : Oper} {a : Act} {Q : Exit → Act → World → Prop} (hgd : o.guard = none) (d s : Operand) (t t' : TypeId)
    (ho : o.op = .call { callee := .builtin .copy, args := #[d, s], argTypes := #[t, t'] }) (v u : Value) (hd : a.eval d = v) (hs : a.eval s = u) {v' : Value} {w' : World}
    (hr : (Builtin.copy_ #[t, t'] o.type #[v, u]).run P W = .ok v' w') (h : wpList P ops Q rest (a.put o.dst v') w') : wpList P ops Q (o :: rest) a W := by
  refine wpList_plain hgd fun K hK => ?_
  unfold Oper.wp execOp
  simp only [ho, resolve, invoke, builtin, Sem.run_bind, Sem.run_pure, Result.andThen_ok, List.map_toArray, List.map_cons, List.map_nil, hd, hs, hr]
  exact hK _ _ h
def repT : Bool × List (List Nat × List Nat) := (true, [([], []), ([], []), ([], []), ([1, 2], [1, 2]), ([], []), ([], []), ([4, 5], [4, 5]), ([3, 6], [3, 6]), ([0, 7], [0, 7]), ([8, 7, 0, 1, 2, 3, 4, 5, 6, 7, 8], [0, 2, 8])])
theorem rep_tab : rtab .any (opsOf Try.f35 20) = repT := by kernel_rfl
theorem rep_bits : waitsOk repT.2 [0, 0, 0, 6, 0, 0, 48, 126, 255, 511] = true := by kernel_rfl
theorem rep_step {P : Program} {W : World} {ops : Array Oper} {o : Oper} {a : Act} {Q : Exit → Act → World → Prop} {Kc : Act → World → Prop} (hw : Region.wanted o (yielded ops a.tmps) = true) (d s : Operand) (t t' : TypeId)
    (ho : o.op = .call { callee := .builtin .copy, args := #[d, s], argTypes := #[t, t'] }) (v u : Value) (hd : a.eval d = v) (hs : a.eval s = u) {v' : Value} {w' : World}
    (hr : (Builtin.copy_ #[t, t'] o.type #[v, u]).run P W = .ok v' w') (h : Kc (a.put o.dst v') w') : if Region.wanted o (yielded ops a.tmps) = true then Oper.wp P o a W Kc Q else Kc (a.put o.dst undef) W :=
  event_step hw (by
    unfold execOp
    simp only [ho, resolve, invoke, builtin, Sem.run_bind, Sem.run_pure, Result.andThen_ok, List.map_toArray, List.map_cons, List.map_nil, hd, hs, hr]) h
/-- Block g holds the byte v at its first bp places; it has room for n. -/
def Held (g n : Nat) (v : Int) (bp : Nat) (W : World) : Prop := ∃ cur : Array Value, W.heap[g]? = some (.cells cur 5 (0, 0)) ∧ n ≤ cur.size ∧ ∀ i, i < bp → cur[i]? = some (.int .u8 v)
theorem Held.drew {g n bp : Nat} {v : Int} {W : World} (h : Held g n v bp W) : Held g n v bp W.drew := h
theorem Held.copy {P : Program} {g n bp m : Nat} {v : Int} {W : World} (h : Held g n v bp W) (hu : P.underlying 22 = some (.slice 5)) (hs : (P.info? 5).map (·.size) = some 1) (ty : TypeId) (a : Addr) (dLen dCap sLen sCap : Nat) (hm : m = Nat.min sLen dLen) (hfit : bp + m ≤ n)
    (hsrc : ∀ j, j < m → W.cell? (a.add j) = some (.int .u8 v)) :
    ∃ w', (Builtin.copy_ #[22, 22] ty #[.slice (some ⟨g, bp, none⟩) dLen dCap, .slice (some a) sLen sCap]).run P W = .ok (goInt m) w' ∧ Held g n v (bp + m) w' ∧ ∀ B, B ≤ g → ∀ w0, Below B w0 W → Below B w0 w' := by
  obtain ⟨cur, hg, hn, hc⟩ := h
  have hl : (List.replicate m (Value.int .u8 v)).length = Nat.min sLen dLen := by rw [List.length_replicate]; exact hm
  have hr := run_copy_row (P := P) W 22 22 ty 5 g bp dLen dCap a sLen sCap cur 5 (List.replicate m (Value.int .u8 v)) hu hs hg hl (fun j u hj => by
    rw [List.getElem?_replicate] at hj
    split at hj
    · injection hj with hj
      subst hj
      exact hsrc j (by assumption)
    · cases hj) (by rw [List.length_replicate]; omega) (fun u hu => by rw [(List.mem_replicate.1 hu).2]; rfl)
  rw [List.length_replicate] at hr
  refine ⟨_, hr, ⟨_, setRow_heap W g cur _ 5 _ hg, ?_, fun i hi => ?_⟩, fun B hB w0 hb => ?_⟩
  · simp only [List.size_toArray, List.length_append, List.length_take, List.length_drop, List.length_replicate, Array.length_toList]
    omega
  · simp only [List.getElem?_toArray]
    rcases Nat.lt_or_ge i bp with h1 | h1
    · rw [List.append_assoc, List.getElem?_append_left (by rw [List.length_take, Array.length_toList]; omega), List.getElem?_take_of_lt h1, Array.getElem?_toList]
      exact hc i h1
    · rw [List.getElem?_append_left (by rw [List.length_append, List.length_take, List.length_replicate, Array.length_toList]; omega), List.getElem?_append_right (by rw [List.length_take, Array.length_toList]; omega), List.getElem?_replicate, if_pos (by rw [List.length_take, Array.length_toList]; omega)]
  · exact hb.grown (row := some g) ⟨rfl, rfl, rfl, by simp, fun k _ hk => setRow_other W g k _ (fun e => hk (by rw [e]))⟩ (by have := (Array.getElem?_eq_some_iff.1 hg).1; omega) (fun k hk => by injection hk with hk; omega)
theorem Held.cell {g n bp : Nat} {v : Int} {W : World} (h : Held g n v bp W) (i : Nat) (hi : i < bp) : W.cell? ⟨g, i, none⟩ = some (.int .u8 v) := by
  obtain ⟨cur, hg, _, hc⟩ := h
  rw [cell_of_row W g i cur 5 (0, 0) hg]
  exact hc i hi
theorem mul_and (x : Int) (h0 : 0 ≤ x) (h1 : x ≤ 4294967295) : Go.bits .and .u64 x 4294967295 = x := by
  have h := bits_mask .u64 64 (by decide) (fun n h0 h1 => by rw [IntKind.wrap_u64]; omega) 32 (by decide) x h0 (by omega)
  have e : ((2 : Int) ^ 32 - 1) = 4294967295 := by decide
  rw [e] at h
  rw [h]
  omega
theorem mul_one' (a1 : Int) (h0 : 0 ≤ a1) (h1 : a1 ≤ 4294967295) : bits_Mul.f 1 a1 = some (0, a1) := by
  have d1 : (1 : Int) / 4294967296 = 0 := by decide
  have d2 : a1 / 4294967296 = 0 := by omega
  have wz : IntKind.u64.wrap 0 = 0 := by rw [IntKind.wrap_u64]; rfl
  have wa : IntKind.u64.wrap a1 = a1 := by rw [IntKind.wrap_u64]; omega
  have b0 : Go.bits .and .u64 0 4294967295 = 0 := mul_and 0 (by decide) (by decide)
  have b1 : Go.bits .and .u64 1 4294967295 = 1 := mul_and 1 (by decide) (by decide)
  unfold bits_Mul.f bits_Mul64.f
  simp only [Option.bind_some, d1, d2, b0, b1, mul_and a1 h0 h1, Int.zero_mul, Int.mul_zero, Int.one_mul, Int.zero_add, Int.add_zero, wz, wa, Int.zero_ediv]
set_option maxHeartbeats 1600000 in
set_option maxRecDepth 100000 in
theorem rep_calls (A0 : Option Addr) (c0 : Nat) (v : Int) (n : Nat) (w : World) (hr0 : Kd.C (Kd.int .u8) w A0 1 [v]) (h0 : 0 < n) (h1 : n ≤ 4294967295) :
    Calls Try.prog 35 #[.slice A0 1 c0, .int .i64 n] w fun e w' => ∃ A c, e = .returned (.slice A n c) ∧ n ≤ c ∧ Kd.C (Kd.int .u8) w' A n (List.replicate n v) ∧ Below w.heap.size w w' := by
  have HB := Aside0.mk (Below.refl w.heap.size w)
  obtain ⟨ad, e0, hx⟩ := Kd.at_int hr0 0 (by omega) (by decide)
  cases e0
  rw [show ((0 : Int)).toNat = 0 from rfl, Addr.add_zero'] at hx
  have HX := Aside0.mk (show w.cell? ad = some (.int .u8 v) from hx)
  clear hx hr0
  have b0 : ((n : Int) == 0) = false := beq_eq_false_iff_ne.mpr (by omega)
  have b1 : decide ((n : Int) < 0) = false := decide_eq_false (by omega)
  have b2 : decide (9223372036854775807 < (n : Int)) = false := decide_eq_false (by omega)
  have w0 : IntKind.u64.wrap (n : Int) = (n : Int) := by rw [IntKind.wrap_u64]; omega
  have w1 : IntKind.u64.wrap 1 = 1 := by rw [IntKind.wrap_u64]; rfl
  have w2 : wrap64 (n : Int) = (n : Int) := by unfold wrap64; omega
  have hM := mul_one' (n : Int) (by omega) (by omega)
  have H0 := Aside0.mk h0
  have H1 := Aside0.mk h1
  go_enter Try.func35, Try.ntmps35
  go_upto_region 12 with (go_at_call 37; (with_reducible refine (bits_Mul.calls 1 (n : Int) 0 (n : Int) _ hM).mono ?_); rintro e w' ⟨rfl, ⟨nd, rfl⟩⟩)
  have HX2 : Aside0 ((w.drewN nd).cell? ad = some (.int .u8 v)) := HX
  have HB2 : Aside0 (Below w.heap.size w (w.drewN nd)) := ⟨pw_below_drewN HB.out _⟩
  generalize World.drewN w nd = wd at HX2 HB2 ⊢
  clear HB hM
  go_upto_if 42 with (fail)
  go_cut [8] (fun v8 wc => ∃ cm : Nat, v8 = .int .i64 cm ∧ Aside0 (1 ≤ cm ∧ cm ≤ 4294967295) ∧ wc = wd)
  case first =>
    by_cases c : (8192 : Int) < n
    · have d : decide ((8192 : Int) < (n : Int)) = true := decide_eq_true c
      rw [d]
      clear c d
      go_wp2
      go_meet
      case rel => exact ⟨8192, rfl, ⟨by omega⟩, rfl⟩
    · have d : decide ((8192 : Int) < (n : Int)) = false := decide_eq_false c
      rw [d]
      clear c d
      go_wp2
      go_meet
      case rel => exact ⟨n, rfl, ⟨by have := H0.out; have := H1.out; omega⟩, rfl⟩
  case rest =>
    obtain ⟨cm, rfl, HCM, rfl⟩ := hcut
    obtain ⟨cs, hrunM, hle, _⟩ := Lib.run_makeNoZero (P := Try.prog) wc #[3] 22 5 Try.underlying22 n (by omega)
    have hcall : (callFunc 38 #[.int .i64 (n : Int)]).run Try.prog wc = .ok (.value (.slice (some ⟨wc.heap.size, 0, none⟩) n cs.size)) (wc.drew.drew.alloc (.cells cs 5)) := by
      rw [run_callFunc_extern Try.func38 (by kernel_rfl) (by kernel_rfl) (by kernel_rfl) (e := Extern.BytealgMakeNoZero.makeNoZero #[3] #[22]) (by kernel_rfl), hrunM]
      rfl
    clear hrunM
    have i0 : (0 : Int) ≤ (n : Int) := by omega
    have i1 : (n : Int) ≤ (cs.size : Int) := by omega
    have HH := Aside0.mk (show Held wc.heap.size n v 0 (wc.drew.drew.alloc (.cells cs 5)) from ⟨cs, blk_new _ _, hle, fun i hi => absurd hi (Nat.not_lt_zero i)⟩)
    have HB3 : Aside0 (Below w.heap.size w (wc.drew.drew.alloc (.cells cs 5))) := ⟨below_alloc (below_drew1 (below_drew1 HB2.out)) _⟩
    have HG := Aside0.mk (below_size HB2.out)
    have HX3 : Aside0 ((wc.drew.drew.alloc (.cells cs 5)).cell? ad = some (.int .u8 v)) := ⟨((below_alloc (below_drew1 (below_drew1 (Below.refl _ _))) _ : Below wc.heap.size wc (wc.drew.drew.alloc (.cells cs 5))).cell (World.block_lt_of_cell? wc _ HX2.out)).trans HX2.out⟩
    go_upto_region 17 with (fail)
    have HH4 : Aside0 (Held wc.heap.size n v 0 (wc.alloc (.cells cs 5)).drew.drew) := HH
    have HB4 : Aside0 (Below w.heap.size w (wc.alloc (.cells cs 5)).drew.drew) := HB3
    have HX4 : Aside0 ((wc.alloc (.cells cs 5)).drew.drew.cell? ad = some (.int .u8 v)) := HX3
    clear HH HB3 HX3 hcall hle i0 i1 HX2 HB2 HX
    generalize (wc.alloc (.cells cs 5)).drew.drew = wa at HH4 HB4 HX4 ⊢
    generalize wc.heap.size = g at HH4 HG ⊢
    have hs5 : (Try.prog.info? 5).map (·.size) = some 1 := by kernel_rfl
    obtain ⟨w5, hr5, hH5, hB5⟩ := Held.copy (P := Try.prog) (m := 1) HH4.out Try.underlying22 hs5 3 ad n n 1 c0 (Nat.min_eq_left H0.out).symm (by have := H0.out; omega) (fun j hj => by
      rw [show j = 0 by omega, Addr.add_zero']
      exact HX4.out)
    have HH5 := Aside0.mk hH5
    have HB5 := Aside0.mk (hB5 _ HG.out _ HB4.out)
    clear hH5 hB5 HH4 HB4 HX4
    go_wp2_with (at_builtin; refine rep_copy rfl _ _ 22 22 rfl _ _ rfl rfl hr5 ?_)
    clear hr5
    go_loopg [10] n (fun kq v10 w' => ∃ bp : Nat, v10 = .int .i64 bp ∧ Aside0 (n ≤ bp + kq) ∧ Aside0 (1 ≤ bp ∧ bp ≤ n) ∧ Aside0 (Held g n v bp w') ∧ Aside0 (Below w.heap.size w w'))
    case atStart => exact ⟨1, rfl, ⟨by omega⟩, ⟨by have := H0.out; omega⟩, HH5, HB5⟩
    case round =>
      clear HH5 HB5
      obtain ⟨bp, rfl, HK, HBP, HH, HB⟩ := hrel
      by_cases hlt : bp < n
      rotate_left
      · have c : decide ((bp : Int) < (n : Int)) = false := decide_eq_false (by omega)
        have c' : (bp < n) = False := eq_false hlt
        have e : bp = n := by have := HBP.out; omega
        subst e
        clear hlt
        go_wp2
        go_ret
        refine ⟨_, _, rfl, Nat.le_refl _, ?_, HB.out⟩
        refine Kd.C_of_reads (d := (0 : Int)) (h1 := fun _ => rfl) ⟨List.length_replicate, by omega, fun _ => ⟨_, rfl, fun j hj => ?_⟩⟩
        rw [List.getD_eq_getElem?_getD, List.getElem?_replicate, if_pos hj]
        rw [add_plain]
        (try rw [Nat.zero_add])
        exact HH.out.cell j hj
      · cases gk with
        | zero => exact absurd HK.out (by omega)
        | succ k1 =>
          have c : decide ((bp : Int) < (n : Int)) = true := decide_eq_true (by omega)
          have c' : (bp < n) = True := eq_true hlt
          go_upto_region 20 with (fail)
          have hch : (if cm < bp then ((cm : Nat) : Int) else ((bp : Nat) : Int)) = ((min bp cm : Nat) : Int) := by
            split
            · rw [Nat.min_eq_right (by omega)]
            · rw [Nat.min_eq_left (by omega)]
          rw [hch]
          have hc1 : 1 ≤ min bp cm ∧ min bp cm ≤ bp := by have := HCM.out; have := HBP.out; omega
          clear hch
          generalize min bp cm = ch at hc1 ⊢
          obtain ⟨i0, hi0, _, hsz0, _⟩ := info_parts info5
          have hk1 := cut_from (P := Try.prog) 22 5 .i64 Try.underlying22 hi0 1 hsz0 (some ⟨g, 0, none⟩) n n (bp : Int) (by omega) (by omega)
          have hk2 := cut_to (P := Try.prog) 22 5 .i64 Try.underlying22 hi0 (some ⟨g, 0, none⟩) n n (ch : Int) (by omega) (by have := HBP.out; omega) (Nat.le_refl _)
          rw [Int.toNat_natCast, if_neg (by omega)] at hk1
          rw [Int.toNat_natCast] at hk2
          have hk3 : ∀ W : World, (Instr.slice 22 (.slice (some ⟨g, 0, none⟩) n n) (some (.int .i64 (bp : Int))) none none).run Try.prog W = .ok (.slice (some ⟨g, bp, none⟩) (n - bp) (n - bp)) W := fun W => by
            rw [hk1 W]
            simp [add_plain]
          clear hk1 hi0 hsz0
          obtain ⟨m, hm⟩ : ∃ m, m = Nat.min ch (n - bp) := ⟨_, rfl⟩
          have hm2 : 1 ≤ m ∧ m ≤ ch ∧ bp + m ≤ n := by
            have h1 : m ≤ ch := by rw [hm]; exact Nat.min_le_left _ _
            have h2 : m ≤ n - bp := by rw [hm]; exact Nat.min_le_right _ _
            have h3 : 1 ≤ m := by rw [hm]; exact Nat.le_min.2 ⟨hc1.1, by omega⟩
            omega
          have hw3 : wrap64 ((bp : Int) + (m : Int)) = ((bp + m : Nat) : Int) := by unfold wrap64; omega
          have hw4 : IntKind.i64.wrap ((bp : Int) + (m : Int)) = ((bp + m : Nat) : Int) := (i64_w _).trans hw3
          obtain ⟨w6, hr6, hH6, hB6⟩ := Held.copy (P := Try.prog) (m := m) HH.out.drew Try.underlying22 hs5 3 ⟨g, 0, none⟩ (n - bp) (n - bp) ch n hm hm2.2.2 (fun j hj => by
            rw [add_plain]
            (try rw [Nat.zero_add])
            exact HH.out.drew.cell j (by omega))
          have HH6 := Aside0.mk hH6
          have HB6 := Aside0.mk (hB6 _ HG.out _ (below_drew1 HB.out))
          have HM := Aside0.mk hm2
          clear hH6 hB6 hm hm2 hc1 HH HB
          refine start_ (n := 10) (S := fun _ => True) (ds := []) #[false, false, false, false, false, false, false, false, false, false] (by kernel_rfl) rfl rfl trivial (fun hHeld => ?_)
          refine with_tabW rep_tab rep_bits (fun HT_ HW_ => ?_)
          generalize wr.drew = w10 at hr6 ⊢
          refine pure_ (i := 0) (N := some 67) (v := ?_) (a' := ?_) #[true, false, false, false, false, false, false, false, false, false] rfl rfl (any_of HT_.out (by kernel_rfl)) (fun _ _ _ h => h) (Or.inl ⟨by rfl, ?_⟩) ?_ ?_
          rotate_left
          · intro w'
            go_simp
            with_reducible rfl
          rotate_left
          · simp only [Act.put, List.setIfInBounds_toArray, List.set_cons_zero, List.set_cons_succ, i64_w, i32_w]
            rfl
          refine pure_ (i := 1) (N := some 68) (v := ?_) (a' := ?_) #[true, true, false, false, false, false, false, false, false, false] rfl rfl (any_of HT_.out (by kernel_rfl)) (fun _ _ _ h => h) (Or.inl ⟨by rfl, ?_⟩) ?_ ?_
          rotate_left
          · intro w'
            go_simp
            with_reducible rfl
          rotate_left
          · simp only [Act.put, List.setIfInBounds_toArray, List.set_cons_zero, List.set_cons_succ, i64_w, i32_w]
            rfl
          refine pure_ (i := 2) (N := some 69) (v := ?_) (a' := ?_) #[true, true, true, false, false, false, false, false, false, false] rfl rfl (any_of HT_.out (by kernel_rfl)) (fun _ _ _ h => h) (Or.inl ⟨by rfl, ?_⟩) ?_ ?_
          rotate_left
          · intro w'
            go_simp
            with_reducible rfl
          rotate_left
          · simp only [Act.put, List.setIfInBounds_toArray, List.set_cons_zero, List.set_cons_succ, i64_w, i32_w]
            rfl
          refine pure_ (i := 3) (N := some 70) (v := ?_) (a' := ?_) #[true, true, true, true, false, false, false, false, false, false] rfl rfl (any_of HT_.out (by kernel_rfl)) (fun _ _ _ h => h) (Or.inl ⟨by rfl, ?_⟩) ?_ ?_
          rotate_left
          · intro w'
            go_simp
            with_reducible rfl
          rotate_left
          · simp only [Act.put, List.setIfInBounds_toArray, List.set_cons_zero, List.set_cons_succ, i64_w, i32_w]
            rfl
          refine pure_ (i := 4) (N := some 71) (v := ?_) (a' := ?_) #[true, true, true, true, true, false, false, false, false, false] rfl rfl (any_of HT_.out (by kernel_rfl)) (fun _ _ _ h => h) (Or.inl ⟨by rfl, ?_⟩) ?_ ?_
          rotate_left
          · intro w'
            go_simp
            with_reducible rfl
          rotate_left
          · simp only [Act.put, List.setIfInBounds_toArray, List.set_cons_zero, List.set_cons_succ, i64_w, i32_w]
            rfl
          refine pure_ (i := 5) (N := some 72) (v := ?_) (a' := ?_) #[true, true, true, true, true, true, false, false, false, false] rfl rfl (any_of HT_.out (by kernel_rfl)) (fun _ _ _ h => h) (Or.inl ⟨by rfl, ?_⟩) ?_ ?_
          rotate_left
          · intro w'
            go_simp
            with_reducible rfl
          rotate_left
          · simp only [Act.put, List.setIfInBounds_toArray, List.set_cons_zero, List.set_cons_succ, i64_w, i32_w]
            rfl
          refine pure_ (i := 6) (N := some 73) (v := ?_) (a' := ?_) #[true, true, true, true, true, true, true, false, false, false] rfl rfl (any_of HT_.out (by kernel_rfl)) (fun _ _ _ h => h) (Or.inl ⟨by rfl, ?_⟩) ?_ ?_
          rotate_left
          · intro w'
            go_simp
            with_reducible rfl
          rotate_left
          · simp only [Act.put, List.setIfInBounds_toArray, List.set_cons_zero, List.set_cons_succ, i64_w, i32_w]
            rfl
          refine one_ (i := 7) (N := some 74) #[true, true, true, true, true, true, true, true, false, false] rfl rfl (one_of HT_.out (by kernel_rfl)) (by decide) (fun K hK => ?_)
          refine rep_step (by rfl) _ _ 22 22 rfl _ _ rfl rfl hr6 ?_
          refine hK.out _ _ trivial (fun hHeld => ?_)
          clear hK K
          refine norm_ (a' := ?_) ?_ ?_
          rotate_left
          · show Act.put _ (some 74) _ = _
            simp only [Act.put, List.setIfInBounds_toArray, List.set_cons_zero, List.set_cons_succ, i64_w, i32_w]
            rfl
          refine pure_ (i := 8) (N := some 75) (v := ?_) (a' := ?_) #[true, true, true, true, true, true, true, true, true, false] rfl rfl (any_of HT_.out (by kernel_rfl)) (fun _ _ _ h => h) (Or.inl ⟨by rfl, ?_⟩) ?_ ?_
          rotate_left
          · intro w'
            go_simp
            with_reducible rfl
          rotate_left
          · simp only [Act.put, List.setIfInBounds_toArray, List.set_cons_zero, List.set_cons_succ, i64_w, i32_w]
            rfl
          refine pure_ (i := 9) (N := some 10) (v := ?_) (a' := ?_) #[true, true, true, true, true, true, true, true, true, true] rfl rfl (any_of HT_.out (by kernel_rfl)) (fun _ _ _ h => h) (Or.inl ⟨by rfl, ?_⟩) ?_ ?_
          rotate_left
          · intro w'
            go_simp
            with_reducible rfl
          rotate_left
          · simp only [Act.put, List.setIfInBounds_toArray, List.set_cons_zero, List.set_cons_succ, i64_w, i32_w]
            rfl
          refine done_ (done_of HT_.out (by kernel_rfl)) ?_
          try go_wp2
          go_roundg k1
          case measure => omega
          case rel => exact ⟨bp + m, by first | rfl | (simp [hw4]; done), ⟨by have := HK.out; have := HM.out; omega⟩, ⟨by have := HBP.out; have := HM.out; omega⟩, HH6, HB6⟩
set_option maxHeartbeats 1600000 in
set_option maxRecDepth 100000 in
theorem rep_all (A0 : Option Addr) (c0 : Nat) (v : Int) (n : Nat) (w : World) (hr0 : Kd.C (Kd.int .u8) w A0 1 [v]) (h1 : n ≤ 4294967295) :
    Calls Try.prog 35 #[.slice A0 1 c0, .int .i64 n] w fun e w' => ∃ A c, e = .returned (.slice A n c) ∧ n ≤ c ∧ Kd.C (Kd.int .u8) w' A n (List.replicate n v) ∧ Below w.heap.size w w' := by
  rcases Nat.eq_zero_or_pos n with hn | hn
  · subst hn
    have HB := Aside0.mk (Below.refl w.heap.size w)
    clear hr0
    go_enter Try.func35, Try.ntmps35
    go_wp2_with ((with_reducible refine gate_dst (N := 14) rfl ?_); refine Kd.R_lit (Kd.int .u8) _ 5 ?hg (N := 14) ?hd (xs := ([] : List Int)) (inner := []) (ok := fun _ => True) (okp := fun _ => True) ?hr ?hp (fun _ hk => hk) trivial (Below.refl _ _) (Nat.le_refl _) (by simp) ?_; (case hd => rfl); (case hg => rfl); (case hr => first | (go_simp; done) | (go_simp; rfl)); (case hp => exact (Reps.none _ _)); intro v5 w5 ho5 hb5 hg_ hnew_; clear hg_ hnew_; have HO5 := Aside0.mk ho5; have HB5 := Aside0.mk (below_step HB.out hb5); clear ho5 hb5; obtain ⟨A5, c5, e5⟩ := Kd.R_slice HO5.out; subst e5)
    go_ret
    exact ⟨_, _, rfl, Nat.zero_le _, (Kd.R_reads' HO5.out).2.2, HB5.out⟩
  · exact rep_calls A0 c0 v n w hr0 hn h1
def mem_Fill.f (l0 : List Int) (a1 a2 a3 : Int) : Option (List Int × Int) := (mem_stretch.f l0 a1 (wrap64 a2)).bind fun s => if s.2 = true then (if 0 ≤ a2 ∧ a2 ≤ 4294967295 then mem_Put.f l0 a1 (strOfNums (List.replicate a2.toNat (a3 % 256))) else none) else some ([], 9)
set_option maxHeartbeats 1600000 in
set_option maxRecDepth 100000 in
theorem mem_Fill.calls (A0 : Option Addr) (c0 : Nat) (l0 : List Int) (a1 a2 a3 : Int) (r1 : List Int) (r2 : Int) (w : World) (hr0 : Kd.C (Kd.int .u8) w A0 l0.length l0) (hc0 : l0.length ≤ c0) (h : mem_Fill.f l0 a1 a2 a3 = some (r1, r2)) :
    Calls Try.prog 27 #[.slice A0 l0.length c0, .int .u32 a1, .int .u32 a2, .int .u32 a3] w fun e w' => ∃ v0_ : Value, e = .returned (.tuple #[v0_, .int .i64 r2]) ∧ Kd.R (Kd.int .u8) 5 w' w.heap.size (fun _ => True) v0_ r1 ∧ Below w.heap.size w w' := by
  have HR0 := Aside0.mk hr0
  have HC0 := Aside0.mk hc0
  have HV := Aside0.mk (Kd.V_mk (e := 5) (base := w.heap.size) hc0 (Kd.C_F (Kd.heap_int .u8) hr0))
  clear hr0 hc0
  unfold mem_Fill.f at h
  obtain ⟨⟨q, ok⟩, S10, h⟩ := Option.bind_eq_some_iff.mp h
  have S1 := Aside0.mk S10
  clear S10
  cases ok with
  | false =>
    simp only [Bool.false_eq_true, if_false, Option.some.injEq, Prod.mk.injEq] at h
    obtain ⟨rfl, rfl⟩ := h
    go_enter Try.func27, Try.ntmps27
    go_wp2_with fail
    (with_reducible refine (mem_stretch.calls (fun k_ => k_ < w.heap.size) _ _ l0 a1 (wrap64 a2) _ _ _ ?s1 S1.out).mono ?_)
    (case s1 => exact HV.out)
    rintro e w1 ⟨v1, rfl, hv1, hb1⟩
    have HB1 := Aside0.mk hb1
    obtain ⟨Av, cv, ev⟩ := Kd.V_slice hv1
    subst ev
    clear hv1 hb1
    go_wp2_with fail
    go_ret2
    exact ⟨_, rfl, Kd.R_nil _ _ _ _ _, HB1.out⟩
  | true =>
    replace h : (if 0 ≤ a2 ∧ a2 ≤ 4294967295 then mem_Put.f l0 a1 (strOfNums (List.replicate a2.toNat (a3 % 256))) else none) = some (r1, r2) := h
    by_cases hb : 0 ≤ a2 ∧ a2 ≤ 4294967295
    rotate_left
    · rw [if_neg hb] at h; cases h
    rw [if_pos hb] at h
    obtain ⟨n, rfl⟩ := Int.eq_ofNat_of_zero_le hb.1
    rw [Int.toNat_natCast] at h
    have w2 : wrap64 (n : Int) = (n : Int) := by unfold wrap64; omega
    have HN := Aside0.mk (show n ≤ 4294967295 by omega)
    have HP := Aside0.mk h
    rw [w2] at S1
    clear h hb
    go_enter Try.func27, Try.ntmps27
    go_wp2_with fail
    (with_reducible refine (mem_stretch.calls (fun k_ => k_ < w.heap.size) _ _ l0 a1 (n : Int) _ _ _ ?s1 S1.out).mono ?_)
    (case s1 => exact HV.out)
    rintro e w1 ⟨v1, rfl, hv1, hb1⟩
    have HB := Aside0.mk hb1
    obtain ⟨Av, cv, ev⟩ := Kd.V_slice hv1
    subst ev
    clear hv1 hb1
    go_wp2_with (first | ((with_reducible refine gate_dst (N := 26) rfl ?_); refine Kd.R_lit (Kd.int .u8) _ 5 ?hg (N := 26) ?hd (xs := ([a3 % 256] : List Int)) (inner := [.int .u8 (a3 % 256)]) (ok := fun _ => True) (okp := fun _ => True) ?hr ?hp (fun _ hk => hk) trivial (Below.refl _ _) (Nat.le_refl _) (by simp) ?_; (case hd => rfl); (case hg => rfl); (case hr => first | (go_simp; done) | (go_simp; rfl)); (case hp => exact (Reps.one (show Kd.M (Kd.int .u8) _ _ _ (a3 % 256) [.int .u8 (a3 % 256)] from rfl) (Reps.none _ _))); intro v5 w5 ho5 hb5 hg_ hnew_; clear hg_ hnew_; have n0_ := Aside0.mk (below_step HB.out hb5); have HO5 := Aside0.mk ho5; clear HB ho5 hb5; have HB := n0_; clear n0_; obtain ⟨A5, c5, e5⟩ := Kd.R_slice HO5.out; subst e5) | (go_at_call 35; (with_reducible refine (rep_all A5 c5 (a3 % 256) n _ (Kd.R_reads' HO5.out).2.2 HN.out).mono ?_); rintro e w6 ⟨A6, c6, rfl, hcc, hc6, hb6⟩; have n0_ := Aside0.mk (below_step HB.out hb6); clear HB; have HB := n0_; clear n0_; have hcv := Kd.C_string (P := Try.prog) (A := A6) (c := c6) Try.underlying22 Try.underlying5 Try.underlying9 hc6; clear hc6 hb6) | (go_at_call 23; (with_reducible refine (mem_Put.calls A0 c0 l0 a1 _ r1 r2 _ (Kd.C_below HR0.out HB.out) HC0.out HP.out).mono ?_); rintro e w7 ⟨v7, rfl, ho7, hb7⟩; have HO7 := Aside0.mk (Kd.R_lower ho7 (below_size HB.out)); have n0_ := Aside0.mk (below_step HB.out hb7); clear HB ho7 hb7; have HB := n0_; clear n0_; obtain ⟨A7, c7, e7⟩ := Kd.R_slice HO7.out; subst e7))
    go_ret2
    exact ⟨_, rfl, HO7.out, HB.out⟩

end Go.Proofs.Ytlpohjpiipkpiaa.P
