/- WholeVars, walked by hand. No condition. -/
import Derived.Test.YtdobpgomgnaleaaDoorPx
import Derived.StillTailTactics

namespace Go.Proofs.YtdobpgomgnaleaaDoor.P
open Go.RowKit Go.Proofs.YtdobpgomgnaleaaDoor.G Go.Proofs.YtdobpgomgnaleaaDoorW.PrintWords Go.Proofs.YtdobpgomgnaleaaDoorW.PrintLast Go.Proofs.YtdobpgomgnaleaaDoorW.PrintMore
attribute [local go_sem] max2_int min2_int max_two min_two max_three min_three max_four min_four
set_option linter.unusedVariables false
def wv.l : Nat → List S31 → List Int → List S31 → List Int → Nat → Option Bool
  | 0, _, _, _, _, _ => none
  | k + 1, l1, l2, now, nv, i =>
    if i < l1.length then
      (vars_Set.f k now (rd_T31 l1 (i : Int)).f0 (rd_T31 l1 (i : Int)).f1).bind fun ne => (vars_Save.f k nv ne.1).bind fun rf =>
        if ne.2 = 0 ∧ rf.2 = 0 then
          (nvram_Apply.f k nv rf.1 (if i < l2.length then rd l2 (i : Int) else (rf.1.length : Int))).bind fun nv2 => (vars_Load.f k nv2).bind fun ld =>
            (tinderref19_Same.f k ld (if (rf.1.length : Int) ≤ (if i < l2.length then rd l2 (i : Int) else (rf.1.length : Int)) then ne.1 else now)).bind fun b =>
              if b = true then wv.l k l1 l2 (if (rf.1.length : Int) ≤ (if i < l2.length then rd l2 (i : Int) else (rf.1.length : Int)) then ne.1 else now) nv2 (i + 1) else some false
        else wv.l k l1 l2 now nv (i + 1)
    else (vars_Load.f k nv).bind fun ld => tinderref19_Same.f k ld now
def tindertop_WholeVars.f (k : Nat) (l0 : List Int) (l1 : List S31) (l2 : List Int) : Option Bool :=
  (tindertop_keeps.f k).bind fun ok => if ok = true then (if 30 < l1.length then some true else (vars_Load.f k l0).bind fun now => wv.l k l1 l2 now l0 0) else some false
theorem wv.mono_l : ∀ k l1 l2 now nv i, LeO (wv.l k l1 l2 now nv i) (wv.l (k + 1) l1 l2 now nv i)
  | 0, _, _, _, _, _ => LeO.none _
  | k + 1, l1, l2, now, nv, i => by
    unfold wv.l
    refine LeO.ite (LeO.bind (vars_Set.mono _ _ _ _) (fun _ => LeO.bind (vars_Save.mono _ _ _) (fun _ => LeO.ite (LeO.bind (nvram_Apply.mono _ _ _ _) (fun _ => LeO.bind (vars_Load.mono _ _) (fun _ => LeO.bind (tinderref19_Same.mono _ _ _) (fun _ => LeO.ite (wv.mono_l k _ _ _ _ _) (LeO.refl _))))) (wv.mono_l k _ _ _ _ _)))) (LeO.bind (vars_Load.mono _ _) (fun _ => tinderref19_Same.mono _ _ _))
theorem tindertop_WholeVars.mono : ∀ l0 l1 l2 k, LeO (tindertop_WholeVars.f k l0 l1 l2) (tindertop_WholeVars.f (k + 1) l0 l1 l2) := by
  intro l0 l1 l2 k
  unfold tindertop_WholeVars.f
  exact LeO.bind (tindertop_keeps.mono _) (fun _ => LeO.ite (LeO.ite (LeO.refl _) (LeO.bind (vars_Load.mono _ _) (fun _ => wv.mono_l k _ _ _ _ _))) (LeO.refl _))
set_option maxHeartbeats 8000000 in
set_option maxRecDepth 100000 in
theorem tindertop_WholeVars.calls (k : Nat) (A0 : Option Addr) (c0 : Nat) (l0 : List Int) (A1 : Option Addr) (c1 : Nat) (l1 : List S31) (A2 : Option Addr) (c2 : Nat) (l2 : List Int) (r : Bool) (w : World) (hr0 : Kd.C (Kd.int .u8) w A0 l0.length l0) (hc0 : l0.length ≤ c0) (hr1 : Kd.C k31 w A1 l1.length l1) (hc1 : l1.length ≤ c1) (hr2 : Kd.C (Kd.int .i64) w A2 l2.length l2) (hc2 : l2.length ≤ c2) (h : tindertop_WholeVars.f k l0 l1 l2 = some r) (htab : TabOK w) :
    Calls Tryd.prog 3 #[.slice A0 l0.length c0, .slice A1 l1.length c1, .slice A2 l2.length c2] w fun e w' => e = .returned (.bool r) ∧ Below w.heap.size w w' := by
  have HB := Aside0.mk (Below.refl w.heap.size w)
  have HT := Aside0.mk htab
  have HR0 := Aside0.mk (And.intro hr0 hc0)
  have HR1 := Aside0.mk (And.intro hr1 hc1)
  have HR2 := Aside0.mk (And.intro hr2 hc2)
  clear htab hr0 hc0 hr1 hc1 hr2 hc2
  unfold tindertop_WholeVars.f at h
  obtain ⟨ok, h1, h⟩ := Option.bind_eq_some_iff.mp h
  have H1 := Aside0.mk h1
  clear h1
  cases ok with
  | false =>
    rw [if_neg (by decide)] at h
    obtain rfl := Option.some.inj h
    go_enter Tryd.func3, Tryd.ntmps3
    go_wp2_with (go_at_call 5; refine (tindertop_keeps.calls k false _ H1.out (HT.out.below HB.out)).mono ?_; rintro e w2 ⟨rfl, hb⟩; have n0_ := Aside0.mk (below_step HB.out hb); clear HB hb; have HB := n0_; clear n0_)
    go_ret
    exact ⟨rfl, HB.out⟩
  | true =>
    rw [if_pos rfl] at h
    by_cases h30 : 30 < l1.length
    · rw [if_pos h30] at h
      obtain rfl := Option.some.inj h
      have cL : decide ((30 : Int) < (l1.length : Int)) = true := decide_eq_true (by omega)
      clear h30
      go_enter Tryd.func3, Tryd.ntmps3
      go_wp2_with (go_at_call 5; refine (tindertop_keeps.calls k true _ H1.out (HT.out.below HB.out)).mono ?_; rintro e w2 ⟨rfl, hb⟩; have n0_ := Aside0.mk (below_step HB.out hb); clear HB hb; have HB := n0_; clear n0_)
      go_ret
      exact ⟨rfl, HB.out⟩
    · rw [if_neg h30] at h
      obtain ⟨now0, h2, h⟩ := Option.bind_eq_some_iff.mp h
      have H2 := Aside0.mk h2
      have H := Aside0.mk h
      have cL : decide ((30 : Int) < (l1.length : Int)) = false := decide_eq_false (by omega)
      have HLEN : Aside0 (l1.length ≤ 30) := ⟨by omega⟩
      clear h2 h h30
      go_enter Tryd.func3, Tryd.ntmps3
      go_wp2_with (first | (go_at_call 5; refine (tindertop_keeps.calls k true _ H1.out (HT.out.below HB.out)).mono ?_; rintro e w2 ⟨rfl, hb⟩; have n0_ := Aside0.mk (below_step HB.out hb); clear HB hb; have HB := n0_; clear n0_) | (go_at_call 6; refine (vars_Load.calls k A0 c0 l0 now0 _ (Kd.C_below HR0.out.1 HB.out) HR0.out.2 H2.out (HT.out.below HB.out)).mono ?_; rintro e w3 ⟨v3, rfl, hR3, hb⟩; obtain ⟨Aw, cw, hv3, hcw, hcc⟩ := Kd.R_reads hR3; subst hv3; have HN := Aside0.mk (And.intro hcc hcw); have n0_ := Aside0.mk (below_step HB.out hb); clear HB hb hR3 hcc hcw; have HB := n0_; clear n0_))
      go_loopg [0, 7, 8] k (fun kq v0 v7 v8 w' => ∃ (An : Option Addr) (cn : Nat) (nv : List Int) (Aw : Option Addr) (cw : Nat) (now : List S31) (i : Nat), v0 = .slice An nv.length cn ∧ v7 = .slice Aw now.length cw ∧ v8 = .int .i64 i ∧ Aside0 (wv.l kq l1 l2 now nv i = some r) ∧ Aside0 (Kd.C (Kd.int .u8) w' An nv.length nv ∧ nv.length ≤ cn) ∧ Aside0 (Kd.C k31 w' Aw now.length now ∧ now.length ≤ cw) ∧ Aside0 (Below w.heap.size w w'))
      case atStart => exact ⟨A0, c0, l0, Aw, cw, now0, 0, rfl, rfl, rfl, H, ⟨⟨Kd.C_below HR0.out.1 HB.out, HR0.out.2⟩⟩, HN, HB⟩
      case round =>
        clear H HB HN H1 H2
        obtain ⟨An, cn, nv, Aw, cw, now, i, rfl, rfl, rfl, HX, HV, HN, HB⟩ := hrel
        cases gk with
        | zero =>
          have H := HX.out
          simp [wv.l] at H
        | succ kk =>
          have H := HX.out
          unfold wv.l at H
          by_cases hi : i < l1.length
          · rw [if_pos hi] at H
            have c : decide ((i : Int) < (l1.length : Int)) = true := decide_eq_true (by omega)
            have c' : (i < l1.length) = True := eq_true hi
            obtain ⟨⟨next, e⟩, hs, H⟩ := Option.bind_eq_some_iff.mp H
            obtain ⟨⟨row, f⟩, hf, H⟩ := Option.bind_eq_some_iff.mp H
            have HS := Aside0.mk hs
            have HF := Aside0.mk hf
            have HH := Aside0.mk H
            have HI := Aside0.mk hi
            clear hs hf H hi
            obtain ⟨ad, e1, hx0, hx1⟩ := at_T31 HR1.out.1 (i : Int) (by omega) (by have := HI.out; omega)
            cases e1
            rw [Int.toNat_natCast] at hx0 hx1
            replace hx0 := (HB.out.cell (World.block_lt_of_cell? w _ hx0)).trans hx0
            replace hx1 := (HB.out.cell (World.block_lt_of_cell? w _ hx1)).trans hx1
            generalize hxe : rd_T31 l1 (i : Int) = x at hx0 hx1
            have HS2 : Aside0 (vars_Set.f kk now x.f0 x.f1 = some (next, e)) := ⟨by rw [← hxe]; exact HS.out⟩
            clear hxe HS
            go_upto_region 9 with (fail)
            have hset := fun (W : World) (hB : Below wr.heap.size wr W) => (vars_Set.calls kk Aw cw now x.f0 x.f1 next e W (Kd.C_below HN.out.1 hB) HN.out.2 HS2.out (HT.out.below (below_step HB.out hB))).mono (R' := fun e_ w' => (∃ A c, e_ = .returned (.tuple #[.slice A next.length c, .int .i64 e]) ∧ next.length ≤ c ∧ Kd.C k31 w' A next.length next) ∧ Below wr.heap.size wr w') (fun e_ w' h => by
              obtain ⟨v, rfl, hR, hb⟩ := h
              obtain ⟨A, c, rfl, hc, hC⟩ := Kd.R_reads hR
              exact ⟨⟨A, c, rfl, hc, hC⟩, below_step hB hb⟩)
            have HSet := Aside0.mk hset
            clear hset
            have HX0 := Aside0.mk (And.intro hx0 hx1)
            clear hx0 hx1
            go_region_held3 (fun w' => w'.cell? (ad.add (i * 2)) = some (.string x.f0) ∧ w'.cell? ⟨(ad.add (i * 2)).block, (ad.add (i * 2)).off + 1, none⟩ = some (.string x.f1) ∧ Below wr.heap.size wr w') (first | exact ⟨HX0.out.1, HX0.out.2, below_drew (Below.refl _ _)⟩ | (refine ⟨?_, ?_, by assumption⟩; exact (Below.cell (w := wr) (by assumption) (World.block_lt_of_cell? wr _ HX0.out.1)).trans HX0.out.1; exact (Below.cell (w := wr) (by assumption) (World.block_lt_of_cell? wr _ HX0.out.2)).trans HX0.out.2))
              (first | (go_at_call 7; refine (HSet.out _ (And.right (And.right (by assumption)))).mono ?_; rintro e_ w3 ⟨⟨An3, cn3, rfl, hc3, hC3⟩, hb3⟩))
            have n0_ := Aside0.mk (below_step HB.out hb3)
            have n1_ := Aside0.mk (And.intro (Kd.C_below HN.out.1 hb3) HN.out.2)
            have n2_ := Aside0.mk (And.intro (Kd.C_below HV.out.1 hb3) HV.out.2)
            have HN3 := Aside0.mk (And.intro hC3 hc3)
            clear HB HN HV hb3 hC3 hc3 HSet HX0 HS2
            have HB := n0_
            have HN := n1_
            have HV := n2_
            clear n0_ n1_ n2_
            by_cases hef : e = 0 ∧ f = 0
            · obtain ⟨rfl, rfl⟩ := hef
              have h := HH.out
              rw [if_pos ⟨rfl, rfl⟩] at h
              clear HH
              have HH := Aside0.mk h
              clear h
              go_upto_region 12 with (go_at_call 8; refine (vars_Save.calls kk An cn nv An3 cn3 next row 0 _ HV.out.1 HV.out.2 HN3.out.1 HN3.out.2 HF.out (HT.out.below HB.out)).mono ?_; rintro e_ w4 ⟨v4, rfl, hR4, hb⟩; obtain ⟨Ar, cr, hv4, hcr, hCr⟩ := Kd.R_reads hR4; subst hv4; have HRW := Aside0.mk (And.intro hCr hcr); have n0_ := Aside0.mk (below_step HB.out hb); have n1_ := Aside0.mk (And.intro (Kd.C_below HN.out.1 hb) HN.out.2); have n2_ := Aside0.mk (And.intro (Kd.C_below HN3.out.1 hb) HN3.out.2); have n3_ := Aside0.mk (And.intro (Kd.C_below HV.out.1 hb) HV.out.2); clear HB HN HN3 HV hb hR4 hCr hcr; have HB := n0_; have HN := n1_; have HN3 := n2_; have HV := n3_; clear n0_ n1_ n2_ n3_)
              clear HF
              by_cases hi2 : i < l2.length
              · by_cases hge : (row.length : Int) ≤ rd l2 (i : Int)
                · skip
                  have h := HH.out
                  rw [if_pos hi2] at h
                  rw [if_pos hge] at h
                  have cg : decide ((row.length : Int) ≤ rd l2 (i : Int)) = true := decide_eq_true hge
                  obtain ⟨nv2, h4, h⟩ := Option.bind_eq_some_iff.mp h
                  obtain ⟨ld, h5, h⟩ := Option.bind_eq_some_iff.mp h
                  obtain ⟨b, h6, h⟩ := Option.bind_eq_some_iff.mp h
                  have H4 := Aside0.mk h4
                  have H5 := Aside0.mk h5
                  have H6 := Aside0.mk h6
                  clear h4 h5 h6
                  obtain ⟨ad2, e2, hx2⟩ := Kd.at_int HR2.out.1 (i : Int) (by omega) (by omega)
                  cases e2
                  rw [Int.toNat_natCast] at hx2
                  replace hx2 := (HB.out.cell (World.block_lt_of_cell? w _ hx2)).trans hx2
                  have c2 : decide ((i : Int) < (l2.length : Int)) = true := decide_eq_true (by omega)
                  have c2' : (i < l2.length) = True := eq_true hi2
                  cases b with
                  | false =>
                    rw [if_neg (by decide)] at h
                    obtain rfl := Option.some.inj h
                    clear h
                    go_wp2_with (first | (go_at_call 9; refine (nvram_Apply.calls kk An cn nv Ar cr row (rd l2 (i : Int)) nv2 _ HV.out.1 HV.out.2 HRW.out.1 HRW.out.2 H4.out).mono ?_; rintro e_ w5 ⟨v5, rfl, hR5, hb⟩; obtain ⟨A5, c5, hv5, hc5, hC5⟩ := Kd.R_reads hR5; subst hv5; have HW := Aside0.mk (And.intro hC5 hc5); have n0_ := Aside0.mk (below_step HB.out hb); have n1_ := Aside0.mk (And.intro (Kd.C_below HN3.out.1 hb) HN3.out.2); clear HB HN3 hb hR5 hC5 hc5; have HB := n0_; have HN3 := n1_; clear n0_ n1_) | (go_at_call 6; refine (vars_Load.calls kk A5 c5 nv2 ld _ HW.out.1 HW.out.2 H5.out (HT.out.below HB.out)).mono ?_; rintro e_ w6 ⟨v6, rfl, hR6, hb⟩; obtain ⟨A6, c6, hv6, hc6, hC6⟩ := Kd.R_reads hR6; subst hv6; have HD := Aside0.mk (And.intro hC6 hc6); have n0_ := Aside0.mk (below_step HB.out hb); have n1_ := Aside0.mk (And.intro (Kd.C_below HN3.out.1 hb) HN3.out.2); have n2_ := Aside0.mk (And.intro (Kd.C_below HW.out.1 hb) HW.out.2); clear HB HN3 HW hb hR6 hC6 hc6; have HB := n0_; have HN3 := n1_; have HW := n2_; clear n0_ n1_ n2_) | (go_at_call 10; refine (tinderref19_Same.calls kk A6 c6 ld An3 cn3 next false _ HD.out.1 HD.out.2 HN3.out.1 HN3.out.2 H6.out).mono ?_; rintro e_ w7 ⟨rfl, ⟨nq, rfl⟩⟩; have n0_ := Aside0.mk (pw_below_drewN HB.out nq); have n1_ := Aside0.mk (And.intro (Kd.C_drewN HN3.out.1 nq) HN3.out.2); have n2_ := Aside0.mk (And.intro (Kd.C_drewN HW.out.1 nq) HW.out.2); clear HB HN3 HW; have HB := n0_; have HN3 := n1_; have HW := n2_; clear n0_ n1_ n2_))
                    go_ret
                    exact ⟨rfl, HB.out⟩
                  | true =>
                    rw [if_pos rfl] at h
                    have HH2 := Aside0.mk h
                    clear h
                    go_wp2_with (first | (go_at_call 9; refine (nvram_Apply.calls kk An cn nv Ar cr row (rd l2 (i : Int)) nv2 _ HV.out.1 HV.out.2 HRW.out.1 HRW.out.2 H4.out).mono ?_; rintro e_ w5 ⟨v5, rfl, hR5, hb⟩; obtain ⟨A5, c5, hv5, hc5, hC5⟩ := Kd.R_reads hR5; subst hv5; have HW := Aside0.mk (And.intro hC5 hc5); have n0_ := Aside0.mk (below_step HB.out hb); have n1_ := Aside0.mk (And.intro (Kd.C_below HN3.out.1 hb) HN3.out.2); clear HB HN3 hb hR5 hC5 hc5; have HB := n0_; have HN3 := n1_; clear n0_ n1_) | (go_at_call 6; refine (vars_Load.calls kk A5 c5 nv2 ld _ HW.out.1 HW.out.2 H5.out (HT.out.below HB.out)).mono ?_; rintro e_ w6 ⟨v6, rfl, hR6, hb⟩; obtain ⟨A6, c6, hv6, hc6, hC6⟩ := Kd.R_reads hR6; subst hv6; have HD := Aside0.mk (And.intro hC6 hc6); have n0_ := Aside0.mk (below_step HB.out hb); have n1_ := Aside0.mk (And.intro (Kd.C_below HN3.out.1 hb) HN3.out.2); have n2_ := Aside0.mk (And.intro (Kd.C_below HW.out.1 hb) HW.out.2); clear HB HN3 HW hb hR6 hC6 hc6; have HB := n0_; have HN3 := n1_; have HW := n2_; clear n0_ n1_ n2_) | (go_at_call 10; refine (tinderref19_Same.calls kk A6 c6 ld An3 cn3 next true _ HD.out.1 HD.out.2 HN3.out.1 HN3.out.2 H6.out).mono ?_; rintro e_ w7 ⟨rfl, ⟨nq, rfl⟩⟩; have n0_ := Aside0.mk (pw_below_drewN HB.out nq); have n1_ := Aside0.mk (And.intro (Kd.C_drewN HN3.out.1 nq) HN3.out.2); have n2_ := Aside0.mk (And.intro (Kd.C_drewN HW.out.1 nq) HW.out.2); clear HB HN3 HW; have HB := n0_; have HN3 := n1_; have HW := n2_; clear n0_ n1_ n2_))
                    go_roundg kk
                    case measure => omega
                    case rel => exact ⟨_, _, nv2, _, _, next, i + 1, rfl, rfl, by rw [show wrap64 ((i : Int) + 1) = ((i + 1 : Nat) : Int) by have := HLEN.out; have := HI.out; unfold wrap64; omega], HH2, ⟨HW.out.1, HW.out.2⟩, ⟨HN3.out.1, HN3.out.2⟩, HB⟩
                · skip
                  have h := HH.out
                  rw [if_pos hi2] at h
                  rw [if_neg hge] at h
                  have cg : decide ((row.length : Int) ≤ rd l2 (i : Int)) = false := decide_eq_false hge
                  obtain ⟨nv2, h4, h⟩ := Option.bind_eq_some_iff.mp h
                  obtain ⟨ld, h5, h⟩ := Option.bind_eq_some_iff.mp h
                  obtain ⟨b, h6, h⟩ := Option.bind_eq_some_iff.mp h
                  have H4 := Aside0.mk h4
                  have H5 := Aside0.mk h5
                  have H6 := Aside0.mk h6
                  clear h4 h5 h6
                  obtain ⟨ad2, e2, hx2⟩ := Kd.at_int HR2.out.1 (i : Int) (by omega) (by omega)
                  cases e2
                  rw [Int.toNat_natCast] at hx2
                  replace hx2 := (HB.out.cell (World.block_lt_of_cell? w _ hx2)).trans hx2
                  have c2 : decide ((i : Int) < (l2.length : Int)) = true := decide_eq_true (by omega)
                  have c2' : (i < l2.length) = True := eq_true hi2
                  cases b with
                  | false =>
                    rw [if_neg (by decide)] at h
                    obtain rfl := Option.some.inj h
                    clear h
                    go_wp2_with (first | (go_at_call 9; refine (nvram_Apply.calls kk An cn nv Ar cr row (rd l2 (i : Int)) nv2 _ HV.out.1 HV.out.2 HRW.out.1 HRW.out.2 H4.out).mono ?_; rintro e_ w5 ⟨v5, rfl, hR5, hb⟩; obtain ⟨A5, c5, hv5, hc5, hC5⟩ := Kd.R_reads hR5; subst hv5; have HW := Aside0.mk (And.intro hC5 hc5); have n0_ := Aside0.mk (below_step HB.out hb); have n1_ := Aside0.mk (And.intro (Kd.C_below HN.out.1 hb) HN.out.2); clear HB HN hb hR5 hC5 hc5; have HB := n0_; have HN := n1_; clear n0_ n1_) | (go_at_call 6; refine (vars_Load.calls kk A5 c5 nv2 ld _ HW.out.1 HW.out.2 H5.out (HT.out.below HB.out)).mono ?_; rintro e_ w6 ⟨v6, rfl, hR6, hb⟩; obtain ⟨A6, c6, hv6, hc6, hC6⟩ := Kd.R_reads hR6; subst hv6; have HD := Aside0.mk (And.intro hC6 hc6); have n0_ := Aside0.mk (below_step HB.out hb); have n1_ := Aside0.mk (And.intro (Kd.C_below HN.out.1 hb) HN.out.2); have n2_ := Aside0.mk (And.intro (Kd.C_below HW.out.1 hb) HW.out.2); clear HB HN HW hb hR6 hC6 hc6; have HB := n0_; have HN := n1_; have HW := n2_; clear n0_ n1_ n2_) | (go_at_call 10; refine (tinderref19_Same.calls kk A6 c6 ld Aw cw now false _ HD.out.1 HD.out.2 HN.out.1 HN.out.2 H6.out).mono ?_; rintro e_ w7 ⟨rfl, ⟨nq, rfl⟩⟩; have n0_ := Aside0.mk (pw_below_drewN HB.out nq); have n1_ := Aside0.mk (And.intro (Kd.C_drewN HN.out.1 nq) HN.out.2); have n2_ := Aside0.mk (And.intro (Kd.C_drewN HW.out.1 nq) HW.out.2); clear HB HN HW; have HB := n0_; have HN := n1_; have HW := n2_; clear n0_ n1_ n2_))
                    go_ret
                    exact ⟨rfl, HB.out⟩
                  | true =>
                    rw [if_pos rfl] at h
                    have HH2 := Aside0.mk h
                    clear h
                    go_wp2_with (first | (go_at_call 9; refine (nvram_Apply.calls kk An cn nv Ar cr row (rd l2 (i : Int)) nv2 _ HV.out.1 HV.out.2 HRW.out.1 HRW.out.2 H4.out).mono ?_; rintro e_ w5 ⟨v5, rfl, hR5, hb⟩; obtain ⟨A5, c5, hv5, hc5, hC5⟩ := Kd.R_reads hR5; subst hv5; have HW := Aside0.mk (And.intro hC5 hc5); have n0_ := Aside0.mk (below_step HB.out hb); have n1_ := Aside0.mk (And.intro (Kd.C_below HN.out.1 hb) HN.out.2); clear HB HN hb hR5 hC5 hc5; have HB := n0_; have HN := n1_; clear n0_ n1_) | (go_at_call 6; refine (vars_Load.calls kk A5 c5 nv2 ld _ HW.out.1 HW.out.2 H5.out (HT.out.below HB.out)).mono ?_; rintro e_ w6 ⟨v6, rfl, hR6, hb⟩; obtain ⟨A6, c6, hv6, hc6, hC6⟩ := Kd.R_reads hR6; subst hv6; have HD := Aside0.mk (And.intro hC6 hc6); have n0_ := Aside0.mk (below_step HB.out hb); have n1_ := Aside0.mk (And.intro (Kd.C_below HN.out.1 hb) HN.out.2); have n2_ := Aside0.mk (And.intro (Kd.C_below HW.out.1 hb) HW.out.2); clear HB HN HW hb hR6 hC6 hc6; have HB := n0_; have HN := n1_; have HW := n2_; clear n0_ n1_ n2_) | (go_at_call 10; refine (tinderref19_Same.calls kk A6 c6 ld Aw cw now true _ HD.out.1 HD.out.2 HN.out.1 HN.out.2 H6.out).mono ?_; rintro e_ w7 ⟨rfl, ⟨nq, rfl⟩⟩; have n0_ := Aside0.mk (pw_below_drewN HB.out nq); have n1_ := Aside0.mk (And.intro (Kd.C_drewN HN.out.1 nq) HN.out.2); have n2_ := Aside0.mk (And.intro (Kd.C_drewN HW.out.1 nq) HW.out.2); clear HB HN HW; have HB := n0_; have HN := n1_; have HW := n2_; clear n0_ n1_ n2_))
                    go_roundg kk
                    case measure => omega
                    case rel => exact ⟨_, _, nv2, _, _, now, i + 1, rfl, rfl, by rw [show wrap64 ((i : Int) + 1) = ((i + 1 : Nat) : Int) by have := HLEN.out; have := HI.out; unfold wrap64; omega], HH2, ⟨HW.out.1, HW.out.2⟩, ⟨HN.out.1, HN.out.2⟩, HB⟩
              · skip
                have h := HH.out
                rw [if_neg hi2] at h
                rw [if_pos (Int.le_refl (row.length : Int))] at h
                obtain ⟨nv2, h4, h⟩ := Option.bind_eq_some_iff.mp h
                obtain ⟨ld, h5, h⟩ := Option.bind_eq_some_iff.mp h
                obtain ⟨b, h6, h⟩ := Option.bind_eq_some_iff.mp h
                have H4 := Aside0.mk h4
                have H5 := Aside0.mk h5
                have H6 := Aside0.mk h6
                clear h4 h5 h6
                have c2 : decide ((i : Int) < (l2.length : Int)) = false := decide_eq_false (by omega)
                have c2' : (i < l2.length) = False := eq_false hi2
                cases b with
                | false =>
                  rw [if_neg (by decide)] at h
                  obtain rfl := Option.some.inj h
                  clear h
                  go_wp2_with (first | (go_at_call 9; refine (nvram_Apply.calls kk An cn nv Ar cr row ((row.length : Int)) nv2 _ HV.out.1 HV.out.2 HRW.out.1 HRW.out.2 H4.out).mono ?_; rintro e_ w5 ⟨v5, rfl, hR5, hb⟩; obtain ⟨A5, c5, hv5, hc5, hC5⟩ := Kd.R_reads hR5; subst hv5; have HW := Aside0.mk (And.intro hC5 hc5); have n0_ := Aside0.mk (below_step HB.out hb); have n1_ := Aside0.mk (And.intro (Kd.C_below HN3.out.1 hb) HN3.out.2); clear HB HN3 hb hR5 hC5 hc5; have HB := n0_; have HN3 := n1_; clear n0_ n1_) | (go_at_call 6; refine (vars_Load.calls kk A5 c5 nv2 ld _ HW.out.1 HW.out.2 H5.out (HT.out.below HB.out)).mono ?_; rintro e_ w6 ⟨v6, rfl, hR6, hb⟩; obtain ⟨A6, c6, hv6, hc6, hC6⟩ := Kd.R_reads hR6; subst hv6; have HD := Aside0.mk (And.intro hC6 hc6); have n0_ := Aside0.mk (below_step HB.out hb); have n1_ := Aside0.mk (And.intro (Kd.C_below HN3.out.1 hb) HN3.out.2); have n2_ := Aside0.mk (And.intro (Kd.C_below HW.out.1 hb) HW.out.2); clear HB HN3 HW hb hR6 hC6 hc6; have HB := n0_; have HN3 := n1_; have HW := n2_; clear n0_ n1_ n2_) | (go_at_call 10; refine (tinderref19_Same.calls kk A6 c6 ld An3 cn3 next false _ HD.out.1 HD.out.2 HN3.out.1 HN3.out.2 H6.out).mono ?_; rintro e_ w7 ⟨rfl, ⟨nq, rfl⟩⟩; have n0_ := Aside0.mk (pw_below_drewN HB.out nq); have n1_ := Aside0.mk (And.intro (Kd.C_drewN HN3.out.1 nq) HN3.out.2); have n2_ := Aside0.mk (And.intro (Kd.C_drewN HW.out.1 nq) HW.out.2); clear HB HN3 HW; have HB := n0_; have HN3 := n1_; have HW := n2_; clear n0_ n1_ n2_))
                  go_ret
                  exact ⟨rfl, HB.out⟩
                | true =>
                  rw [if_pos rfl] at h
                  have HH2 := Aside0.mk h
                  clear h
                  go_wp2_with (first | (go_at_call 9; refine (nvram_Apply.calls kk An cn nv Ar cr row ((row.length : Int)) nv2 _ HV.out.1 HV.out.2 HRW.out.1 HRW.out.2 H4.out).mono ?_; rintro e_ w5 ⟨v5, rfl, hR5, hb⟩; obtain ⟨A5, c5, hv5, hc5, hC5⟩ := Kd.R_reads hR5; subst hv5; have HW := Aside0.mk (And.intro hC5 hc5); have n0_ := Aside0.mk (below_step HB.out hb); have n1_ := Aside0.mk (And.intro (Kd.C_below HN3.out.1 hb) HN3.out.2); clear HB HN3 hb hR5 hC5 hc5; have HB := n0_; have HN3 := n1_; clear n0_ n1_) | (go_at_call 6; refine (vars_Load.calls kk A5 c5 nv2 ld _ HW.out.1 HW.out.2 H5.out (HT.out.below HB.out)).mono ?_; rintro e_ w6 ⟨v6, rfl, hR6, hb⟩; obtain ⟨A6, c6, hv6, hc6, hC6⟩ := Kd.R_reads hR6; subst hv6; have HD := Aside0.mk (And.intro hC6 hc6); have n0_ := Aside0.mk (below_step HB.out hb); have n1_ := Aside0.mk (And.intro (Kd.C_below HN3.out.1 hb) HN3.out.2); have n2_ := Aside0.mk (And.intro (Kd.C_below HW.out.1 hb) HW.out.2); clear HB HN3 HW hb hR6 hC6 hc6; have HB := n0_; have HN3 := n1_; have HW := n2_; clear n0_ n1_ n2_) | (go_at_call 10; refine (tinderref19_Same.calls kk A6 c6 ld An3 cn3 next true _ HD.out.1 HD.out.2 HN3.out.1 HN3.out.2 H6.out).mono ?_; rintro e_ w7 ⟨rfl, ⟨nq, rfl⟩⟩; have n0_ := Aside0.mk (pw_below_drewN HB.out nq); have n1_ := Aside0.mk (And.intro (Kd.C_drewN HN3.out.1 nq) HN3.out.2); have n2_ := Aside0.mk (And.intro (Kd.C_drewN HW.out.1 nq) HW.out.2); clear HB HN3 HW; have HB := n0_; have HN3 := n1_; have HW := n2_; clear n0_ n1_ n2_))
                  go_roundg kk
                  case measure => omega
                  case rel => exact ⟨_, _, nv2, _, _, next, i + 1, rfl, rfl, by rw [show wrap64 ((i : Int) + 1) = ((i + 1 : Nat) : Int) by have := HLEN.out; have := HI.out; unfold wrap64; omega], HH2, ⟨HW.out.1, HW.out.2⟩, ⟨HN3.out.1, HN3.out.2⟩, HB⟩
            · have h := HH.out
              rw [if_neg hef] at h
              clear HH
              have HH2 := Aside0.mk h
              clear h
              by_cases he : e = 0
              · subst he
                have hfb : (f != 0) = true := bne_iff_ne.mpr (fun hf0 => hef ⟨rfl, hf0⟩)
                clear hef
                go_wp2_with (go_at_call 8; refine (vars_Save.calls kk An cn nv An3 cn3 next row f _ HV.out.1 HV.out.2 HN3.out.1 HN3.out.2 HF.out (HT.out.below HB.out)).mono ?_; rintro e_ w4 ⟨v4, rfl, hR4, hb⟩; obtain ⟨Ar, cr, hv4, hcr, hCr⟩ := Kd.R_reads hR4; subst hv4; have HRW := Aside0.mk (And.intro hCr hcr); have n0_ := Aside0.mk (below_step HB.out hb); have n1_ := Aside0.mk (And.intro (Kd.C_below HN.out.1 hb) HN.out.2); have n2_ := Aside0.mk (And.intro (Kd.C_below HN3.out.1 hb) HN3.out.2); have n3_ := Aside0.mk (And.intro (Kd.C_below HV.out.1 hb) HV.out.2); clear HB HN HN3 HV hb hR4 hCr hcr; have HB := n0_; have HN := n1_; have HN3 := n2_; have HV := n3_; clear n0_ n1_ n2_ n3_)
                go_roundg kk
                case measure => omega
                case rel => exact ⟨_, _, nv, _, _, now, i + 1, rfl, rfl, by rw [show wrap64 ((i : Int) + 1) = ((i + 1 : Nat) : Int) by have := HLEN.out; have := HI.out; unfold wrap64; omega], HH2, ⟨HV.out.1, HV.out.2⟩, ⟨HN.out.1, HN.out.2⟩, HB⟩
              · have heb : (e != 0) = true := bne_iff_ne.mpr he
                clear hef he
                go_wp2_with (go_at_call 8; refine (vars_Save.calls kk An cn nv An3 cn3 next row f _ HV.out.1 HV.out.2 HN3.out.1 HN3.out.2 HF.out (HT.out.below HB.out)).mono ?_; rintro e_ w4 ⟨v4, rfl, hR4, hb⟩; obtain ⟨Ar, cr, hv4, hcr, hCr⟩ := Kd.R_reads hR4; subst hv4; have HRW := Aside0.mk (And.intro hCr hcr); have n0_ := Aside0.mk (below_step HB.out hb); have n1_ := Aside0.mk (And.intro (Kd.C_below HN.out.1 hb) HN.out.2); have n2_ := Aside0.mk (And.intro (Kd.C_below HN3.out.1 hb) HN3.out.2); have n3_ := Aside0.mk (And.intro (Kd.C_below HV.out.1 hb) HV.out.2); clear HB HN HN3 HV hb hR4 hCr hcr; have HB := n0_; have HN := n1_; have HN3 := n2_; have HV := n3_; clear n0_ n1_ n2_ n3_)
                go_roundg kk
                case measure => omega
                case rel => exact ⟨_, _, nv, _, _, now, i + 1, rfl, rfl, by rw [show wrap64 ((i : Int) + 1) = ((i + 1 : Nat) : Int) by have := HLEN.out; have := HI.out; unfold wrap64; omega], HH2, ⟨HV.out.1, HV.out.2⟩, ⟨HN.out.1, HN.out.2⟩, HB⟩
          · rw [if_neg hi] at H
            obtain ⟨ld, h2, h3⟩ := Option.bind_eq_some_iff.mp H
            have H2 := Aside0.mk h2
            have H3 := Aside0.mk h3
            have c : decide ((i : Int) < (l1.length : Int)) = false := decide_eq_false (by omega)
            have c' : (i < l1.length) = False := eq_false hi
            clear h2 h3 H
            go_wp2_with (first | (go_at_call 6; refine (vars_Load.calls kk An cn nv ld _ HV.out.1 HV.out.2 H2.out (HT.out.below HB.out)).mono ?_; rintro e w3 ⟨v3, rfl, hR3, hb⟩; obtain ⟨Ax, cx, hv3, hcw, hcc⟩ := Kd.R_reads hR3; subst hv3; have HD := Aside0.mk (And.intro hcc hcw); have n0_ := Aside0.mk (below_step HB.out hb); have n1_ := Aside0.mk (Kd.C_below HN.out.1 hb); clear HB hb hR3 hcc hcw; have HB := n0_; have HN1 := n1_; clear n0_ n1_) | (go_at_call 10; refine (tinderref19_Same.calls kk Ax cx ld Aw cw now r _ HD.out.1 HD.out.2 HN1.out HN.out.2 H3.out).mono ?_; rintro e w4 ⟨rfl, ⟨nq, rfl⟩⟩))
            go_ret
            exact ⟨rfl, by repeat (first | exact HB.out | apply below_alloc | apply pw_below_drewN | apply below_drew1)⟩
end Go.Proofs.YtdobpgomgnaleaaDoor.P
