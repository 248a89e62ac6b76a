import Derived.RangeFuncNested
import Derived.RangeFuncBound
import Derived.RangeFuncCalls
import Derived.RangeFuncLeaves
import Derived.Shelf.Abstract
import Derived.Shelf.RegionOpen
import Derived.WalkKit
import Derived.OwnWalkIn
import Derived.TacticsInMore
import Derived.LoopNIn
import Derived.LoopIn
import Derived.RangeFuncBox
import Derived.RangeFuncFrom
import Derived.RangeFuncWrites
import Derived.Maps.AppendAt
import Derived.Stop.RegionWithIn
import Derived.Deep.RegionHeldLaw
import Derived.Lib.AppendZeros
import Derived.Deep.WholeRow
import Derived.Test.YtdobpgomgnaleaaN2
import Derived.Test.YtdobpgomgnaleaaN3
import Derived.Test.YtdobpgomgnaleaaN4
import Derived.Test.YtdobpgomgnaleaaN6
import Derived.Test.YtdobpgomgnaleaaN7
import Derived.Test.YtdobpgomgnaleaaN8
import Derived.Test.YtdobpgomgnaleaaN9
import Derived.Test.YtdobpgomgnaleaaN10
import Derived.Test.YtdobpgomgnaleaaN11
import Derived.Test.YtdobpgomgnaleaaN12
import Derived.Test.YtdobpgomgnaleaaN13
import Derived.Test.YtdobpgomgnaleaaN14
import Derived.Test.YtdobpgomgnaleaaN15
import Derived.Test.YtdobpgomgnaleaaN16
import Derived.Shelf.Spec.SlicesInsertGrow
namespace Go.Proofs.Ytdobpgomgnaleaa.P
open Go.RowKit Go.Shelf Go.Proofs.YtdobpgomgnaleaaW.PrintWords
attribute [local go_sem] Oper.semAt_some
set_option linter.unusedVariables false
set_option linter.unusedSimpArgs false
theorem R_empty (X : World) (B : Nat) (h : B ≤ X.heap.size) : Kd.R (Kd.int .u8) 5 (X.alloc (.cells #[] 5)) B (fun _ => True) (.slice (some ⟨X.heap.size, 0, none⟩) 0 0) [] :=
  Kd.R_of_own ⟨rfl, .inr ⟨X.heap.size, 0, #[], rfl, h, blk_new X (.cells #[] 5), Nat.le_refl _, Nat.zero_le _, rfl, rfl⟩⟩ (fun _ _ => trivial)
theorem app_own {W W6 : World} {B B' : Nat} (hB : B ≤ W.heap.size) (hbel : Below B W6 W) {v : Value} {xs ys : List Int} (hv : Kd.R (Kd.int .u8) 5 W B (fun _ => True) v xs) (g n : Nat) (hy : Kd.R (Kd.int .u8) 5 W B' (fun _ => True) (.slice (some ⟨g, 0, none⟩) n n) ys) (hn : ys.length = n) (hlen : xs.length + n ≤ 5000) :
    ∃ v' w', (Builtin.append_ #[23, 23] 23 #[v, .slice (some ⟨g, 0, none⟩) n n]).run Try.prog W = .ok v' w' ∧ Kd.R (Kd.int .u8) 5 w' B (fun _ => True) v' (xs ++ ys) ∧ Below B W6 w' := by
  obtain ⟨i0, hi0, hz0, hz1, hz2⟩ := info_parts info5
  have hoy := Kd.own_of_R hy
  obtain ⟨v', w', h1, h2, h3, _⟩ := run_append_own (P := Try.prog) (w := W) B 23 23 5 i0 (.int .u8 0) 1 1 Try.underlying23 hi0 hz0 hz1 hz2 rfl (by decide) v xs.length _ (Kd.own_of_R hv) ⟨g, 0, none⟩ n n (encs (Value.int .u8) ys) (by unfold encs; rw [List.length_map, hn, Nat.mul_one]) (hoy.cells rfl) (fun u hu => by unfold encs at hu; obtain ⟨y, _, rfl⟩ := List.mem_map.1 hu; rfl) (Nat.le_trans hlen (by decide)) (by omega) hB
  refine ⟨v', w', h1, Kd.R_of_own ?_ (fun _ _ => trivial), hbel.grown h3 hB (Kd.R_base hv)⟩
  rw [List.length_append, hn]
  unfold encs at h2 ⊢
  rw [List.map_append]
  exact h2
theorem cv8 {W : World} {B : Nat} {g c n : Nat} {xs : List Int} (h : Kd.R (Kd.int .u8) 5 W B (fun _ => True) (.slice (some ⟨g, 0, none⟩) n c) xs) : (convert 23 9 (.slice (some ⟨g, 0, none⟩) n c)).run Try.prog W = .ok (.string (strOfNums xs)) W := by
  obtain ⟨h1, _, hC⟩ := Kd.R_reads' h
  rw [← h1] at hC
  exact Kd.C_string (P := Try.prog) Try.underlying23 Try.underlying5 Try.underlying9 hC
theorem cvC {W : World} {g off c n : Nat} {xs : List Int} (hn : xs.length = n) (hC : Kd.C (Kd.int .u8) W (some ⟨g, off, none⟩) n xs) : (convert 23 9 (.slice (some ⟨g, off, none⟩) n c)).run Try.prog W = .ok (.string (strOfNums xs)) W :=
  Kd.C_string (P := Try.prog) Try.underlying23 Try.underlying5 Try.underlying9 hC
theorem all_out {W : World} {B : Nat} {v : Value} {f1 f2 : List Int} (h1 : f1.length = 1024) (h2 : f2.length = 512) (h : Kd.R (Kd.int .u8) 5 W B (fun _ => True) v ([] ++ f1 ++ f2)) : ∃ g c, v = .slice (some ⟨g, 0, none⟩) 1536 c ∧ 1536 ≤ c ∧ Kd.C (Kd.int .u8) W (some ⟨g, 0, none⟩) (f1 ++ f2).length (f1 ++ f2) := by
  rw [List.nil_append] at h
  have hl : (f1 ++ f2).length = 1536 := by rw [List.length_append, h1, h2]
  obtain ⟨g, c, rfl, hc⟩ := R_out h (by omega)
  have hC := (Kd.R_reads' h).2.2
  rw [hl] at hc ⊢
  exact ⟨g, c, rfl, hc, by rw [← hl]; exact hC⟩
set_option maxHeartbeats 8000000 in
set_option maxRecDepth 100000 in
theorem law_calls (A0 : Option Addr) (cap0 : Nat) (l : List WR) (w : World) (hP : Lies w A0 l) (hlc : l.length ≤ 9223372036854775807) :
    Calls Try.prog 3 #[.slice A0 l.length cap0] w fun e w' => e = .returned (.bool true) ∧ Below w.heap.size w w' := by
  have hb0 := Below.refl w.heap.size w
  have HP := Aside0.mk hP
  clear hP
  have mixed : Try.prog.follows Departure.mixedOrders = true := by kernel_rfl
  by_cases h40 : 40 < l.length
  · have c40 : decide ((40 : Int) < (l.length : Int)) = true := decide_eq_true (by omega)
    have c40' : (40 < l.length) = True := eq_true h40
    go_enter Try.func3, Try.ntmps3
    go_wp2_with (first
    | (go_at_call 4; refine (make_calls _).mono ?_; rintro e W1 ⟨gm, rfl, hgm, hM, hb1⟩; have HB1 := Aside0.mk hb1; have HO1 := Aside0.mk (R_lab hM hgm); clear hM hb1 hgm)
    | (at_builtin; refine Kd.R_append_zeros (P := Try.prog) (w0 := w) (Kd.int .u8) w.heap.size rfl _ _ 23 3 5 (.int .u8 0) 1 rfl Try.underlying23 Try.underlying3 info5 rfl (by decide) (by decide) _ LAB 0 2048 (fun _ => True) rfl rfl rfl (fun _ _ => trivial) HO1.out (by decide) HB1.out HB1.out.size (by rw [LAB_len]; decide) ?_; intro vd W2 hRd hb2 hg2 hat2; obtain ⟨gd, capd, rfl, hcapd, hRd, hgd⟩ := d_out hRd; have HRD := Aside0.mk hRd; have HB2 := Aside0.mk hb2; have HCD := Aside0.mk hcapd; have HGD := Aside0.mk hgd; clear hRd hb2 hg2 hat2 hcapd hgd HO1 HB1)
    | (go_at_call 5; refine (window_calls gd 0 capd (dOf zs1 zs2) ⟨#[97]⟩ 0 (.inl ⟨rfl, rfl⟩) _ (Kd.R_reads' HRD.out).2.2 (dOf_len zs_len1 zs_len2) (dOf_take _ _) (by rw [dOf_len zs_len1 zs_len2]; exact HCD.out)).mono ?_; rintro e W3 ⟨rfl, hb3⟩; have HRD := Aside0.mk (Kd.R_below HRD.out hb3); have HB3 := Aside0.mk (below_then HB2.out HB2.out.size hb3); have HGD := Aside0.mk (Nat.lt_of_lt_of_le HGD.out hb3.size); clear hb3 HB2))
    go_ret
    exact ⟨rfl, HB3.out⟩
  have c40 : decide ((40 : Int) < (l.length : Int)) = false := decide_eq_false (by omega)
  have c40' : (40 < l.length) = False := eq_false h40
  go_enter Try.func3, Try.ntmps3
  go_upto_region 8 with (first
    | (go_at_call 4; refine (make_calls _).mono ?_; rintro e W1 ⟨gm, rfl, hgm, hM, hb1⟩; have HB1 := Aside0.mk hb1; have HO1 := Aside0.mk (R_lab hM hgm); clear hM hb1 hgm)
    | (at_builtin; refine Kd.R_append_zeros (P := Try.prog) (w0 := w) (Kd.int .u8) w.heap.size rfl _ _ 23 3 5 (.int .u8 0) 1 rfl Try.underlying23 Try.underlying3 info5 rfl (by decide) (by decide) _ LAB 0 2048 (fun _ => True) rfl rfl rfl (fun _ _ => trivial) HO1.out (by decide) HB1.out HB1.out.size (by rw [LAB_len]; decide) ?_; intro vd W2 hRd hb2 hg2 hat2; obtain ⟨gd, capd, rfl, hcapd, hRd, hgd⟩ := d_out hRd; have HRD := Aside0.mk hRd; have HB2 := Aside0.mk hb2; have HCD := Aside0.mk hcapd; have HGD := Aside0.mk hgd; clear hRd hb2 hg2 hat2 hcapd hgd HO1 HB1)
    | (go_at_call 5; refine (window_calls gd 0 capd (dOf zs1 zs2) ⟨#[97]⟩ 0 (.inl ⟨rfl, rfl⟩) _ (Kd.R_reads' HRD.out).2.2 (dOf_len zs_len1 zs_len2) (dOf_take _ _) (by rw [dOf_len zs_len1 zs_len2]; exact HCD.out)).mono ?_; rintro e W3 ⟨rfl, hb3⟩; have HRD := Aside0.mk (Kd.R_below HRD.out hb3); have HB3 := Aside0.mk (below_then HB2.out HB2.out.size hb3); have HGD := Aside0.mk (Nat.lt_of_lt_of_le HGD.out hb3.size); clear hb3 HB2))
  have mk1 : ∀ W : World, (Instr.makeSlice 23 (.int .i64 1024) (.int .i64 1024)).run Try.prog W = .ok (.slice (some ⟨W.heap.size, 0, none⟩) 1024 1024) (W.alloc (.cells (zM 1024) 5)) := make_z 1024 (by decide)
  have mk2 : ∀ W : World, (Instr.makeSlice 23 (.int .i64 512) (.int .i64 512)).run Try.prog W = .ok (.slice (some ⟨W.heap.size, 0, none⟩) 512 512) (W.alloc (.cells (zM 512) 5)) := make_z 512 (by decide)
  go_region
  · obtain ⟨h1, h2, h3, h4⟩ := two_rows W3 1024 512 w.heap.size HB3.out.size (by decide) (by decide)
    obtain ⟨gs, hgs⟩ : ∃ gs, gs = W3.heap.size + 1 := ⟨_, rfl⟩
    obtain ⟨gf, hgf⟩ : ∃ gf, gf = W3.heap.size := ⟨_, rfl⟩
    rw [← hgs] at h2 ⊢
    rw [← hgf] at h1 ⊢
    generalize hW4 : ((W3.alloc (.cells (zM 1024) 5)).alloc (.cells (zM 512) 5)).drew = W4 at h1 h2 h3 h4 ⊢
    clear hW4
    have hne : gf ≠ gs ∧ gd ≠ gf ∧ gd ≠ gs ∧ gf < W4.heap.size ∧ gs < W4.heap.size := by have := HGD.out; omega
    clear hgs hgf h4
    have HRD := Aside0.mk (Kd.R_below HRD.out h3)
    have HF1 := Aside0.mk (show Kd.R (Kd.int .u8) 5 W4 w.heap.size (fun _ => True) (.slice (some ⟨gf, 0, none⟩) 1024 1024) zs1 from h1)
    have HF2 := Aside0.mk (show Kd.R (Kd.int .u8) 5 W4 w.heap.size (fun _ => True) (.slice (some ⟨gs, 0, none⟩) 512 512) zs2 from h2)
    have HB4 := Aside0.mk (below_then HB3.out HB3.out.size h3)
    have HNE := Aside0.mk hne
    clear h1 h2 h3 hne HB3 HGD mk1 mk2
    go_wp2
    go_loopg [11, 5] l.length (fun kq v11 v5 w' => ∃ (j g cap : Nat) (f1 f2 : List Int), v11 = .int .i64 j ∧ v5 = .slice (some ⟨g, 0, none⟩) 2560 cap ∧ Aside0 (j + kq = l.length) ∧ Aside0 (f1.length = 1024 ∧ f2.length = 512) ∧ Aside0 (2560 ≤ cap) ∧ Aside0 (gf ≠ gs ∧ g ≠ gf ∧ g ≠ gs ∧ gf < w'.heap.size ∧ gs < w'.heap.size) ∧ Aside0 (Kd.R (Kd.int .u8) 5 w' w.heap.size (fun _ => True) (.slice (some ⟨g, 0, none⟩) 2560 cap) (dOf f1 f2)) ∧ Aside0 (Kd.R (Kd.int .u8) 5 w' w.heap.size (fun _ => True) (.slice (some ⟨gf, 0, none⟩) 1024 1024) f1) ∧ Aside0 (Kd.R (Kd.int .u8) 5 w' w.heap.size (fun _ => True) (.slice (some ⟨gs, 0, none⟩) 512 512) f2) ∧ Aside0 (Below w.heap.size w w'))
    case atStart => exact ⟨0, gd, capd, zs1, zs2, rfl, rfl, ⟨by omega⟩, ⟨zs_len1, zs_len2⟩, HCD, HNE, HRD, HF1, HF2, HB4⟩
    case round =>
      clear HRD HF1 HF2 HB4 HNE HCD
      obtain ⟨j, g, cap, f1, f2, rfl, rfl, HJ, HL, HCD, HNE, HRD, HF1, HF2, HB⟩ := hrel
      cases gk with
      | zero =>
        have c : decide ((j : Int) < (l.length : Int)) = false := decide_eq_false (by have := HJ.out; omega)
        have c' : (j < l.length) = False := eq_false (by have := HJ.out; omega)
        have hl1 := HL.out.1
        have hl2 := HL.out.2
        have hdl := dOf_len hl1 hl2
        have hdt := dOf_take f1 f2
        have HRC := Aside0.mk (Kd.R_reads' HRD.out).2.2
        have hga : ∀ X, Below wr.heap.size wr X → Calls Try.prog 7 #[.slice (some ⟨g, 0, none⟩) 2560 cap, .string ⟨#[97]⟩, .int .i64 0, .int .i64 1024] X fun e w' => ∃ q, e = .returned (.tuple #[.slice (some ⟨q, 0, none⟩) 1024 1024, .int .i64 0]) ∧ Kd.R (Kd.int .u8) 5 w' X.heap.size (fun _ => True) (.slice (some ⟨q, 0, none⟩) 1024 1024) f1 ∧ Below X.heap.size X w' := fun X hX => by
          have h := lget_ok g 0 cap (dOf f1 f2) ⟨#[97]⟩ 0 (.inl ⟨rfl, rfl⟩) 1024 512 X (Kd.C_below HRC.out hX) hdl hdt HCD.out rfl rfl
          rw [get_first hl1 hl2] at h
          exact h
        have hgb : ∀ X, Below wr.heap.size wr X → Calls Try.prog 7 #[.slice (some ⟨g, 0, none⟩) 2560 cap, .string ⟨#[98]⟩, .int .i64 0, .int .i64 512] X fun e w' => ∃ q, e = .returned (.tuple #[.slice (some ⟨q, 0, none⟩) 512 512, .int .i64 0]) ∧ Kd.R (Kd.int .u8) 5 w' X.heap.size (fun _ => True) (.slice (some ⟨q, 0, none⟩) 512 512) f2 ∧ Below X.heap.size X w' := fun X hX => by
          have h := lget_ok g 0 cap (dOf f1 f2) ⟨#[98]⟩ 1 (.inr ⟨rfl, rfl⟩) 512 1536 X (Kd.C_below HRC.out hX) hdl hdt HCD.out rfl rfl
          rw [get_second hl1 hl2] at h
          exact h
        have hbr := Below.refl wr.heap.size wr
        clear hl1 hl2 hdl hdt
        go_upto_region 24 with (go_at_call 7; refine (hga _ hbr).mono ?_; rintro e W5 ⟨qa, rfl, hRa, hb5⟩)
        go_upto_region 25 with (go_at_call 7; refine (hgb _ hb5).mono ?_; rintro e W6 ⟨qb, rfl, hRb, hb6⟩)
        have hw6 := below_then hb5 hb5.size hb6
        have HW6 := Aside0.mk hw6
        have HB6 := Aside0.mk (below_then HB.out HB.out.size hw6)
        have HQA := Aside0.mk (Kd.R_below hRa hb6)
        have HQB := Aside0.mk hRb
        have HF1a := Aside0.mk (Kd.R_below HF1.out hw6)
        have HF2a := Aside0.mk (Kd.R_below HF2.out hw6)
        have HRDa := Aside0.mk (Kd.R_below HRD.out hw6)
        clear hRa hRb hb5 hb6 hw6 hga hgb hbr HRC
        obtain ⟨v7, w7, hrun7, hR7, hb7⟩ := app_own (W := W6.alloc (.cells #[] 5)) (W6 := W6) (B := W6.heap.size) (by rw [World.size_alloc]; omega) (below_alloc (Below.refl W6.heap.size W6) _) (R_empty W6 W6.heap.size (Nat.le_refl _)) gf 1024 (Kd.R_below HF1a.out (below_alloc (Below.refl W6.heap.size W6) (.cells #[] 5))) HL.out.1 (by decide)
        obtain ⟨v8, w8, hrun8, hR8, hb8⟩ := app_own (W := w7) (W6 := W6) (B := W6.heap.size) hb7.size hb7 hR7 gs 512 (Kd.R_below HF2a.out hb7) HL.out.2 (by rw [List.length_append, HL.out.1]; decide)
        obtain ⟨gall, call, rfl, hcall, hCall⟩ := all_out HL.out.1 HL.out.2 hR8
        have HCALL := Aside0.mk hCall
        have HCL := Aside0.mk hcall
        have HB8 := Aside0.mk hb8
        have HRUN7 : Aside0 (∀ f : Unit → Sem Value, f () = Builtin.append_ #[23, 23] 23 #[.slice (some ⟨W6.heap.size, 0, none⟩) 0 0, .slice (some ⟨gf, 0, none⟩) 1024 1024] → (f ()).run Try.prog (W6.alloc (.cells #[] 5)) = .ok v7 w7) := ⟨fun f hf => by rw [hf]; exact hrun7⟩
        have HRUN8 : Aside0 (∀ f : Unit → Sem Value, f () = Builtin.append_ #[23, 23] 23 #[v7, .slice (some ⟨gs, 0, none⟩) 512 512] → (f ()).run Try.prog w7 = .ok (.slice (some ⟨gall, 0, none⟩) 1536 call) w8) := ⟨fun f hf => by rw [hf]; exact hrun8⟩
        clear hrun7 hrun8 hR7 hb7 hR8 hb8 hcall hCall
        go_upto_region 26 with (first
          | (at_builtin; refine Lib.wpList_append_run _ rfl (.tmp 147) (.tmp 148) 23 23 rfl (.slice (some ⟨W6.heap.size, 0, none⟩) 0 0) (.slice (some ⟨gf, 0, none⟩) 1024 1024) rfl rfl _ _ (HRUN7.out (fun _ => _) rfl) ?_)
          | (at_builtin; refine Lib.wpList_append_run _ rfl (.tmp 149) (.tmp 150) 23 23 rfl v7 (.slice (some ⟨gs, 0, none⟩) 512 512) rfl rfl _ _ (HRUN8.out (fun _ => _) rfl) ?_))
        have HX8 : Aside0 (Below w8.heap.size w8 w8) := ⟨Below.refl _ _⟩
        have HRD8 := Aside0.mk (Kd.R_below HRDa.out HB8.out)
        have HQA8 := Aside0.mk (Kd.R_below HQA.out HB8.out)
        have HQB8 := Aside0.mk (Kd.R_below HQB.out HB8.out)
        have HF18 := Aside0.mk (Kd.R_below HF1a.out HB8.out)
        have HF28 := Aside0.mk (Kd.R_below HF2a.out HB8.out)
        have HW8 := Aside0.mk (below_then HB6.out HB6.out.size HB8.out)
        have HDL := Aside0.mk (dOf_len HL.out.1 HL.out.2)
        go_wp2
        go_loopg [21] 4 (fun kq v21 w' => ∃ (k : Nat) (kz : Int), v21 = .int .i64 kz ∧ Aside0 (kz = k) ∧ Aside0 (1 ≤ k) ∧ Aside0 (k + kq = 5) ∧ Aside0 (Below w8.heap.size w8 w'))
        case atStart => exact ⟨1, 1, rfl, ⟨rfl⟩, ⟨Nat.le_refl _⟩, ⟨rfl⟩, HX8⟩
        case round =>
          clear HX8

          obtain ⟨k, kz, rfl, HKZ, HK1, HKQ, HB9⟩ := hrel
          cases gk with
          | zero =>
            obtain rfl : k = 5 := by have := HKQ.out; omega
            obtain rfl : kz = 5 := HKZ.out
            have hpl : Calls Try.prog 9 #[.slice (some ⟨g, 0, none⟩) 512 cap] wr fun e w' => e = .returned (.tuple #[.agg csL, .int .i64 0]) ∧ Below wr.heap.size wr w' := by
              have hCd := (Kd.R_reads' (Kd.R_below HRD8.out HB9.out)).2.2
              exact parse_lab g 0 cap (dOf f1 f2) wr hCd (by rw [HDL.out]; decide) (dOf_take f1 f2) (by rw [HDL.out]; exact HCD.out)
            obtain ⟨S1, hS1⟩ : ∃ S, S = strOfNums f1 := ⟨_, rfl⟩
            obtain ⟨S2, hS2⟩ : ∃ S, S = strOfNums f2 := ⟨_, rfl⟩
            have HPL := Aside0.mk hpl
            have HS1 := Aside0.mk hS1
            have HS2 := Aside0.mk hS2
            have hcd := HCD.out
            clear hpl hS1 hS2
            go_upto_region 36 with (first | (go_at_call 9; refine HPL.out.mono ?_; rintro e W9 ⟨rfl, hb9⟩) | (refine wpList_store_run rfl rfl 30 (.tmp 25) (.tmp 185) rfl ⟨W9.heap.size, 0, none⟩ (.agg csL) _ rfl rfl (store_lab W9) ?_))
            have hw9 := below_alloc (below_then HB9.out HB9.out.size hb9) (.cells csL 30)
            have cva := cv8 (Kd.R_below HQA8.out hw9)
            have cvb := cv8 (Kd.R_below HQB8.out hw9)
            have cvf := cv8 (Kd.R_below HF18.out hw9)
            have cvs := cv8 (Kd.R_below HF28.out hw9)
            rw [← HS1.out] at cva cvf
            rw [← HS2.out] at cvb cvs
            have HW9 := Aside0.mk (below_then HW8.out HW8.out.size hw9)
            clear hw9 hb9
            go_wp2
            go_ret
            exact ⟨by simp, HW9.out⟩
          | succ kk =>
            have hk4 : 1 ≤ k ∧ k ≤ 4 := by have := HKQ.out; have := HK1.out; omega
            rcases (show k = 1 ∨ k = 2 ∨ k = 3 ∨ k = 4 by omega) with rfl | rfl | rfl | rfl
            · obtain rfl : kz = 1 := HKZ.out
              have hrd : Calls Try.prog 8 #[.slice (some ⟨g, 0, none⟩) 2560 cap, .int .i64 1] wr fun e w' => ∃ q c, e = .returned (.tuple #[.slice (some ⟨q, 0, none⟩) 512 c, .int .i64 0]) ∧ 512 ≤ c ∧ Kd.R (Kd.int .u8) 5 w' wr.heap.size (fun _ => True) (.slice (some ⟨q, 0, none⟩) 512 c) (secL (dOf f1 f2) 1) ∧ Below wr.heap.size wr w' :=
                read_calls g 0 cap (dOf f1 f2) 1 (by decide) wr (Kd.R_reads' (Kd.R_below HRD8.out HB9.out)).2.2 HDL.out HCD.out
              have mk2 : ∀ W : World, (Instr.makeSlice 23 (.int .i64 512) (.int .i64 512)).run Try.prog W = .ok (.slice (some ⟨W.heap.size, 0, none⟩) 512 512) (W.alloc (.cells (zM 512) 5)) := make_z 512 (by decide)
              have hcl := HCL.out
              have hn1 : (call = 0) = False := eq_false (by omega)
              have hn2 : ¬ (call = 0) := by omega
              obtain ⟨S, hS⟩ : ∃ S, S = strOfNums (getL (f1 ++ f2) 0 512) := ⟨_, rfl⟩
              go_upto_region 33 with (go_at_call 8; refine hrd.mono ?_; rintro e W5 ⟨q, cq, rfl, hcq, hRq, hb5⟩; have hw5 := below_then HB9.out HB9.out.size hb5; have hcv1 := cv8 (W := W5.alloc (.cells (zM 512) 5)) (Kd.R_below hRq (below_alloc (Below.refl W5.heap.size W5) _)); have hcv2 := cvC (W := W5.alloc (.cells (zM 512) 5)) (g := gall) (off := 0) (c := call) (n := 512) (xs := getL (f1 ++ f2) 0 512) (getL_len _ _ _ (by rw [List.length_append, HL.out.1, HL.out.2]; decide)) (by have h := C_sub8 (Kd.C_below HCALL.out (below_alloc hw5 (.cells (zM 512) 5))) 0 (0 + 512) (by decide) (by rw [List.length_append, HL.out.1, HL.out.2]; decide); simpa [getL] using h); rw [sec_one HL.out.1 HL.out.2 1 (by decide) (by decide)] at hcv1; rw [← hS] at hcv1 hcv2; have HCV1 := Aside0.mk hcv1; have HCV2 := Aside0.mk hcv2; have HW5 := Aside0.mk hw5; clear hcv1 hcv2 hw5 hRq hb5)
              clear hS
              have hcv1 := HCV1.out
              have hcv2 := HCV2.out
              go_wp2
              go_roundg kk
              case measure => omega
              case rel => exact ⟨2, 2, rfl, ⟨rfl⟩, ⟨by decide⟩, ⟨by have := HKQ.out; omega⟩, ⟨below_alloc HW5.out _⟩⟩
            · obtain rfl : kz = 2 := HKZ.out
              have hrd : Calls Try.prog 8 #[.slice (some ⟨g, 0, none⟩) 2560 cap, .int .i64 2] wr fun e w' => ∃ q c, e = .returned (.tuple #[.slice (some ⟨q, 0, none⟩) 512 c, .int .i64 0]) ∧ 512 ≤ c ∧ Kd.R (Kd.int .u8) 5 w' wr.heap.size (fun _ => True) (.slice (some ⟨q, 0, none⟩) 512 c) (secL (dOf f1 f2) 2) ∧ Below wr.heap.size wr w' :=
                read_calls g 0 cap (dOf f1 f2) 2 (by decide) wr (Kd.R_reads' (Kd.R_below HRD8.out HB9.out)).2.2 HDL.out HCD.out
              have mk2 : ∀ W : World, (Instr.makeSlice 23 (.int .i64 512) (.int .i64 512)).run Try.prog W = .ok (.slice (some ⟨W.heap.size, 0, none⟩) 512 512) (W.alloc (.cells (zM 512) 5)) := make_z 512 (by decide)
              have hcl := HCL.out
              have hn1 : (call = 512) = False := eq_false (by omega)
              have hn2 : ¬ (call = 512) := by omega
              obtain ⟨S, hS⟩ : ∃ S, S = strOfNums (getL (f1 ++ f2) 512 512) := ⟨_, rfl⟩
              go_upto_region 33 with (go_at_call 8; refine hrd.mono ?_; rintro e W5 ⟨q, cq, rfl, hcq, hRq, hb5⟩; have hw5 := below_then HB9.out HB9.out.size hb5; have hcv1 := cv8 (W := W5.alloc (.cells (zM 512) 5)) (Kd.R_below hRq (below_alloc (Below.refl W5.heap.size W5) _)); have hcv2 := cvC (W := W5.alloc (.cells (zM 512) 5)) (g := gall) (off := 512) (c := call - 512) (n := 512) (xs := getL (f1 ++ f2) 512 512) (getL_len _ _ _ (by rw [List.length_append, HL.out.1, HL.out.2]; decide)) (by have h := C_sub8 (Kd.C_below HCALL.out (below_alloc hw5 (.cells (zM 512) 5))) 512 (512 + 512) (by decide) (by rw [List.length_append, HL.out.1, HL.out.2]; decide); simpa [getL] using h); rw [sec_one HL.out.1 HL.out.2 2 (by decide) (by decide)] at hcv1; rw [← hS] at hcv1 hcv2; have HCV1 := Aside0.mk hcv1; have HCV2 := Aside0.mk hcv2; have HW5 := Aside0.mk hw5; clear hcv1 hcv2 hw5 hRq hb5)
              clear hS
              have hcv1 := HCV1.out
              have hcv2 := HCV2.out
              go_wp2
              go_roundg kk
              case measure => omega
              case rel => exact ⟨3, 3, rfl, ⟨rfl⟩, ⟨by decide⟩, ⟨by have := HKQ.out; omega⟩, ⟨below_alloc HW5.out _⟩⟩
            · obtain rfl : kz = 3 := HKZ.out
              have hrd : Calls Try.prog 8 #[.slice (some ⟨g, 0, none⟩) 2560 cap, .int .i64 3] wr fun e w' => ∃ q c, e = .returned (.tuple #[.slice (some ⟨q, 0, none⟩) 512 c, .int .i64 0]) ∧ 512 ≤ c ∧ Kd.R (Kd.int .u8) 5 w' wr.heap.size (fun _ => True) (.slice (some ⟨q, 0, none⟩) 512 c) (secL (dOf f1 f2) 3) ∧ Below wr.heap.size wr w' :=
                read_calls g 0 cap (dOf f1 f2) 3 (by decide) wr (Kd.R_reads' (Kd.R_below HRD8.out HB9.out)).2.2 HDL.out HCD.out
              have mk2 : ∀ W : World, (Instr.makeSlice 23 (.int .i64 512) (.int .i64 512)).run Try.prog W = .ok (.slice (some ⟨W.heap.size, 0, none⟩) 512 512) (W.alloc (.cells (zM 512) 5)) := make_z 512 (by decide)
              have hcl := HCL.out
              have hn1 : (call = 1024) = False := eq_false (by omega)
              have hn2 : ¬ (call = 1024) := by omega
              obtain ⟨S, hS⟩ : ∃ S, S = strOfNums (getL (f1 ++ f2) 1024 512) := ⟨_, rfl⟩
              go_upto_region 33 with (go_at_call 8; refine hrd.mono ?_; rintro e W5 ⟨q, cq, rfl, hcq, hRq, hb5⟩; have hw5 := below_then HB9.out HB9.out.size hb5; have hcv1 := cv8 (W := W5.alloc (.cells (zM 512) 5)) (Kd.R_below hRq (below_alloc (Below.refl W5.heap.size W5) _)); have hcv2 := cvC (W := W5.alloc (.cells (zM 512) 5)) (g := gall) (off := 1024) (c := call - 1024) (n := 512) (xs := getL (f1 ++ f2) 1024 512) (getL_len _ _ _ (by rw [List.length_append, HL.out.1, HL.out.2]; decide)) (by have h := C_sub8 (Kd.C_below HCALL.out (below_alloc hw5 (.cells (zM 512) 5))) 1024 (1024 + 512) (by decide) (by rw [List.length_append, HL.out.1, HL.out.2]; decide); simpa [getL] using h); rw [sec_one HL.out.1 HL.out.2 3 (by decide) (by decide)] at hcv1; rw [← hS] at hcv1 hcv2; have HCV1 := Aside0.mk hcv1; have HCV2 := Aside0.mk hcv2; have HW5 := Aside0.mk hw5; clear hcv1 hcv2 hw5 hRq hb5)
              clear hS
              have hcv1 := HCV1.out
              have hcv2 := HCV2.out
              go_wp2
              go_roundg kk
              case measure => omega
              case rel => exact ⟨4, 4, rfl, ⟨rfl⟩, ⟨by decide⟩, ⟨by have := HKQ.out; omega⟩, ⟨below_alloc HW5.out _⟩⟩
            · obtain rfl : kz = 4 := HKZ.out
              have hrd : Calls Try.prog 8 #[.slice (some ⟨g, 0, none⟩) 2560 cap, .int .i64 4] wr fun e w' => ∃ q c, e = .returned (.tuple #[.slice (some ⟨q, 0, none⟩) 512 c, .int .i64 0]) ∧ 512 ≤ c ∧ Kd.R (Kd.int .u8) 5 w' wr.heap.size (fun _ => True) (.slice (some ⟨q, 0, none⟩) 512 c) (secL (dOf f1 f2) 4) ∧ Below wr.heap.size wr w' :=
                read_calls g 0 cap (dOf f1 f2) 4 (by decide) wr (Kd.R_reads' (Kd.R_below HRD8.out HB9.out)).2.2 HDL.out HCD.out
              have mk2 : ∀ W : World, (Instr.makeSlice 23 (.int .i64 512) (.int .i64 512)).run Try.prog W = .ok (.slice (some ⟨W.heap.size, 0, none⟩) 512 512) (W.alloc (.cells (zM 512) 5)) := make_z 512 (by decide)
              obtain ⟨S, hS⟩ : ∃ S, S = strOfNums (List.replicate 512 (0 : Int)) := ⟨_, rfl⟩
              go_upto_region 33 with (go_at_call 8; refine hrd.mono ?_; rintro e W5 ⟨q, cq, rfl, hcq, hRq, hb5⟩; have hw5 := below_then HB9.out HB9.out.size hb5; have hcv1 := cv8 (W := W5.alloc (.cells (zM 512) 5)) (Kd.R_below hRq (below_alloc (Below.refl W5.heap.size W5) _)); have hcv2 := cv8 (W := W5.alloc (.cells (zM 512) 5)) (R_z (blk_new W5 (.cells (zM 512) 5)) (Nat.zero_le _) (by decide)); rw [sec_four HL.out.1 HL.out.2] at hcv1; rw [← hS] at hcv1 hcv2; have HCV1 := Aside0.mk hcv1; have HCV2 := Aside0.mk hcv2; have HW5 := Aside0.mk hw5; clear hcv1 hcv2 hw5 hRq hb5)
              clear hS
              have hcv1 := HCV1.out
              have hcv2 := HCV2.out
              go_wp2
              go_roundg kk
              case measure => omega
              case rel => exact ⟨5, 5, rfl, ⟨rfl⟩, ⟨by decide⟩, ⟨by have := HKQ.out; omega⟩, ⟨below_alloc HW5.out _⟩⟩
      | succ kk =>
        have hj : j < l.length := by have := HJ.out; omega
        have c : decide ((j : Int) < (l.length : Int)) = true := decide_eq_true (by omega)
        have c' : (j < l.length) = True := eq_true hj
        obtain ⟨x, hx⟩ : ∃ x, l[j]? = some x := ⟨_, List.getElem?_eq_getElem hj⟩
        obtain ⟨ad, e, x0, x1, x2, hCx, hcx⟩ := HP.out j x hx
        subst e
        have hxs : ∀ X, Below w.heap.size w X → X.cell? (ad.add (j * 3)) = some (.bool x.s) ∧ X.cell? ⟨(ad.add (j * 3)).block, (ad.add (j * 3)).off + 1, none⟩ = some (.int .i64 x.at_) ∧ X.cell? ⟨(ad.add (j * 3)).block, (ad.add (j * 3)).off + 2, none⟩ = some (.slice x.A x.data.length x.c) := fun X hX =>
          ⟨(hX.cell (World.block_lt_of_cell? w _ x0)).trans x0, (hX.cell (World.block_lt_of_cell? w _ x1)).trans x1, (hX.cell (World.block_lt_of_cell? w _ x2)).trans x2⟩
        have HXS := Aside0.mk hxs
        have HCX := Aside0.mk hCx
        have HcX := Aside0.mk hcx
        clear x0 x1 x2 hxs hCx hcx hx
        obtain ⟨s, at_, A, cx, data⟩ := x
        dsimp only at HXS HCX HcX
        obtain ⟨y0, y1, y2⟩ := HXS.out wr HB.out
        cases s with
        | false =>
          go_upto_region 15 with (fail)
          have hl1 := HL.out.1
          have hl2 := HL.out.2
          have HLD := Aside0.mk (dOf_len hl1 hl2)
          have HRC := Aside0.mk (Kd.R_reads' (show Kd.R (Kd.int .u8) 5 wr w.heap.size (fun _ => True) (.slice (some ⟨g, 0, none⟩) 2560 cap) (dOf f1 f2) from HRD.out)).2.2
          have HLL : Aside0 (l.length ≤ 40) := ⟨by omega⟩
          clear hl1 hl2
          have hbd := below_drew (Below.refl wr.heap.size wr)
          by_cases hbad : at_ < 0 ∨ sizeW 0 < at_ ∨ sizeW 0 - at_ < (data.length : Int)
          · have hput : ∀ X, Below wr.heap.size wr X → Calls Try.prog 6 #[.slice (some ⟨g, 0, none⟩) 2560 cap, .string ⟨#[97]⟩, .int .i64 at_, .slice A data.length cx] X fun e w' => e = .returned (.tuple #[.slice none 0 0, .int .i64 23]) ∧ Below X.heap.size X w' := fun X hX => lput_bad g 0 cap (dOf f1 f2) ⟨#[97]⟩ 0 (.inl ⟨rfl, rfl⟩) at_ A cx data.length X (Kd.C_below HRC.out hX) HLD.out (dOf_take _ _) HCD.out hbad
            have hthree : at_ < 0 ∨ (0 ≤ at_ ∧ 1024 < at_) ∨ (0 ≤ at_ ∧ at_ ≤ 1024 ∧ 1024 - at_ < (data.length : Int)) := by
              have h := hbad
              rw [show sizeW 0 = 1024 from rfl] at h
              omega
            have HTHREE := Aside0.mk hthree
            clear hbad hthree
            go_region_held3 (fun w' => w'.cell? ⟨(ad.add (j * 3)).block, (ad.add (j * 3)).off + 1, none⟩ = some (.int .i64 at_) ∧ w'.cell? ⟨(ad.add (j * 3)).block, (ad.add (j * 3)).off + 2, none⟩ = some (.slice A data.length cx) ∧ Below wr.heap.size wr w') (first | exact ⟨y1, y2, hbd⟩ | (refine ⟨?_, ?_, by assumption⟩; exact (Below.cell (w := wr) (by assumption) (World.block_lt_of_cell? wr _ y1)).trans y1; exact (Below.cell (w := wr) (by assumption) (World.block_lt_of_cell? wr _ y2)).trans y2)) ((go_at_call 6; refine (hput _ (And.right (And.right (by assumption)))).mono ?_; rintro e W5 ⟨rfl, hb5⟩; have hw5 : Below wr.heap.size wr W5 := below_then hbd hbd.size hb5))
            have HB5 := Aside0.mk (below_then HB.out HB.out.size hw5)
            have HW5 := Aside0.mk hw5
            obtain ⟨v0, v1, v2⟩ := HXS.out W5 HB5.out
            clear hw5 hput hbd y0 y1 y2
            go_upto_region 16 with (fail)
            rcases HTHREE.out with h1 | ⟨h0, h1⟩ | ⟨h0, h2, h1⟩
            · have c1 : decide (at_ < 0) = true := decide_eq_true h1
              clear h1
              go_quiet (fail)
              try go_wp2
              go_roundg kk
              case measure => omega
              case rel => exact ⟨j + 1, g, cap, f1, f2, by first | rfl | (rw [show wrap64 ((j : Int) + 1) = ((j + 1 : Nat) : Int) by have := HLL.out; unfold wrap64; omega]), rfl, ⟨by have := HJ.out; omega⟩, HL, HCD, ⟨by have this_ := HNE.out; have this := HW5.out.size; refine ⟨this_.1, this_.2.1, this_.2.2.1, Nat.lt_of_lt_of_le this_.2.2.2.1 this, Nat.lt_of_lt_of_le this_.2.2.2.2 this⟩⟩, ⟨Kd.R_drewN (Kd.R_below HRD.out HW5.out) _⟩, ⟨Kd.R_drewN (Kd.R_below HF1.out HW5.out) _⟩, ⟨Kd.R_drewN (Kd.R_below HF2.out HW5.out) _⟩, ⟨pw_below_drewN HB5.out _⟩⟩
            · have c1 : decide (at_ < 0) = false := decide_eq_false (by omega)
              have c2 : decide ((1024 : Int) < at_) = true := decide_eq_true h1
              clear h0 h1
              go_quiet (fail)
              try go_wp2
              go_roundg kk
              case measure => omega
              case rel => exact ⟨j + 1, g, cap, f1, f2, by first | rfl | (rw [show wrap64 ((j : Int) + 1) = ((j + 1 : Nat) : Int) by have := HLL.out; unfold wrap64; omega]), rfl, ⟨by have := HJ.out; omega⟩, HL, HCD, ⟨by have this_ := HNE.out; have this := HW5.out.size; refine ⟨this_.1, this_.2.1, this_.2.2.1, Nat.lt_of_lt_of_le this_.2.2.2.1 this, Nat.lt_of_lt_of_le this_.2.2.2.2 this⟩⟩, ⟨Kd.R_drewN (Kd.R_below HRD.out HW5.out) _⟩, ⟨Kd.R_drewN (Kd.R_below HF1.out HW5.out) _⟩, ⟨Kd.R_drewN (Kd.R_below HF2.out HW5.out) _⟩, ⟨pw_below_drewN HB5.out _⟩⟩
            · have c1 : decide (at_ < 0) = false := decide_eq_false (by omega)
              have c2 : decide ((1024 : Int) < at_) = false := decide_eq_false (by omega)
              have c3 : decide (wrap64 (1024 - at_) < (data.length : Int)) = true := decide_eq_true (by rw [show wrap64 (1024 - at_) = 1024 - at_ by unfold wrap64; omega]; exact h1)
              clear h0 h1 h2
              go_quiet (fail)
              try go_wp2
              go_roundg kk
              case measure => omega
              case rel => exact ⟨j + 1, g, cap, f1, f2, by first | rfl | (rw [show wrap64 ((j : Int) + 1) = ((j + 1 : Nat) : Int) by have := HLL.out; unfold wrap64; omega]), rfl, ⟨by have := HJ.out; omega⟩, HL, HCD, ⟨by have this_ := HNE.out; have this := HW5.out.size; refine ⟨this_.1, this_.2.1, this_.2.2.1, Nat.lt_of_lt_of_le this_.2.2.2.1 this, Nat.lt_of_lt_of_le this_.2.2.2.2 this⟩⟩, ⟨Kd.R_drewN (Kd.R_below HRD.out HW5.out) _⟩, ⟨Kd.R_drewN (Kd.R_below HF1.out HW5.out) _⟩, ⟨Kd.R_drewN (Kd.R_below HF2.out HW5.out) _⟩, ⟨pw_below_drewN HB5.out _⟩⟩
          · obtain ⟨a, rfl⟩ : ∃ a : Nat, at_ = (a : Int) := ⟨at_.toNat, by rw [show sizeW 0 = 1024 from rfl] at hbad; omega⟩
            have hfit : a + data.length ≤ 1024 := by rw [show sizeW 0 = 1024 from rfl] at hbad; omega
            have hput : ∀ X, Below wr.heap.size wr X → Calls Try.prog 6 #[.slice (some ⟨g, 0, none⟩) 2560 cap, .string ⟨#[97]⟩, .int .i64 (a : Int), .slice A data.length cx] X fun e w' => ∃ g' cap', e = .returned (.tuple #[.slice (some ⟨g', 0, none⟩) 2560 cap', .int .i64 0]) ∧ 2560 ≤ cap' ∧ Kd.R (Kd.int .u8) 5 w' X.heap.size (fun _ => True) (.slice (some ⟨g', 0, none⟩) 2560 cap') (dOf (putL f1 a data) (f2)) ∧ Below X.heap.size X w' := fun X hX => by
              have h := lput_ok g 0 cap (dOf f1 f2) ⟨#[97]⟩ 0 (.inl ⟨rfl, rfl⟩) (a : Int) A cx data X (Kd.C_below HRC.out hX) HLD.out (dOf_take _ _) HCD.out (Kd.C_below HCX.out (below_then HB.out HB.out.size hX)) HcX.out hbad (512 + a) (by rw [show baseW 0 = 512 from rfl]; omega)
              rw [put_first f1 f2 data a HL.out.1 HL.out.2 hfit] at h
              exact h
            have HFIT := Aside0.mk hfit
            clear hbad hfit
            go_region_held3 (fun w' => w'.cell? ⟨(ad.add (j * 3)).block, (ad.add (j * 3)).off + 1, none⟩ = some (.int .i64 (a : Int)) ∧ w'.cell? ⟨(ad.add (j * 3)).block, (ad.add (j * 3)).off + 2, none⟩ = some (.slice A data.length cx) ∧ Below wr.heap.size wr w') (first | exact ⟨y1, y2, hbd⟩ | (refine ⟨?_, ?_, by assumption⟩; exact (Below.cell (w := wr) (by assumption) (World.block_lt_of_cell? wr _ y1)).trans y1; exact (Below.cell (w := wr) (by assumption) (World.block_lt_of_cell? wr _ y2)).trans y2)) ((go_at_call 6; refine (hput _ (And.right (And.right (by assumption)))).mono ?_; rintro e W5 ⟨g', cap', rfl, hcap', hR5, hb5⟩; have hw5 : Below wr.heap.size wr W5 := below_then hbd hbd.size hb5))
            have HB5 := Aside0.mk (below_then HB.out HB.out.size hw5)
            have HW5 := Aside0.mk hw5
            have HCD5 := Aside0.mk hcap'
            have hg' : wr.heap.size ≤ g' ∧ g' < W5.heap.size := (Kd.own_of_R hR5).lt g' rfl
            have HG' := Aside0.mk hg'
            have HR5 := Aside0.mk (R8_base (B' := w.heap.size) hR5 HB.out.size)
            obtain ⟨v0, v1, v2⟩ := HXS.out W5 HB5.out
            clear hw5 hput hbd y0 y1 y2 hcap' hR5 hg' hb5
            go_upto_region 16 with (fail)
            have c1 : decide ((a : Int) < 0) = false := decide_eq_false (by omega)
            have c2 : decide ((1024 : Int) < (a : Int)) = false := decide_eq_false (by have := HFIT.out; omega)
            have c3 : decide (wrap64 (1024 - (a : Int)) < (data.length : Int)) = false := decide_eq_false (by have := HFIT.out; rw [show wrap64 (1024 - (a : Int)) = 1024 - (a : Int) by unfold wrap64; omega]; omega)
            have c4 : (1024 < a) = False := eq_false (by have := HFIT.out; omega)
            go_quiet (fail)
            go_upto_region 22 with (fail)
            rcases Decidable.em (1024 = a) with hca | hca
            · subst hca
              obtain ⟨w7, hrun7, hR7, hgr7⟩ : ∃ w7, (Builtin.copy_ #[23, 23] 3 #[(.slice (some ⟨gf, 0, none⟩) 0 0), .slice A data.length cx]).run Try.prog (W5.drewN (nq + 1)) = .ok (.int .i64 (data.length : Int)) w7 ∧ Kd.R (Kd.int .u8) 5 w7 w.heap.size (fun _ => True) (.slice (some ⟨gf, 0, none⟩) 1024 1024) (putL f1 1024 data) ∧ (W5.drewN (nq + 1)).grownBy w7 (some gf) :=
                copyM gf 1024 1024 _ f1 data A cx HL.out.1 (Kd.R_drewN (Kd.R_below HF1.out HW5.out) _) HFIT.out (by rw [if_pos rfl]) (Kd.C_drewN (Kd.C_below HCX.out HB5.out) _)
              have hgm := ((Kd.own_of_R HF1.out).lt gf rfl).1
              have hne := HNE.out
              have hgp := HG'.out
              have hwz := HW5.out.size
              have hB7 : Below w.heap.size w w7 := pw_below_grown (pw_below_drewN HB5.out (nq + 1)) (some gf) HB5.out.size hgr7 (fun k hk => by cases hk; exact hgm)
              have HB7 := Aside0.mk hB7
              have HRM := Aside0.mk hR7
              have HRO := Aside0.mk (Kd.R_grown1 (W := W5.drewN (nq + 1)) (Kd.R_drewN (Kd.R_below HF2.out HW5.out) _) rfl hgr7 (by show some gf ≠ some gs; simp; omega))
              have HRD7 := Aside0.mk (Kd.R_grown1 (W := W5.drewN (nq + 1)) (Kd.R_drewN HR5.out _) rfl hgr7 (by show some gf ≠ some g'; simp; omega))
              have hws : W5.heap.size ≤ w7.heap.size := hgr7.size
              have HNE7 : Aside0 (gf ≠ gs ∧ g' ≠ gf ∧ g' ≠ gs ∧ gf < w7.heap.size ∧ gs < w7.heap.size) := ⟨by omega⟩
              obtain ⟨q0, q1, q2⟩ := HXS.out w7 hB7
              have HRUN7 := Aside0.mk hrun7
              clear hgm hne hgp hwz hB7 hws hR7 hgr7 hrun7
              have hll : Aside0 ((putL f1 1024 data).length = 1024 ∧ (f2).length = 512) := ⟨by have h1 := HL.out.1; have h2 := HL.out.2; have h3 := HFIT.out; first | exact ⟨by rw [putL_len _ _ _ (by omega)]; exact h1, h2⟩ | exact ⟨h1, by rw [putL_len _ _ _ (by omega)]; exact h2⟩⟩
              go_region_held_law (fun w' => w'.cell? ⟨(ad.add (j * 3)).block, (ad.add (j * 3)).off + 1, none⟩ = some (.int .i64 (1024 : Int)) ∧ w'.cell? ⟨(ad.add (j * 3)).block, (ad.add (j * 3)).off + 2, none⟩ = some (.slice A data.length cx)) (first | exact ⟨v1, v2⟩ | exact ⟨q1, q2⟩) (refine step_copy_runI rfl _ _ 23 23 rfl (.slice (some ⟨gf, 0, none⟩) 0 0) (.slice A data.length cx) (by simp [Act.eval, Act.put]) (by simp [Act.eval, Act.put]) HRUN7.out ?_)
              go_wp2
              go_roundg kk
              case measure => omega
              case rel => exact ⟨j + 1, g', cap', putL f1 1024 data, f2, by first | rfl | (rw [show wrap64 ((j : Int) + 1) = ((j + 1 : Nat) : Int) by have := HLL.out; unfold wrap64; omega]), rfl, ⟨by have := HJ.out; omega⟩, hll, HCD5, HNE7, HRD7, HRM, HRO, HB7⟩
            · have hca' : (1024 = a) = False := eq_false hca
              have hcb : (a = 1024) = False := eq_false (fun h => hca h.symm)
              have hcc : ¬ (a = 1024) := fun h => hca h.symm
              have hcd : a ≤ 1024 := by have := HFIT.out; omega
              obtain ⟨w7, hrun7, hR7, hgr7⟩ : ∃ w7, (Builtin.copy_ #[23, 23] 3 #[(.slice (some ⟨gf, a, none⟩) (1024 - a) (1024 - a)), .slice A data.length cx]).run Try.prog (W5.drewN (nq + 1)) = .ok (.int .i64 (data.length : Int)) w7 ∧ Kd.R (Kd.int .u8) 5 w7 w.heap.size (fun _ => True) (.slice (some ⟨gf, 0, none⟩) 1024 1024) (putL f1 a data) ∧ (W5.drewN (nq + 1)).grownBy w7 (some gf) :=
                copyM gf a 1024 _ f1 data A cx HL.out.1 (Kd.R_drewN (Kd.R_below HF1.out HW5.out) _) HFIT.out (by rw [if_neg hca]) (Kd.C_drewN (Kd.C_below HCX.out HB5.out) _)
              have hgm := ((Kd.own_of_R HF1.out).lt gf rfl).1
              have hne := HNE.out
              have hgp := HG'.out
              have hwz := HW5.out.size
              have hB7 : Below w.heap.size w w7 := pw_below_grown (pw_below_drewN HB5.out (nq + 1)) (some gf) HB5.out.size hgr7 (fun k hk => by cases hk; exact hgm)
              have HB7 := Aside0.mk hB7
              have HRM := Aside0.mk hR7
              have HRO := Aside0.mk (Kd.R_grown1 (W := W5.drewN (nq + 1)) (Kd.R_drewN (Kd.R_below HF2.out HW5.out) _) rfl hgr7 (by show some gf ≠ some gs; simp; omega))
              have HRD7 := Aside0.mk (Kd.R_grown1 (W := W5.drewN (nq + 1)) (Kd.R_drewN HR5.out _) rfl hgr7 (by show some gf ≠ some g'; simp; omega))
              have hws : W5.heap.size ≤ w7.heap.size := hgr7.size
              have HNE7 : Aside0 (gf ≠ gs ∧ g' ≠ gf ∧ g' ≠ gs ∧ gf < w7.heap.size ∧ gs < w7.heap.size) := ⟨by omega⟩
              obtain ⟨q0, q1, q2⟩ := HXS.out w7 hB7
              have HRUN7 := Aside0.mk hrun7
              clear hgm hne hgp hwz hB7 hws hR7 hgr7 hrun7
              have hll : Aside0 ((putL f1 a data).length = 1024 ∧ (f2).length = 512) := ⟨by have h1 := HL.out.1; have h2 := HL.out.2; have h3 := HFIT.out; first | exact ⟨by rw [putL_len _ _ _ (by omega)]; exact h1, h2⟩ | exact ⟨h1, by rw [putL_len _ _ _ (by omega)]; exact h2⟩⟩
              go_region_held_law (fun w' => w'.cell? ⟨(ad.add (j * 3)).block, (ad.add (j * 3)).off + 1, none⟩ = some (.int .i64 (a : Int)) ∧ w'.cell? ⟨(ad.add (j * 3)).block, (ad.add (j * 3)).off + 2, none⟩ = some (.slice A data.length cx)) (first | exact ⟨v1, v2⟩ | exact ⟨q1, q2⟩) (refine step_copy_runI rfl _ _ 23 23 rfl (.slice (some ⟨gf, a, none⟩) (1024 - a) (1024 - a)) (.slice A data.length cx) (by simp [Act.eval, Act.put]) (by simp [Act.eval, Act.put]) HRUN7.out ?_)
              go_wp2
              go_roundg kk
              case measure => omega
              case rel => exact ⟨j + 1, g', cap', putL f1 a data, f2, by first | rfl | (rw [show wrap64 ((j : Int) + 1) = ((j + 1 : Nat) : Int) by have := HLL.out; unfold wrap64; omega]), rfl, ⟨by have := HJ.out; omega⟩, hll, HCD5, HNE7, HRD7, HRM, HRO, HB7⟩
        | true =>
          go_upto_region 15 with (fail)
          have hl1 := HL.out.1
          have hl2 := HL.out.2
          have HLD := Aside0.mk (dOf_len hl1 hl2)
          have HRC := Aside0.mk (Kd.R_reads' (show Kd.R (Kd.int .u8) 5 wr w.heap.size (fun _ => True) (.slice (some ⟨g, 0, none⟩) 2560 cap) (dOf f1 f2) from HRD.out)).2.2
          have HLL : Aside0 (l.length ≤ 40) := ⟨by omega⟩
          clear hl1 hl2
          have hbd := below_drew (Below.refl wr.heap.size wr)
          by_cases hbad : at_ < 0 ∨ sizeW 1 < at_ ∨ sizeW 1 - at_ < (data.length : Int)
          · have hput : ∀ X, Below wr.heap.size wr X → Calls Try.prog 6 #[.slice (some ⟨g, 0, none⟩) 2560 cap, .string ⟨#[98]⟩, .int .i64 at_, .slice A data.length cx] X fun e w' => e = .returned (.tuple #[.slice none 0 0, .int .i64 23]) ∧ Below X.heap.size X w' := fun X hX => lput_bad g 0 cap (dOf f1 f2) ⟨#[98]⟩ 1 (.inr ⟨rfl, rfl⟩) at_ A cx data.length X (Kd.C_below HRC.out hX) HLD.out (dOf_take _ _) HCD.out hbad
            have hthree : at_ < 0 ∨ (0 ≤ at_ ∧ 512 < at_) ∨ (0 ≤ at_ ∧ at_ ≤ 512 ∧ 512 - at_ < (data.length : Int)) := by
              have h := hbad
              rw [show sizeW 1 = 512 from rfl] at h
              omega
            have HTHREE := Aside0.mk hthree
            clear hbad hthree
            go_region_held3 (fun w' => w'.cell? ⟨(ad.add (j * 3)).block, (ad.add (j * 3)).off + 1, none⟩ = some (.int .i64 at_) ∧ w'.cell? ⟨(ad.add (j * 3)).block, (ad.add (j * 3)).off + 2, none⟩ = some (.slice A data.length cx) ∧ Below wr.heap.size wr w') (first | exact ⟨y1, y2, hbd⟩ | (refine ⟨?_, ?_, by assumption⟩; exact (Below.cell (w := wr) (by assumption) (World.block_lt_of_cell? wr _ y1)).trans y1; exact (Below.cell (w := wr) (by assumption) (World.block_lt_of_cell? wr _ y2)).trans y2)) ((go_at_call 6; refine (hput _ (And.right (And.right (by assumption)))).mono ?_; rintro e W5 ⟨rfl, hb5⟩; have hw5 : Below wr.heap.size wr W5 := below_then hbd hbd.size hb5))
            have HB5 := Aside0.mk (below_then HB.out HB.out.size hw5)
            have HW5 := Aside0.mk hw5
            obtain ⟨v0, v1, v2⟩ := HXS.out W5 HB5.out
            clear hw5 hput hbd y0 y1 y2
            go_upto_region 16 with (fail)
            rcases HTHREE.out with h1 | ⟨h0, h1⟩ | ⟨h0, h2, h1⟩
            · have c1 : decide (at_ < 0) = true := decide_eq_true h1
              clear h1
              go_quiet (fail)
              try go_wp2
              go_roundg kk
              case measure => omega
              case rel => exact ⟨j + 1, g, cap, f1, f2, by first | rfl | (rw [show wrap64 ((j : Int) + 1) = ((j + 1 : Nat) : Int) by have := HLL.out; unfold wrap64; omega]), rfl, ⟨by have := HJ.out; omega⟩, HL, HCD, ⟨by have this_ := HNE.out; have this := HW5.out.size; refine ⟨this_.1, this_.2.1, this_.2.2.1, Nat.lt_of_lt_of_le this_.2.2.2.1 this, Nat.lt_of_lt_of_le this_.2.2.2.2 this⟩⟩, ⟨Kd.R_drewN (Kd.R_below HRD.out HW5.out) _⟩, ⟨Kd.R_drewN (Kd.R_below HF1.out HW5.out) _⟩, ⟨Kd.R_drewN (Kd.R_below HF2.out HW5.out) _⟩, ⟨pw_below_drewN HB5.out _⟩⟩
            · have c1 : decide (at_ < 0) = false := decide_eq_false (by omega)
              have c2 : decide ((512 : Int) < at_) = true := decide_eq_true h1
              clear h0 h1
              go_quiet (fail)
              try go_wp2
              go_roundg kk
              case measure => omega
              case rel => exact ⟨j + 1, g, cap, f1, f2, by first | rfl | (rw [show wrap64 ((j : Int) + 1) = ((j + 1 : Nat) : Int) by have := HLL.out; unfold wrap64; omega]), rfl, ⟨by have := HJ.out; omega⟩, HL, HCD, ⟨by have this_ := HNE.out; have this := HW5.out.size; refine ⟨this_.1, this_.2.1, this_.2.2.1, Nat.lt_of_lt_of_le this_.2.2.2.1 this, Nat.lt_of_lt_of_le this_.2.2.2.2 this⟩⟩, ⟨Kd.R_drewN (Kd.R_below HRD.out HW5.out) _⟩, ⟨Kd.R_drewN (Kd.R_below HF1.out HW5.out) _⟩, ⟨Kd.R_drewN (Kd.R_below HF2.out HW5.out) _⟩, ⟨pw_below_drewN HB5.out _⟩⟩
            · have c1 : decide (at_ < 0) = false := decide_eq_false (by omega)
              have c2 : decide ((512 : Int) < at_) = false := decide_eq_false (by omega)
              have c3 : decide (wrap64 (512 - at_) < (data.length : Int)) = true := decide_eq_true (by rw [show wrap64 (512 - at_) = 512 - at_ by unfold wrap64; omega]; exact h1)
              clear h0 h1 h2
              go_quiet (fail)
              try go_wp2
              go_roundg kk
              case measure => omega
              case rel => exact ⟨j + 1, g, cap, f1, f2, by first | rfl | (rw [show wrap64 ((j : Int) + 1) = ((j + 1 : Nat) : Int) by have := HLL.out; unfold wrap64; omega]), rfl, ⟨by have := HJ.out; omega⟩, HL, HCD, ⟨by have this_ := HNE.out; have this := HW5.out.size; refine ⟨this_.1, this_.2.1, this_.2.2.1, Nat.lt_of_lt_of_le this_.2.2.2.1 this, Nat.lt_of_lt_of_le this_.2.2.2.2 this⟩⟩, ⟨Kd.R_drewN (Kd.R_below HRD.out HW5.out) _⟩, ⟨Kd.R_drewN (Kd.R_below HF1.out HW5.out) _⟩, ⟨Kd.R_drewN (Kd.R_below HF2.out HW5.out) _⟩, ⟨pw_below_drewN HB5.out _⟩⟩
          · obtain ⟨a, rfl⟩ : ∃ a : Nat, at_ = (a : Int) := ⟨at_.toNat, by rw [show sizeW 1 = 512 from rfl] at hbad; omega⟩
            have hfit : a + data.length ≤ 512 := by rw [show sizeW 1 = 512 from rfl] at hbad; omega
            have hput : ∀ X, Below wr.heap.size wr X → Calls Try.prog 6 #[.slice (some ⟨g, 0, none⟩) 2560 cap, .string ⟨#[98]⟩, .int .i64 (a : Int), .slice A data.length cx] X fun e w' => ∃ g' cap', e = .returned (.tuple #[.slice (some ⟨g', 0, none⟩) 2560 cap', .int .i64 0]) ∧ 2560 ≤ cap' ∧ Kd.R (Kd.int .u8) 5 w' X.heap.size (fun _ => True) (.slice (some ⟨g', 0, none⟩) 2560 cap') (dOf (f1) (putL f2 a data)) ∧ Below X.heap.size X w' := fun X hX => by
              have h := lput_ok g 0 cap (dOf f1 f2) ⟨#[98]⟩ 1 (.inr ⟨rfl, rfl⟩) (a : Int) A cx data X (Kd.C_below HRC.out hX) HLD.out (dOf_take _ _) HCD.out (Kd.C_below HCX.out (below_then HB.out HB.out.size hX)) HcX.out hbad (1536 + a) (by rw [show baseW 1 = 1536 from rfl]; omega)
              rw [put_second f1 f2 data a HL.out.1 HL.out.2 hfit] at h
              exact h
            have HFIT := Aside0.mk hfit
            clear hbad hfit
            go_region_held3 (fun w' => w'.cell? ⟨(ad.add (j * 3)).block, (ad.add (j * 3)).off + 1, none⟩ = some (.int .i64 (a : Int)) ∧ w'.cell? ⟨(ad.add (j * 3)).block, (ad.add (j * 3)).off + 2, none⟩ = some (.slice A data.length cx) ∧ Below wr.heap.size wr w') (first | exact ⟨y1, y2, hbd⟩ | (refine ⟨?_, ?_, by assumption⟩; exact (Below.cell (w := wr) (by assumption) (World.block_lt_of_cell? wr _ y1)).trans y1; exact (Below.cell (w := wr) (by assumption) (World.block_lt_of_cell? wr _ y2)).trans y2)) ((go_at_call 6; refine (hput _ (And.right (And.right (by assumption)))).mono ?_; rintro e W5 ⟨g', cap', rfl, hcap', hR5, hb5⟩; have hw5 : Below wr.heap.size wr W5 := below_then hbd hbd.size hb5))
            have HB5 := Aside0.mk (below_then HB.out HB.out.size hw5)
            have HW5 := Aside0.mk hw5
            have HCD5 := Aside0.mk hcap'
            have hg' : wr.heap.size ≤ g' ∧ g' < W5.heap.size := (Kd.own_of_R hR5).lt g' rfl
            have HG' := Aside0.mk hg'
            have HR5 := Aside0.mk (R8_base (B' := w.heap.size) hR5 HB.out.size)
            obtain ⟨v0, v1, v2⟩ := HXS.out W5 HB5.out
            clear hw5 hput hbd y0 y1 y2 hcap' hR5 hg' hb5
            go_upto_region 16 with (fail)
            have c1 : decide ((a : Int) < 0) = false := decide_eq_false (by omega)
            have c2 : decide ((512 : Int) < (a : Int)) = false := decide_eq_false (by have := HFIT.out; omega)
            have c3 : decide (wrap64 (512 - (a : Int)) < (data.length : Int)) = false := decide_eq_false (by have := HFIT.out; rw [show wrap64 (512 - (a : Int)) = 512 - (a : Int) by unfold wrap64; omega]; omega)
            have c4 : (512 < a) = False := eq_false (by have := HFIT.out; omega)
            go_quiet (fail)
            go_upto_region 22 with (fail)
            rcases Decidable.em (512 = a) with hca | hca
            · subst hca
              obtain ⟨w7, hrun7, hR7, hgr7⟩ : ∃ w7, (Builtin.copy_ #[23, 23] 3 #[(.slice (some ⟨gs, 0, none⟩) 0 0), .slice A data.length cx]).run Try.prog (W5.drewN (nq + 1)) = .ok (.int .i64 (data.length : Int)) w7 ∧ Kd.R (Kd.int .u8) 5 w7 w.heap.size (fun _ => True) (.slice (some ⟨gs, 0, none⟩) 512 512) (putL f2 512 data) ∧ (W5.drewN (nq + 1)).grownBy w7 (some gs) :=
                copyM gs 512 512 _ f2 data A cx HL.out.2 (Kd.R_drewN (Kd.R_below HF2.out HW5.out) _) HFIT.out (by rw [if_pos rfl]) (Kd.C_drewN (Kd.C_below HCX.out HB5.out) _)
              have hgm := ((Kd.own_of_R HF2.out).lt gs rfl).1
              have hne := HNE.out
              have hgp := HG'.out
              have hwz := HW5.out.size
              have hB7 : Below w.heap.size w w7 := pw_below_grown (pw_below_drewN HB5.out (nq + 1)) (some gs) HB5.out.size hgr7 (fun k hk => by cases hk; exact hgm)
              have HB7 := Aside0.mk hB7
              have HRM := Aside0.mk hR7
              have HRO := Aside0.mk (Kd.R_grown1 (W := W5.drewN (nq + 1)) (Kd.R_drewN (Kd.R_below HF1.out HW5.out) _) rfl hgr7 (by show some gs ≠ some gf; simp; omega))
              have HRD7 := Aside0.mk (Kd.R_grown1 (W := W5.drewN (nq + 1)) (Kd.R_drewN HR5.out _) rfl hgr7 (by show some gs ≠ some g'; simp; omega))
              have hws : W5.heap.size ≤ w7.heap.size := hgr7.size
              have HNE7 : Aside0 (gf ≠ gs ∧ g' ≠ gf ∧ g' ≠ gs ∧ gf < w7.heap.size ∧ gs < w7.heap.size) := ⟨by omega⟩
              obtain ⟨q0, q1, q2⟩ := HXS.out w7 hB7
              have HRUN7 := Aside0.mk hrun7
              clear hgm hne hgp hwz hB7 hws hR7 hgr7 hrun7
              have hll : Aside0 ((f1).length = 1024 ∧ (putL f2 512 data).length = 512) := ⟨by have h1 := HL.out.1; have h2 := HL.out.2; have h3 := HFIT.out; first | exact ⟨by rw [putL_len _ _ _ (by omega)]; exact h1, h2⟩ | exact ⟨h1, by rw [putL_len _ _ _ (by omega)]; exact h2⟩⟩
              go_region_held_law (fun w' => w'.cell? ⟨(ad.add (j * 3)).block, (ad.add (j * 3)).off + 1, none⟩ = some (.int .i64 (512 : Int)) ∧ w'.cell? ⟨(ad.add (j * 3)).block, (ad.add (j * 3)).off + 2, none⟩ = some (.slice A data.length cx)) (first | exact ⟨v1, v2⟩ | exact ⟨q1, q2⟩) (refine step_copy_runI rfl _ _ 23 23 rfl (.slice (some ⟨gs, 0, none⟩) 0 0) (.slice A data.length cx) (by simp [Act.eval, Act.put]) (by simp [Act.eval, Act.put]) HRUN7.out ?_)
              go_wp2
              go_roundg kk
              case measure => omega
              case rel => exact ⟨j + 1, g', cap', f1, putL f2 512 data, by first | rfl | (rw [show wrap64 ((j : Int) + 1) = ((j + 1 : Nat) : Int) by have := HLL.out; unfold wrap64; omega]), rfl, ⟨by have := HJ.out; omega⟩, hll, HCD5, HNE7, HRD7, HRO, HRM, HB7⟩
            · have hca' : (512 = a) = False := eq_false hca
              have hcb : (a = 512) = False := eq_false (fun h => hca h.symm)
              have hcc : ¬ (a = 512) := fun h => hca h.symm
              have hcd : a ≤ 512 := by have := HFIT.out; omega
              obtain ⟨w7, hrun7, hR7, hgr7⟩ : ∃ w7, (Builtin.copy_ #[23, 23] 3 #[(.slice (some ⟨gs, a, none⟩) (512 - a) (512 - a)), .slice A data.length cx]).run Try.prog (W5.drewN (nq + 1)) = .ok (.int .i64 (data.length : Int)) w7 ∧ Kd.R (Kd.int .u8) 5 w7 w.heap.size (fun _ => True) (.slice (some ⟨gs, 0, none⟩) 512 512) (putL f2 a data) ∧ (W5.drewN (nq + 1)).grownBy w7 (some gs) :=
                copyM gs a 512 _ f2 data A cx HL.out.2 (Kd.R_drewN (Kd.R_below HF2.out HW5.out) _) HFIT.out (by rw [if_neg hca]) (Kd.C_drewN (Kd.C_below HCX.out HB5.out) _)
              have hgm := ((Kd.own_of_R HF2.out).lt gs rfl).1
              have hne := HNE.out
              have hgp := HG'.out
              have hwz := HW5.out.size
              have hB7 : Below w.heap.size w w7 := pw_below_grown (pw_below_drewN HB5.out (nq + 1)) (some gs) HB5.out.size hgr7 (fun k hk => by cases hk; exact hgm)
              have HB7 := Aside0.mk hB7
              have HRM := Aside0.mk hR7
              have HRO := Aside0.mk (Kd.R_grown1 (W := W5.drewN (nq + 1)) (Kd.R_drewN (Kd.R_below HF1.out HW5.out) _) rfl hgr7 (by show some gs ≠ some gf; simp; omega))
              have HRD7 := Aside0.mk (Kd.R_grown1 (W := W5.drewN (nq + 1)) (Kd.R_drewN HR5.out _) rfl hgr7 (by show some gs ≠ some g'; simp; omega))
              have hws : W5.heap.size ≤ w7.heap.size := hgr7.size
              have HNE7 : Aside0 (gf ≠ gs ∧ g' ≠ gf ∧ g' ≠ gs ∧ gf < w7.heap.size ∧ gs < w7.heap.size) := ⟨by omega⟩
              obtain ⟨q0, q1, q2⟩ := HXS.out w7 hB7
              have HRUN7 := Aside0.mk hrun7
              clear hgm hne hgp hwz hB7 hws hR7 hgr7 hrun7
              have hll : Aside0 ((f1).length = 1024 ∧ (putL f2 a data).length = 512) := ⟨by have h1 := HL.out.1; have h2 := HL.out.2; have h3 := HFIT.out; first | exact ⟨by rw [putL_len _ _ _ (by omega)]; exact h1, h2⟩ | exact ⟨h1, by rw [putL_len _ _ _ (by omega)]; exact h2⟩⟩
              go_region_held_law (fun w' => w'.cell? ⟨(ad.add (j * 3)).block, (ad.add (j * 3)).off + 1, none⟩ = some (.int .i64 (a : Int)) ∧ w'.cell? ⟨(ad.add (j * 3)).block, (ad.add (j * 3)).off + 2, none⟩ = some (.slice A data.length cx)) (first | exact ⟨v1, v2⟩ | exact ⟨q1, q2⟩) (refine step_copy_runI rfl _ _ 23 23 rfl (.slice (some ⟨gs, a, none⟩) (512 - a) (512 - a)) (.slice A data.length cx) (by simp [Act.eval, Act.put]) (by simp [Act.eval, Act.put]) HRUN7.out ?_)
              go_wp2
              go_roundg kk
              case measure => omega
              case rel => exact ⟨j + 1, g', cap', f1, putL f2 a data, by first | rfl | (rw [show wrap64 ((j : Int) + 1) = ((j + 1 : Nat) : Int) by have := HLL.out; unfold wrap64; omega]), rfl, ⟨by have := HJ.out; omega⟩, hll, HCD5, HNE7, HRD7, HRO, HRM, HB7⟩
  · obtain ⟨h2, h1, h3, h4⟩ := two_rows W3 512 1024 w.heap.size HB3.out.size (by decide) (by decide)
    obtain ⟨gf, hgf⟩ : ∃ gf, gf = W3.heap.size + 1 := ⟨_, rfl⟩
    obtain ⟨gs, hgs⟩ : ∃ gs, gs = W3.heap.size := ⟨_, rfl⟩
    rw [← hgf] at h1 ⊢
    rw [← hgs] at h2 ⊢
    generalize hW4 : ((W3.alloc (.cells (zM 512) 5)).alloc (.cells (zM 1024) 5)).drew = W4 at h1 h2 h3 h4 ⊢
    clear hW4
    have hne : gf ≠ gs ∧ gd ≠ gf ∧ gd ≠ gs ∧ gf < W4.heap.size ∧ gs < W4.heap.size := by have := HGD.out; omega
    clear hgs hgf h4
    have HRD := Aside0.mk (Kd.R_below HRD.out h3)
    have HF1 := Aside0.mk (show Kd.R (Kd.int .u8) 5 W4 w.heap.size (fun _ => True) (.slice (some ⟨gf, 0, none⟩) 1024 1024) zs1 from h1)
    have HF2 := Aside0.mk (show Kd.R (Kd.int .u8) 5 W4 w.heap.size (fun _ => True) (.slice (some ⟨gs, 0, none⟩) 512 512) zs2 from h2)
    have HB4 := Aside0.mk (below_then HB3.out HB3.out.size h3)
    have HNE := Aside0.mk hne
    clear h1 h2 h3 hne HB3 HGD mk1 mk2
    go_wp2
    go_loopg [11, 5] l.length (fun kq v11 v5 w' => ∃ (j g cap : Nat) (f1 f2 : List Int), v11 = .int .i64 j ∧ v5 = .slice (some ⟨g, 0, none⟩) 2560 cap ∧ Aside0 (j + kq = l.length) ∧ Aside0 (f1.length = 1024 ∧ f2.length = 512) ∧ Aside0 (2560 ≤ cap) ∧ Aside0 (gf ≠ gs ∧ g ≠ gf ∧ g ≠ gs ∧ gf < w'.heap.size ∧ gs < w'.heap.size) ∧ Aside0 (Kd.R (Kd.int .u8) 5 w' w.heap.size (fun _ => True) (.slice (some ⟨g, 0, none⟩) 2560 cap) (dOf f1 f2)) ∧ Aside0 (Kd.R (Kd.int .u8) 5 w' w.heap.size (fun _ => True) (.slice (some ⟨gf, 0, none⟩) 1024 1024) f1) ∧ Aside0 (Kd.R (Kd.int .u8) 5 w' w.heap.size (fun _ => True) (.slice (some ⟨gs, 0, none⟩) 512 512) f2) ∧ Aside0 (Below w.heap.size w w'))
    case atStart => exact ⟨0, gd, capd, zs1, zs2, rfl, rfl, ⟨by omega⟩, ⟨zs_len1, zs_len2⟩, HCD, HNE, HRD, HF1, HF2, HB4⟩
    case round =>
      clear HRD HF1 HF2 HB4 HNE HCD
      obtain ⟨j, g, cap, f1, f2, rfl, rfl, HJ, HL, HCD, HNE, HRD, HF1, HF2, HB⟩ := hrel
      cases gk with
      | zero =>
        have c : decide ((j : Int) < (l.length : Int)) = false := decide_eq_false (by have := HJ.out; omega)
        have c' : (j < l.length) = False := eq_false (by have := HJ.out; omega)
        have hl1 := HL.out.1
        have hl2 := HL.out.2
        have hdl := dOf_len hl1 hl2
        have hdt := dOf_take f1 f2
        have HRC := Aside0.mk (Kd.R_reads' HRD.out).2.2
        have hga : ∀ X, Below wr.heap.size wr X → Calls Try.prog 7 #[.slice (some ⟨g, 0, none⟩) 2560 cap, .string ⟨#[97]⟩, .int .i64 0, .int .i64 1024] X fun e w' => ∃ q, e = .returned (.tuple #[.slice (some ⟨q, 0, none⟩) 1024 1024, .int .i64 0]) ∧ Kd.R (Kd.int .u8) 5 w' X.heap.size (fun _ => True) (.slice (some ⟨q, 0, none⟩) 1024 1024) f1 ∧ Below X.heap.size X w' := fun X hX => by
          have h := lget_ok g 0 cap (dOf f1 f2) ⟨#[97]⟩ 0 (.inl ⟨rfl, rfl⟩) 1024 512 X (Kd.C_below HRC.out hX) hdl hdt HCD.out rfl rfl
          rw [get_first hl1 hl2] at h
          exact h
        have hgb : ∀ X, Below wr.heap.size wr X → Calls Try.prog 7 #[.slice (some ⟨g, 0, none⟩) 2560 cap, .string ⟨#[98]⟩, .int .i64 0, .int .i64 512] X fun e w' => ∃ q, e = .returned (.tuple #[.slice (some ⟨q, 0, none⟩) 512 512, .int .i64 0]) ∧ Kd.R (Kd.int .u8) 5 w' X.heap.size (fun _ => True) (.slice (some ⟨q, 0, none⟩) 512 512) f2 ∧ Below X.heap.size X w' := fun X hX => by
          have h := lget_ok g 0 cap (dOf f1 f2) ⟨#[98]⟩ 1 (.inr ⟨rfl, rfl⟩) 512 1536 X (Kd.C_below HRC.out hX) hdl hdt HCD.out rfl rfl
          rw [get_second hl1 hl2] at h
          exact h
        have hbr := Below.refl wr.heap.size wr
        clear hl1 hl2 hdl hdt
        go_upto_region 24 with (go_at_call 7; refine (hga _ hbr).mono ?_; rintro e W5 ⟨qa, rfl, hRa, hb5⟩)
        go_upto_region 25 with (go_at_call 7; refine (hgb _ hb5).mono ?_; rintro e W6 ⟨qb, rfl, hRb, hb6⟩)
        have hw6 := below_then hb5 hb5.size hb6
        have HW6 := Aside0.mk hw6
        have HB6 := Aside0.mk (below_then HB.out HB.out.size hw6)
        have HQA := Aside0.mk (Kd.R_below hRa hb6)
        have HQB := Aside0.mk hRb
        have HF1a := Aside0.mk (Kd.R_below HF1.out hw6)
        have HF2a := Aside0.mk (Kd.R_below HF2.out hw6)
        have HRDa := Aside0.mk (Kd.R_below HRD.out hw6)
        clear hRa hRb hb5 hb6 hw6 hga hgb hbr HRC
        obtain ⟨v7, w7, hrun7, hR7, hb7⟩ := app_own (W := W6.alloc (.cells #[] 5)) (W6 := W6) (B := W6.heap.size) (by rw [World.size_alloc]; omega) (below_alloc (Below.refl W6.heap.size W6) _) (R_empty W6 W6.heap.size (Nat.le_refl _)) gf 1024 (Kd.R_below HF1a.out (below_alloc (Below.refl W6.heap.size W6) (.cells #[] 5))) HL.out.1 (by decide)
        obtain ⟨v8, w8, hrun8, hR8, hb8⟩ := app_own (W := w7) (W6 := W6) (B := W6.heap.size) hb7.size hb7 hR7 gs 512 (Kd.R_below HF2a.out hb7) HL.out.2 (by rw [List.length_append, HL.out.1]; decide)
        obtain ⟨gall, call, rfl, hcall, hCall⟩ := all_out HL.out.1 HL.out.2 hR8
        have HCALL := Aside0.mk hCall
        have HCL := Aside0.mk hcall
        have HB8 := Aside0.mk hb8
        have HRUN7 : Aside0 (∀ f : Unit → Sem Value, f () = Builtin.append_ #[23, 23] 23 #[.slice (some ⟨W6.heap.size, 0, none⟩) 0 0, .slice (some ⟨gf, 0, none⟩) 1024 1024] → (f ()).run Try.prog (W6.alloc (.cells #[] 5)) = .ok v7 w7) := ⟨fun f hf => by rw [hf]; exact hrun7⟩
        have HRUN8 : Aside0 (∀ f : Unit → Sem Value, f () = Builtin.append_ #[23, 23] 23 #[v7, .slice (some ⟨gs, 0, none⟩) 512 512] → (f ()).run Try.prog w7 = .ok (.slice (some ⟨gall, 0, none⟩) 1536 call) w8) := ⟨fun f hf => by rw [hf]; exact hrun8⟩
        clear hrun7 hrun8 hR7 hb7 hR8 hb8 hcall hCall
        go_upto_region 26 with (first
          | (at_builtin; refine Lib.wpList_append_run _ rfl (.tmp 147) (.tmp 148) 23 23 rfl (.slice (some ⟨W6.heap.size, 0, none⟩) 0 0) (.slice (some ⟨gf, 0, none⟩) 1024 1024) rfl rfl _ _ (HRUN7.out (fun _ => _) rfl) ?_)
          | (at_builtin; refine Lib.wpList_append_run _ rfl (.tmp 149) (.tmp 150) 23 23 rfl v7 (.slice (some ⟨gs, 0, none⟩) 512 512) rfl rfl _ _ (HRUN8.out (fun _ => _) rfl) ?_))
        have HX8 : Aside0 (Below w8.heap.size w8 w8) := ⟨Below.refl _ _⟩
        have HRD8 := Aside0.mk (Kd.R_below HRDa.out HB8.out)
        have HQA8 := Aside0.mk (Kd.R_below HQA.out HB8.out)
        have HQB8 := Aside0.mk (Kd.R_below HQB.out HB8.out)
        have HF18 := Aside0.mk (Kd.R_below HF1a.out HB8.out)
        have HF28 := Aside0.mk (Kd.R_below HF2a.out HB8.out)
        have HW8 := Aside0.mk (below_then HB6.out HB6.out.size HB8.out)
        have HDL := Aside0.mk (dOf_len HL.out.1 HL.out.2)
        go_wp2
        go_loopg [21] 4 (fun kq v21 w' => ∃ (k : Nat) (kz : Int), v21 = .int .i64 kz ∧ Aside0 (kz = k) ∧ Aside0 (1 ≤ k) ∧ Aside0 (k + kq = 5) ∧ Aside0 (Below w8.heap.size w8 w'))
        case atStart => exact ⟨1, 1, rfl, ⟨rfl⟩, ⟨Nat.le_refl _⟩, ⟨rfl⟩, HX8⟩
        case round =>
          clear HX8

          obtain ⟨k, kz, rfl, HKZ, HK1, HKQ, HB9⟩ := hrel
          cases gk with
          | zero =>
            obtain rfl : k = 5 := by have := HKQ.out; omega
            obtain rfl : kz = 5 := HKZ.out
            have hpl : Calls Try.prog 9 #[.slice (some ⟨g, 0, none⟩) 512 cap] wr fun e w' => e = .returned (.tuple #[.agg csL, .int .i64 0]) ∧ Below wr.heap.size wr w' := by
              have hCd := (Kd.R_reads' (Kd.R_below HRD8.out HB9.out)).2.2
              exact parse_lab g 0 cap (dOf f1 f2) wr hCd (by rw [HDL.out]; decide) (dOf_take f1 f2) (by rw [HDL.out]; exact HCD.out)
            obtain ⟨S1, hS1⟩ : ∃ S, S = strOfNums f1 := ⟨_, rfl⟩
            obtain ⟨S2, hS2⟩ : ∃ S, S = strOfNums f2 := ⟨_, rfl⟩
            have HPL := Aside0.mk hpl
            have HS1 := Aside0.mk hS1
            have HS2 := Aside0.mk hS2
            have hcd := HCD.out
            clear hpl hS1 hS2
            go_upto_region 36 with (first | (go_at_call 9; refine HPL.out.mono ?_; rintro e W9 ⟨rfl, hb9⟩) | (refine wpList_store_run rfl rfl 30 (.tmp 25) (.tmp 185) rfl ⟨W9.heap.size, 0, none⟩ (.agg csL) _ rfl rfl (store_lab W9) ?_))
            have hw9 := below_alloc (below_then HB9.out HB9.out.size hb9) (.cells csL 30)
            have cva := cv8 (Kd.R_below HQA8.out hw9)
            have cvb := cv8 (Kd.R_below HQB8.out hw9)
            have cvf := cv8 (Kd.R_below HF18.out hw9)
            have cvs := cv8 (Kd.R_below HF28.out hw9)
            rw [← HS1.out] at cva cvf
            rw [← HS2.out] at cvb cvs
            have HW9 := Aside0.mk (below_then HW8.out HW8.out.size hw9)
            clear hw9 hb9
            go_wp2
            go_ret
            exact ⟨by simp, HW9.out⟩
          | succ kk =>
            have hk4 : 1 ≤ k ∧ k ≤ 4 := by have := HKQ.out; have := HK1.out; omega
            rcases (show k = 1 ∨ k = 2 ∨ k = 3 ∨ k = 4 by omega) with rfl | rfl | rfl | rfl
            · obtain rfl : kz = 1 := HKZ.out
              have hrd : Calls Try.prog 8 #[.slice (some ⟨g, 0, none⟩) 2560 cap, .int .i64 1] wr fun e w' => ∃ q c, e = .returned (.tuple #[.slice (some ⟨q, 0, none⟩) 512 c, .int .i64 0]) ∧ 512 ≤ c ∧ Kd.R (Kd.int .u8) 5 w' wr.heap.size (fun _ => True) (.slice (some ⟨q, 0, none⟩) 512 c) (secL (dOf f1 f2) 1) ∧ Below wr.heap.size wr w' :=
                read_calls g 0 cap (dOf f1 f2) 1 (by decide) wr (Kd.R_reads' (Kd.R_below HRD8.out HB9.out)).2.2 HDL.out HCD.out
              have mk2 : ∀ W : World, (Instr.makeSlice 23 (.int .i64 512) (.int .i64 512)).run Try.prog W = .ok (.slice (some ⟨W.heap.size, 0, none⟩) 512 512) (W.alloc (.cells (zM 512) 5)) := make_z 512 (by decide)
              have hcl := HCL.out
              have hn1 : (call = 0) = False := eq_false (by omega)
              have hn2 : ¬ (call = 0) := by omega
              obtain ⟨S, hS⟩ : ∃ S, S = strOfNums (getL (f1 ++ f2) 0 512) := ⟨_, rfl⟩
              go_upto_region 33 with (go_at_call 8; refine hrd.mono ?_; rintro e W5 ⟨q, cq, rfl, hcq, hRq, hb5⟩; have hw5 := below_then HB9.out HB9.out.size hb5; have hcv1 := cv8 (W := W5.alloc (.cells (zM 512) 5)) (Kd.R_below hRq (below_alloc (Below.refl W5.heap.size W5) _)); have hcv2 := cvC (W := W5.alloc (.cells (zM 512) 5)) (g := gall) (off := 0) (c := call) (n := 512) (xs := getL (f1 ++ f2) 0 512) (getL_len _ _ _ (by rw [List.length_append, HL.out.1, HL.out.2]; decide)) (by have h := C_sub8 (Kd.C_below HCALL.out (below_alloc hw5 (.cells (zM 512) 5))) 0 (0 + 512) (by decide) (by rw [List.length_append, HL.out.1, HL.out.2]; decide); simpa [getL] using h); rw [sec_one HL.out.1 HL.out.2 1 (by decide) (by decide)] at hcv1; rw [← hS] at hcv1 hcv2; have HCV1 := Aside0.mk hcv1; have HCV2 := Aside0.mk hcv2; have HW5 := Aside0.mk hw5; clear hcv1 hcv2 hw5 hRq hb5)
              clear hS
              have hcv1 := HCV1.out
              have hcv2 := HCV2.out
              go_wp2
              go_roundg kk
              case measure => omega
              case rel => exact ⟨2, 2, rfl, ⟨rfl⟩, ⟨by decide⟩, ⟨by have := HKQ.out; omega⟩, ⟨below_alloc HW5.out _⟩⟩
            · obtain rfl : kz = 2 := HKZ.out
              have hrd : Calls Try.prog 8 #[.slice (some ⟨g, 0, none⟩) 2560 cap, .int .i64 2] wr fun e w' => ∃ q c, e = .returned (.tuple #[.slice (some ⟨q, 0, none⟩) 512 c, .int .i64 0]) ∧ 512 ≤ c ∧ Kd.R (Kd.int .u8) 5 w' wr.heap.size (fun _ => True) (.slice (some ⟨q, 0, none⟩) 512 c) (secL (dOf f1 f2) 2) ∧ Below wr.heap.size wr w' :=
                read_calls g 0 cap (dOf f1 f2) 2 (by decide) wr (Kd.R_reads' (Kd.R_below HRD8.out HB9.out)).2.2 HDL.out HCD.out
              have mk2 : ∀ W : World, (Instr.makeSlice 23 (.int .i64 512) (.int .i64 512)).run Try.prog W = .ok (.slice (some ⟨W.heap.size, 0, none⟩) 512 512) (W.alloc (.cells (zM 512) 5)) := make_z 512 (by decide)
              have hcl := HCL.out
              have hn1 : (call = 512) = False := eq_false (by omega)
              have hn2 : ¬ (call = 512) := by omega
              obtain ⟨S, hS⟩ : ∃ S, S = strOfNums (getL (f1 ++ f2) 512 512) := ⟨_, rfl⟩
              go_upto_region 33 with (go_at_call 8; refine hrd.mono ?_; rintro e W5 ⟨q, cq, rfl, hcq, hRq, hb5⟩; have hw5 := below_then HB9.out HB9.out.size hb5; have hcv1 := cv8 (W := W5.alloc (.cells (zM 512) 5)) (Kd.R_below hRq (below_alloc (Below.refl W5.heap.size W5) _)); have hcv2 := cvC (W := W5.alloc (.cells (zM 512) 5)) (g := gall) (off := 512) (c := call - 512) (n := 512) (xs := getL (f1 ++ f2) 512 512) (getL_len _ _ _ (by rw [List.length_append, HL.out.1, HL.out.2]; decide)) (by have h := C_sub8 (Kd.C_below HCALL.out (below_alloc hw5 (.cells (zM 512) 5))) 512 (512 + 512) (by decide) (by rw [List.length_append, HL.out.1, HL.out.2]; decide); simpa [getL] using h); rw [sec_one HL.out.1 HL.out.2 2 (by decide) (by decide)] at hcv1; rw [← hS] at hcv1 hcv2; have HCV1 := Aside0.mk hcv1; have HCV2 := Aside0.mk hcv2; have HW5 := Aside0.mk hw5; clear hcv1 hcv2 hw5 hRq hb5)
              clear hS
              have hcv1 := HCV1.out
              have hcv2 := HCV2.out
              go_wp2
              go_roundg kk
              case measure => omega
              case rel => exact ⟨3, 3, rfl, ⟨rfl⟩, ⟨by decide⟩, ⟨by have := HKQ.out; omega⟩, ⟨below_alloc HW5.out _⟩⟩
            · obtain rfl : kz = 3 := HKZ.out
              have hrd : Calls Try.prog 8 #[.slice (some ⟨g, 0, none⟩) 2560 cap, .int .i64 3] wr fun e w' => ∃ q c, e = .returned (.tuple #[.slice (some ⟨q, 0, none⟩) 512 c, .int .i64 0]) ∧ 512 ≤ c ∧ Kd.R (Kd.int .u8) 5 w' wr.heap.size (fun _ => True) (.slice (some ⟨q, 0, none⟩) 512 c) (secL (dOf f1 f2) 3) ∧ Below wr.heap.size wr w' :=
                read_calls g 0 cap (dOf f1 f2) 3 (by decide) wr (Kd.R_reads' (Kd.R_below HRD8.out HB9.out)).2.2 HDL.out HCD.out
              have mk2 : ∀ W : World, (Instr.makeSlice 23 (.int .i64 512) (.int .i64 512)).run Try.prog W = .ok (.slice (some ⟨W.heap.size, 0, none⟩) 512 512) (W.alloc (.cells (zM 512) 5)) := make_z 512 (by decide)
              have hcl := HCL.out
              have hn1 : (call = 1024) = False := eq_false (by omega)
              have hn2 : ¬ (call = 1024) := by omega
              obtain ⟨S, hS⟩ : ∃ S, S = strOfNums (getL (f1 ++ f2) 1024 512) := ⟨_, rfl⟩
              go_upto_region 33 with (go_at_call 8; refine hrd.mono ?_; rintro e W5 ⟨q, cq, rfl, hcq, hRq, hb5⟩; have hw5 := below_then HB9.out HB9.out.size hb5; have hcv1 := cv8 (W := W5.alloc (.cells (zM 512) 5)) (Kd.R_below hRq (below_alloc (Below.refl W5.heap.size W5) _)); have hcv2 := cvC (W := W5.alloc (.cells (zM 512) 5)) (g := gall) (off := 1024) (c := call - 1024) (n := 512) (xs := getL (f1 ++ f2) 1024 512) (getL_len _ _ _ (by rw [List.length_append, HL.out.1, HL.out.2]; decide)) (by have h := C_sub8 (Kd.C_below HCALL.out (below_alloc hw5 (.cells (zM 512) 5))) 1024 (1024 + 512) (by decide) (by rw [List.length_append, HL.out.1, HL.out.2]; decide); simpa [getL] using h); rw [sec_one HL.out.1 HL.out.2 3 (by decide) (by decide)] at hcv1; rw [← hS] at hcv1 hcv2; have HCV1 := Aside0.mk hcv1; have HCV2 := Aside0.mk hcv2; have HW5 := Aside0.mk hw5; clear hcv1 hcv2 hw5 hRq hb5)
              clear hS
              have hcv1 := HCV1.out
              have hcv2 := HCV2.out
              go_wp2
              go_roundg kk
              case measure => omega
              case rel => exact ⟨4, 4, rfl, ⟨rfl⟩, ⟨by decide⟩, ⟨by have := HKQ.out; omega⟩, ⟨below_alloc HW5.out _⟩⟩
            · obtain rfl : kz = 4 := HKZ.out
              have hrd : Calls Try.prog 8 #[.slice (some ⟨g, 0, none⟩) 2560 cap, .int .i64 4] wr fun e w' => ∃ q c, e = .returned (.tuple #[.slice (some ⟨q, 0, none⟩) 512 c, .int .i64 0]) ∧ 512 ≤ c ∧ Kd.R (Kd.int .u8) 5 w' wr.heap.size (fun _ => True) (.slice (some ⟨q, 0, none⟩) 512 c) (secL (dOf f1 f2) 4) ∧ Below wr.heap.size wr w' :=
                read_calls g 0 cap (dOf f1 f2) 4 (by decide) wr (Kd.R_reads' (Kd.R_below HRD8.out HB9.out)).2.2 HDL.out HCD.out
              have mk2 : ∀ W : World, (Instr.makeSlice 23 (.int .i64 512) (.int .i64 512)).run Try.prog W = .ok (.slice (some ⟨W.heap.size, 0, none⟩) 512 512) (W.alloc (.cells (zM 512) 5)) := make_z 512 (by decide)
              obtain ⟨S, hS⟩ : ∃ S, S = strOfNums (List.replicate 512 (0 : Int)) := ⟨_, rfl⟩
              go_upto_region 33 with (go_at_call 8; refine hrd.mono ?_; rintro e W5 ⟨q, cq, rfl, hcq, hRq, hb5⟩; have hw5 := below_then HB9.out HB9.out.size hb5; have hcv1 := cv8 (W := W5.alloc (.cells (zM 512) 5)) (Kd.R_below hRq (below_alloc (Below.refl W5.heap.size W5) _)); have hcv2 := cv8 (W := W5.alloc (.cells (zM 512) 5)) (R_z (blk_new W5 (.cells (zM 512) 5)) (Nat.zero_le _) (by decide)); rw [sec_four HL.out.1 HL.out.2] at hcv1; rw [← hS] at hcv1 hcv2; have HCV1 := Aside0.mk hcv1; have HCV2 := Aside0.mk hcv2; have HW5 := Aside0.mk hw5; clear hcv1 hcv2 hw5 hRq hb5)
              clear hS
              have hcv1 := HCV1.out
              have hcv2 := HCV2.out
              go_wp2
              go_roundg kk
              case measure => omega
              case rel => exact ⟨5, 5, rfl, ⟨rfl⟩, ⟨by decide⟩, ⟨by have := HKQ.out; omega⟩, ⟨below_alloc HW5.out _⟩⟩
      | succ kk =>
        have hj : j < l.length := by have := HJ.out; omega
        have c : decide ((j : Int) < (l.length : Int)) = true := decide_eq_true (by omega)
        have c' : (j < l.length) = True := eq_true hj
        obtain ⟨x, hx⟩ : ∃ x, l[j]? = some x := ⟨_, List.getElem?_eq_getElem hj⟩
        obtain ⟨ad, e, x0, x1, x2, hCx, hcx⟩ := HP.out j x hx
        subst e
        have hxs : ∀ X, Below w.heap.size w X → X.cell? (ad.add (j * 3)) = some (.bool x.s) ∧ X.cell? ⟨(ad.add (j * 3)).block, (ad.add (j * 3)).off + 1, none⟩ = some (.int .i64 x.at_) ∧ X.cell? ⟨(ad.add (j * 3)).block, (ad.add (j * 3)).off + 2, none⟩ = some (.slice x.A x.data.length x.c) := fun X hX =>
          ⟨(hX.cell (World.block_lt_of_cell? w _ x0)).trans x0, (hX.cell (World.block_lt_of_cell? w _ x1)).trans x1, (hX.cell (World.block_lt_of_cell? w _ x2)).trans x2⟩
        have HXS := Aside0.mk hxs
        have HCX := Aside0.mk hCx
        have HcX := Aside0.mk hcx
        clear x0 x1 x2 hxs hCx hcx hx
        obtain ⟨s, at_, A, cx, data⟩ := x
        dsimp only at HXS HCX HcX
        obtain ⟨y0, y1, y2⟩ := HXS.out wr HB.out
        cases s with
        | false =>
          go_upto_region 15 with (fail)
          have hl1 := HL.out.1
          have hl2 := HL.out.2
          have HLD := Aside0.mk (dOf_len hl1 hl2)
          have HRC := Aside0.mk (Kd.R_reads' (show Kd.R (Kd.int .u8) 5 wr w.heap.size (fun _ => True) (.slice (some ⟨g, 0, none⟩) 2560 cap) (dOf f1 f2) from HRD.out)).2.2
          have HLL : Aside0 (l.length ≤ 40) := ⟨by omega⟩
          clear hl1 hl2
          have hbd := below_drew (Below.refl wr.heap.size wr)
          by_cases hbad : at_ < 0 ∨ sizeW 0 < at_ ∨ sizeW 0 - at_ < (data.length : Int)
          · have hput : ∀ X, Below wr.heap.size wr X → Calls Try.prog 6 #[.slice (some ⟨g, 0, none⟩) 2560 cap, .string ⟨#[97]⟩, .int .i64 at_, .slice A data.length cx] X fun e w' => e = .returned (.tuple #[.slice none 0 0, .int .i64 23]) ∧ Below X.heap.size X w' := fun X hX => lput_bad g 0 cap (dOf f1 f2) ⟨#[97]⟩ 0 (.inl ⟨rfl, rfl⟩) at_ A cx data.length X (Kd.C_below HRC.out hX) HLD.out (dOf_take _ _) HCD.out hbad
            have hthree : at_ < 0 ∨ (0 ≤ at_ ∧ 1024 < at_) ∨ (0 ≤ at_ ∧ at_ ≤ 1024 ∧ 1024 - at_ < (data.length : Int)) := by
              have h := hbad
              rw [show sizeW 0 = 1024 from rfl] at h
              omega
            have HTHREE := Aside0.mk hthree
            clear hbad hthree
            go_region_held3 (fun w' => w'.cell? ⟨(ad.add (j * 3)).block, (ad.add (j * 3)).off + 1, none⟩ = some (.int .i64 at_) ∧ w'.cell? ⟨(ad.add (j * 3)).block, (ad.add (j * 3)).off + 2, none⟩ = some (.slice A data.length cx) ∧ Below wr.heap.size wr w') (first | exact ⟨y1, y2, hbd⟩ | (refine ⟨?_, ?_, by assumption⟩; exact (Below.cell (w := wr) (by assumption) (World.block_lt_of_cell? wr _ y1)).trans y1; exact (Below.cell (w := wr) (by assumption) (World.block_lt_of_cell? wr _ y2)).trans y2)) ((go_at_call 6; refine (hput _ (And.right (And.right (by assumption)))).mono ?_; rintro e W5 ⟨rfl, hb5⟩; have hw5 : Below wr.heap.size wr W5 := below_then hbd hbd.size hb5))
            have HB5 := Aside0.mk (below_then HB.out HB.out.size hw5)
            have HW5 := Aside0.mk hw5
            obtain ⟨v0, v1, v2⟩ := HXS.out W5 HB5.out
            clear hw5 hput hbd y0 y1 y2
            go_upto_region 16 with (fail)
            rcases HTHREE.out with h1 | ⟨h0, h1⟩ | ⟨h0, h2, h1⟩
            · have c1 : decide (at_ < 0) = true := decide_eq_true h1
              clear h1
              go_quiet (fail)
              try go_wp2
              go_roundg kk
              case measure => omega
              case rel => exact ⟨j + 1, g, cap, f1, f2, by first | rfl | (rw [show wrap64 ((j : Int) + 1) = ((j + 1 : Nat) : Int) by have := HLL.out; unfold wrap64; omega]), rfl, ⟨by have := HJ.out; omega⟩, HL, HCD, ⟨by have this_ := HNE.out; have this := HW5.out.size; refine ⟨this_.1, this_.2.1, this_.2.2.1, Nat.lt_of_lt_of_le this_.2.2.2.1 this, Nat.lt_of_lt_of_le this_.2.2.2.2 this⟩⟩, ⟨Kd.R_drewN (Kd.R_below HRD.out HW5.out) _⟩, ⟨Kd.R_drewN (Kd.R_below HF1.out HW5.out) _⟩, ⟨Kd.R_drewN (Kd.R_below HF2.out HW5.out) _⟩, ⟨pw_below_drewN HB5.out _⟩⟩
            · have c1 : decide (at_ < 0) = false := decide_eq_false (by omega)
              have c2 : decide ((1024 : Int) < at_) = true := decide_eq_true h1
              clear h0 h1
              go_quiet (fail)
              try go_wp2
              go_roundg kk
              case measure => omega
              case rel => exact ⟨j + 1, g, cap, f1, f2, by first | rfl | (rw [show wrap64 ((j : Int) + 1) = ((j + 1 : Nat) : Int) by have := HLL.out; unfold wrap64; omega]), rfl, ⟨by have := HJ.out; omega⟩, HL, HCD, ⟨by have this_ := HNE.out; have this := HW5.out.size; refine ⟨this_.1, this_.2.1, this_.2.2.1, Nat.lt_of_lt_of_le this_.2.2.2.1 this, Nat.lt_of_lt_of_le this_.2.2.2.2 this⟩⟩, ⟨Kd.R_drewN (Kd.R_below HRD.out HW5.out) _⟩, ⟨Kd.R_drewN (Kd.R_below HF1.out HW5.out) _⟩, ⟨Kd.R_drewN (Kd.R_below HF2.out HW5.out) _⟩, ⟨pw_below_drewN HB5.out _⟩⟩
            · have c1 : decide (at_ < 0) = false := decide_eq_false (by omega)
              have c2 : decide ((1024 : Int) < at_) = false := decide_eq_false (by omega)
              have c3 : decide (wrap64 (1024 - at_) < (data.length : Int)) = true := decide_eq_true (by rw [show wrap64 (1024 - at_) = 1024 - at_ by unfold wrap64; omega]; exact h1)
              clear h0 h1 h2
              go_quiet (fail)
              try go_wp2
              go_roundg kk
              case measure => omega
              case rel => exact ⟨j + 1, g, cap, f1, f2, by first | rfl | (rw [show wrap64 ((j : Int) + 1) = ((j + 1 : Nat) : Int) by have := HLL.out; unfold wrap64; omega]), rfl, ⟨by have := HJ.out; omega⟩, HL, HCD, ⟨by have this_ := HNE.out; have this := HW5.out.size; refine ⟨this_.1, this_.2.1, this_.2.2.1, Nat.lt_of_lt_of_le this_.2.2.2.1 this, Nat.lt_of_lt_of_le this_.2.2.2.2 this⟩⟩, ⟨Kd.R_drewN (Kd.R_below HRD.out HW5.out) _⟩, ⟨Kd.R_drewN (Kd.R_below HF1.out HW5.out) _⟩, ⟨Kd.R_drewN (Kd.R_below HF2.out HW5.out) _⟩, ⟨pw_below_drewN HB5.out _⟩⟩
          · obtain ⟨a, rfl⟩ : ∃ a : Nat, at_ = (a : Int) := ⟨at_.toNat, by rw [show sizeW 0 = 1024 from rfl] at hbad; omega⟩
            have hfit : a + data.length ≤ 1024 := by rw [show sizeW 0 = 1024 from rfl] at hbad; omega
            have hput : ∀ X, Below wr.heap.size wr X → Calls Try.prog 6 #[.slice (some ⟨g, 0, none⟩) 2560 cap, .string ⟨#[97]⟩, .int .i64 (a : Int), .slice A data.length cx] X fun e w' => ∃ g' cap', e = .returned (.tuple #[.slice (some ⟨g', 0, none⟩) 2560 cap', .int .i64 0]) ∧ 2560 ≤ cap' ∧ Kd.R (Kd.int .u8) 5 w' X.heap.size (fun _ => True) (.slice (some ⟨g', 0, none⟩) 2560 cap') (dOf (putL f1 a data) (f2)) ∧ Below X.heap.size X w' := fun X hX => by
              have h := lput_ok g 0 cap (dOf f1 f2) ⟨#[97]⟩ 0 (.inl ⟨rfl, rfl⟩) (a : Int) A cx data X (Kd.C_below HRC.out hX) HLD.out (dOf_take _ _) HCD.out (Kd.C_below HCX.out (below_then HB.out HB.out.size hX)) HcX.out hbad (512 + a) (by rw [show baseW 0 = 512 from rfl]; omega)
              rw [put_first f1 f2 data a HL.out.1 HL.out.2 hfit] at h
              exact h
            have HFIT := Aside0.mk hfit
            clear hbad hfit
            go_region_held3 (fun w' => w'.cell? ⟨(ad.add (j * 3)).block, (ad.add (j * 3)).off + 1, none⟩ = some (.int .i64 (a : Int)) ∧ w'.cell? ⟨(ad.add (j * 3)).block, (ad.add (j * 3)).off + 2, none⟩ = some (.slice A data.length cx) ∧ Below wr.heap.size wr w') (first | exact ⟨y1, y2, hbd⟩ | (refine ⟨?_, ?_, by assumption⟩; exact (Below.cell (w := wr) (by assumption) (World.block_lt_of_cell? wr _ y1)).trans y1; exact (Below.cell (w := wr) (by assumption) (World.block_lt_of_cell? wr _ y2)).trans y2)) ((go_at_call 6; refine (hput _ (And.right (And.right (by assumption)))).mono ?_; rintro e W5 ⟨g', cap', rfl, hcap', hR5, hb5⟩; have hw5 : Below wr.heap.size wr W5 := below_then hbd hbd.size hb5))
            have HB5 := Aside0.mk (below_then HB.out HB.out.size hw5)
            have HW5 := Aside0.mk hw5
            have HCD5 := Aside0.mk hcap'
            have hg' : wr.heap.size ≤ g' ∧ g' < W5.heap.size := (Kd.own_of_R hR5).lt g' rfl
            have HG' := Aside0.mk hg'
            have HR5 := Aside0.mk (R8_base (B' := w.heap.size) hR5 HB.out.size)
            obtain ⟨v0, v1, v2⟩ := HXS.out W5 HB5.out
            clear hw5 hput hbd y0 y1 y2 hcap' hR5 hg' hb5
            go_upto_region 16 with (fail)
            have c1 : decide ((a : Int) < 0) = false := decide_eq_false (by omega)
            have c2 : decide ((1024 : Int) < (a : Int)) = false := decide_eq_false (by have := HFIT.out; omega)
            have c3 : decide (wrap64 (1024 - (a : Int)) < (data.length : Int)) = false := decide_eq_false (by have := HFIT.out; rw [show wrap64 (1024 - (a : Int)) = 1024 - (a : Int) by unfold wrap64; omega]; omega)
            have c4 : (1024 < a) = False := eq_false (by have := HFIT.out; omega)
            go_quiet (fail)
            go_upto_region 22 with (fail)
            rcases Decidable.em (1024 = a) with hca | hca
            · subst hca
              obtain ⟨w7, hrun7, hR7, hgr7⟩ : ∃ w7, (Builtin.copy_ #[23, 23] 3 #[(.slice (some ⟨gf, 0, none⟩) 0 0), .slice A data.length cx]).run Try.prog (W5.drewN (nq + 1)) = .ok (.int .i64 (data.length : Int)) w7 ∧ Kd.R (Kd.int .u8) 5 w7 w.heap.size (fun _ => True) (.slice (some ⟨gf, 0, none⟩) 1024 1024) (putL f1 1024 data) ∧ (W5.drewN (nq + 1)).grownBy w7 (some gf) :=
                copyM gf 1024 1024 _ f1 data A cx HL.out.1 (Kd.R_drewN (Kd.R_below HF1.out HW5.out) _) HFIT.out (by rw [if_pos rfl]) (Kd.C_drewN (Kd.C_below HCX.out HB5.out) _)
              have hgm := ((Kd.own_of_R HF1.out).lt gf rfl).1
              have hne := HNE.out
              have hgp := HG'.out
              have hwz := HW5.out.size
              have hB7 : Below w.heap.size w w7 := pw_below_grown (pw_below_drewN HB5.out (nq + 1)) (some gf) HB5.out.size hgr7 (fun k hk => by cases hk; exact hgm)
              have HB7 := Aside0.mk hB7
              have HRM := Aside0.mk hR7
              have HRO := Aside0.mk (Kd.R_grown1 (W := W5.drewN (nq + 1)) (Kd.R_drewN (Kd.R_below HF2.out HW5.out) _) rfl hgr7 (by show some gf ≠ some gs; simp; omega))
              have HRD7 := Aside0.mk (Kd.R_grown1 (W := W5.drewN (nq + 1)) (Kd.R_drewN HR5.out _) rfl hgr7 (by show some gf ≠ some g'; simp; omega))
              have hws : W5.heap.size ≤ w7.heap.size := hgr7.size
              have HNE7 : Aside0 (gf ≠ gs ∧ g' ≠ gf ∧ g' ≠ gs ∧ gf < w7.heap.size ∧ gs < w7.heap.size) := ⟨by omega⟩
              obtain ⟨q0, q1, q2⟩ := HXS.out w7 hB7
              have HRUN7 := Aside0.mk hrun7
              clear hgm hne hgp hwz hB7 hws hR7 hgr7 hrun7
              have hll : Aside0 ((putL f1 1024 data).length = 1024 ∧ (f2).length = 512) := ⟨by have h1 := HL.out.1; have h2 := HL.out.2; have h3 := HFIT.out; first | exact ⟨by rw [putL_len _ _ _ (by omega)]; exact h1, h2⟩ | exact ⟨h1, by rw [putL_len _ _ _ (by omega)]; exact h2⟩⟩
              go_region_held_law (fun w' => w'.cell? ⟨(ad.add (j * 3)).block, (ad.add (j * 3)).off + 1, none⟩ = some (.int .i64 (1024 : Int)) ∧ w'.cell? ⟨(ad.add (j * 3)).block, (ad.add (j * 3)).off + 2, none⟩ = some (.slice A data.length cx)) (first | exact ⟨v1, v2⟩ | exact ⟨q1, q2⟩) (refine step_copy_runI rfl _ _ 23 23 rfl (.slice (some ⟨gf, 0, none⟩) 0 0) (.slice A data.length cx) (by simp [Act.eval, Act.put]) (by simp [Act.eval, Act.put]) HRUN7.out ?_)
              go_wp2
              go_roundg kk
              case measure => omega
              case rel => exact ⟨j + 1, g', cap', putL f1 1024 data, f2, by first | rfl | (rw [show wrap64 ((j : Int) + 1) = ((j + 1 : Nat) : Int) by have := HLL.out; unfold wrap64; omega]), rfl, ⟨by have := HJ.out; omega⟩, hll, HCD5, HNE7, HRD7, HRM, HRO, HB7⟩
            · have hca' : (1024 = a) = False := eq_false hca
              have hcb : (a = 1024) = False := eq_false (fun h => hca h.symm)
              have hcc : ¬ (a = 1024) := fun h => hca h.symm
              have hcd : a ≤ 1024 := by have := HFIT.out; omega
              obtain ⟨w7, hrun7, hR7, hgr7⟩ : ∃ w7, (Builtin.copy_ #[23, 23] 3 #[(.slice (some ⟨gf, a, none⟩) (1024 - a) (1024 - a)), .slice A data.length cx]).run Try.prog (W5.drewN (nq + 1)) = .ok (.int .i64 (data.length : Int)) w7 ∧ Kd.R (Kd.int .u8) 5 w7 w.heap.size (fun _ => True) (.slice (some ⟨gf, 0, none⟩) 1024 1024) (putL f1 a data) ∧ (W5.drewN (nq + 1)).grownBy w7 (some gf) :=
                copyM gf a 1024 _ f1 data A cx HL.out.1 (Kd.R_drewN (Kd.R_below HF1.out HW5.out) _) HFIT.out (by rw [if_neg hca]) (Kd.C_drewN (Kd.C_below HCX.out HB5.out) _)
              have hgm := ((Kd.own_of_R HF1.out).lt gf rfl).1
              have hne := HNE.out
              have hgp := HG'.out
              have hwz := HW5.out.size
              have hB7 : Below w.heap.size w w7 := pw_below_grown (pw_below_drewN HB5.out (nq + 1)) (some gf) HB5.out.size hgr7 (fun k hk => by cases hk; exact hgm)
              have HB7 := Aside0.mk hB7
              have HRM := Aside0.mk hR7
              have HRO := Aside0.mk (Kd.R_grown1 (W := W5.drewN (nq + 1)) (Kd.R_drewN (Kd.R_below HF2.out HW5.out) _) rfl hgr7 (by show some gf ≠ some gs; simp; omega))
              have HRD7 := Aside0.mk (Kd.R_grown1 (W := W5.drewN (nq + 1)) (Kd.R_drewN HR5.out _) rfl hgr7 (by show some gf ≠ some g'; simp; omega))
              have hws : W5.heap.size ≤ w7.heap.size := hgr7.size
              have HNE7 : Aside0 (gf ≠ gs ∧ g' ≠ gf ∧ g' ≠ gs ∧ gf < w7.heap.size ∧ gs < w7.heap.size) := ⟨by omega⟩
              obtain ⟨q0, q1, q2⟩ := HXS.out w7 hB7
              have HRUN7 := Aside0.mk hrun7
              clear hgm hne hgp hwz hB7 hws hR7 hgr7 hrun7
              have hll : Aside0 ((putL f1 a data).length = 1024 ∧ (f2).length = 512) := ⟨by have h1 := HL.out.1; have h2 := HL.out.2; have h3 := HFIT.out; first | exact ⟨by rw [putL_len _ _ _ (by omega)]; exact h1, h2⟩ | exact ⟨h1, by rw [putL_len _ _ _ (by omega)]; exact h2⟩⟩
              go_region_held_law (fun w' => w'.cell? ⟨(ad.add (j * 3)).block, (ad.add (j * 3)).off + 1, none⟩ = some (.int .i64 (a : Int)) ∧ w'.cell? ⟨(ad.add (j * 3)).block, (ad.add (j * 3)).off + 2, none⟩ = some (.slice A data.length cx)) (first | exact ⟨v1, v2⟩ | exact ⟨q1, q2⟩) (refine step_copy_runI rfl _ _ 23 23 rfl (.slice (some ⟨gf, a, none⟩) (1024 - a) (1024 - a)) (.slice A data.length cx) (by simp [Act.eval, Act.put]) (by simp [Act.eval, Act.put]) HRUN7.out ?_)
              go_wp2
              go_roundg kk
              case measure => omega
              case rel => exact ⟨j + 1, g', cap', putL f1 a data, f2, by first | rfl | (rw [show wrap64 ((j : Int) + 1) = ((j + 1 : Nat) : Int) by have := HLL.out; unfold wrap64; omega]), rfl, ⟨by have := HJ.out; omega⟩, hll, HCD5, HNE7, HRD7, HRM, HRO, HB7⟩
        | true =>
          go_upto_region 15 with (fail)
          have hl1 := HL.out.1
          have hl2 := HL.out.2
          have HLD := Aside0.mk (dOf_len hl1 hl2)
          have HRC := Aside0.mk (Kd.R_reads' (show Kd.R (Kd.int .u8) 5 wr w.heap.size (fun _ => True) (.slice (some ⟨g, 0, none⟩) 2560 cap) (dOf f1 f2) from HRD.out)).2.2
          have HLL : Aside0 (l.length ≤ 40) := ⟨by omega⟩
          clear hl1 hl2
          have hbd := below_drew (Below.refl wr.heap.size wr)
          by_cases hbad : at_ < 0 ∨ sizeW 1 < at_ ∨ sizeW 1 - at_ < (data.length : Int)
          · have hput : ∀ X, Below wr.heap.size wr X → Calls Try.prog 6 #[.slice (some ⟨g, 0, none⟩) 2560 cap, .string ⟨#[98]⟩, .int .i64 at_, .slice A data.length cx] X fun e w' => e = .returned (.tuple #[.slice none 0 0, .int .i64 23]) ∧ Below X.heap.size X w' := fun X hX => lput_bad g 0 cap (dOf f1 f2) ⟨#[98]⟩ 1 (.inr ⟨rfl, rfl⟩) at_ A cx data.length X (Kd.C_below HRC.out hX) HLD.out (dOf_take _ _) HCD.out hbad
            have hthree : at_ < 0 ∨ (0 ≤ at_ ∧ 512 < at_) ∨ (0 ≤ at_ ∧ at_ ≤ 512 ∧ 512 - at_ < (data.length : Int)) := by
              have h := hbad
              rw [show sizeW 1 = 512 from rfl] at h
              omega
            have HTHREE := Aside0.mk hthree
            clear hbad hthree
            go_region_held3 (fun w' => w'.cell? ⟨(ad.add (j * 3)).block, (ad.add (j * 3)).off + 1, none⟩ = some (.int .i64 at_) ∧ w'.cell? ⟨(ad.add (j * 3)).block, (ad.add (j * 3)).off + 2, none⟩ = some (.slice A data.length cx) ∧ Below wr.heap.size wr w') (first | exact ⟨y1, y2, hbd⟩ | (refine ⟨?_, ?_, by assumption⟩; exact (Below.cell (w := wr) (by assumption) (World.block_lt_of_cell? wr _ y1)).trans y1; exact (Below.cell (w := wr) (by assumption) (World.block_lt_of_cell? wr _ y2)).trans y2)) ((go_at_call 6; refine (hput _ (And.right (And.right (by assumption)))).mono ?_; rintro e W5 ⟨rfl, hb5⟩; have hw5 : Below wr.heap.size wr W5 := below_then hbd hbd.size hb5))
            have HB5 := Aside0.mk (below_then HB.out HB.out.size hw5)
            have HW5 := Aside0.mk hw5
            obtain ⟨v0, v1, v2⟩ := HXS.out W5 HB5.out
            clear hw5 hput hbd y0 y1 y2
            go_upto_region 16 with (fail)
            rcases HTHREE.out with h1 | ⟨h0, h1⟩ | ⟨h0, h2, h1⟩
            · have c1 : decide (at_ < 0) = true := decide_eq_true h1
              clear h1
              go_quiet (fail)
              try go_wp2
              go_roundg kk
              case measure => omega
              case rel => exact ⟨j + 1, g, cap, f1, f2, by first | rfl | (rw [show wrap64 ((j : Int) + 1) = ((j + 1 : Nat) : Int) by have := HLL.out; unfold wrap64; omega]), rfl, ⟨by have := HJ.out; omega⟩, HL, HCD, ⟨by have this_ := HNE.out; have this := HW5.out.size; refine ⟨this_.1, this_.2.1, this_.2.2.1, Nat.lt_of_lt_of_le this_.2.2.2.1 this, Nat.lt_of_lt_of_le this_.2.2.2.2 this⟩⟩, ⟨Kd.R_drewN (Kd.R_below HRD.out HW5.out) _⟩, ⟨Kd.R_drewN (Kd.R_below HF1.out HW5.out) _⟩, ⟨Kd.R_drewN (Kd.R_below HF2.out HW5.out) _⟩, ⟨pw_below_drewN HB5.out _⟩⟩
            · have c1 : decide (at_ < 0) = false := decide_eq_false (by omega)
              have c2 : decide ((512 : Int) < at_) = true := decide_eq_true h1
              clear h0 h1
              go_quiet (fail)
              try go_wp2
              go_roundg kk
              case measure => omega
              case rel => exact ⟨j + 1, g, cap, f1, f2, by first | rfl | (rw [show wrap64 ((j : Int) + 1) = ((j + 1 : Nat) : Int) by have := HLL.out; unfold wrap64; omega]), rfl, ⟨by have := HJ.out; omega⟩, HL, HCD, ⟨by have this_ := HNE.out; have this := HW5.out.size; refine ⟨this_.1, this_.2.1, this_.2.2.1, Nat.lt_of_lt_of_le this_.2.2.2.1 this, Nat.lt_of_lt_of_le this_.2.2.2.2 this⟩⟩, ⟨Kd.R_drewN (Kd.R_below HRD.out HW5.out) _⟩, ⟨Kd.R_drewN (Kd.R_below HF1.out HW5.out) _⟩, ⟨Kd.R_drewN (Kd.R_below HF2.out HW5.out) _⟩, ⟨pw_below_drewN HB5.out _⟩⟩
            · have c1 : decide (at_ < 0) = false := decide_eq_false (by omega)
              have c2 : decide ((512 : Int) < at_) = false := decide_eq_false (by omega)
              have c3 : decide (wrap64 (512 - at_) < (data.length : Int)) = true := decide_eq_true (by rw [show wrap64 (512 - at_) = 512 - at_ by unfold wrap64; omega]; exact h1)
              clear h0 h1 h2
              go_quiet (fail)
              try go_wp2
              go_roundg kk
              case measure => omega
              case rel => exact ⟨j + 1, g, cap, f1, f2, by first | rfl | (rw [show wrap64 ((j : Int) + 1) = ((j + 1 : Nat) : Int) by have := HLL.out; unfold wrap64; omega]), rfl, ⟨by have := HJ.out; omega⟩, HL, HCD, ⟨by have this_ := HNE.out; have this := HW5.out.size; refine ⟨this_.1, this_.2.1, this_.2.2.1, Nat.lt_of_lt_of_le this_.2.2.2.1 this, Nat.lt_of_lt_of_le this_.2.2.2.2 this⟩⟩, ⟨Kd.R_drewN (Kd.R_below HRD.out HW5.out) _⟩, ⟨Kd.R_drewN (Kd.R_below HF1.out HW5.out) _⟩, ⟨Kd.R_drewN (Kd.R_below HF2.out HW5.out) _⟩, ⟨pw_below_drewN HB5.out _⟩⟩
          · obtain ⟨a, rfl⟩ : ∃ a : Nat, at_ = (a : Int) := ⟨at_.toNat, by rw [show sizeW 1 = 512 from rfl] at hbad; omega⟩
            have hfit : a + data.length ≤ 512 := by rw [show sizeW 1 = 512 from rfl] at hbad; omega
            have hput : ∀ X, Below wr.heap.size wr X → Calls Try.prog 6 #[.slice (some ⟨g, 0, none⟩) 2560 cap, .string ⟨#[98]⟩, .int .i64 (a : Int), .slice A data.length cx] X fun e w' => ∃ g' cap', e = .returned (.tuple #[.slice (some ⟨g', 0, none⟩) 2560 cap', .int .i64 0]) ∧ 2560 ≤ cap' ∧ Kd.R (Kd.int .u8) 5 w' X.heap.size (fun _ => True) (.slice (some ⟨g', 0, none⟩) 2560 cap') (dOf (f1) (putL f2 a data)) ∧ Below X.heap.size X w' := fun X hX => by
              have h := lput_ok g 0 cap (dOf f1 f2) ⟨#[98]⟩ 1 (.inr ⟨rfl, rfl⟩) (a : Int) A cx data X (Kd.C_below HRC.out hX) HLD.out (dOf_take _ _) HCD.out (Kd.C_below HCX.out (below_then HB.out HB.out.size hX)) HcX.out hbad (1536 + a) (by rw [show baseW 1 = 1536 from rfl]; omega)
              rw [put_second f1 f2 data a HL.out.1 HL.out.2 hfit] at h
              exact h
            have HFIT := Aside0.mk hfit
            clear hbad hfit
            go_region_held3 (fun w' => w'.cell? ⟨(ad.add (j * 3)).block, (ad.add (j * 3)).off + 1, none⟩ = some (.int .i64 (a : Int)) ∧ w'.cell? ⟨(ad.add (j * 3)).block, (ad.add (j * 3)).off + 2, none⟩ = some (.slice A data.length cx) ∧ Below wr.heap.size wr w') (first | exact ⟨y1, y2, hbd⟩ | (refine ⟨?_, ?_, by assumption⟩; exact (Below.cell (w := wr) (by assumption) (World.block_lt_of_cell? wr _ y1)).trans y1; exact (Below.cell (w := wr) (by assumption) (World.block_lt_of_cell? wr _ y2)).trans y2)) ((go_at_call 6; refine (hput _ (And.right (And.right (by assumption)))).mono ?_; rintro e W5 ⟨g', cap', rfl, hcap', hR5, hb5⟩; have hw5 : Below wr.heap.size wr W5 := below_then hbd hbd.size hb5))
            have HB5 := Aside0.mk (below_then HB.out HB.out.size hw5)
            have HW5 := Aside0.mk hw5
            have HCD5 := Aside0.mk hcap'
            have hg' : wr.heap.size ≤ g' ∧ g' < W5.heap.size := (Kd.own_of_R hR5).lt g' rfl
            have HG' := Aside0.mk hg'
            have HR5 := Aside0.mk (R8_base (B' := w.heap.size) hR5 HB.out.size)
            obtain ⟨v0, v1, v2⟩ := HXS.out W5 HB5.out
            clear hw5 hput hbd y0 y1 y2 hcap' hR5 hg' hb5
            go_upto_region 16 with (fail)
            have c1 : decide ((a : Int) < 0) = false := decide_eq_false (by omega)
            have c2 : decide ((512 : Int) < (a : Int)) = false := decide_eq_false (by have := HFIT.out; omega)
            have c3 : decide (wrap64 (512 - (a : Int)) < (data.length : Int)) = false := decide_eq_false (by have := HFIT.out; rw [show wrap64 (512 - (a : Int)) = 512 - (a : Int) by unfold wrap64; omega]; omega)
            have c4 : (512 < a) = False := eq_false (by have := HFIT.out; omega)
            go_quiet (fail)
            go_upto_region 22 with (fail)
            rcases Decidable.em (512 = a) with hca | hca
            · subst hca
              obtain ⟨w7, hrun7, hR7, hgr7⟩ : ∃ w7, (Builtin.copy_ #[23, 23] 3 #[(.slice (some ⟨gs, 0, none⟩) 0 0), .slice A data.length cx]).run Try.prog (W5.drewN (nq + 1)) = .ok (.int .i64 (data.length : Int)) w7 ∧ Kd.R (Kd.int .u8) 5 w7 w.heap.size (fun _ => True) (.slice (some ⟨gs, 0, none⟩) 512 512) (putL f2 512 data) ∧ (W5.drewN (nq + 1)).grownBy w7 (some gs) :=
                copyM gs 512 512 _ f2 data A cx HL.out.2 (Kd.R_drewN (Kd.R_below HF2.out HW5.out) _) HFIT.out (by rw [if_pos rfl]) (Kd.C_drewN (Kd.C_below HCX.out HB5.out) _)
              have hgm := ((Kd.own_of_R HF2.out).lt gs rfl).1
              have hne := HNE.out
              have hgp := HG'.out
              have hwz := HW5.out.size
              have hB7 : Below w.heap.size w w7 := pw_below_grown (pw_below_drewN HB5.out (nq + 1)) (some gs) HB5.out.size hgr7 (fun k hk => by cases hk; exact hgm)
              have HB7 := Aside0.mk hB7
              have HRM := Aside0.mk hR7
              have HRO := Aside0.mk (Kd.R_grown1 (W := W5.drewN (nq + 1)) (Kd.R_drewN (Kd.R_below HF1.out HW5.out) _) rfl hgr7 (by show some gs ≠ some gf; simp; omega))
              have HRD7 := Aside0.mk (Kd.R_grown1 (W := W5.drewN (nq + 1)) (Kd.R_drewN HR5.out _) rfl hgr7 (by show some gs ≠ some g'; simp; omega))
              have hws : W5.heap.size ≤ w7.heap.size := hgr7.size
              have HNE7 : Aside0 (gf ≠ gs ∧ g' ≠ gf ∧ g' ≠ gs ∧ gf < w7.heap.size ∧ gs < w7.heap.size) := ⟨by omega⟩
              obtain ⟨q0, q1, q2⟩ := HXS.out w7 hB7
              have HRUN7 := Aside0.mk hrun7
              clear hgm hne hgp hwz hB7 hws hR7 hgr7 hrun7
              have hll : Aside0 ((f1).length = 1024 ∧ (putL f2 512 data).length = 512) := ⟨by have h1 := HL.out.1; have h2 := HL.out.2; have h3 := HFIT.out; first | exact ⟨by rw [putL_len _ _ _ (by omega)]; exact h1, h2⟩ | exact ⟨h1, by rw [putL_len _ _ _ (by omega)]; exact h2⟩⟩
              go_region_held_law (fun w' => w'.cell? ⟨(ad.add (j * 3)).block, (ad.add (j * 3)).off + 1, none⟩ = some (.int .i64 (512 : Int)) ∧ w'.cell? ⟨(ad.add (j * 3)).block, (ad.add (j * 3)).off + 2, none⟩ = some (.slice A data.length cx)) (first | exact ⟨v1, v2⟩ | exact ⟨q1, q2⟩) (refine step_copy_runI rfl _ _ 23 23 rfl (.slice (some ⟨gs, 0, none⟩) 0 0) (.slice A data.length cx) (by simp [Act.eval, Act.put]) (by simp [Act.eval, Act.put]) HRUN7.out ?_)
              go_wp2
              go_roundg kk
              case measure => omega
              case rel => exact ⟨j + 1, g', cap', f1, putL f2 512 data, by first | rfl | (rw [show wrap64 ((j : Int) + 1) = ((j + 1 : Nat) : Int) by have := HLL.out; unfold wrap64; omega]), rfl, ⟨by have := HJ.out; omega⟩, hll, HCD5, HNE7, HRD7, HRO, HRM, HB7⟩
            · have hca' : (512 = a) = False := eq_false hca
              have hcb : (a = 512) = False := eq_false (fun h => hca h.symm)
              have hcc : ¬ (a = 512) := fun h => hca h.symm
              have hcd : a ≤ 512 := by have := HFIT.out; omega
              obtain ⟨w7, hrun7, hR7, hgr7⟩ : ∃ w7, (Builtin.copy_ #[23, 23] 3 #[(.slice (some ⟨gs, a, none⟩) (512 - a) (512 - a)), .slice A data.length cx]).run Try.prog (W5.drewN (nq + 1)) = .ok (.int .i64 (data.length : Int)) w7 ∧ Kd.R (Kd.int .u8) 5 w7 w.heap.size (fun _ => True) (.slice (some ⟨gs, 0, none⟩) 512 512) (putL f2 a data) ∧ (W5.drewN (nq + 1)).grownBy w7 (some gs) :=
                copyM gs a 512 _ f2 data A cx HL.out.2 (Kd.R_drewN (Kd.R_below HF2.out HW5.out) _) HFIT.out (by rw [if_neg hca]) (Kd.C_drewN (Kd.C_below HCX.out HB5.out) _)
              have hgm := ((Kd.own_of_R HF2.out).lt gs rfl).1
              have hne := HNE.out
              have hgp := HG'.out
              have hwz := HW5.out.size
              have hB7 : Below w.heap.size w w7 := pw_below_grown (pw_below_drewN HB5.out (nq + 1)) (some gs) HB5.out.size hgr7 (fun k hk => by cases hk; exact hgm)
              have HB7 := Aside0.mk hB7
              have HRM := Aside0.mk hR7
              have HRO := Aside0.mk (Kd.R_grown1 (W := W5.drewN (nq + 1)) (Kd.R_drewN (Kd.R_below HF1.out HW5.out) _) rfl hgr7 (by show some gs ≠ some gf; simp; omega))
              have HRD7 := Aside0.mk (Kd.R_grown1 (W := W5.drewN (nq + 1)) (Kd.R_drewN HR5.out _) rfl hgr7 (by show some gs ≠ some g'; simp; omega))
              have hws : W5.heap.size ≤ w7.heap.size := hgr7.size
              have HNE7 : Aside0 (gf ≠ gs ∧ g' ≠ gf ∧ g' ≠ gs ∧ gf < w7.heap.size ∧ gs < w7.heap.size) := ⟨by omega⟩
              obtain ⟨q0, q1, q2⟩ := HXS.out w7 hB7
              have HRUN7 := Aside0.mk hrun7
              clear hgm hne hgp hwz hB7 hws hR7 hgr7 hrun7
              have hll : Aside0 ((f1).length = 1024 ∧ (putL f2 a data).length = 512) := ⟨by have h1 := HL.out.1; have h2 := HL.out.2; have h3 := HFIT.out; first | exact ⟨by rw [putL_len _ _ _ (by omega)]; exact h1, h2⟩ | exact ⟨h1, by rw [putL_len _ _ _ (by omega)]; exact h2⟩⟩
              go_region_held_law (fun w' => w'.cell? ⟨(ad.add (j * 3)).block, (ad.add (j * 3)).off + 1, none⟩ = some (.int .i64 (a : Int)) ∧ w'.cell? ⟨(ad.add (j * 3)).block, (ad.add (j * 3)).off + 2, none⟩ = some (.slice A data.length cx)) (first | exact ⟨v1, v2⟩ | exact ⟨q1, q2⟩) (refine step_copy_runI rfl _ _ 23 23 rfl (.slice (some ⟨gs, a, none⟩) (512 - a) (512 - a)) (.slice A data.length cx) (by simp [Act.eval, Act.put]) (by simp [Act.eval, Act.put]) HRUN7.out ?_)
              go_wp2
              go_roundg kk
              case measure => omega
              case rel => exact ⟨j + 1, g', cap', f1, putL f2 a data, by first | rfl | (rw [show wrap64 ((j : Int) + 1) = ((j + 1 : Nat) : Int) by have := HLL.out; unfold wrap64; omega]), rfl, ⟨by have := HJ.out; omega⟩, hll, HCD5, HNE7, HRD7, HRO, HRM, HB7⟩
end Go.Proofs.Ytdobpgomgnaleaa.P
