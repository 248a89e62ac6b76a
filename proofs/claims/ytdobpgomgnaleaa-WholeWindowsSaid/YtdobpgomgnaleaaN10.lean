import Derived.RangeFuncNested
import Derived.RangeFuncBound
import Derived.RangeFuncCalls
import Derived.RangeFuncLeaves
import Derived.Shelf.Abstract
import Derived.Shelf.RegionOpen
import Derived.WalkKit
import Derived.OwnWalkIn
import Derived.TacticsInMore
import Derived.LoopNIn
import Derived.LoopIn
import Derived.RangeFuncBox
import Derived.RangeFuncFrom
import Derived.RangeFuncWrites
import Derived.Maps.AppendAt
import Derived.Stop.RegionWithIn
import Derived.Deep.WholeRow
import Derived.Test.YtdobpgomgnaleaaN2
import Derived.Test.YtdobpgomgnaleaaN3
import Derived.Test.YtdobpgomgnaleaaN4
import Derived.Test.YtdobpgomgnaleaaN6
import Derived.Test.YtdobpgomgnaleaaN7
import Derived.Test.YtdobpgomgnaleaaN8
import Derived.Test.YtdobpgomgnaleaaN9
import Derived.Shelf.Spec.SlicesInsertGrow
namespace Go.Proofs.Ytdobpgomgnaleaa.P
open Go.RowKit Go.Shelf Go.Proofs.YtdobpgomgnaleaaW.PrintWords
attribute [local go_sem] Oper.semAt_some
set_option linter.unusedVariables false
set_option linter.unusedSimpArgs false
theorem copy8 {W : World} {base : Nat} {ok : Nat → Prop} (ty g off cap dLen dCap : Nat) (xs ys : List Int) (sp : Option Addr) (sCap : Nat) (HO : Kd.R (Kd.int .u8) 5 W base ok (.slice (some ⟨g, 0, none⟩) xs.length cap) xs) (hfit : off + ys.length ≤ xs.length) (hd : dLen + off = xs.length) (HR : Kd.C (Kd.int .u8) W sp ys.length ys) :
    ∃ w1, (Builtin.copy_ #[23, 23] ty #[.slice (some ⟨g, off, none⟩) dLen dCap, .slice sp ys.length sCap]).run Try.prog W = .ok (.int .i64 (ys.length : Int)) w1 ∧ Kd.R (Kd.int .u8) 5 w1 base ok (.slice (some ⟨g, 0, none⟩) xs.length cap) (putL xs off ys) ∧ W.grownBy w1 (some g) := by
  obtain ⟨w1, h1, h2, h3⟩ := Kd.run_copy_R (P := Try.prog) (enc := Value.int .u8) (h1 := fun _ => rfl) (off := off) 23 23 ty 5 Try.underlying23 (by kernel_rfl) HO (some ⟨g, off, none⟩) dLen dCap (by omega) (fun _ => ⟨g, rfl, rfl⟩) ys sp sCap HR
  rw [List.take_of_length_le (by omega)] at h1 h2
  refine ⟨w1, h1, ?_, h3⟩
  have e : splice xs off ys = putL xs off ys := by unfold splice putL; rw [List.append_assoc]
  rw [e] at h2
  exact h2
theorem info5b : ∃ i, Try.prog.info? 5 = some i ∧ i.size = 1 := by
  obtain ⟨i0_, hi0_, _, hs_, _⟩ := info_parts (show (Try.prog.info? 5).map (fun i => (i.zero, i.size, i.bytes)) = some (some (.int .u8 0), 1, 1) by kernel_rfl)
  exact ⟨i0_, hi0_, hs_⟩
/-- 'v[lo:]', v a slice at a place of its own. -/
theorem from8 (g off n c lo : Nat) (h : lo ≤ n) (hc : lo < c) (W : World) : (Instr.slice 23 (.slice (some ⟨g, off, none⟩) n c) (some (.int .i64 (lo : Int))) none none).run Try.prog W = .ok (.slice (some ⟨g, off + lo, none⟩) (n - lo) (c - lo)) W := by
  obtain ⟨i0, hi0, hs⟩ := info5b
  have h := cut_from 23 5 .i64 Try.underlying23 hi0 1 hs (some ⟨g, off, none⟩) n c (lo : Int) (by omega) (by omega) W
  rw [Int.toNat_natCast, if_neg (by omega), Nat.mul_one] at h
  rw [h, Option.map_some, addr_add]
theorem fromA (A : Option Addr) (n c lo : Nat) (h : lo ≤ n) (W : World) : (Instr.slice 23 (.slice A n c) (some (.int .i64 (lo : Int))) none none).run Try.prog W = .ok (.slice (if c = lo then A else A.map (·.add lo)) (n - lo) (c - lo)) W := by
  obtain ⟨i0, hi0, hs⟩ := info5b
  have h := cut_from 23 5 .i64 Try.underlying23 hi0 1 hs A n c (lo : Int) (by omega) (by omega) W
  rw [Int.toNat_natCast, Nat.mul_one] at h
  exact h
theorem toA (A : Option Addr) (n c hi' : Nat) (h : hi' ≤ n) (hc : n ≤ c) (W : World) : (Instr.slice 23 (.slice A n c) none (some (.int .i64 (hi' : Int))) none).run Try.prog W = .ok (.slice A hi' c) W := by
  obtain ⟨i0, hi0, hs⟩ := info5b
  have h := cut_to 23 5 .i64 Try.underlying23 hi0 A n c (hi' : Int) (by omega) (by omega) hc W
  rw [Int.toNat_natCast] at h
  exact h
theorem C_takeA {w : World} {A : Option Addr} {l : List Int} (h : Kd.C (Kd.int .u8) w A l.length l) (m : Nat) (hm : m ≤ l.length) : Kd.C (Kd.int .u8) w A (l.take m).length (l.take m) := by
  have hC := Kd.C_mid (lo := 0) (hi := m) (c := l.length + 1) h (by omega) hm (by omega)
  rw [if_neg (by omega), List.drop_zero] at hC
  have e : A.map (·.add (0 * (Kd.int .u8).sz)) = A := by
    rw [Nat.zero_mul]
    cases A with
    | none => rfl
    | some a => show some (a.add 0) = some a; unfold Addr.add; cases a; rfl
  rw [e] at hC
  exact hC
theorem C_dropA {w : World} {A : Option Addr} {l : List Int} {c : Nat} (h : Kd.C (Kd.int .u8) w A l.length l) (m : Nat) (hm : m ≤ l.length) (hc : l.length ≤ c) : Kd.C (Kd.int .u8) w (if c = m then A else A.map (·.add m)) (l.drop m).length (l.drop m) := by
  have hC := Kd.C_mid (lo := m) (hi := l.length) (c := c) h hm (Nat.le_refl _) hc
  rw [List.take_of_length_le (Nat.le_refl _)] at hC
  have e : (fun a : Addr => a.add (m * (Kd.int .u8).sz)) = fun a => a.add m := by
    funext a
    show a.add (m * 1) = _
    rw [Nat.mul_one]
  rw [e] at hC
  exact hC
theorem store66 (X : World) (s f m : Int) : (Instr.storeAt 66 (.pointer (some ⟨X.heap.size, 0, none⟩)) (.agg #[.int .i64 s, .int .i64 f, .int .i64 m])).run Try.prog (X.alloc (.cells #[.int .i64 0, .int .i64 0, .int .i64 0] 66)) = .ok () (X.alloc (.cells #[.int .i64 s, .int .i64 f, .int .i64 m] 66)) := by
  have h := run_storeVar_new (P := Try.prog) X 66 #[.int .i64 0, .int .i64 0, .int .i64 0] #[.int .i64 s, .int .i64 f, .int .i64 m] (by kernel_rfl) rfl (by kernel_rfl)
  simp only [Instr.storeAt, Instr.sureAddr, Sem.run_bind, Sem.run_pure, Result.andThen_ok, h]
theorem rd66 {r r' : List S66} {p : S66} {j : Nat} (h : r.drop j = p :: r') : rd_T66 r (j : Int) = p ∧ r.drop (j + 1) = r' ∧ j < r.length := by
  have hlt : j < r.length := by
    apply Nat.lt_of_not_le
    intro hc
    rw [List.drop_eq_nil_of_le hc] at h
    cases h
  rw [List.drop_eq_getElem_cons hlt] at h
  injection h with h1 h2
  refine ⟨?_, h2, hlt⟩
  unfold rd_T66
  rw [Int.toNat_natCast, List.getD_eq_getElem?_getD, List.getElem?_eq_getElem hlt]
  exact h1
set_option maxHeartbeats 4000000 in
set_option maxRecDepth 100000 in
theorem bput_calls (b off c0 : Nat) (l0 : List Int) (A1 : Option Addr) (c1 : Nat) (data : List Int) (k : Nat) (w : World) (hr0 : Kd.C (Kd.int .u8) w (some ⟨b, off, none⟩) l0.length l0) (hl : l0.length = 2560) (hc : 2560 ≤ c0)
    (hr1 : Kd.C (Kd.int .u8) w A1 data.length data) (hc1 : data.length ≤ c1) (hk : k + data.length ≤ 2560) :
    Calls Try.prog 15 #[.slice (some ⟨b, off, none⟩) 2560 c0, .int .i64 (k : Int), .slice A1 data.length c1] w fun e w' => ∃ g cap, e = .returned (.tuple #[.slice (some ⟨g, 0, none⟩) 2560 cap, .int .i64 0]) ∧ 2560 ≤ cap ∧ Kd.R (Kd.int .u8) 5 w' w.heap.size (fun _ => True) (.slice (some ⟨g, 0, none⟩) 2560 cap) (putL l0 k data) ∧ Below w.heap.size w w' := by
  have hb0 := Below.refl w.heap.size w
  have hstr : ∀ X, Below w.heap.size w X → Calls Try.prog 23 #[.slice (some ⟨b, off, none⟩) 2560 c0, .int .i64 (k : Int), .int .i64 (data.length : Int)] X fun e w' => e = .returned (.int .i64 0) ∧ Drawn0 X w' := fun X hX => by
    have h := block_stretch.calls (some ⟨b, off, none⟩) c0 l0 (k : Int) (data.length : Int) 0 X (Kd.C_below hr0 hX) (by omega) (by
      unfold block_stretch.f block_Formed.f
      rw [hl]
      rw [show (if ((2560 : Nat) : Int) % 512 = 0 then some (decide (wrap64 (((2560 : Nat) : Int) / 512) ≤ 64)) else some false) = some true by decide +kernel, Option.bind_some, if_pos rfl, if_neg (by omega), if_neg (by omega), if_neg (by omega), if_neg (by rw [show wrap64 (((2560 : Nat) : Int) - (k : Int)) = 2560 - (k : Int) by unfold wrap64; omega]; omega)])
    rw [hl] at h
    exact h
  have hclo : ∀ X, Below w.heap.size w X → Calls Try.prog 18 #[.slice (some ⟨b, off, none⟩) 2560 c0] X fun e w' => ∃ g cap, e = .returned (.slice (some ⟨g, 0, none⟩) 2560 cap) ∧ 2560 ≤ cap ∧ Kd.R (Kd.int .u8) 5 w' X.heap.size (fun _ => True) (.slice (some ⟨g, 0, none⟩) 2560 cap) l0 ∧ Below X.heap.size X w' := fun X hX => by
    have h := slices_Clone_byte_byte.calls (some ⟨b, off, none⟩) c0 l0 l0 X (Kd.C_below hr0 hX) (by omega) (by unfold slices_Clone_byte_byte.f; rw [if_pos (by omega)])
    rw [hl] at h
    refine h.mono ?_
    rintro e w' ⟨v, rfl, hR, hB⟩
    obtain ⟨g, cap, rfl, hcap⟩ := R_out hR (by omega)
    rw [hl] at hR hcap ⊢
    exact ⟨g, cap, rfl, hcap, hR, hB⟩
  obtain ⟨r, hr, hg⟩ := pieces_good 2560 data.length k [] (by omega) hk (by simp; omega)
  have hpc : ∀ X, Calls Try.prog 24 #[.int .i64 (k : Int), .int .i64 (data.length : Int)] X fun e w' => ∃ A c, e = .returned (.slice A r.length c) ∧ (∀ W', ∀ gd, gd < X.heap.size → KeepBut w' W' gd none → Kd.C k66 W' A r.length r) ∧ Below X.heap.size X w' := fun X => by
    refine (block_pieces.calls 2561 (k : Int) (data.length : Int) r X hr).mono ?_
    rintro e w' ⟨v, rfl, hR, hB⟩
    obtain ⟨A, c, rfl, _⟩ := Kd.R_reads hR
    exact ⟨A, c, rfl, fun W' gd hgd hK => (Kd.R_reads' (Kd.R_keep (Kd.R_bound hR) hK (fun k hk => by have := hk.2.1; omega))).2.2, hB⟩
  have HR1 := Aside0.mk hr1
  have HG0 := Aside0.mk hg
  have HL := Aside0.mk hl
  have HC1 := Aside0.mk hc1
  have HK := Aside0.mk hk
  clear hr0 hr1 hc1 hr hg hl hk
  go_enter Try.func15, Try.ntmps15
  go_wp2_with (first | (go_at_call 23; refine (hstr _ hb0).mono ?_; rintro e w1 ⟨rfl, ⟨m1, rfl⟩⟩) | (go_at_call 18; refine (hclo _ (pw_below_drewN hb0 m1)).mono ?_; rintro e W2 ⟨gd, capd, rfl, hcapd, hRd, hB2⟩; have hb2 := below_then (pw_below_drewN hb0 m1) (Nat.le_refl _) hB2) | (go_at_call 24; refine (hpc _).mono ?_; rintro e W3 ⟨AP, cp, rfl, hPC, hB3⟩))
  have hgd : gd < W2.heap.size ∧ w.heap.size ≤ gd := by
    have ho := (Kd.own_of_R hRd).lt gd rfl
    exact ⟨ho.2, Nat.le_trans (Nat.le_refl _) ho.1⟩
  have HGD := Aside0.mk hgd
  have HW23 := Aside0.mk hB3.size
  have HPC := Aside0.mk hPC
  have HRd := Aside0.mk (show Kd.R (Kd.int .u8) 5 W3 w.heap.size (fun _ => True) (.slice (some ⟨gd, 0, none⟩) 2560 capd) l0 from Kd.R_below hRd hB3)
  have HB3 := Aside0.mk (below_then hb2 hb2.size hB3)
  have HCD := Aside0.mk hcapd
  have HRL := Aside0.mk (Good.len HG0.out)
  have HK0 := Aside0.mk HK.out
  clear hgd hPC hRd hcapd hB3 hB2 hb2 hstr hclo hpc hb0
  go_loopg [28, 2] r.length (fun kq v28 v2 w' => ∃ (j : Nat) (A2 : Option Addr) (c2 : Nat) (rest : List Int) (kj : Nat) (dcur : List Int), v28 = .int .i64 j ∧ v2 = .slice A2 rest.length c2 ∧ Aside0 (j + kq = r.length) ∧ Aside0 (Good kj rest.length (r.drop j)) ∧ Aside0 (kj + rest.length ≤ 2560) ∧ Aside0 (dcur.length = 2560) ∧ Aside0 (putL dcur kj rest = putL l0 k data) ∧ Aside0 (rest.length ≤ c2) ∧ Aside0 (Kd.C (Kd.int .u8) w A2 rest.length rest) ∧ Aside0 (Kd.R (Kd.int .u8) 5 w' w.heap.size (fun _ => True) (.slice (some ⟨gd, 0, none⟩) 2560 capd) dcur) ∧ Aside0 (KeepBut W3 w' gd none) ∧ Aside0 (Below w.heap.size w w'))
  case atStart => exact ⟨0, A1, c1, data, k, l0, rfl, rfl, ⟨by omega⟩, HG0, HK, HL, ⟨rfl⟩, HC1, HR1, HRd, ⟨KeepBut.refl _ _ _⟩, HB3⟩
  case round =>
    clear HRd HB3 HG0 HK HL HC1 HR1
    obtain ⟨j, A2, c2, rest, kj, dcur, rfl, rfl, HJ, HG, HK, HD, HP, HC2, HRST, HR, HKP, HB⟩ := hrel
    cases gk with
    | zero =>
      have c : decide ((j : Int) < (r.length : Int)) = false := decide_eq_false (by have := HJ.out; omega)
      have c' : (j < r.length) = False := eq_false (by have := HJ.out; omega)
      go_wp2
      refine bodyPost_ret (results_tmp2 rfl _ _ _) rfl ?_
      have hn := HG.out
      rw [List.drop_eq_nil_of_le (by have := HJ.out; omega)] at hn
      have hn' : rest = [] := List.eq_nil_of_length_eq_zero hn
      have hp := HP.out
      rw [hn', putL_nil] at hp
      rw [← hp]
      exact ⟨gd, capd, rfl, HCD.out, HR.out, HB.out⟩
    | succ kk =>
      have hj : j < r.length := by have := HJ.out; omega
      obtain ⟨p, r', hdr⟩ : ∃ p r', r.drop j = p :: r' := ⟨_, _, List.drop_eq_getElem_cons hj⟩
      obtain ⟨hrd, hdr1, _⟩ := rd66 hdr
      have hG2 := HG.out
      rw [hdr] at hG2
      obtain ⟨m, rfl, hm, hm0, hg'⟩ := hG2
      have hkj := HK.out
      have hrl : rest.length ≤ 2560 := by omega
      have hml : m ≤ rest.length := by omega
      have hfm : kj % 512 + m ≤ 512 := by omega
      have hs5 : kj / 512 < 5 := by omega
      have hpart := putL_part dcur rest kj m HD.out (by omega) hm hm0
      rw [Nat.mul_comm 512 (kj / 512)] at hpart
      have hstep := putL_step dcur rest kj m (by have := HD.out; omega) hml
      have hsec := secL_len dcur (kj / 512) HD.out hs5
      obtain ⟨s, hs⟩ : ∃ s, s = kj / 512 := ⟨_, rfl⟩
      obtain ⟨f, hf⟩ : ∃ f, f = kj % 512 := ⟨_, rfl⟩
      have hlt5 : wr.heap.size = wr.heap.size := rfl
      obtain ⟨ad, e, x0, x1, x2⟩ := at_T66 (HPC.out wr gd HGD.out.1 HKP.out) (j : Int) (by omega) (by omega)
      subst e
      rw [hrd] at x0 x1 x2
      rw [Int.toNat_natCast, ← hs] at x0
      rw [Int.toNat_natCast, ← hf] at x1
      rw [Int.toNat_natCast] at x2
      dsimp only at x0 x1 x2
      rw [← hs, ← hf] at hpart
      rw [← hs] at hsec hs5
      rw [← hf] at hfm
      have hCd : ∀ o, Kd.C (Kd.int .u8) (wr.alloc o) (some ⟨gd, 0, none⟩) dcur.length dcur := fun o => Kd.C_alloc (Kd.R_reads' HR.out).2.2 o
      have HCd := Aside0.mk hCd
      have HPART := Aside0.mk hpart
      have HSTEP := Aside0.mk hstep
      have HSEC := Aside0.mk hsec
      have HG' := Aside0.mk hg'
      have HDR1 := Aside0.mk hdr1
      have HS := Aside0.mk hs
      have HF := Aside0.mk hf
      have HM := Aside0.mk hm
      clear hCd hpart hstep hsec hg' hdr1 hs hf hrd hdr hm hlt5
      have c : decide ((j : Int) < (r.length : Int)) = true := decide_eq_true (by omega)
      have c' : (j < r.length) = True := eq_true hj
      have sl1 : ∀ cap2 g2, 512 ≤ cap2 → ∀ X, (Instr.slice 23 (.slice (some ⟨g2, 0, none⟩) 512 cap2) (some (.int .i64 (f : Int))) none none).run Try.prog X = .ok (.slice (some ⟨g2, f, none⟩) (512 - f) (cap2 - f)) X := fun cap2 g2 h2 X => by
        have h := from8 g2 0 512 cap2 f (by omega) (by omega) X
        rw [Nat.zero_add] at h
        exact h
      have sl2 : ∀ X, (Instr.slice 23 (.slice A2 rest.length c2) none (some (.int .i64 (m : Int))) none).run Try.prog X = .ok (.slice A2 m c2) X := fun X => toA A2 rest.length c2 m hml HC2.out X
      have sl3 : ∀ X, (Instr.slice 23 (.slice A2 rest.length c2) (some (.int .i64 (m : Int))) none none).run Try.prog X = .ok (.slice (if c2 = m then A2 else A2.map (·.add m)) (rest.length - m) (c2 - m)) X := fun X => fromA A2 rest.length c2 m hml X
      have hcap0 : (capd = s * 512) = False := eq_false (by have := HCD.out; omega)
      have HCAP0 := Aside0.mk hcap0
      have HCDR := Aside0.mk (C_dropA HRST.out m hml HC2.out)
      clear hcap0
      go_wp2_with (first | (refine wpList_store_run rfl rfl 66 (.tmp 10) (.tmp 31) rfl ⟨wr.heap.size, 0, none⟩ (.agg #[.int .i64 s, .int .i64 f, .int .i64 m]) _ rfl rfl (store66 wr s f m) ?_) | (go_at_call 8; refine (read_calls gd 0 capd dcur s hs5 _ (HCd.out _) HD.out HCD.out).mono ?_; rintro e W4 ⟨g2, cap2, rfl, hcap2, hR2, hB4⟩))
      have hb14 : Below wr.heap.size wr W4 := below_then (below_alloc (Below.refl _ wr) _) (below_alloc (Below.refl _ wr) _).size hB4
      have hk10 := blk_below (blk_new wr (.cells #[.int .i64 (s : Int), .int .i64 (f : Int), .int .i64 (m : Int)] 66)) hB4
      have hg2 : wr.heap.size < g2 := by
        have h := ((Kd.own_of_R hR2).lt g2 rfl).1
        rw [World.size_alloc] at h
        omega
      have hgdr : gd < wr.heap.size := Nat.lt_of_lt_of_le HGD.out.1 (Nat.le_trans HW23.out HKP.out.1)
      have hwB4 : Below w.heap.size w W4 := below_then HB.out HB.out.size hb14
      have hRd4 := Kd.R_below HR.out hb14
      have hml' : (rest.take m).length = m := by rw [List.length_take]; omega
      have hC4 := C_takeA (Kd.C_drew (Kd.C_below HRST.out hwB4)) m hml
      have hsec := HSEC.out
      obtain ⟨w5, hrun1, hR5, hgr5⟩ := copy8 (W := W4.drew) (base := (wr.alloc (.cells #[.int .i64 (s : Int), .int .i64 (f : Int), .int .i64 (m : Int)] 66)).heap.size) (ok := fun _ => True) 3 g2 f cap2 (512 - f) (cap2 - f) (secL dcur s) (rest.take m) A2 c2 (by rw [hsec]; exact hR2) (by omega) (by omega) hC4
      have hp5 : (putL (secL dcur s) f (rest.take m)).length = 512 := by rw [putL_len _ _ _ (by omega), hsec]
      rw [hml'] at hrun1
      rw [hsec] at hR5
      have hk5 := blk_grown (w := W4.drew) hk10 hgr5 (by simp; omega)
      have hRd5 := Kd.R_grown1 (W := W4.drew) hRd4 rfl hgr5 (by show some g2 ≠ some gd; simp; omega)
      have hC5 : Kd.C (Kd.int .u8) w5 (some ⟨g2, 0, none⟩) (putL (secL dcur s) f (rest.take m)).length (putL (secL dcur s) f (rest.take m)) := (Kd.R_reads' hR5).2.2
      obtain ⟨w6, hrun2, hR6, hgr6⟩ := copy8 (W := w5) (base := w.heap.size) (ok := fun _ => True) 3 gd (s * 512) capd (2560 - s * 512) (capd - s * 512) dcur (putL (secL dcur s) f (rest.take m)) (some ⟨g2, 0, none⟩) cap2 (by rw [HD.out]; exact hRd5) (by have := HD.out; omega) (by have := HD.out; omega) hC5
      rw [hp5] at hrun2
      rw [HPART.out, HD.out] at hR6
      have hlen6 : (putL dcur kj (rest.take m)).length = 2560 := by rw [putL_len _ _ _ (by have := HD.out; omega)]; exact HD.out
      have hkeep : KeepBut W3 w6 gd none := by
        have k1 := HKP.out.trans (KeepBut.of_below hb14 gd none) (.inl rfl)
        have k2 : KeepBut W3 W4.drew gd none := k1
        have k3 := k2.trans (KeepBut.of_grown hgr5 gd) (.inr ⟨g2, rfl, by have := HKP.out.1; omega⟩)
        exact k3.trans (w2 := w6) (row1 := none) ⟨hgr6.size, fun i hi hg _ => hgr6.block i hi (by simpa using hg)⟩ (.inl rfl)
      have hbel : Below w.heap.size w w6 := by
        have h1 := below_drew hwB4
        have h2 := pw_below_grown h1 (some g2) h1.size hgr5 (fun k hk => by cases hk; have := HB.out.size; omega)
        exact pw_below_grown h2 (some gd) h2.size hgr6 (fun k hk => by cases hk; exact HGD.out.2)
      have z1 : W4.drew.cell? ⟨wr.heap.size, 1, none⟩ = some (.int .i64 (f : Int)) := (blk_cell (w := W4.drew) hk10 1).trans rfl
      have z2 : W4.drew.cell? ⟨wr.heap.size, 2, none⟩ = some (.int .i64 (m : Int)) := (blk_cell (w := W4.drew) hk10 2).trans rfl
      have z0 : w5.cell? ⟨wr.heap.size, 0, none⟩ = some (.int .i64 (s : Int)) := (blk_cell hk5 0).trans rfl
      have HKEEP := Aside0.mk hkeep
      have HBEL := Aside0.mk hbel
      have HR6 := Aside0.mk hR6
      have HL6 := Aside0.mk hlen6
      have HRUN1 := Aside0.mk hrun1
      have HRUN2 := Aside0.mk hrun2
      clear hkeep hbel hR6 hlen6 hrun1 hrun2 hgr6 hgr5 hRd5 hC5 hk5 hp5 hsec hC4 hml' hRd4 hwB4 hk10 hb14 hR2 hB4 hR5
      have sl1' := sl1 cap2 g2 hcap2
      have mixed : Try.prog.follows Departure.mixedOrders = true := by kernel_rfl
      clear sl1 x0 x1 x2 sl3
      rcases Decidable.em (c2 = m) with hcm | hcm
      · subst hcm
        have HCDR3 := Aside0.mk (show Kd.C (Kd.int .u8) w A2 (rest.drop c2).length (rest.drop c2) by have h := HCDR.out; rw [if_pos rfl] at h; exact h)
        clear HCDR
        have hcap0 := HCAP0.out
        have hcap1 : ¬ (capd = s * 512) := fun h => by rw [h] at hcap0; simp at hcap0
        have hrun2 := HRUN2.out
        go_region_law_o (refine step_copy_runI rfl _ _ 23 23 rfl (.slice (some ⟨g2, f, none⟩) (512 - f) (cap2 - f)) (.slice A2 c2 c2) (by simp [Act.eval, Act.put]) (by simp [Act.eval, Act.put]) HRUN1.out ?_)
        all_goals go_wp2
        all_goals go_roundg kk
        all_goals first | omega | exact ⟨j + 1, _, _, rest.drop c2, kj + c2, putL dcur kj (rest.take c2), by rw [show wrap64 ((j : Int) + 1) = ((j + 1 : Nat) : Int) by have := HJ.out; have := HRL.out; have := HK0.out; unfold wrap64; omega], by rw [List.length_drop], ⟨by have := HJ.out; omega⟩, ⟨by rw [HDR1.out, List.length_drop]; exact HG'.out⟩, ⟨by rw [List.length_drop]; omega⟩, HL6, ⟨HSTEP.out.trans HP.out⟩, ⟨by rw [List.length_drop]; have := HC2.out; omega⟩, HCDR3, HR6, HKEEP, HBEL⟩
      · have HCDR3 := Aside0.mk (show Kd.C (Kd.int .u8) w (A2.map (·.add m)) (rest.drop m).length (rest.drop m) by have h := HCDR.out; rw [if_neg hcm] at h; exact h)
        clear HCDR
        have hcm' : (c2 = m) = False := eq_false hcm
        have hcap0 := HCAP0.out
        have hcap1 : ¬ (capd = s * 512) := fun h => by rw [h] at hcap0; simp at hcap0
        have hrun2 := HRUN2.out
        go_region_law_o (refine step_copy_runI rfl _ _ 23 23 rfl (.slice (some ⟨g2, f, none⟩) (512 - f) (cap2 - f)) (.slice A2 m c2) (by simp [Act.eval, Act.put]) (by simp [Act.eval, Act.put]) HRUN1.out ?_)
        all_goals go_wp2
        all_goals go_roundg kk
        all_goals first | omega | exact ⟨j + 1, _, _, rest.drop m, kj + m, putL dcur kj (rest.take m), by rw [show wrap64 ((j : Int) + 1) = ((j + 1 : Nat) : Int) by have := HJ.out; have := HRL.out; have := HK0.out; unfold wrap64; omega], by rw [List.length_drop], ⟨by have := HJ.out; omega⟩, ⟨by rw [HDR1.out, List.length_drop]; exact HG'.out⟩, ⟨by rw [List.length_drop]; omega⟩, HL6, ⟨HSTEP.out.trans HP.out⟩, ⟨by rw [List.length_drop]; have := HC2.out; omega⟩, HCDR3, HR6, HKEEP, HBEL⟩
end Go.Proofs.Ytdobpgomgnaleaa.P
