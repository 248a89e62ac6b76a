import Derived.RangeFuncNested
import Derived.RangeFuncBound
import Derived.RangeFuncCalls
import Derived.RangeFuncLeaves
import Derived.Shelf.Abstract
import Derived.Shelf.RegionOpen
import Derived.WalkKit
import Derived.OwnWalkIn
import Derived.TacticsInMore
import Derived.LoopNIn
import Derived.LoopIn
import Derived.RangeFuncBox
import Derived.RangeFuncFrom
import Derived.RangeFuncWrites
import Derived.Maps.AppendAt
import Derived.Stop.RegionWithIn
import Derived.Lib.AppendZeros
import Derived.Deep.WholeRow
import Derived.Test.YtdobpgomgnaleaaN2
import Derived.Test.YtdobpgomgnaleaaN3
import Derived.Test.YtdobpgomgnaleaaN4
import Derived.Test.YtdobpgomgnaleaaN6
import Derived.Test.YtdobpgomgnaleaaN7
import Derived.Test.YtdobpgomgnaleaaN8
import Derived.Test.YtdobpgomgnaleaaN9
import Derived.Test.YtdobpgomgnaleaaN10
import Derived.Shelf.Spec.SlicesInsertGrow
namespace Go.Proofs.Ytdobpgomgnaleaa.P
open Go.RowKit Go.Shelf Go.Proofs.YtdobpgomgnaleaaW.PrintWords
attribute [local go_sem] Oper.semAt_some
set_option linter.unusedVariables false
set_option linter.unusedSimpArgs false
def getL (d : List Int) (k n : Nat) : List Int := (d.take (k + n)).drop k
theorem getL_len (d : List Int) (k n : Nat) (h : k + n ≤ d.length) : (getL d k n).length = n := by unfold getL; rw [List.length_drop, List.length_take]; omega
theorem getL_get (d : List Int) (k n i : Nat) : (getL d k n)[i]? = if i < n then d[k + i]? else none := by
  unfold getL
  rw [List.getElem?_drop, List.getElem?_take]
  by_cases h : i < n
  · rw [if_pos (by omega), if_pos h]
  · rw [if_neg (by omega), if_neg h]
theorem getL_sec (d : List Int) (k m : Nat) (h : k % 512 + m ≤ 512) : getL (secL d (k / 512)) (k % 512) m = getL d k m := by
  apply List.ext_getElem?
  intro i
  rw [getL_get, getL_get, secL_get]
  have e := Nat.div_add_mod k 512
  by_cases h1 : i < m
  · rw [if_pos h1, if_pos h1, if_pos (by omega), ← Nat.add_assoc, e]
  · rw [if_neg h1, if_neg h1]
theorem getL_step (d : List Int) (k m n : Nat) (hd : k + n ≤ d.length) (hm : m ≤ n) : getL d k m ++ getL d (k + m) (n - m) = getL d k n := by
  have hl := getL_len d k m (by omega)
  apply List.ext_getElem?
  intro i
  rw [getL_get]
  by_cases h1 : i < m
  · rw [List.getElem?_append_left (by omega), getL_get, if_pos h1, if_pos (by omega)]
  · rw [List.getElem?_append_right (by omega), getL_get, hl]
    by_cases h2 : i < n
    · rw [if_pos (by omega), if_pos h2, show k + m + (i - m) = k + i by omega]
    · rw [if_neg (by omega), if_neg h2]
/-- 'v[lo:hi]'. -/
theorem mid8 (g n c lo hi' : Nat) (h1 : lo ≤ hi') (h2 : hi' ≤ n) (h3 : n ≤ c) (h4 : lo < c) (W : World) : (Instr.slice 23 (.slice (some ⟨g, 0, none⟩) n c) (some (.int .i64 (lo : Int))) (some (.int .i64 (hi' : Int))) none).run Try.prog W = .ok (.slice (some ⟨g, lo, none⟩) (hi' - lo) (c - lo)) W := by
  obtain ⟨i0, hi0, hs⟩ := info5b
  have h := cut_mid 23 5 .i64 .i64 Try.underlying23 hi0 1 hs (some ⟨g, 0, none⟩) n c (lo : Int) (hi' : Int) (by omega) (by omega) (by omega) h3 W
  simp only [Int.toNat_natCast, Nat.mul_one] at h
  rw [if_neg (by omega)] at h
  rw [h, Option.map_some, addr_add, Nat.zero_add]
set_option maxHeartbeats 4000000 in
set_option maxRecDepth 100000 in
theorem bget_calls (b off c0 : Nat) (l0 : List Int) (k n : Nat) (w : World) (hr0 : Kd.C (Kd.int .u8) w (some ⟨b, off, none⟩) l0.length l0) (hl : l0.length = 2560) (hc : 2560 ≤ c0) (hk : k + n ≤ 2560) :
    Calls Try.prog 16 #[.slice (some ⟨b, off, none⟩) 2560 c0, .int .i64 (k : Int), .int .i64 (n : Int)] w fun e w' => ∃ g, e = .returned (.tuple #[.slice (some ⟨g, 0, none⟩) n n, .int .i64 0]) ∧ Kd.R (Kd.int .u8) 5 w' w.heap.size (fun _ => True) (.slice (some ⟨g, 0, none⟩) n n) (getL l0 k n) ∧ Below w.heap.size w w' := by
  have hb0 := Below.refl w.heap.size w
  obtain ⟨i0, hi0, hz0, hz1, hz2⟩ := info_parts (show (Try.prog.info? 5).map (fun i => (i.zero, i.size, i.bytes)) = some (some (.int .u8 0), 1, 1) by kernel_rfl)
  have hstr : ∀ X, Below w.heap.size w X → Calls Try.prog 23 #[.slice (some ⟨b, off, none⟩) 2560 c0, .int .i64 (k : Int), .int .i64 (n : Int)] X fun e w' => e = .returned (.int .i64 0) ∧ Drawn0 X w' := fun X hX => by
    have h := block_stretch.calls (some ⟨b, off, none⟩) c0 l0 (k : Int) (n : Int) 0 X (Kd.C_below hr0 hX) (by omega) (by
      unfold block_stretch.f block_Formed.f
      rw [hl]
      rw [show (if ((2560 : Nat) : Int) % 512 = 0 then some (decide (wrap64 (((2560 : Nat) : Int) / 512) ≤ 64)) else some false) = some true by decide +kernel, Option.bind_some, if_pos rfl, if_neg (by omega), if_neg (by omega), if_neg (by omega), if_neg (by rw [show wrap64 (((2560 : Nat) : Int) - (k : Int)) = 2560 - (k : Int) by unfold wrap64; omega]; omega)])
    rw [hl] at h
    exact h
  obtain ⟨r, hr, hg⟩ := pieces_good 2560 n k [] (by omega) hk (by simp; omega)
  have hpc : ∀ X, Calls Try.prog 24 #[.int .i64 (k : Int), .int .i64 (n : Int)] X fun e w' => ∃ A c, e = .returned (.slice A r.length c) ∧ (∀ W', ∀ gd, gd < X.heap.size → KeepBut w' W' gd none → Kd.C k66 W' A r.length r) ∧ Below X.heap.size X w' := fun X => by
    refine (block_pieces.calls 2561 (k : Int) (n : Int) r X hr).mono ?_
    rintro e w' ⟨v, rfl, hR, hB⟩
    obtain ⟨A, c, rfl, _⟩ := Kd.R_reads hR
    exact ⟨A, c, rfl, fun W' gd hgd hK => (Kd.R_reads' (Kd.R_keep (Kd.R_bound hR) hK (fun k hk => by have := hk.2.1; omega))).2.2, hB⟩
  have HR1 := Aside0.mk hr0
  have HG0 := Aside0.mk hg
  have HL := Aside0.mk hl
  have HK := Aside0.mk hk
  have HI0 := Aside0.mk hi0
  have HZ0 := Aside0.mk hz0
  have HZ1 := Aside0.mk hz1
  have HZ2 := Aside0.mk hz2
  clear hr0 hr hg hl hk hi0 hz0 hz1 hz2
  go_enter Try.func16, Try.ntmps16
  go_wp2_with (first | (go_at_call 23; refine (hstr _ hb0).mono ?_; rintro e w1 ⟨rfl, ⟨m1, rfl⟩⟩) | (at_make; refine wpList_make_own _ rfl _ _ 23 rfl w.heap.size 5 i0 (.int .u8 0) 1 Try.underlying23 HI0.out HZ0.out HZ1.out .i64 .i64 (n : Int) n rfl rfl rfl (by rw [HZ2.out]; have := HK.out; omega) (Nat.le_trans (show n ≤ 2560 by have := HK.out; omega) (by decide)) (Nat.le_refl _) ?_; intro W2 hown2 hgr2) | (go_at_call 24; refine (hpc _).mono ?_; rintro e W3 ⟨AP, cp, rfl, hPC, hB3⟩))
  have hb2 : Below w.heap.size w W2 := pw_below_grown (pw_below_drewN hb0 m1) none (Nat.le_refl _) hgr2 (fun k hk => by cases hk)
  have hgd : w.heap.size < W2.heap.size := (hown2.lt w.heap.size rfl).2
  have HGD := Aside0.mk hgd
  have HW23 := Aside0.mk hB3.size
  have HPC := Aside0.mk hPC
  have HOW := Aside0.mk (show W3.ownsRow w.heap.size 5 1 (.slice (some ⟨w.heap.size, 0, none⟩) ([] : List Int).length n) ([] : List Int).length (([] : List Int).map (Value.int .u8)) from hown2.kept (grown_of_below hB3 none) (.inr (by simp [Value.ownBlock])))
  have HB3 := Aside0.mk (below_then hb2 hb2.size hB3)
  have HRL := Aside0.mk (Good.len HG0.out)
  clear hgd hPC hown2 hgr2 hB3 hb2 hstr hpc hb0
  go_loopg [27, 9] r.length (fun kq v27 v9 w' => ∃ (j : Nat) (acc : List Int) (kj nj : Nat), v27 = .int .i64 j ∧ v9 = .slice (some ⟨w.heap.size, 0, none⟩) acc.length n ∧ Aside0 (j + kq = r.length) ∧ Aside0 (Good kj nj (r.drop j)) ∧ Aside0 (kj + nj ≤ 2560) ∧ Aside0 (acc ++ getL l0 kj nj = getL l0 k n) ∧ Aside0 (w'.ownsRow w.heap.size 5 1 (.slice (some ⟨w.heap.size, 0, none⟩) acc.length n) acc.length (acc.map (Value.int .u8))) ∧ Aside0 (KeepBut W3 w' w.heap.size none) ∧ Aside0 (Below w.heap.size w w'))
  case atStart => exact ⟨0, [], k, n, rfl, rfl, ⟨by omega⟩, HG0, HK, ⟨rfl⟩, HOW, ⟨KeepBut.refl _ _ _⟩, HB3⟩
  case round =>
    clear HOW HB3 HG0
    obtain ⟨j, acc, kj, nj, rfl, rfl, HJ, HG, HK2, HP, HO, HKP, HB⟩ := hrel
    cases gk with
    | zero =>
      have c : decide ((j : Int) < (r.length : Int)) = false := decide_eq_false (by have := HJ.out; omega)
      have c' : (j < r.length) = False := eq_false (by have := HJ.out; omega)
      go_wp2
      refine bodyPost_ret (results_tmp2 rfl _ _ _) rfl ?_
      have hn := HG.out
      rw [List.drop_eq_nil_of_le (by have := HJ.out; omega)] at hn
      have hn' : nj = 0 := hn
      have hp := HP.out
      rw [hn', show getL l0 kj 0 = [] by unfold getL; simp, List.append_nil] at hp
      have hlen : acc.length = n := by rw [hp, getL_len _ _ _ (by have := HK.out; have := HL.out; omega)]
      have ho := HO.out
      refine ⟨w.heap.size, by rw [← hlen]; rfl, ?_, HB.out⟩
      rw [← hp]
      rw [hlen] at ho
      refine Kd.R_of_own (enc := Value.int .u8) (h1 := fun _ => rfl) ?_ (fun _ _ => trivial)
      rw [hlen]
      exact ho
    | succ kk =>
      have hj : j < r.length := by have := HJ.out; omega
      obtain ⟨p, r', hdr⟩ : ∃ p r', r.drop j = p :: r' := ⟨_, _, List.drop_eq_getElem_cons hj⟩
      obtain ⟨hrd, hdr1, _⟩ := rd66 hdr
      have hG2 := HG.out
      rw [hdr] at hG2
      obtain ⟨m, rfl, hm, hm0, hg'⟩ := hG2
      have hkj := HK2.out
      have hl := HL.out
      have hml : m ≤ nj := by omega
      have hfm : kj % 512 + m ≤ 512 := by omega
      have hs5 : kj / 512 < 5 := by omega
      have hpart := getL_sec l0 kj m hfm
      have hstep := getL_step l0 kj m nj (by omega) hml
      have hsec := secL_len l0 (kj / 512) HL.out hs5
      have hacc : acc.length + nj = n := by
        have h := congrArg List.length HP.out
        rw [List.length_append, getL_len _ _ _ (by omega), getL_len _ _ _ (by have := HK.out; omega)] at h
        exact h
      obtain ⟨s, hs⟩ : ∃ s, s = kj / 512 := ⟨_, rfl⟩
      obtain ⟨f, hf⟩ : ∃ f, f = kj % 512 := ⟨_, rfl⟩
      obtain ⟨ad, e, x0, x1, x2⟩ := at_T66 (HPC.out wr w.heap.size HGD.out HKP.out) (j : Int) (by omega) (by omega)
      subst e
      rw [hrd] at x0 x1 x2
      rw [Int.toNat_natCast, ← hs] at x0
      rw [Int.toNat_natCast, ← hf] at x1
      rw [Int.toNat_natCast] at x2
      dsimp only at x0 x1 x2
      rw [← hs, ← hf] at hpart
      rw [← hs] at hsec hs5
      rw [← hf] at hfm
      have HPART := Aside0.mk hpart
      have HSTEP := Aside0.mk hstep
      have HSEC := Aside0.mk hsec
      have HG' := Aside0.mk hg'
      have HDR1 := Aside0.mk hdr1
      have HS := Aside0.mk hs
      have HF := Aside0.mk hf
      have HM := Aside0.mk hm
      clear hpart hstep hsec hg' hdr1 hs hf hrd hdr hm hl
      have c : decide ((j : Int) < (r.length : Int)) = true := decide_eq_true (by omega)
      have c' : (j < r.length) = True := eq_true hj
      go_upto_region 11 with (first | (refine wpList_store_run rfl rfl 66 (.tmp 11) (.tmp 30) rfl ⟨wr.heap.size, 0, none⟩ (.agg #[.int .i64 s, .int .i64 f, .int .i64 m]) _ rfl rfl (store66 wr s f m) ?_) | (go_at_call 8; refine (read_calls b off c0 l0 s hs5 _ (Kd.C_alloc (Kd.C_below HR1.out HB.out) _) HL.out hc).mono ?_; rintro e W4 ⟨g2, cap2, rfl, hcap2, hR2, hB4⟩))
      have hb14 : Below wr.heap.size wr W4 := below_then (below_alloc (Below.refl _ wr) _) (below_alloc (Below.refl _ wr) _).size hB4
      have hk10 := blk_below (blk_new wr (.cells #[.int .i64 (s : Int), .int .i64 (f : Int), .int .i64 (m : Int)] 66)) hB4
      have hwB4 : Below w.heap.size w W4 := below_then HB.out HB.out.size hb14
      have hwlt : w.heap.size < wr.heap.size := ((HO.out).lt w.heap.size rfl).2
      have hO4 := HO.out.kept (grown_of_below hb14 none) (.inr (by simp [Value.ownBlock]))
      have hC4 := (Kd.R_reads' hR2).2.2
      have hgl : (getL (secL l0 s) f m).length = m := getL_len _ _ _ (by rw [HSEC.out]; omega)
      obtain ⟨news, hnews⟩ : ∃ news : List Value, news = (getL (secL l0 s) f m).map (Value.int .u8) := ⟨_, rfl⟩
      have hn1 : news.length = m * 1 := by rw [hnews, List.length_map, hgl, Nat.mul_one]
      have hnc : ∀ (i : Nat) (u : Value), news[i]? = some u → W4.cell? ((⟨g2, f, none⟩ : Addr).add i) = some u := by
        rw [hnews]
        exact fun i u hi => by
          rw [List.getElem?_map] at hi
          obtain ⟨y, hy, rfl⟩ := Option.map_eq_some_iff.1 hi
          rw [getL_get] at hy
          by_cases him : i < m
          · rw [if_pos him] at hy
            obtain ⟨ad2, e2, hx⟩ := Kd.at_int hC4 ((f + i : Nat) : Int) (by omega) (by rw [HSEC.out]; omega)
            cases e2
            rw [Int.toNat_natCast, addr_add, Nat.zero_add] at hx
            rw [addr_add, hx]
            unfold rd
            rw [Int.toNat_natCast, List.getD_eq_getElem?_getD, hy]
            rfl
          · rw [if_neg him] at hy
            cases hy
      have hn1c : ∀ u ∈ news, u.oneCell' = true := by
        rw [hnews]
        exact fun u hu => by
          obtain ⟨y, _, rfl⟩ := List.mem_map.1 hu
          rfl
      have z1 : W4.cell? ⟨wr.heap.size, 1, none⟩ = some (.int .i64 (f : Int)) := (blk_cell hk10 1).trans rfl
      have z2 : W4.cell? ⟨wr.heap.size, 2, none⟩ = some (.int .i64 (m : Int)) := (blk_cell hk10 2).trans rfl
      have slm : ∀ X, (Instr.slice 23 (.slice (some ⟨g2, 0, none⟩) 512 cap2) (some (.int .i64 (f : Int))) (some (.int .i64 (wrap64 ((f : Int) + (m : Int))))) none).run Try.prog X = .ok (.slice (some ⟨g2, f, none⟩) m (cap2 - f)) X := fun X => by
        have h := mid8 g2 512 cap2 f (f + m) (by omega) (by omega) (by omega) (by omega) X
        rw [Nat.add_sub_cancel_left] at h
        rw [pw4 f m (by omega)]
        exact h
      have HB14 := Aside0.mk hb14
      have HWB4 := Aside0.mk hwB4
      have HO4 := Aside0.mk hO4
      have HN1 := Aside0.mk hn1
      have HNC := Aside0.mk hnc
      have HN1C := Aside0.mk hn1c
      have HNEWS := Aside0.mk hnews
      have HM2 : Aside0 (acc.length + m ≤ n) := ⟨by omega⟩
      have HM3 : Aside0 (m ≤ nj) := ⟨hml⟩
      have HM4 : Aside0 (kj + nj ≤ 2560) := ⟨hkj⟩
      clear hgl hC4 hO4 hwlt hwB4 hk10 hb14 hR2 hB4 x0 x1 x2 hn1 hnc hn1c hnews hacc hkj hml
      go_wp2_with (at_builtin; refine wpList_append_fits _ rfl _ _ 23 rfl w.heap.size 5 i0 1 Try.underlying23 HI0.out HZ1.out w.heap.size acc.length n _ rfl HO4.out ⟨g2, f, none⟩ m (cap2 - f) news (by simp [Act.eval]; done) HN1.out HNC.out HN1C.out HM2.out ?_; intro w5 hO5 hgr5)
      have hb14 := HB14.out
      have hwB4 := HWB4.out
      have hml := HM3.out
      have hkj := HM4.out
      rw [HNEWS.out] at hO5
      rw [← List.map_append, HPART.out] at hO5
      have hal : (acc ++ getL l0 kj m).length = acc.length + m := by rw [List.length_append, getL_len _ _ _ (by have := HL.out; omega)]
      have hkeep : KeepBut W3 w5 w.heap.size none := by
        have k1 := HKP.out.trans (KeepBut.of_below hb14 w.heap.size none) (.inl rfl)
        exact k1.trans (w2 := w5) (row1 := none) ⟨hgr5.size, fun i hi hg _ => hgr5.block i hi (by simpa using hg)⟩ (.inl rfl)
      have hbel : Below w.heap.size w w5 := pw_below_grown hwB4 (some w.heap.size) hwB4.size hgr5 (fun k hk => by cases hk; exact Nat.le_refl _)
      have hP5 : acc ++ getL l0 kj m ++ getL l0 (kj + m) (nj - m) = getL l0 k n := by rw [List.append_assoc, HSTEP.out]; exact HP.out
      have HAL := Aside0.mk hal
      have hO5' := hal ▸ hO5
      clear hO5
      go_roundg kk
      case measure => omega
      case rel =>
        exact ⟨j + 1, acc ++ getL l0 kj m, kj + m, nj - m, by rw [show wrap64 ((j : Int) + 1) = ((j + 1 : Nat) : Int) by have := HJ.out; have := HRL.out; have := HK.out; unfold wrap64; omega], by rw [HAL.out], ⟨by have := HJ.out; omega⟩, ⟨by rw [HDR1.out]; exact HG'.out⟩, ⟨by omega⟩, ⟨hP5⟩, ⟨hO5'⟩, ⟨hkeep⟩, ⟨hbel⟩⟩
theorem own_lower {w : World} {B B' : Nat} {e : TypeId} {size : Nat} {v : Value} {n : Nat} {xs : List Value} (h : w.ownsRow B e size v n xs) (hb : B' ≤ B) : w.ownsRow B' e size v n xs := ⟨h.1, h.2.imp id fun ⟨g, cap, cur, a, b, c⟩ => ⟨g, cap, cur, a, Nat.le_trans hb b, c⟩⟩
theorem R8_base {w : World} {B B' : Nat} {v : Value} {l : List Int} (h : Kd.R (Kd.int .u8) 5 w B (fun _ => True) v l) (hb : B' ≤ B) : Kd.R (Kd.int .u8) 5 w B' (fun _ => True) v l := Kd.R_of_own (own_lower (Kd.own_of_R h) hb) (fun _ _ => trivial)
theorem inside_at (b off c0 : Nat) (l0 : List Int) (s : ByteArray) (k : Int) (hk : (s = ⟨#[97]⟩ ∧ k = 0) ∨ (s = ⟨#[98]⟩ ∧ k = 1)) (at_ n : Int) (hn : 0 ≤ n) (w : World) (hr0 : Kd.C (Kd.int .u8) w (some ⟨b, off, none⟩) l0.length l0) (hl : l0.length = 2560) (hT : l0.take 512 = LAB) (hc : 2560 ≤ c0)
    (r1 r2 : Int) (h : (if at_ < 0 ∨ sizeW k < at_ ∨ sizeW k - at_ < n then ((0 : Int), (23 : Int)) else (baseW k + at_, 0)) = (r1, r2)) :
    Calls Try.prog 14 #[.slice (some ⟨b, off, none⟩) 2560 c0, .string s, .int .i64 at_, .int .i64 n] w fun e w' => e = .returned (.tuple #[.int .i64 r1, .int .i64 r2]) ∧ Below w.heap.size w w' :=
  inside_calls _ s (baseW k) (sizeW k) at_ n w (fun X hX => window_calls b off c0 l0 s k hk X (Kd.C_below hr0 hX) hl hT (by omega)) hn
    (by rcases hk with ⟨_, rfl⟩ | ⟨_, rfl⟩ <;> decide) (by rcases hk with ⟨_, rfl⟩ | ⟨_, rfl⟩ <;> decide) r1 r2 h
theorem lput_bad (b off c0 : Nat) (l0 : List Int) (s : ByteArray) (k : Int) (hk : (s = ⟨#[97]⟩ ∧ k = 0) ∨ (s = ⟨#[98]⟩ ∧ k = 1)) (at_ : Int) (A1 : Option Addr) (c1 n : Nat) (w : World) (hr0 : Kd.C (Kd.int .u8) w (some ⟨b, off, none⟩) l0.length l0) (hl : l0.length = 2560) (hT : l0.take 512 = LAB) (hc : 2560 ≤ c0)
    (h : at_ < 0 ∨ sizeW k < at_ ∨ sizeW k - at_ < (n : Int)) :
    Calls Try.prog 6 #[.slice (some ⟨b, off, none⟩) 2560 c0, .string s, .int .i64 at_, .slice A1 n c1] w fun e w' => e = .returned (.tuple #[.slice none 0 0, .int .i64 23]) ∧ Below w.heap.size w w' := by
  have hin : ∀ X, Below w.heap.size w X → Calls Try.prog 14 #[.slice (some ⟨b, off, none⟩) 2560 c0, .string s, .int .i64 at_, .int .i64 (n : Int)] X fun e w' => e = .returned (.tuple #[.int .i64 0, .int .i64 23]) ∧ Below X.heap.size X w' := fun X hX =>
    inside_at b off c0 l0 s k hk at_ n (by omega) X (Kd.C_below hr0 hX) hl hT hc 0 23 (by rw [if_pos h])
  have hb0 := Below.refl w.heap.size w
  clear hr0 hl hT hc h hk
  go_enter Try.func6, Try.ntmps6
  go_wp2_with (go_at_call 14; refine (hin _ hb0).mono ?_; rintro e w1 ⟨rfl, hb1⟩)
  refine bodyPost_ret (results_tmp2 rfl _ _ _) rfl ?_
  exact ⟨rfl, hb1⟩
theorem lput_ok (b off c0 : Nat) (l0 : List Int) (s : ByteArray) (k : Int) (hk : (s = ⟨#[97]⟩ ∧ k = 0) ∨ (s = ⟨#[98]⟩ ∧ k = 1)) (at_ : Int) (A1 : Option Addr) (c1 : Nat) (data : List Int) (w : World) (hr0 : Kd.C (Kd.int .u8) w (some ⟨b, off, none⟩) l0.length l0) (hl : l0.length = 2560) (hT : l0.take 512 = LAB) (hc : 2560 ≤ c0)
    (hr1 : Kd.C (Kd.int .u8) w A1 data.length data) (hc1 : data.length ≤ c1) (h : ¬ (at_ < 0 ∨ sizeW k < at_ ∨ sizeW k - at_ < (data.length : Int))) (kk : Nat) (hkk : baseW k + at_ = (kk : Int)) :
    Calls Try.prog 6 #[.slice (some ⟨b, off, none⟩) 2560 c0, .string s, .int .i64 at_, .slice A1 data.length c1] w fun e w' => ∃ g cap, e = .returned (.tuple #[.slice (some ⟨g, 0, none⟩) 2560 cap, .int .i64 0]) ∧ 2560 ≤ cap ∧ Kd.R (Kd.int .u8) 5 w' w.heap.size (fun _ => True) (.slice (some ⟨g, 0, none⟩) 2560 cap) (putL l0 kk data) ∧ Below w.heap.size w w' := by
  have hin : ∀ X, Below w.heap.size w X → Calls Try.prog 14 #[.slice (some ⟨b, off, none⟩) 2560 c0, .string s, .int .i64 at_, .int .i64 (data.length : Int)] X fun e w' => e = .returned (.tuple #[.int .i64 (kk : Int), .int .i64 0]) ∧ Below X.heap.size X w' := fun X hX =>
    inside_at b off c0 l0 s k hk at_ data.length (by omega) X (Kd.C_below hr0 hX) hl hT hc kk 0 (by rw [if_neg h, hkk])
  have hbound : kk + data.length ≤ 2560 := by
    have : baseW k + sizeW k ≤ 2560 := by rcases hk with ⟨_, rfl⟩ | ⟨_, rfl⟩ <;> decide
    omega
  have hput : ∀ X, Below w.heap.size w X → Calls Try.prog 15 #[.slice (some ⟨b, off, none⟩) 2560 c0, .int .i64 (kk : Int), .slice A1 data.length c1] X fun e w' => ∃ g cap, e = .returned (.tuple #[.slice (some ⟨g, 0, none⟩) 2560 cap, .int .i64 0]) ∧ 2560 ≤ cap ∧ Kd.R (Kd.int .u8) 5 w' X.heap.size (fun _ => True) (.slice (some ⟨g, 0, none⟩) 2560 cap) (putL l0 kk data) ∧ Below X.heap.size X w' := fun X hX =>
    bput_calls b off c0 l0 A1 c1 data kk X (Kd.C_below hr0 hX) hl hc (Kd.C_below hr1 hX) hc1 hbound
  have hb0 := Below.refl w.heap.size w
  clear hr0 hl hT hc h hk hr1 hc1 hkk hbound
  go_enter Try.func6, Try.ntmps6
  go_wp2_with (first | (go_at_call 14; refine (hin _ hb0).mono ?_; rintro e w1 ⟨rfl, hb1⟩) | (go_at_call 15; refine (hput _ hb1).mono ?_; rintro e w2 ⟨g, cap, rfl, hcap, hR, hb2⟩))
  refine bodyPost_ret (results_tmp2 rfl _ _ _) rfl ?_
  exact ⟨g, cap, rfl, hcap, R8_base hR hb1.size, below_then hb1 hb1.size hb2⟩
theorem lget_ok (b off c0 : Nat) (l0 : List Int) (s : ByteArray) (k : Int) (hk : (s = ⟨#[97]⟩ ∧ k = 0) ∨ (s = ⟨#[98]⟩ ∧ k = 1)) (n kk : Nat) (w : World) (hr0 : Kd.C (Kd.int .u8) w (some ⟨b, off, none⟩) l0.length l0) (hl : l0.length = 2560) (hT : l0.take 512 = LAB) (hc : 2560 ≤ c0)
    (hn : (n : Int) = sizeW k) (hkk : baseW k = (kk : Int)) :
    Calls Try.prog 7 #[.slice (some ⟨b, off, none⟩) 2560 c0, .string s, .int .i64 0, .int .i64 (n : Int)] w fun e w' => ∃ g, e = .returned (.tuple #[.slice (some ⟨g, 0, none⟩) n n, .int .i64 0]) ∧ Kd.R (Kd.int .u8) 5 w' w.heap.size (fun _ => True) (.slice (some ⟨g, 0, none⟩) n n) (getL l0 kk n) ∧ Below w.heap.size w w' := by
  have hin : ∀ X, Below w.heap.size w X → Calls Try.prog 14 #[.slice (some ⟨b, off, none⟩) 2560 c0, .string s, .int .i64 0, .int .i64 (n : Int)] X fun e w' => e = .returned (.tuple #[.int .i64 (kk : Int), .int .i64 0]) ∧ Below X.heap.size X w' := fun X hX =>
    inside_at b off c0 l0 s k hk 0 n (by omega) X (Kd.C_below hr0 hX) hl hT hc kk 0 (by rw [if_neg (by omega), ← hkk, Int.add_zero])
  have hbound : kk + n ≤ 2560 := by
    have : baseW k + sizeW k ≤ 2560 := by rcases hk with ⟨_, rfl⟩ | ⟨_, rfl⟩ <;> decide
    omega
  have hget : ∀ X, Below w.heap.size w X → Calls Try.prog 16 #[.slice (some ⟨b, off, none⟩) 2560 c0, .int .i64 (kk : Int), .int .i64 (n : Int)] X fun e w' => ∃ g, e = .returned (.tuple #[.slice (some ⟨g, 0, none⟩) n n, .int .i64 0]) ∧ Kd.R (Kd.int .u8) 5 w' X.heap.size (fun _ => True) (.slice (some ⟨g, 0, none⟩) n n) (getL l0 kk n) ∧ Below X.heap.size X w' := fun X hX =>
    bget_calls b off c0 l0 kk n X (Kd.C_below hr0 hX) hl hc hbound
  have hb0 := Below.refl w.heap.size w
  clear hr0 hl hT hc hk hkk hbound hn
  go_enter Try.func7, Try.ntmps7
  go_wp2_with (first | (go_at_call 14; refine (hin _ hb0).mono ?_; rintro e w1 ⟨rfl, hb1⟩) | (go_at_call 16; refine (hget _ hb1).mono ?_; rintro e w2 ⟨g, rfl, hR, hb2⟩))
  refine bodyPost_ret (results_tmp2 rfl _ _ _) rfl ?_
  exact ⟨g, rfl, R8_base hR hb1.size, below_then hb1 hb1.size hb2⟩
end Go.Proofs.Ytdobpgomgnaleaa.P
