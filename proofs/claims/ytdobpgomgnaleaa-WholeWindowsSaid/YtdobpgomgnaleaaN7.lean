import Derived.RangeFuncNested
import Derived.RangeFuncBound
import Derived.RangeFuncCalls
import Derived.RangeFuncLeaves
import Derived.Shelf.Abstract
import Derived.Shelf.RegionOpen
import Derived.WalkKit
import Derived.OwnWalkIn
import Derived.TacticsInMore
import Derived.LoopNIn
import Derived.LoopIn
import Derived.RangeFuncBox
import Derived.RangeFuncFrom
import Derived.RangeFuncWrites
import Derived.Maps.AppendAt
import Derived.Stop.RegionWithIn
import Derived.Test.YtdobpgomgnaleaaN2
import Derived.Test.YtdobpgomgnaleaaN3
import Derived.Test.YtdobpgomgnaleaaN4
namespace Go.Proofs.Ytdobpgomgnaleaa.P
open Go.RowKit Go.Shelf Go.Proofs.YtdobpgomgnaleaaW.PrintWords
attribute [local go_sem] Oper.semAt_some
set_option linter.unusedVariables false
set_option linter.unusedSimpArgs false
theorem inside_calls (dv : Value) (s : ByteArray) (bs sz at_ n : Int) (w : World) (hwin : ∀ X, Below w.heap.size w X → Calls Try.prog 5 #[dv, .string s] X fun e w' => e = .returned (.tuple #[.int .i64 bs, .int .i64 sz, .int .i64 0]) ∧ Below X.heap.size X w')
    (hn : 0 ≤ n) (hsz : 0 ≤ sz ∧ sz ≤ 5000) (hbs : 0 ≤ bs ∧ bs ≤ 5000) (r1 r2 : Int) (h : (if at_ < 0 ∨ sz < at_ ∨ sz - at_ < n then ((0 : Int), (23 : Int)) else (bs + at_, 0)) = (r1, r2)) :
    Calls Try.prog 14 #[dv, .string s, .int .i64 at_, .int .i64 n] w fun e w' => e = .returned (.tuple #[.int .i64 r1, .int .i64 r2]) ∧ Below w.heap.size w w' := by
  have hb0 := Below.refl w.heap.size w
  have cn : decide (n < 0) = false := decide_eq_false (by omega)
  by_cases c1 : at_ < 0
  · rw [if_pos (Or.inl c1)] at h
    cases h
    have c1b : decide (at_ < 0) = true := decide_eq_true c1
    clear c1
    go_enter Try.func14, Try.ntmps14
    go_wp2_with (go_at_call 5; refine (hwin _ hb0).mono ?_; rintro e w1 ⟨rfl, hb1⟩)
    refine bodyPost_ret (results_tmp2 rfl _ _ _) rfl ?_
    exact ⟨rfl, hb1⟩
  · have c1b : decide (at_ < 0) = false := decide_eq_false c1
    by_cases c2 : sz < at_
    · rw [if_pos (Or.inr (Or.inl c2))] at h
      cases h
      have c2b : decide (sz < at_) = true := decide_eq_true c2
      clear c1 c2
      go_enter Try.func14, Try.ntmps14
      go_wp2_with (go_at_call 5; refine (hwin _ hb0).mono ?_; rintro e w1 ⟨rfl, hb1⟩)
      refine bodyPost_ret (results_tmp2 rfl _ _ _) rfl ?_
      exact ⟨rfl, hb1⟩
    · have c2b : decide (sz < at_) = false := decide_eq_false c2
      have hw : wrap64 (sz - at_) = sz - at_ := by unfold wrap64; omega
      by_cases c3 : sz - at_ < n
      · rw [if_pos (Or.inr (Or.inr c3))] at h
        cases h
        have c3b : decide (wrap64 (sz - at_) < n) = true := by rw [hw]; exact decide_eq_true c3
        clear c1 c2 c3 hw
        go_enter Try.func14, Try.ntmps14
        go_wp2_with (go_at_call 5; refine (hwin _ hb0).mono ?_; rintro e w1 ⟨rfl, hb1⟩)
        refine bodyPost_ret (results_tmp2 rfl _ _ _) rfl ?_
        exact ⟨rfl, hb1⟩
      · rw [if_neg (by omega)] at h
        cases h
        have hs : wrap64 (bs + at_) = bs + at_ := by unfold wrap64; omega
        have HS := Aside0.mk hs
        have c3b : decide (wrap64 (sz - at_) < n) = false := by rw [hw]; exact decide_eq_false c3
        clear c1 c2 c3 hw hs
        go_enter Try.func14, Try.ntmps14
        go_wp2_with (go_at_call 5; refine (hwin _ hb0).mono ?_; rintro e w1 ⟨rfl, hb1⟩)
        refine bodyPost_ret (results_tmp2 rfl _ _ _) rfl ?_
        exact ⟨by simp [HS.out], hb1⟩
/-- A sector. -/
def secL (l : List Int) (n : Nat) : List Int := (l.take (512 * n + 512)).drop (512 * n)
theorem secL_len (l : List Int) (n : Nat) (h : l.length = 2560) (hn : n < 5) : (secL l n).length = 512 := by unfold secL; rw [List.length_drop, List.length_take]; omega
theorem addr_add (b off k : Nat) : (⟨b, off, none⟩ : Addr).add k = ⟨b, off + k, none⟩ := by unfold Addr.add; split <;> simp_all
theorem C_sub8 {w : World} {b off : Nat} {l : List Int} (h : Kd.C (Kd.int .u8) w (some ⟨b, off, none⟩) l.length l) (lo hi : Nat) (h1 : lo ≤ hi) (h2 : hi ≤ l.length) : Kd.C (Kd.int .u8) w (some ⟨b, off + lo, none⟩) (hi - lo) ((l.take hi).drop lo) := by
  have hC := Kd.C_mid (lo := lo) (hi := hi) (c := l.length + lo + 1) h h1 h2 (by omega)
  rw [if_neg (by omega)] at hC
  have e : (some (⟨b, off, none⟩ : Addr)).map (·.add (lo * (Kd.int .u8).sz)) = some ⟨b, off + lo, none⟩ := by
    show some ((⟨b, off, none⟩ : Addr).add (lo * 1)) = _
    rw [addr_add, Nat.mul_one]
  rw [e, show ((l.take hi).drop lo).length = hi - lo by rw [List.length_drop, List.length_take]; omega] at hC
  exact hC
/-- A row that a call hands back, written out. -/
theorem R_out {w : World} {B : Nat} {ok : Nat → Prop} {v : Value} {l : List Int} (h : Kd.R (Kd.int .u8) 5 w B ok v l) (hl : 0 < l.length) : ∃ g cap, v = .slice (some ⟨g, 0, none⟩) l.length cap ∧ l.length ≤ cap := by
  have ho := Kd.own_of_R h
  obtain ⟨A, c, rfl, hc, _⟩ := Kd.R_reads h
  rcases ho.2 with ⟨hv, _⟩ | ⟨g', cap', cur, hv, _⟩
  · injection hv with h1 h2 h3
    omega
  · injection hv with h1 h2 h3
    exact ⟨g', c, by rw [h1], hc⟩
set_option maxHeartbeats 4000000 in
set_option maxRecDepth 100000 in
theorem read_calls (b off c0 : Nat) (l0 : List Int) (n : Nat) (hn : n < 5) (w : World) (hr0 : Kd.C (Kd.int .u8) w (some ⟨b, off, none⟩) l0.length l0) (hl : l0.length = 2560) (hc : 2560 ≤ c0) :
    Calls Try.prog 8 #[.slice (some ⟨b, off, none⟩) 2560 c0, .int .i64 (n : Int)] w fun e w' => ∃ g cap, e = .returned (.tuple #[.slice (some ⟨g, 0, none⟩) 512 cap, .int .i64 0]) ∧ 512 ≤ cap ∧ Kd.R (Kd.int .u8) 5 w' w.heap.size (fun _ => True) (.slice (some ⟨g, 0, none⟩) 512 cap) (secL l0 n) ∧ Below w.heap.size w w' := by
  have hchk : ∀ (k : Int), 0 ≤ k → k < 5 → Calls Try.prog 17 #[.slice (some ⟨b, off, none⟩) 2560 c0, .int .i64 k] w fun e w' => e = .returned (.int .i64 0) ∧ Drawn0 w w' := fun k h0 h5 => by
    have h := block_check.calls (some ⟨b, off, none⟩) c0 l0 k 0 w hr0 (by omega) (by
      unfold block_check.f block_Formed.f
      rw [hl]
      rw [show (if ((2560 : Nat) : Int) % 512 = 0 then some (decide (wrap64 (((2560 : Nat) : Int) / 512) ≤ 64)) else some false) = some true by decide +kernel, Option.bind_some, if_pos rfl, if_neg (by omega), if_neg (by rw [show wrap64 (((2560 : Nat) : Int) / 512) = 5 by decide +kernel]; omega)])
    rw [hl] at h
    exact h
  have hcl : ∀ (X : World) (c : Nat), Below w.heap.size w X → 512 ≤ c → Calls Try.prog 18 #[.slice (some ⟨b, off + 512 * n, none⟩) 512 c] X fun e w' => ∃ g cap, e = .returned (.slice (some ⟨g, 0, none⟩) 512 cap) ∧ 512 ≤ cap ∧ Kd.R (Kd.int .u8) 5 w' X.heap.size (fun _ => True) (.slice (some ⟨g, 0, none⟩) 512 cap) (secL l0 n) ∧ Below X.heap.size X w' := fun X c hX hc => by
    have hC := C_sub8 (Kd.C_below hr0 hX) (512 * n) (512 * n + 512) (by omega) (by omega)
    have hlen := secL_len l0 n hl hn
    have h := slices_Clone_byte_byte.calls (some ⟨b, off + 512 * n, none⟩) c (secL l0 n) (secL l0 n) X (by rw [hlen]; rw [Nat.add_sub_cancel_left] at hC; exact hC) (by omega) (by unfold slices_Clone_byte_byte.f; rw [if_pos (by omega)])
    rw [hlen] at h
    refine h.mono ?_
    rintro e w' ⟨v, rfl, hR, hB⟩
    obtain ⟨g, cap, rfl, hcap⟩ := R_out hR (by omega)
    rw [hlen] at hR hcap ⊢
    exact ⟨g, cap, rfl, hcap, hR, hB⟩
  clear hr0
  have hb0 := Below.refl w.heap.size w
  rcases (show n = 0 ∨ n = 1 ∨ n = 2 ∨ n = 3 ∨ n = 4 by omega) with rfl | rfl | rfl | rfl | rfl
  · have hc1 := hchk 0 (by decide) (by decide)
    clear hchk
    simp only [Nat.mul_zero, Nat.add_zero, Nat.mul_one, Nat.reduceMul] at hcl
    show Calls Try.prog 8 #[.slice (some ⟨b, off, none⟩) 2560 c0, .int .i64 0] w _
    go_enter Try.func8, Try.ntmps8
    go_wp2_with (first | (go_at_call 17; refine hc1.mono ?_; rintro e w1 ⟨rfl, ⟨m1, rfl⟩⟩) | (go_at_call 18; refine (hcl _ _ (pw_below_drewN hb0 _) (by omega)).mono ?_; rintro e w2 ⟨g, cap, rfl, hcap, hR, hB⟩))
    refine bodyPost_ret (results_tmp2 rfl _ _ _) rfl ?_
    exact ⟨g, cap, rfl, hcap, hR, below_then (pw_below_drewN hb0 m1) (Nat.le_refl _) hB⟩
  · have hc1 := hchk 1 (by decide) (by decide)
    clear hchk
    simp only [Nat.mul_zero, Nat.add_zero, Nat.mul_one, Nat.reduceMul] at hcl
    show Calls Try.prog 8 #[.slice (some ⟨b, off, none⟩) 2560 c0, .int .i64 1] w _
    go_enter Try.func8, Try.ntmps8
    go_wp2_with (first | (go_at_call 17; refine hc1.mono ?_; rintro e w1 ⟨rfl, ⟨m1, rfl⟩⟩) | (go_at_call 18; refine (hcl _ _ (pw_below_drewN hb0 _) (by omega)).mono ?_; rintro e w2 ⟨g, cap, rfl, hcap, hR, hB⟩))
    refine bodyPost_ret (results_tmp2 rfl _ _ _) rfl ?_
    exact ⟨g, cap, rfl, hcap, hR, below_then (pw_below_drewN hb0 m1) (Nat.le_refl _) hB⟩
  · have hc1 := hchk 2 (by decide) (by decide)
    clear hchk
    simp only [Nat.mul_zero, Nat.add_zero, Nat.mul_one, Nat.reduceMul] at hcl
    show Calls Try.prog 8 #[.slice (some ⟨b, off, none⟩) 2560 c0, .int .i64 2] w _
    go_enter Try.func8, Try.ntmps8
    go_wp2_with (first | (go_at_call 17; refine hc1.mono ?_; rintro e w1 ⟨rfl, ⟨m1, rfl⟩⟩) | (go_at_call 18; refine (hcl _ _ (pw_below_drewN hb0 _) (by omega)).mono ?_; rintro e w2 ⟨g, cap, rfl, hcap, hR, hB⟩))
    refine bodyPost_ret (results_tmp2 rfl _ _ _) rfl ?_
    exact ⟨g, cap, rfl, hcap, hR, below_then (pw_below_drewN hb0 m1) (Nat.le_refl _) hB⟩
  · have hc1 := hchk 3 (by decide) (by decide)
    clear hchk
    simp only [Nat.mul_zero, Nat.add_zero, Nat.mul_one, Nat.reduceMul] at hcl
    show Calls Try.prog 8 #[.slice (some ⟨b, off, none⟩) 2560 c0, .int .i64 3] w _
    go_enter Try.func8, Try.ntmps8
    go_wp2_with (first | (go_at_call 17; refine hc1.mono ?_; rintro e w1 ⟨rfl, ⟨m1, rfl⟩⟩) | (go_at_call 18; refine (hcl _ _ (pw_below_drewN hb0 _) (by omega)).mono ?_; rintro e w2 ⟨g, cap, rfl, hcap, hR, hB⟩))
    refine bodyPost_ret (results_tmp2 rfl _ _ _) rfl ?_
    exact ⟨g, cap, rfl, hcap, hR, below_then (pw_below_drewN hb0 m1) (Nat.le_refl _) hB⟩
  · have hc1 := hchk 4 (by decide) (by decide)
    clear hchk
    simp only [Nat.mul_zero, Nat.add_zero, Nat.mul_one, Nat.reduceMul] at hcl
    show Calls Try.prog 8 #[.slice (some ⟨b, off, none⟩) 2560 c0, .int .i64 4] w _
    go_enter Try.func8, Try.ntmps8
    go_wp2_with (first | (go_at_call 17; refine hc1.mono ?_; rintro e w1 ⟨rfl, ⟨m1, rfl⟩⟩) | (go_at_call 18; refine (hcl _ _ (pw_below_drewN hb0 _) (by omega)).mono ?_; rintro e w2 ⟨g, cap, rfl, hcap, hR, hB⟩))
    refine bodyPost_ret (results_tmp2 rfl _ _ _) rfl ?_
    exact ⟨g, cap, rfl, hcap, hR, below_then (pw_below_drewN hb0 m1) (Nat.le_refl _) hB⟩
end Go.Proofs.Ytdobpgomgnaleaa.P
