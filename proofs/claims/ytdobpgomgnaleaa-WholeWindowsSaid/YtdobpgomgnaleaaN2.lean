import Derived.Test.YtdobpgomgnaleaaPx0
import Derived.Lib.Bytealg
namespace Go.Proofs.Ytdobpgomgnaleaa.P
open Go.RowKit Go.Proofs.YtdobpgomgnaleaaW.PrintWords Go.Proofs.YtdobpgomgnaleaaW.PrintLast Go.Proofs.YtdobpgomgnaleaaW.PrintMore
attribute [local go_sem] max2_int min2_int max_two min_two max_three min_three max_four min_four
set_option linter.unusedVariables false
set_option linter.unusedSimpArgs false
/-- The exclusive or of the bytes at even and at odd places. -/
def crossR : List Int → Bool → Int → Int → Int × Int
  | [], _, a, b => (a, b)
  | c :: l, false, a, b => crossR l true (Go.bits .xor .u8 a c) b
  | c :: l, true, a, b => crossR l false a (Go.bits .xor .u8 b c)
theorem drop_rd (l : List Int) (j : Nat) (h : j < l.length) : l.drop j = rd l (j : Int) :: l.drop (j + 1) := by
  show l.drop j = l.getD ((j : Int).toNat) 0 :: l.drop (j + 1)
  rw [Int.toNat_natCast, List.getD_eq_getElem?_getD, List.getElem?_eq_getElem h]
  exact List.drop_eq_getElem_cons h
def label_cross.f (l0 : List Int) : Option (Int × Int) := some (crossR l0 false 0 0)
set_option maxHeartbeats 4000000 in
set_option maxRecDepth 100000 in
theorem label_cross.calls (A0 : Option Addr) (c0 : Nat) (l0 : List Int) (r1 r2 : Int) (w : World) (hr0 : Kd.C (Kd.int .u8) w A0 l0.length l0) (hc0 : l0.length ≤ c0) (h : label_cross.f l0 = some (r1, r2)) :
    Calls Try.prog 11 #[.slice A0 l0.length c0] w fun e w' => e = .returned (.agg #[.int .u8 r1, .int .u8 r2]) ∧ Below w.heap.size w w' := by
  have hu42 := Try.underlying42
  have HR0 := Aside0.mk hr0
  have HC0 := Aside0.mk hc0
  have HB := Aside0.mk (Below.refl w.heap.size w)
  have H := Aside0.mk (Option.some.inj h)
  have HM := Aside0.mk (Kd.F_max (Kd.C_F (Kd.heap_int .u8) hr0))
  clear hr0 hc0 h
  go_enter Try.func11, Try.ntmps11
  go_upto_region 1 with ((with_reducible refine gate_dst (N := 2) rfl ?_); (try (refine gate_guard (by rfl) ?_; dsimp only)); refine box_event ?hg (N := 2) ?hd (cs := #[.int .u8 0, .int .u8 0]) (t := 42) ?hr ?_; (case hd => rfl); (case hg => rfl); (case hr => first | (go_simp; done) | (go_simp; rfl)); intro gb1 hg w2 hbox hb; have n0_ := Aside0.mk (below_step HB.out hb); have n1_ := Aside0.mk hbox; have n2_ : Aside0 (w.heap.size ≤ gb1) := ⟨by rw [hg]; exact below_size HB.out⟩; clear HB; have HB := n0_; have BK1 := n1_; have GE1 := n2_; clear n0_ n1_ n2_ hb hbox hg)
  go_wp2
  go_loopg [7] l0.length (fun kq v7 w' => ∃ (j : Nat) (a b : Int), v7 = .int .i64 j ∧ Aside0 (j + kq = l0.length) ∧ Aside0 (crossR (l0.drop j) (j % 2 == 1) a b = (r1, r2)) ∧ Aside0 (w'.heap[gb1]? = some (.cells #[.int .u8 a, .int .u8 b] 42 (0, 0))) ∧ Aside0 (Below w.heap.size w w'))
  case atStart => exact ⟨0, 0, 0, rfl, ⟨by omega⟩, H, BK1, HB⟩
  case round =>
    clear HB BK1
    obtain ⟨j, a, b, rfl, HJ, HX, BK1, HB⟩ := hrel
    cases gk with
    | zero =>
      have c : decide ((j : Int) < (l0.length : Int)) = false := decide_eq_false (by have := HJ.out; omega)
      have c' : (j < l0.length) = False := eq_false (by have := HJ.out; omega)
      have z0 : wr.cell? ⟨gb1, 0, none⟩ = some (.int .u8 a) := (blk_cell BK1.out 0).trans rfl
      have z1 : wr.cell? ⟨gb1, 1, none⟩ = some (.int .u8 b) := (blk_cell BK1.out 1).trans rfl
      have y0 := blk_frozen BK1.out 0
      have y1 := blk_frozen BK1.out 1
      go_wp2
      have hj : j = l0.length := by have := HJ.out; omega
      have HX2 := HX.out
      rw [List.drop_eq_nil_of_le (by omega)] at HX2
      have hr : (a, b) = (r1, r2) := by cases (j % 2 == 1) <;> exact HX2
      simp only [Prod.mk.injEq] at hr
      obtain ⟨rfl, rfl⟩ := hr
      refine bodyPost_ret (results_cell_row rfl _ _ gb1 42 #[.int .u8 a, .int .u8 b] (0, 0) _ rfl (blk_put (cs := #[.int .u8 a, .int .u8 b]) (blk_put (cs := #[.int .u8 a, .int .u8 b]) BK1.out 0 _ rfl) 1 _ rfl) Try.underlying42 rfl (by kernel_rfl)) rfl ?_
      exact ⟨rfl, by repeat (first | exact HB.out | refine below_set ?_ GE1.out)⟩
    | succ k1 =>
      have hj : j < l0.length := by have := HJ.out; omega
      have c : decide ((j : Int) < (l0.length : Int)) = true := decide_eq_true (by omega)
      have c' : (j < l0.length) = True := eq_true hj
      have z0 : wr.cell? ⟨gb1, 0, none⟩ = some (.int .u8 a) := (blk_cell BK1.out 0).trans rfl
      have z1 : wr.cell? ⟨gb1, 1, none⟩ = some (.int .u8 b) := (blk_cell BK1.out 1).trans rfl
      have y0 := blk_frozen BK1.out 0
      have y1 := blk_frozen BK1.out 1
      obtain ⟨ad, e, hx⟩ := Kd.at_int HR0.out (j : Int) (by omega) (by omega)
      cases e
      rw [Int.toNat_natCast] at hx
      replace hx := (HB.out.cell (World.block_lt_of_cell? w _ hx)).trans hx
      rcases (show j % 2 = 0 ∨ j % 2 = 1 by omega) with h2 | h2
      · have HT : Int.tmod (j : Int) 2 = 0 := by rw [Int.tmod_eq_emod_of_nonneg (by omega)]; omega
        go_wp2
        go_roundg k1
        case measure => omega
        case rel =>
          have HX2 := HX.out
          rw [drop_rd l0 j hj, show (j % 2 == 1) = false by rw [h2]; rfl] at HX2
          refine ⟨j + 1, Go.bits .xor .u8 a (rd l0 (j : Int)), b, ?_, ⟨by have := HJ.out; omega⟩, ⟨?_⟩, ⟨blk_put (cs := #[.int .u8 a, .int .u8 b]) BK1.out 0 _ rfl⟩, ⟨below_set HB.out GE1.out⟩⟩
          · rw [show wrap64 ((j : Int) + 1) = ((j + 1 : Nat) : Int) by have := HM.out; unfold wrap64; omega]
          · rw [show ((j + 1) % 2 == 1) = true by rw [show (j + 1) % 2 = 1 by omega]; rfl]
            exact HX2
      · have HT : Int.tmod (j : Int) 2 = 1 := by rw [Int.tmod_eq_emod_of_nonneg (by omega)]; omega
        go_wp2
        go_roundg k1
        case measure => omega
        case rel =>
          have HX2 := HX.out
          rw [drop_rd l0 j hj, show (j % 2 == 1) = true by rw [h2]; rfl] at HX2
          refine ⟨j + 1, a, Go.bits .xor .u8 b (rd l0 (j : Int)), ?_, ⟨by have := HJ.out; omega⟩, ⟨?_⟩, ⟨blk_put (cs := #[.int .u8 a, .int .u8 b]) BK1.out 1 _ rfl⟩, ⟨below_set HB.out GE1.out⟩⟩
          · rw [show wrap64 ((j : Int) + 1) = ((j + 1 : Nat) : Int) by have := HM.out; unfold wrap64; omega]
          · rw [show ((j + 1) % 2 == 1) = false by rw [show (j + 1) % 2 = 0 by omega]; rfl]
            exact HX2
theorem light_calls (c : Int) (w : World) (hc : 0 ≤ c ∧ c ≤ 255) :
    Calls Try.prog 19 #[.int .u8 c] w fun e w' => e = .returned (.bool (c != 0)) ∧ w' = w := by
  clear hc
  go_enter Try.func19, Try.ntmps19
  go_wp2
  go_ret
  exact ⟨rfl, rfl⟩
set_option maxHeartbeats 4000000 in
set_option maxRecDepth 100000 in
/-- No byte is light: -1. -/
theorem index_dark (A0 : Option Addr) (c0 : Nat) (l0 : List Int) (w : World) (hr0 : Kd.C (Kd.int .u8) w A0 l0.length l0) (hz : ∀ x ∈ l0, x = 0) :
    Calls Try.prog 25 #[.slice A0 l0.length c0, .func (.func 19) #[] #[]] w fun e w' => e = .returned (.int .i64 (-1)) ∧ w' = w := by
  have HR := Aside0.mk hr0
  have HM := Aside0.mk (Kd.C_max hr0)
  have HZ := Aside0.mk hz
  clear hr0 hz
  go_enter Try.func25, Try.ntmps25
  go_wp2
  go_loopg [8] l0.length (fun kq v w' => ∃ (j : Nat), v = .int .i64 j ∧ Aside0 (j + kq = l0.length) ∧ w' = w)
  case atStart => exact ⟨0, rfl, ⟨by omega⟩, rfl⟩
  case round =>
    obtain ⟨j, rfl, HJ, rfl⟩ := hrel
    cases gk with
    | zero =>
      have c : decide ((j : Int) < (l0.length : Int)) = false := decide_eq_false (by have := HJ.out; omega)
      have c' : (j < l0.length) = False := eq_false (by have := HJ.out; omega)
      go_wp2
      go_ret
      exact ⟨rfl, rfl⟩
    | succ kk =>
      have hlt : j < l0.length := by have := HJ.out; omega
      have c : decide ((j : Int) < (l0.length : Int)) = true := decide_eq_true (by omega)
      have c' : (j < l0.length) = True := eq_true hlt
      obtain ⟨ad, e, hx⟩ := Kd.at_int HR.out (j : Int) (by omega) (by omega)
      cases e
      rw [Int.toNat_natCast] at hx
      have hz0 : rd l0 (j : Int) = 0 := HZ.out _ (by
        show l0.getD ((j : Int).toNat) 0 ∈ l0
        rw [Int.toNat_natCast, List.getD_eq_getElem?_getD, List.getElem?_eq_getElem hlt]
        exact List.getElem_mem hlt)
      rw [hz0] at hx
      go_wp2_with (go_at_call 19; refine (light_calls 0 _ (by omega)).mono ?_; rintro e w2 ⟨rfl, hw2⟩; subst hw2)
      go_roundg kk
      case measure => omega
      case rel => exact ⟨j + 1, by rw [show wrap64 ((j : Int) + 1) = ((j + 1 : Nat) : Int) by have := HM.out; unfold wrap64; omega], ⟨by have := HJ.out; omega⟩, rfl⟩
theorem contains_dark (A0 : Option Addr) (c0 : Nat) (l0 : List Int) (w : World) (hr0 : Kd.C (Kd.int .u8) w A0 l0.length l0) (hz : ∀ x ∈ l0, x = 0) :
    Calls Try.prog 20 #[.slice A0 l0.length c0, .func (.func 19) #[] #[]] w fun e w' => e = .returned (.bool false) ∧ w' = w := by
  have HR := Aside0.mk hr0
  have HZ := Aside0.mk hz
  clear hr0 hz
  go_enter Try.func20, Try.ntmps20
  go_wp2_with (go_at_call 25; refine (index_dark A0 c0 l0 _ HR.out HZ.out).mono ?_; rintro e w2 ⟨rfl, hw2⟩; subst hw2)
  go_ret
  exact ⟨rfl, rfl⟩
end Go.Proofs.Ytdobpgomgnaleaa.P
