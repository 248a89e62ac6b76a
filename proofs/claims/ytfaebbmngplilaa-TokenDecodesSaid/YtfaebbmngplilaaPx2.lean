/- The machine's side: functions of the translation as plain Lean functions, and that the machine's calls come to what they say. No condition. Written by a program (wip/tools/pp.py over the kit's printer); Lean checks it. -/
import Derived.Test.YtfaebbmngplilaaPx0
namespace Go.Proofs.Ytfaebbmngplilaa.P
open Go.RowKit Go.Proofs.YtfaebbmngplilaaW.PrintWords Go.Proofs.YtfaebbmngplilaaW.PrintLast Go.Proofs.YtfaebbmngplilaaW.PrintMore
attribute [local go_sem] max2_int min2_int max_two min_two max_three min_three max_four min_four   -- for this text's walks alone
set_option linter.unusedVariables false
set_option linter.unusedSimpArgs false

/-! ### token_reader_take: function 27 -/
/-- A reader's state: its block, what is still to be read (that lies elsewhere), wide, lack. -/
def RS (W : World) (g : Nat) (rb : List Int) (wide lack : Bool) : Prop :=
  ∃ A c, W.heap[g]? = some (.cells #[.slice A rb.length c, .bool wide, .bool lack] 43 (0, 0)) ∧ rb.length ≤ c ∧ rb.length ≤ 9223372036854775807 ∧ Kd.F (Kd.int .u8) W (fun k => k < g) A rb.length rb
theorem RS.lt {W : World} {g : Nat} {rb : List Int} {wide lack : Bool} (h : RS W g rb wide lack) : g < W.heap.size := by
  obtain ⟨A, c, h1, _⟩ := h
  exact (Array.getElem?_eq_some_iff.1 h1).1
theorem RS.below {W W1 : World} {g : Nat} {rb : List Int} {wide lack : Bool} (h : RS W g rb wide lack) (hb : Below W.heap.size W W1) : RS W1 g rb wide lack := by
  have hl := h.lt
  obtain ⟨A, c, h1, h2, h3, h4⟩ := h
  exact ⟨A, c, (hb.block g hl).trans h1, h2, h3, Kd.F_below h4 hb⟩
/-- Bytes taken; too few: nothing. -/
def takeB (rb : List Int) (n : Nat) : List Int := if n ≤ rb.length then rb.take n else List.replicate n 0
theorem takeB_length (rb : List Int) (n : Nat) : (takeB rb n).length = n := by
  unfold takeB
  split
  · rw [List.length_take]; omega
  · rw [List.length_replicate]
theorem grown_set {W : World} {g : Nat} (i : Nat) (v : Value) : W.grownBy (W.setCell ⟨g, i, none⟩ v) (some g) :=
  ⟨rfl, rfl, rfl, by simp [World.setCell], fun k _ hk => Below.heap_setCell W ⟨g, i, none⟩ v k (fun e => hk (by rw [e]))⟩
theorem grown_trans {a b c : World} {r : Option Nat} (h : a.grownBy b r) (k : b.grownBy c r) : a.grownBy c r :=
  ⟨k.os.trans h.os, k.tape.trans h.tape, k.output.trans h.output, Nat.le_trans h.size k.size, fun i hi hn => (k.block i (Nat.lt_of_lt_of_le hi h.size) hn).trans (h.block i hi hn)⟩
theorem grown_none {a b : World} {r : Option Nat} (h : a.grownBy b none) : a.grownBy b r := ⟨h.os, h.tape, h.output, h.size, fun i hi _ => h.block i hi (by simp)⟩
theorem grown_below {a b : World} {r : Option Nat} (h : Below a.heap.size a b) : a.grownBy b r := ⟨h.os, h.tape, h.output, h.size, fun i hi _ => h.block i hi⟩
theorem below_zero (W : World) : Below 0 W W := Below.refl 0 W

set_option maxHeartbeats 1600000 in
theorem take_any {g : Nat} {rb : List Int} {wide lack : Bool} {n : Int} (W : World) (h : RS W g rb wide lack) (h0 : 0 ≤ n) (h1 : n ≤ 255) :
    Calls Try.prog 27 #[.pointer (some ⟨g, 0, none⟩), .int .i64 n] W fun e w' => ∃ v, e = .returned v ∧ Kd.V (Kd.int .u8) 5 w' 0 (fun k => k ≠ g) v (takeB rb n.toNat) ∧ RS w' g (rb.drop n.toNat) wide (lack || decide (rb.length < n.toNat)) ∧ W.grownBy w' (some g) := by
  have hlt := h.lt
  obtain ⟨A, c, hg, hc, hm, hF⟩ := h
  have HG := Aside0.mk hg
  have HF := Aside0.mk hF
  have q0 : W.cell? ⟨g, 0, none⟩ = some (.slice A rb.length c) := cell_of_row W g 0 _ _ (0, 0) hg
  have q2 : W.cell? ⟨g, 2, none⟩ = some (.bool lack) := cell_of_row W g 2 _ _ (0, 0) hg
  have f0 : W.frozen? ⟨g, 0, none⟩ = false := frozen_of_row W g 0 _ _ hg
  have f2 : W.frozen? ⟨g, 2, none⟩ = false := frozen_of_row W g 2 _ _ hg
  clear hg hF
  by_cases hn : n.toNat ≤ rb.length
  · have hb : decide ((rb.length : Int) < n) = false := decide_eq_false (by omega)
    have hT := takeB_length rb n.toNat
    have hE : takeB rb n.toNat = rb.take n.toNat := by unfold takeB; rw [if_pos hn]
    have hl : (lack || decide (rb.length < n.toNat)) = lack := by rw [decide_eq_false (by omega), Bool.or_false]
    have HT := Aside0.mk hT
    have HE := Aside0.mk hE
    have HL := Aside0.mk hl
    clear hT hE hl
    obtain ⟨i0, hi0, _, hsz0, _⟩ := info_parts info5
    have k1 := cut_to (P := Try.prog) 22 5 .i64 Try.underlying22 hi0 A rb.length c n h0 (by omega) hc
    have k2 := cut_from (P := Try.prog) 22 5 .i64 Try.underlying22 hi0 1 hsz0 A rb.length c n h0 (by omega)
    obtain ⟨A2, hA2⟩ : ∃ A2, A2 = (if c = n.toNat then A else A.map (·.add (n.toNat * 1))) := ⟨_, rfl⟩
    rw [← hA2] at k2
    have HA := Aside0.mk hA2
    have HN := Aside0.mk hn
    clear hA2 hi0 hsz0 hn
    go_enter Try.func27, Try.ntmps27
    go_wp2
    go_ret
    have hF := HF.out
    have hn := HN.out
    have hFt := Kd.F_take (m := n.toNat) hF hn
    have hFd := Kd.F_cut (c := c) (m := n.toNat) hF hn hc
    have hlt2 : ∀ k, k < g → k ≠ g := fun k hk => by omega
    refine ⟨_, rfl, ?_, ?_, grown_set 0 _⟩
    · rw [HE.out]
      have hl : n.toNat = (rb.take n.toNat).length := by rw [List.length_take]; omega
      show Kd.V (Kd.int .u8) 5 _ 0 _ (.slice A n.toNat c) (rb.take n.toNat)
      have hv := Kd.V_mk (e := 5) (base := 0) (c := c) (by omega) (Kd.F_mono (Kd.F_far hFt (p := ⟨g, 0, none⟩) (fun k hk => hlt2 k hk) (.slice A2 (rb.length - n.toNat) (c - n.toNat))) hlt2)
      rw [← hl] at hv
      exact hv
    · rw [HL.out]
      refine ⟨A2, c - n.toNat, ?_, by rw [List.length_drop]; omega, by rw [List.length_drop]; omega, ?_⟩
      · rw [List.length_drop]
        have := heap_setCell_same W g 0 _ 43 (.slice A2 (rb.length - n.toNat) (c - n.toNat)) HG.out
        exact this
      · have hA := HA.out
        subst hA
        exact Kd.F_far hFd (p := ⟨g, 0, none⟩) (fun k hk => hlt2 k hk) _
  · have hb : decide ((rb.length : Int) < n) = true := decide_eq_true (by omega)
    have hE : takeB rb n.toNat = List.replicate n.toNat 0 := by unfold takeB; rw [if_neg hn]
    have hl : (lack || decide (rb.length < n.toNat)) = true := by rw [decide_eq_true (by omega), Bool.or_true]
    have hd : rb.drop n.toNat = [] := List.drop_eq_nil_of_le (by omega)
    have HE := Aside0.mk hE
    have HL := Aside0.mk hl
    have HD := Aside0.mk hd
    have hz : ((W.setCell ⟨g, 2, none⟩ (.bool true)).setCell ⟨g, 0, none⟩ (.slice none 0 0)).heap.size = W.heap.size := by simp [World.setCell]
    have HZ := Aside0.mk hz
    clear hE hl hd hn hz
    go_enter Try.func27, Try.ntmps27
    go_wp2_with ((with_reducible refine gate_dst (N := 20) rfl ?_); refine Kd.R_make (Kd.int .u8) 0 5 rfl (N := 20) rfl 22 _ _ rfl n rfl rfl Try.underlying22 (.int .u8 0) 1 info5 rfl (by decide) (by decide) (0 : Int) (ok := fun k => k ≠ g) (okp := fun k => k ≠ g) rfl (fun _ hk => hk) (by rw [HZ.out]; omega) h0 (by omega) (below_zero _) (Nat.zero_le _) ?_; intro v1 w1 ho hb1 hg1 hnew; have HO1 := Aside0.mk ho; have HG1 := Aside0.mk hg1; clear ho hb1 hg1 hnew; obtain ⟨A1, c1, e1⟩ := Kd.R_slice HO1.out; subst e1)
    go_ret
    have hs1 := heap_setCell_same W g 2 _ 43 (.bool true) HG.out
    have hs2 := heap_setCell_same _ g 0 _ 43 (.slice none 0 0) hs1
    refine ⟨_, rfl, ?_, ?_, grown_trans (grown_trans (grown_set 2 _) (grown_set 0 _)) (grown_none HG1.out)⟩
    · rw [HE.out]
      have hv := Kd.R_V (base' := 0) HO1.out
      rw [List.length_replicate] at hv
      exact hv
    · rw [HL.out, HD.out]
      refine ⟨none, 0, (HG1.out.block g (by rw [HZ.out]; exact hlt) (by simp)).trans hs2, Nat.le_refl _, by simp, Kd.F_nil _ _ _⟩
/-- What bytes stand for. -/
def numB (bs : List Int) : Int := bs.foldl (fun v c => (v * 256 % 4294967296) + c) 0
theorem numB_snoc (bs : List Int) (c : Int) : numB (bs ++ [c]) = (numB bs * 256 % 4294967296) + c := by
  unfold numB
  rw [List.foldl_append]
  rfl
theorem numB_range {bs : List Int} (h : ∀ x ∈ bs, 0 ≤ x ∧ x ≤ 255) : 0 ≤ numB bs ∧ numB bs ≤ 4294967295 := by
  have key : ∀ (l : List Int) (v : Int), (∀ x ∈ l, 0 ≤ x ∧ x ≤ 255) → 0 ≤ v ∧ v ≤ 4294967295 → 0 ≤ l.foldl (fun v c => (v * 256 % 4294967296) + c) v ∧ l.foldl (fun v c => (v * 256 % 4294967296) + c) v ≤ 4294967295 := by
    intro l
    induction l with
    | nil => exact fun v _ hv => hv
    | cons c l ih =>
      intro v hl hv
      have hc := hl c List.mem_cons_self
      have e : v * 256 % 4294967296 = (v % 16777216) * 256 := by omega
      refine ih _ (fun x hx => hl x (List.mem_cons_of_mem _ hx)) ?_
      show 0 ≤ v * 256 % 4294967296 + c ∧ v * 256 % 4294967296 + c ≤ 4294967295
      rw [e]
      omega
  exact key bs 0 h (by omega)
theorem wraps_u32 (n : Int) (h0 : 0 ≤ n) (h1 : n < 2 ^ 32) : IntKind.u32.wrap n = n := by
  have e : IntKind.u32.wrap n = n % 4294967296 := by simp [IntKind.wrap, IntKind.bits, IntKind.signed]
  rw [e]
  omega
theorem or_u32 {v c : Int} (h0 : 0 ≤ c) (h1 : c ≤ 255) : bits .or .u32 (v * 256 % 4294967296) c = v * 256 % 4294967296 + c := by
  have e : v * 256 % 4294967296 = (v % 16777216) * 256 := by omega
  rw [e]
  exact bits_join .u32 32 (by decide) wraps_u32 8 _ _ (by omega) (by omega) (by omega) h0 (by omega) (by omega)
theorem take_snoc {l : List Int} {k : Nat} (h : k < l.length) : l.take (k + 1) = l.take k ++ [rd l (k : Int)] := by
  unfold rd
  rw [List.take_succ_eq_append_getElem h, List.getD_eq_getElem?_getD, Int.toNat_natCast, List.getElem?_eq_getElem h]
  rfl
def Bys (l : List Int) : Prop := ∀ x ∈ l, 0 ≤ x ∧ x ≤ 255
theorem Bys.take {l : List Int} (h : Bys l) (n : Nat) : Bys (l.take n) := fun x hx => h x (List.mem_of_mem_take hx)
theorem Bys.drop {l : List Int} (h : Bys l) (n : Nat) : Bys (l.drop n) := fun x hx => h x (List.mem_of_mem_drop hx)
theorem takeB_by {rb : List Int} (h : Bys rb) (n : Nat) : Bys (takeB rb n) := by
  unfold takeB
  split
  · exact h.take n
  · intro x hx
    rw [List.mem_replicate] at hx
    omega
/-- A number of n bytes: its value, what is left, whether there were too few. -/
def numP (n : Nat) (rb : List Int) (lack : Bool) : Int × List Int × Bool := (numB (takeB rb n), rb.drop n, lack || decide (rb.length < n))
set_option maxHeartbeats 1600000 in
theorem number_any {g : Nat} {rb : List Int} {wide lack : Bool} {n : Int} (W : World) (h : RS W g rb wide lack) (hB : Bys rb) {m : Nat} (hm : n = (m : Int)) (h1 : n ≤ 255) {v : Int} {rb' : List Int} {lk : Bool} (hp : numP m rb lack = (v, rb', lk)) :
    Calls Try.prog 26 #[.pointer (some ⟨g, 0, none⟩), .int .i64 n] W fun e w' => e = .returned (.int .u32 v) ∧ RS w' g rb' wide lk ∧ W.grownBy w' (some g) := by
  have h0 : 0 ≤ n := by omega
  rw [show m = n.toNat by omega] at hp
  clear hm
  unfold numP at hp
  simp only [Prod.mk.injEq] at hp
  obtain ⟨hv0, hrb, hlk⟩ := hp
  have hT := takeB_length rb n.toNat
  obtain ⟨bs, hbs⟩ : ∃ bs, takeB rb n.toNat = bs := ⟨_, rfl⟩
  have hby : Bys bs := hbs ▸ takeB_by hB n.toNat
  have HBS := Aside0.mk hbs
  have HBY := Aside0.mk hby
  rw [hbs] at hT hv0
  have HV0 := Aside0.mk hv0
  have HRB := Aside0.mk hrb
  have HLK := Aside0.mk hlk
  have hT1 : (bs.length : Int) = n := by omega
  have HT := Aside0.mk hT1
  clear hbs hT hT1 hby hv0 hrb hlk
  go_enter Try.func26, Try.ntmps26
  go_wp2_with (go_at_call 27; (with_reducible refine (take_any _ h h0 h1).mono ?_); rintro e w1 ⟨v, rfl, hv, hr, hg⟩; rw [HBS.out] at hv; rw [HRB.out, HLK.out] at hr; have HV := Aside0.mk hv; have HR := Aside0.mk hr; have HG := Aside0.mk hg; clear hv hr hg; obtain ⟨A1, c1, e1⟩ := Kd.V_slice HV.out; subst e1)
  have HN := Aside0.mk h0
  clear h h0
  go_loop [4, 6, 11] (fun v4 v6 v11 => ∃ k : Nat, k ≤ bs.length ∧ v11 = .int .i64 k ∧ v4 = .int .u32 (numB (bs.take k))) (fun _ _ i => bs.length - (intOf i).toNat)
  case atStart => exact ⟨0, Nat.zero_le _, rfl, rfl⟩
  case round =>
    obtain ⟨k, hk, rfl, rfl⟩ := hrel
    by_cases hlt : k < bs.length
    · have hm : (bs.length : Int) ≤ 255 := by have := HT.out; omega
      have p1 : (0 : Int) ≤ (k : Int) := by omega
      have q1 : (k : Int) < (bs.length : Int) := by omega
      obtain ⟨ad, e, hx⟩ := Kd.at_int (Kd.V_reads' HV.out).2.2 (k : Int) p1 q1
      cases e
      rw [Int.toNat_natCast] at hx
      have hr := numB_range (bs := bs.take k) (HBY.out.take k)
      have hc : 0 ≤ rd bs (k : Int) ∧ rd bs (k : Int) ≤ 255 := by
        unfold rd
        rw [List.getD_eq_getElem?_getD, Int.toNat_natCast, List.getElem?_eq_getElem hlt]
        exact HBY.out _ (List.getElem_mem hlt)
      go_wp2
      go_round
      case rel => exact ⟨k + 1, by omega, by go_num, by rw [take_snoc hlt, numB_snoc, or_u32 hc.1 hc.2]⟩
      case measure => simp [intOf]; omega
    · go_wp2
      go_ret
      have e : k = bs.length := by omega
      subst e
      have e2 := HV0.out
      rw [← e2]
      exact ⟨by rw [List.take_length]; rfl, HR.out, HG.out⟩
theorem takeB_one (rb : List Int) : takeB rb 1 = [rb.getD 0 0] := by
  cases rb with
  | nil => rfl
  | cons a l => simp [takeB]
theorem numB_one (rb : List Int) (h : Bys rb) : numB (takeB rb 1) = rb.getD 0 0 := by
  rw [takeB_one]
  show 0 * 256 % 4294967296 + rb.getD 0 0 = _
  omega
theorem getD_by {rb : List Int} (h : Bys rb) (i : Nat) : 0 ≤ rb.getD i 0 ∧ rb.getD i 0 ≤ 255 := by
  rw [List.getD_eq_getElem?_getD]
  rcases Nat.lt_or_ge i rb.length with hj | hj
  · rw [List.getElem?_eq_getElem hj]
    exact h _ (List.getElem_mem hj)
  · rw [List.getElem?_eq_none hj]
    simp
theorem numP_one {rb rb' : List Int} {lack lk : Bool} {c : Int} (hB : Bys rb) (h : numP 1 rb lack = (c, rb', lk)) : (0 ≤ c ∧ c ≤ 255) ∧ Bys rb' := by
  unfold numP at h
  simp only [Prod.mk.injEq] at h
  obtain ⟨rfl, rfl, rfl⟩ := h
  exact ⟨by rw [numB_one rb hB]; exact getD_by hB 0, hB.drop 1⟩
theorem numP_range {n : Nat} {rb rb' : List Int} {lack lk : Bool} {c : Int} (hB : Bys rb) (h : numP n rb lack = (c, rb', lk)) : (0 ≤ c ∧ c ≤ 4294967295) ∧ Bys rb' := by
  unfold numP at h
  simp only [Prod.mk.injEq] at h
  obtain ⟨rfl, rfl, rfl⟩ := h
  exact ⟨numB_range (takeB_by hB n), hB.drop n⟩
/-- A code. -/
def codeP (rb : List Int) (lack : Bool) : Int × List Int × Bool :=
  if 0 < (numP 1 rb lack).1 ∧ (numP 1 rb lack).1 < 16 then
    ((numP 1 rb lack).1 * 256 + (numP 1 (numP 1 rb lack).2.1 (numP 1 rb lack).2.2).1, (numP 1 (numP 1 rb lack).2.1 (numP 1 rb lack).2.2).2)
  else numP 1 rb lack
theorem codeP_range {rb rb' : List Int} {lack lk : Bool} {c : Int} (hB : Bys rb) (h : codeP rb lack = (c, rb', lk)) : (0 ≤ c ∧ c ≤ 4095) ∧ Bys rb' := by
  unfold codeP at h
  obtain ⟨c1, r1, l1, e1⟩ : ∃ c1 r1 l1, numP 1 rb lack = (c1, r1, l1) := ⟨_, _, _, rfl⟩
  obtain ⟨d1, r2, l2, e2⟩ : ∃ c1 r2 l2, numP 1 r1 l1 = (c1, r2, l2) := ⟨_, _, _, rfl⟩
  have k1 := numP_one hB e1
  have k2 := numP_one k1.2 e2
  rw [e1] at h
  simp only [e2] at h
  by_cases hc : 0 < c1 ∧ c1 < 16
  · rw [if_pos hc] at h
    simp only [Prod.mk.injEq] at h
    obtain ⟨rfl, rfl, rfl⟩ := h
    exact ⟨by omega, k2.2⟩
  · rw [if_neg hc] at h
    simp only [Prod.mk.injEq] at h
    obtain ⟨rfl, rfl, rfl⟩ := h
    exact ⟨by omega, k1.2⟩
theorem or_u32' {v c : Int} (hv : 0 ≤ v) (hv1 : v ≤ 15) (h0 : 0 ≤ c) (h1 : c ≤ 255) : bits .or .u32 (v * 256) c = v * 256 + c :=
  bits_join .u32 32 (by decide) wraps_u32 8 _ _ (by omega) (by omega) (by omega) h0 (by omega) (by omega)
set_option maxHeartbeats 1600000 in
theorem code_any {g : Nat} {rb : List Int} {wide lack : Bool} (W : World) (h : RS W g rb wide lack) (hB : Bys rb) {v : Int} {rb' : List Int} {lk : Bool} (hp : codeP rb lack = (v, rb', lk)) :
    Calls Try.prog 24 #[.pointer (some ⟨g, 0, none⟩)] W fun e w' => e = .returned (.int .i64 v) ∧ RS w' g rb' wide lk ∧ W.grownBy w' (some g) := by
  unfold codeP at hp
  obtain ⟨c, r1, l1, e1⟩ : ∃ c1 r1 l1, numP 1 rb lack = (c1, r1, l1) := ⟨_, _, _, rfl⟩
  obtain ⟨d, r2, l2, e2⟩ : ∃ c1 r2 l2, numP 1 r1 l1 = (c1, r2, l2) := ⟨_, _, _, rfl⟩
  have k1 := numP_one hB e1
  have k2 := numP_one k1.2 e2
  rw [e1] at hp
  simp only [e2] at hp
  have HB0 := Aside0.mk hB
  have HB1 := Aside0.mk k1.2
  have E1 := Aside0.mk e1
  have E2 := Aside0.mk e2
  have hcr := k1.1
  have hdr := k2.1
  clear k1 k2 e1 e2 hB
  by_cases h1 : 0 < c ∧ c < 16
  · rw [if_pos h1] at hp
    simp only [Prod.mk.injEq] at hp
    obtain ⟨rfl, rfl, rfl⟩ := hp
    obtain ⟨h1, h2⟩ := h1
    have b1 : decide (0 < c) = true := decide_eq_true h1
    have b2 : decide (c < 16) = true := decide_eq_true h2
    have HO := Aside0.mk (or_u32' hcr.1 (by omega) hdr.1 hdr.2)
    go_enter Try.func24, Try.ntmps24
    go_wp2_with (first | (go_at_call 26; (with_reducible refine (number_any (n := 1) (m := 1) _ h HB0.out rfl (by decide) E1.out).mono ?_); rintro e w1 ⟨rfl, hr, hg⟩; have HR := Aside0.mk hr; have HG := Aside0.mk hg; clear hr hg) | (go_at_call 26; (with_reducible refine (number_any (n := 1) (m := 1) _ HR.out HB1.out rfl (by decide) E2.out).mono ?_); rintro e w2 ⟨rfl, hr, hg⟩; have HR2 := Aside0.mk hr; have HG2 := Aside0.mk hg; clear hr hg))
    go_ret
    refine ⟨?_, HR2.out, grown_trans HG.out HG2.out⟩
    have e : wrap64 (bits .or .u32 (c * 256) d) = c * 256 + d := by rw [HO.out]; unfold wrap64; omega
    show Ending.returned (.int .i64 (wrap64 (bits .or .u32 (c * 256) d))) = _
    rw [e]
  · rw [if_neg h1] at hp
    simp only [Prod.mk.injEq] at hp
    obtain ⟨rfl, rfl, rfl⟩ := hp
    by_cases h2 : 0 < c
    · have b1 : decide (0 < c) = true := decide_eq_true h2
      have b2 : decide (c < 16) = false := decide_eq_false (by omega)
      clear h1 h2
      go_enter Try.func24, Try.ntmps24
      go_wp2_with (go_at_call 26; (with_reducible refine (number_any (n := 1) (m := 1) _ h HB0.out rfl (by decide) E1.out).mono ?_); rintro e w1 ⟨rfl, hr, hg⟩; have HR := Aside0.mk hr; have HG := Aside0.mk hg; clear hr hg)
      go_ret
      exact ⟨rfl, HR.out, HG.out⟩
    · have b1 : decide (0 < c) = false := decide_eq_false h2
      clear h1 h2
      go_enter Try.func24, Try.ntmps24
      go_wp2_with (go_at_call 26; (with_reducible refine (number_any (n := 1) (m := 1) _ h HB0.out rfl (by decide) E1.out).mono ?_); rintro e w1 ⟨rfl, hr, hg⟩; have HR := Aside0.mk hr; have HG := Aside0.mk hg; clear hr hg)
      go_ret
      exact ⟨rfl, HR.out, HG.out⟩

/-! ### token_reader_number: function 26 -/

/-! ### token_reader_code: function 24 -/

/-! ### token_behind: function 25 -/
mutual
def token_behind.j0 : Nat → Int → Bool → Option (Int)
  | 0, _, _ => none
  | k + 1, x3, x6 => if x6 = true then (some 2) else (if x3 = 18 then (some 3) else (if x3 = 19 then (token_behind.j1 k x3 (x3 == 19)) else (if x3 = 20 then (token_behind.j1 k x3 (x3 == 20)) else (if x3 = 21 then (token_behind.j1 k x3 (x3 == 21)) else (if x3 = 22 then (token_behind.j1 k x3 (x3 == 22)) else (if x3 = 23 then (token_behind.j1 k x3 (x3 == 23)) else (if x3 = 24 then (token_behind.j1 k x3 (x3 == 24)) else (if x3 = 28 then (token_behind.j1 k x3 (x3 == 28)) else (token_behind.j1 k x3 (x3 == 198))))))))))
def token_behind.j1 : Nat → Int → Bool → Option (Int)
  | 0, _, _ => none
  | k + 1, x3, x11 => if x11 = true then (some 4) else (if x3 = 181 then (some 5) else (if x3 = 182 then (some 6) else (if x3 = 202 then (some 6) else (some 0))))
end
def token_behind.f (k : Nat) (a0 : Int) : Option (Int) := if a0 = 16 then (some 1) else (if a0 = 17 then (token_behind.j0 k a0 (a0 == 17)) else (token_behind.j0 k a0 (a0 == 195)))
theorem token_behind.mono_l : ∀ k, (∀ y0 y1, LeO (token_behind.j0 k y0 y1) (token_behind.j0 (k + 1) y0 y1)) ∧ (∀ y0 y1, LeO (token_behind.j1 k y0 y1) (token_behind.j1 (k + 1) y0 y1))
  | 0 => ⟨fun _ _ r h => by simp [token_behind.j0] at h, fun _ _ r h => by simp [token_behind.j1] at h⟩
  | k + 1 => by
    obtain ⟨ih0, ih1⟩ := token_behind.mono_l k
    refine ⟨?_, ?_⟩
    · intro y0 y1
      unfold token_behind.j0
      repeat' first
      | (with_reducible exact ih0 _ _)
      | (with_reducible exact ih1 _ _)
      | (with_reducible exact LeO.refl _)
      | (with_reducible exact LeO.none _)
      | (with_reducible refine LeO.ite ?_ ?_)
      | (with_reducible refine LeO.bind ?_ (fun _ => ?_))
      | exact ih0 _ _
      | exact ih1 _ _
      | exact LeO.none _
      | refine LeO.ite ?_ ?_
      | refine LeO.bind ?_ (fun _ => ?_)
    · intro y0 y1
      unfold token_behind.j1
      repeat' first
      | (with_reducible exact ih0 _ _)
      | (with_reducible exact ih1 _ _)
      | (with_reducible exact LeO.refl _)
      | (with_reducible exact LeO.none _)
      | (with_reducible refine LeO.ite ?_ ?_)
      | (with_reducible refine LeO.bind ?_ (fun _ => ?_))
      | exact ih0 _ _
      | exact ih1 _ _
      | exact LeO.none _
      | refine LeO.ite ?_ ?_
      | refine LeO.bind ?_ (fun _ => ?_)
theorem token_behind.mono : ∀ a0 k, LeO (token_behind.f k a0) (token_behind.f (k + 1) a0) := by
  intro a0 k
  obtain ⟨ih0, ih1⟩ := token_behind.mono_l k
  unfold token_behind.f
  repeat' first
      | (with_reducible exact ih0 _ _)
      | (with_reducible exact ih1 _ _)
      | (with_reducible exact LeO.refl _)
      | (with_reducible exact LeO.none _)
      | (with_reducible refine LeO.ite ?_ ?_)
      | (with_reducible refine LeO.bind ?_ (fun _ => ?_))
      | exact ih0 _ _
      | exact ih1 _ _
      | exact LeO.none _
      | refine LeO.ite ?_ ?_
      | refine LeO.bind ?_ (fun _ => ?_)
set_option maxHeartbeats 8000000 in
set_option maxRecDepth 100000 in
theorem token_behind.calls (k : Nat) (a0 : Int) (r : Int) (w : World) (h : token_behind.f k a0 = some r) :
    Calls Try.prog 25 #[.int .i64 a0] w fun e w' => e = .returned (.int .i64 r) ∧ Drawn0 w w' := by
  have H : (if a0 = 16 then (some 1) else (if a0 = 17 then (token_behind.j0 k a0 (a0 == 17)) else (token_behind.j0 k a0 (a0 == 195)))) = some r := h
  clear h
  by_cases c2 : a0 = 16
  · rw [if_pos c2] at H
    have c2b0 : (a0 == 16) = true := beq_iff_eq.mpr c2
    have c2b1 : (a0 != 16) = false := bne_eq_false_iff_eq.mpr c2
    clear c2
    obtain rfl := Option.some.inj H
    go_enter Try.func25, Try.ntmps25
    go_wp2
    go_ret
    exact ⟨by first | rfl | (simp; done) | (simp [*]; done), by repeat (first | exact Drawn0.refl _ | apply Drawn0.step)⟩
  · rw [if_neg c2] at H
    have c2b0 : (a0 == 16) = false := beq_eq_false_iff_ne.mpr c2
    have c2b1 : (a0 != 16) = true := bne_iff_ne.mpr c2
    have HC3 := Aside0.mk H
    clear H
    go_enter Try.func25, Try.ntmps25
    go_upto_if 6 with (fail)
    go_cut [6] (fun v6 wc => ∃ (kq : Nat) (x6_2 : Bool), v6 = .bool x6_2 ∧ Aside0 (token_behind.j0 kq a0 x6_2 = some r) ∧ Aside0 (kq ≤ k) ∧ Drawn0 w wc)
    case first =>
      have H := HC3.out
      clear HC3
      by_cases c4 : a0 = 17
      · rw [if_pos c4] at H
        have c4b0 : (a0 == 17) = true := beq_iff_eq.mpr c4
        have c4b1 : (a0 != 17) = false := bne_eq_false_iff_eq.mpr c4
        clear c4
        (first | rw [c4b0] | (simp only [i64_w, i32_w]; rw [c4b0]) | skip)
        have H' := Aside0.mk H
        clear H
        go_wp2
        go_meet
        case rel => exact ⟨_, ((a0 == 17)), (by first | rfl | (simp; done) | (simp [*]; done)), H', ⟨by first | omega | exact Nat.le_refl _⟩, by repeat (first | exact Drawn0.refl _ | apply Drawn0.step)⟩
      · rw [if_neg c4] at H
        have c4b0 : (a0 == 17) = false := beq_eq_false_iff_ne.mpr c4
        have c4b1 : (a0 != 17) = true := bne_iff_ne.mpr c4
        (first | rw [c4b0] | (simp only [i64_w, i32_w]; rw [c4b0]) | skip)
        have H' := Aside0.mk H
        clear H
        go_wp2
        go_meet
        case rel => exact ⟨_, ((a0 == 195)), (by first | rfl | (simp; done) | (simp [*]; done)), H', ⟨by first | omega | exact Nat.le_refl _⟩, by repeat (first | exact Drawn0.refl _ | apply Drawn0.step)⟩
    case rest =>
      clear HC3
      try clear c2
      try clear c2b0
      try clear c2b1
      try clear p2
      try clear c4
      try clear c4b0
      try clear c4b1
      obtain ⟨kq, x6_2, rfl, HA, HJ2, ⟨mc2, rfl⟩⟩ := hcut
      cases kq with
      | zero => exact absurd HA.out (by simp [token_behind.j0])
      | succ kj2 =>
        have H := HA.out
        clear HA
        simp only [token_behind.j0] at H
        by_cases c5 : x6_2 = true
        · subst c5
          have H1 : (some 2) = some r := by rw [if_pos rfl] at H; exact H
          clear H
          have H := H1
          clear H1
          obtain rfl := Option.some.inj H
          go_wp2
          go_ret
          exact ⟨by first | rfl | (simp; done) | (simp [*]; done), by repeat (first | exact Drawn0.refl _ | apply Drawn0.step)⟩
        · replace c5 := Bool.eq_false_iff.mpr c5
          subst c5
          have H1 : (if a0 = 18 then (some 3) else (if a0 = 19 then (token_behind.j1 kj2 a0 (a0 == 19)) else (if a0 = 20 then (token_behind.j1 kj2 a0 (a0 == 20)) else (if a0 = 21 then (token_behind.j1 kj2 a0 (a0 == 21)) else (if a0 = 22 then (token_behind.j1 kj2 a0 (a0 == 22)) else (if a0 = 23 then (token_behind.j1 kj2 a0 (a0 == 23)) else (if a0 = 24 then (token_behind.j1 kj2 a0 (a0 == 24)) else (if a0 = 28 then (token_behind.j1 kj2 a0 (a0 == 28)) else (token_behind.j1 kj2 a0 (a0 == 198)))))))))) = some r := by rw [if_neg (show ¬ (false = true) by decide)] at H; exact H
          clear H
          have H := H1
          clear H1
          by_cases c6 : a0 = 18
          · rw [if_pos c6] at H
            have c6b0 : (a0 == 18) = true := beq_iff_eq.mpr c6
            have c6b1 : (a0 != 18) = false := bne_eq_false_iff_eq.mpr c6
            clear c6
            obtain rfl := Option.some.inj H
            go_wp2
            go_ret
            exact ⟨by first | rfl | (simp; done) | (simp [*]; done), by repeat (first | exact Drawn0.refl _ | apply Drawn0.step)⟩
          · rw [if_neg c6] at H
            have c6b0 : (a0 == 18) = false := beq_eq_false_iff_ne.mpr c6
            have c6b1 : (a0 != 18) = true := bne_iff_ne.mpr c6
            have HC7 := Aside0.mk H
            clear H
            go_upto_if 11 with (fail)
            go_cut [11] (fun v11 wc => ∃ (kq : Nat) (x11_6 : Bool), v11 = .bool x11_6 ∧ Aside0 (token_behind.j1 kq a0 x11_6 = some r) ∧ Aside0 (kq ≤ kj2) ∧ Drawn0 w wc)
            case first =>
              have H := HC7.out
              clear HC7
              by_cases c8 : a0 = 19
              · rw [if_pos c8] at H
                have c8b0 : (a0 == 19) = true := beq_iff_eq.mpr c8
                have c8b1 : (a0 != 19) = false := bne_eq_false_iff_eq.mpr c8
                clear c8
                (first | rw [c8b0] | (simp only [i64_w, i32_w]; rw [c8b0]) | skip)
                have H' := Aside0.mk H
                clear H
                go_wp2
                go_meet
                case rel => exact ⟨_, ((a0 == 19)), (by first | rfl | (simp; done) | (simp [*]; done)), H', ⟨by have := HJ2.out; first | omega | exact Nat.le_refl _⟩, by repeat (first | exact Drawn0.refl _ | apply Drawn0.step)⟩
              · rw [if_neg c8] at H
                have c8b0 : (a0 == 19) = false := beq_eq_false_iff_ne.mpr c8
                have c8b1 : (a0 != 19) = true := bne_iff_ne.mpr c8
                (first | rw [c8b0] | (simp only [i64_w, i32_w]; rw [c8b0]) | skip)
                by_cases c9 : a0 = 20
                · rw [if_pos c9] at H
                  have c9b0 : (a0 == 20) = true := beq_iff_eq.mpr c9
                  have c9b1 : (a0 != 20) = false := bne_eq_false_iff_eq.mpr c9
                  clear c9
                  have H' := Aside0.mk H
                  clear H
                  go_wp2
                  go_meet
                  case rel => exact ⟨_, ((a0 == 20)), (by first | rfl | (simp; done) | (simp [*]; done)), H', ⟨by have := HJ2.out; first | omega | exact Nat.le_refl _⟩, by repeat (first | exact Drawn0.refl _ | apply Drawn0.step)⟩
                · rw [if_neg c9] at H
                  have c9b0 : (a0 == 20) = false := beq_eq_false_iff_ne.mpr c9
                  have c9b1 : (a0 != 20) = true := bne_iff_ne.mpr c9
                  by_cases c10 : a0 = 21
                  · rw [if_pos c10] at H
                    have c10b0 : (a0 == 21) = true := beq_iff_eq.mpr c10
                    have c10b1 : (a0 != 21) = false := bne_eq_false_iff_eq.mpr c10
                    clear c10
                    have H' := Aside0.mk H
                    clear H
                    go_wp2
                    go_meet
                    case rel => exact ⟨_, ((a0 == 21)), (by first | rfl | (simp; done) | (simp [*]; done)), H', ⟨by have := HJ2.out; first | omega | exact Nat.le_refl _⟩, by repeat (first | exact Drawn0.refl _ | apply Drawn0.step)⟩
                  · rw [if_neg c10] at H
                    have c10b0 : (a0 == 21) = false := beq_eq_false_iff_ne.mpr c10
                    have c10b1 : (a0 != 21) = true := bne_iff_ne.mpr c10
                    by_cases c11 : a0 = 22
                    · rw [if_pos c11] at H
                      have c11b0 : (a0 == 22) = true := beq_iff_eq.mpr c11
                      have c11b1 : (a0 != 22) = false := bne_eq_false_iff_eq.mpr c11
                      clear c11
                      have H' := Aside0.mk H
                      clear H
                      go_wp2
                      go_meet
                      case rel => exact ⟨_, ((a0 == 22)), (by first | rfl | (simp; done) | (simp [*]; done)), H', ⟨by have := HJ2.out; first | omega | exact Nat.le_refl _⟩, by repeat (first | exact Drawn0.refl _ | apply Drawn0.step)⟩
                    · rw [if_neg c11] at H
                      have c11b0 : (a0 == 22) = false := beq_eq_false_iff_ne.mpr c11
                      have c11b1 : (a0 != 22) = true := bne_iff_ne.mpr c11
                      by_cases c12 : a0 = 23
                      · rw [if_pos c12] at H
                        have c12b0 : (a0 == 23) = true := beq_iff_eq.mpr c12
                        have c12b1 : (a0 != 23) = false := bne_eq_false_iff_eq.mpr c12
                        clear c12
                        have H' := Aside0.mk H
                        clear H
                        go_wp2
                        go_meet
                        case rel => exact ⟨_, ((a0 == 23)), (by first | rfl | (simp; done) | (simp [*]; done)), H', ⟨by have := HJ2.out; first | omega | exact Nat.le_refl _⟩, by repeat (first | exact Drawn0.refl _ | apply Drawn0.step)⟩
                      · rw [if_neg c12] at H
                        have c12b0 : (a0 == 23) = false := beq_eq_false_iff_ne.mpr c12
                        have c12b1 : (a0 != 23) = true := bne_iff_ne.mpr c12
                        by_cases c13 : a0 = 24
                        · rw [if_pos c13] at H
                          have c13b0 : (a0 == 24) = true := beq_iff_eq.mpr c13
                          have c13b1 : (a0 != 24) = false := bne_eq_false_iff_eq.mpr c13
                          clear c13
                          have H' := Aside0.mk H
                          clear H
                          go_wp2
                          go_meet
                          case rel => exact ⟨_, ((a0 == 24)), (by first | rfl | (simp; done) | (simp [*]; done)), H', ⟨by have := HJ2.out; first | omega | exact Nat.le_refl _⟩, by repeat (first | exact Drawn0.refl _ | apply Drawn0.step)⟩
                        · rw [if_neg c13] at H
                          have c13b0 : (a0 == 24) = false := beq_eq_false_iff_ne.mpr c13
                          have c13b1 : (a0 != 24) = true := bne_iff_ne.mpr c13
                          by_cases c14 : a0 = 28
                          · rw [if_pos c14] at H
                            have c14b0 : (a0 == 28) = true := beq_iff_eq.mpr c14
                            have c14b1 : (a0 != 28) = false := bne_eq_false_iff_eq.mpr c14
                            clear c14
                            have H' := Aside0.mk H
                            clear H
                            go_wp2
                            go_meet
                            case rel => exact ⟨_, ((a0 == 28)), (by first | rfl | (simp; done) | (simp [*]; done)), H', ⟨by have := HJ2.out; first | omega | exact Nat.le_refl _⟩, by repeat (first | exact Drawn0.refl _ | apply Drawn0.step)⟩
                          · rw [if_neg c14] at H
                            have c14b0 : (a0 == 28) = false := beq_eq_false_iff_ne.mpr c14
                            have c14b1 : (a0 != 28) = true := bne_iff_ne.mpr c14
                            have H' := Aside0.mk H
                            clear H
                            go_wp2
                            go_meet
                            case rel => exact ⟨_, ((a0 == 198)), (by first | rfl | (simp; done) | (simp [*]; done)), H', ⟨by have := HJ2.out; first | omega | exact Nat.le_refl _⟩, by repeat (first | exact Drawn0.refl _ | apply Drawn0.step)⟩
            case rest =>
              clear HC7
              try clear c1
              try clear c2
              try clear c2b0
              try clear c2b1
              try clear p2
              try clear c4
              try clear c4b0
              try clear c4b1
              try clear c5
              try clear c6
              try clear c6b0
              try clear c6b1
              try clear c8
              try clear c8b0
              try clear c8b1
              try clear c9
              try clear c9b0
              try clear c9b1
              try clear c10
              try clear c10b0
              try clear c10b1
              try clear c11
              try clear c11b0
              try clear c11b1
              try clear c12
              try clear c12b0
              try clear c12b1
              try clear c13
              try clear c13b0
              try clear c13b1
              try clear c14
              try clear c14b0
              try clear c14b1
              try clear p2
              obtain ⟨kq, x11_6, rfl, HA, HJ6, ⟨mc6, rfl⟩⟩ := hcut
              cases kq with
              | zero => exact absurd HA.out (by simp [token_behind.j1])
              | succ kj6 =>
                have H := HA.out
                clear HA
                simp only [token_behind.j1] at H
                by_cases c15 : x11_6 = true
                · subst c15
                  have H1 : (some 4) = some r := by rw [if_pos rfl] at H; exact H
                  clear H
                  have H := H1
                  clear H1
                  obtain rfl := Option.some.inj H
                  go_wp2
                  go_ret
                  exact ⟨by first | rfl | (simp; done) | (simp [*]; done), by repeat (first | exact Drawn0.refl _ | apply Drawn0.step)⟩
                · replace c15 := Bool.eq_false_iff.mpr c15
                  subst c15
                  have H1 : (if a0 = 181 then (some 5) else (if a0 = 182 then (some 6) else (if a0 = 202 then (some 6) else (some 0)))) = some r := by rw [if_neg (show ¬ (false = true) by decide)] at H; exact H
                  clear H
                  have H := H1
                  clear H1
                  by_cases c16 : a0 = 181
                  · rw [if_pos c16] at H
                    have c16b0 : (a0 == 181) = true := beq_iff_eq.mpr c16
                    have c16b1 : (a0 != 181) = false := bne_eq_false_iff_eq.mpr c16
                    clear c16
                    obtain rfl := Option.some.inj H
                    go_wp2
                    go_ret
                    exact ⟨by first | rfl | (simp; done) | (simp [*]; done), by repeat (first | exact Drawn0.refl _ | apply Drawn0.step)⟩
                  · rw [if_neg c16] at H
                    have c16b0 : (a0 == 181) = false := beq_eq_false_iff_ne.mpr c16
                    have c16b1 : (a0 != 181) = true := bne_iff_ne.mpr c16
                    by_cases c17 : a0 = 182
                    · rw [if_pos c17] at H
                      have c17b0 : (a0 == 182) = true := beq_iff_eq.mpr c17
                      have c17b1 : (a0 != 182) = false := bne_eq_false_iff_eq.mpr c17
                      clear c17
                      obtain rfl := Option.some.inj H
                      go_wp2
                      go_ret
                      exact ⟨by first | rfl | (simp; done) | (simp [*]; done), by repeat (first | exact Drawn0.refl _ | apply Drawn0.step)⟩
                    · rw [if_neg c17] at H
                      have c17b0 : (a0 == 182) = false := beq_eq_false_iff_ne.mpr c17
                      have c17b1 : (a0 != 182) = true := bne_iff_ne.mpr c17
                      by_cases c18 : a0 = 202
                      · rw [if_pos c18] at H
                        have c18b0 : (a0 == 202) = true := beq_iff_eq.mpr c18
                        have c18b1 : (a0 != 202) = false := bne_eq_false_iff_eq.mpr c18
                        clear c18
                        obtain rfl := Option.some.inj H
                        go_wp2
                        go_ret
                        exact ⟨by first | rfl | (simp; done) | (simp [*]; done), by repeat (first | exact Drawn0.refl _ | apply Drawn0.step)⟩
                      · rw [if_neg c18] at H
                        have c18b0 : (a0 == 202) = false := beq_eq_false_iff_ne.mpr c18
                        have c18b1 : (a0 != 202) = true := bne_iff_ne.mpr c18
                        obtain rfl := Option.some.inj H
                        go_wp2
                        go_ret
                        exact ⟨by first | rfl | (simp; done) | (simp [*]; done), by repeat (first | exact Drawn0.refl _ | apply Drawn0.step)⟩

end Go.Proofs.Ytfaebbmngplilaa.P
