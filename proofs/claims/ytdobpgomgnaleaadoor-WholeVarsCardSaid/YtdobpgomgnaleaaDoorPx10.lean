/- The machine's side: functions of the translation as plain Lean functions, and that the machine's calls come to what they say. No condition. Written by a program (wip/tools/pp.py over the kit's printer); Lean checks it. -/
import Derived.Test.YtdobpgomgnaleaaDoorPx0
import Derived.Test.YtdobpgomgnaleaaDoorPx2
import Derived.Test.YtdobpgomgnaleaaDoorPx3
namespace Go.Proofs.YtdobpgomgnaleaaDoor.P
open Go.RowKit Go.Proofs.YtdobpgomgnaleaaDoorW.PrintWords Go.Proofs.YtdobpgomgnaleaaDoorW.PrintLast Go.Proofs.YtdobpgomgnaleaaDoorW.PrintMore
attribute [local go_sem] max2_int min2_int max_two min_two max_three min_three max_four min_four   -- for this text's walks alone
set_option linter.unusedVariables false
set_option linter.unusedSimpArgs false

/-! ### nvram_Plan: function 26 -/
section
open Go.Proofs.YtdobpgomgnaleaaDoor.G
def layR (ba : Int) : List S64 → List Int → List S64
  | row, [] => row
  | row, b :: bs => layR ba (row ++ [⟨ba + row.length, b⟩]) bs
theorem layR_len (ba : Int) : ∀ (bs : List Int) (row : List S64), (layR ba row bs).length = row.length + bs.length
  | [], row => rfl
  | b :: bs, row => by rw [layR, layR_len ba bs, List.length_append, List.length_cons, List.length_cons, List.length_nil]; omega
theorem cell_same {w w1 : World} {p : Addr} (h : w1.heap[p.block]? = w.heap[p.block]?) : w1.cell? p = w.cell? p := by
  unfold World.cell?
  rw [h]
theorem C_same {w w1 : World} {A : Option Addr} {n : Nat} {xs : List Int} (h : Kd.C (Kd.int .u8) w A n xs) (hs : ∀ ad, A = some ad → w1.heap[ad.block]? = w.heap[ad.block]?) : Kd.C (Kd.int .u8) w1 A n xs := by
  obtain ⟨h1, h2, h3⟩ := h
  refine ⟨h1, h2, fun h0 => ?_⟩
  obtain ⟨ad, e, hc⟩ := h3 h0
  refine ⟨ad, e, fun j p hj => ?_⟩
  obtain ⟨c, l1, l2, l3⟩ := hc j p hj
  refine ⟨c, l1, l2, fun i u hu => ?_⟩
  exact (cell_same (by rw [add_block]; exact hs ad e)).trans (l3 i u hu)
set_option maxHeartbeats 4000000 in
set_option maxRecDepth 100000 in
theorem lay_calls (w0 : World) (gr gb : Nat) (ba : Int) (row : List S64) (v : Value) (ok : Nat → Prop) (A : Option Addr) (c : Nat) (bs : List Int) (w : World)
    (hB : Below w0.heap.size w0 w) (hgr : w0.heap.size ≤ gr) (hgb : w0.heap.size ≤ gb) (hne : gr ≠ gb) (hor : ∀ k, ok k → k ≠ gr) (hob : ∀ k, ok k → k ≠ gb) (hfr : ∀ k, w.heap.size ≤ k → ok k)
    (hr : w.heap[gr]? = some (.cells #[v] 32 (0, 0))) (hb : w.heap[gb]? = some (.cells #[.int .i64 ba] 3 (0, 0))) (hR : Kd.R k64 64 w w0.heap.size ok v row)
    (hC : Kd.C (Kd.int .u8) w A bs.length bs) (hA : 0 < bs.length → ∀ ad, A = some ad → ad.block ≠ gr ∧ ∀ k, ok k → k ≠ ad.block) (hA2 : 0 < bs.length → ∀ ad, A = some ad → ad.block < w.heap.size)
    (hba : 0 ≤ ba ∧ ba ≤ 1000) (hrl : row.length + bs.length ≤ 1000) :
    Calls Tryd.prog 37 #[.slice A bs.length c, .pointer (some ⟨gr, 0, none⟩), .pointer (some ⟨gb, 0, none⟩)] w fun e w' => e = .returned (.tuple #[]) ∧ ∃ v', w'.heap[gr]? = some (.cells #[v'] 32 (0, 0)) ∧ w'.heap[gb]? = some (.cells #[.int .i64 ba] 3 (0, 0)) ∧
      Kd.R k64 64 w' w0.heap.size ok v' (layR ba row bs) ∧ Below w0.heap.size w0 w' ∧ w.heap.size ≤ w'.heap.size ∧ (∀ k, k < w.heap.size → k ≠ gr → ¬ ok k → w'.heap[k]? = w.heap[k]?) := by
  have hu32 := Tryd.underlying32
  have HB := Aside0.mk hB
  have BR := Aside0.mk hr
  have BB := Aside0.mk hb
  have HO := Aside0.mk hR
  have HC := Aside0.mk hC
  have HFR := Aside0.mk hfr
  have HOR := Aside0.mk hor
  have HOB := Aside0.mk hob
  have HA := Aside0.mk hA
  have HA2 := Aside0.mk hA2
  have HL := Aside0.mk hrl
  have HBA := Aside0.mk hba
  have GR := Aside0.mk hgr
  have GB := Aside0.mk hgb
  have NE := Aside0.mk hne
  clear hB hr hb hR hC hfr hor hob hA hA2 hrl hgr hgb hne hba
  go_enter Tryd.func37, Tryd.ntmps37
  go_wp2
  go_loopg [8] bs.length (fun kq v8 w' => ∃ (j : Nat) (row' : List S64) (v' : Value), v8 = .int .i64 j ∧ Aside0 (j + kq = bs.length) ∧ Aside0 (layR ba row' (bs.drop j) = layR ba row bs) ∧ Aside0 (row'.length = row.length + j) ∧ Aside0 (w'.heap[gr]? = some (.cells #[v'] 32 (0, 0))) ∧ Aside0 (w'.heap[gb]? = some (.cells #[.int .i64 ba] 3 (0, 0))) ∧
      Aside0 (Kd.R k64 64 w' w0.heap.size ok v' row') ∧ Aside0 (Below w0.heap.size w0 w') ∧ Aside0 (w.heap.size ≤ w'.heap.size) ∧ Aside0 (∀ k, k < w.heap.size → k ≠ gr → ¬ ok k → w'.heap[k]? = w.heap[k]?))
  case atStart => exact ⟨0, row, v, rfl, ⟨by omega⟩, ⟨rfl⟩, ⟨rfl⟩, BR, BB, HO, HB, ⟨Nat.le_refl _⟩, ⟨fun _ _ _ _ => rfl⟩⟩
  case round =>
    clear HB BR BB HO
    obtain ⟨j, row', v', rfl, HJ, HX, HRL, BR, BB, HO, HB, HS, HK⟩ := hrel
    have zr : wr.cell? ⟨gr, 0, none⟩ = some v' := (blk_cell BR.out 0).trans rfl
    have zb : wr.cell? ⟨gb, 0, none⟩ = some (.int .i64 ba) := (blk_cell BB.out 0).trans rfl
    cases gk with
    | zero =>
      have c1 : decide ((j : Int) < (bs.length : Int)) = false := decide_eq_false (by have := HJ.out; omega)
      have c' : (j < bs.length) = False := eq_false (by have := HJ.out; omega)
      have hX := HX.out
      rw [List.drop_eq_nil_of_le (by have := HJ.out; omega)] at hX
      have HX2 := Aside0.mk hX
      clear HX hX zr zb
      go_wp2
      go_end0
      exact ⟨rfl, v', BR.out, BB.out, by rw [← HX2.out]; exact HO.out, HB.out, HS.out, HK.out⟩
    | succ k1 =>
      have hj : j < bs.length := by have := HJ.out; omega
      have c1 : decide ((j : Int) < (bs.length : Int)) = true := decide_eq_true (by omega)
      have c' : (j < bs.length) = True := eq_true hj
      have HCW : Aside0 (Kd.C (Kd.int .u8) wr A bs.length bs) := ⟨C_same HC.out (fun ad e => HK.out _ (HA2.out (by omega) ad e) (HA.out (by omega) ad e).1 (fun ho => (HA.out (by omega) ad e).2 _ ho rfl))⟩
      obtain ⟨ad, e, hx⟩ := Kd.at_int HCW.out (j : Int) (by omega) (by omega)
      cases e
      rw [Int.toNat_natCast] at hx
      obtain ⟨A1, c2, rfl⟩ := Kd.R_slice HO.out
      have HFW : Aside0 (∀ k, wr.heap.size ≤ k → ok k) := ⟨fun k hk => HFR.out k (by have := HS.out; omega)⟩
      have HLIM : Aside0 (row'.length + 1 ≤ 1001) := ⟨by have := HRL.out; have := HL.out; omega⟩
      have HBW : Aside0 (w0.heap.size ≤ wr.heap.size) := ⟨below_size HB.out⟩
      obtain ⟨x, hx0⟩ : ∃ x, rd bs (j : Int) = x := ⟨_, rfl⟩
      rw [hx0] at hx
      have HX0 := Aside0.mk hx0
      clear hx0
      go_upto_region 4 with ((with_reducible refine gate_builtin (b := .append) (xs := #[.tmp 12, .tmp 19]) rfl ?_); at_builtin; refine Kd.R_append k64 (w0 := w0) w0.heap.size rfl (.tmp 12) (.tmp 19) 32 64 (.agg #[(.int .i64 0), (.int .u8 0)]) 16 rfl Tryd.underlying32 info64 rfl (by decide) (by omega) (.slice A1 row'.length c2) row' (⟨wrap64 (ba + (row'.length : Int)), x⟩ : S64) [.int .i64 (wrap64 (ba + (row'.length : Int))), .int .u8 x] ok (fun _ => False) rfl (by first | (go_simp; done) | (go_simp; rfl)) ?aP (fun _ hk => hk.elim) ?aF ?aO ?aB ?aS ?aL ?_; (case aP => exact k64_mkM _ _ _ (⟨wrap64 (ba + (row'.length : Int)), x⟩ : S64)); (case aB => exact HB.out); (case aF => exact HFW.out); (case aO => exact HO.out); (case aS => exact HBW.out); (case aL => have := HLIM.out; omega); intro v1 w8 ho hb hg hat; obtain ⟨A2, c3, hv1⟩ := Kd.R_slice ho; subst hv1; have BR8 := Aside0.mk (blk_grown BR.out hg (Kd.R_away HO.out HOR.out)); have BB8 := Aside0.mk (blk_grown BB.out hg (Kd.R_away HO.out HOB.out)); have n0_ := Aside0.mk ho; have n1_ := Aside0.mk hb; have HG := Aside0.mk hg; have zr8 : w8.cell? ⟨gr, 0, none⟩ = some (.slice A1 row'.length c2) := (blk_cell BR8.out 0).trans rfl; have fr8 := blk_frozen BR8.out 0; clear ho hb hg hat zr zb hx)
      have hsz : wr.heap.size ≤ w8.heap.size := HG.out.size
      have HN : Aside0 (layR ba (row' ++ [(⟨wrap64 (ba + (row'.length : Int)), x⟩ : S64)]) (bs.drop (j + 1)) = layR ba row bs) := ⟨by
        rw [← HX.out, drop_rd bs j hj, layR, HX0.out, show wrap64 (ba + (row'.length : Int)) = ba + row'.length from w64 (by have := HBA.out; omega) (by have := HBA.out; have := HLIM.out; omega)]⟩
      generalize hy : row' ++ [(⟨wrap64 (ba + (row'.length : Int)), x⟩ : S64)] = row2 at n0_ HN
      have hlen : row2.length = row'.length + 1 := by rw [← hy, List.length_append]; rfl
      have HLN := Aside0.mk hlen
      have n2_ := n0_.out
      rw [hlen] at n2_
      have HR2 := Aside0.mk n2_
      have HSZ := Aside0.mk hsz
      clear hy hlen n0_ n2_ hsz zr8 fr8
      go_wp2
      go_roundg k1
      case measure => omega
      case rel =>
        refine ⟨j + 1, row2, .slice A2 (row'.length + 1) c3, by rw [show wrap64 ((j : Int) + 1) = ((j + 1 : Nat) : Int) by have := HL.out; unfold wrap64; omega], ⟨by have := HJ.out; omega⟩, HN, ⟨by rw [HLN.out, HRL.out]; omega⟩, ⟨blk_put BR8.out 0 _ rfl⟩, ⟨blk_far BB8.out (Ne.symm NE.out) _⟩, ⟨Kd.R_far HR2.out HOR.out _⟩, ⟨below_set n1_.out GR.out⟩, ⟨?_⟩, ⟨fun k hk h1 h2 => ?_⟩⟩
        · rw [World.size_setCell]
          exact Nat.le_trans HS.out HSZ.out
        · refine (Below.heap_setCell _ _ _ k h1).trans ?_
          refine (HG.out.block k (by have := HS.out; omega) ?_).trans (HK.out k hk h1 h2)
          exact fun e => h2 (HO.out.1 k e.symm)
def rowR (ba gen : Int) (data : List Int) : List S64 :=
  layR ba (layR ba (layR ba [⟨ba, 0⟩] [gen, (data.length : Int) / 256 % 256, (data.length : Int) % 256]) (fourR (sumR gen data))) data ++ [⟨ba, 165⟩]
def nvram_Plan.f (l0 l1 : List Int) : Option (List S64 × Int) :=
  if (∀ x ∈ l0, 0 ≤ x ∧ x ≤ 255) ∧ (∀ x ∈ l1, 0 ≤ x ∧ x ≤ 255) then
    if l0.length = 512 then
      if l1.length ≤ 248 then
        some (if countsR l0 = 0 then rowR 256 ((rd (l0.take 256) 1 + 1) % 256) l1 else if countsR l0 = 1 then rowR 0 ((rd (l0.drop 256) 1 + 1) % 256) l1 else rowR 0 1 l1, 0)
      else some ([], 3)
    else some ([], 1)
  else none
theorem R_made64 (W : World) (base : Nat) (ok : Nat → Prop) (ba x : Int) (hbase : base ≤ W.heap.size) (hf : ok W.heap.size) : Kd.R k64 64 (W.alloc (.cells #[.int .i64 ba, .int .u8 x] 64)) base ok (.slice (some ⟨W.heap.size, 0, none⟩) 1 1) [(⟨ba, x⟩ : S64)] := by
  have hrep : Reps (k64.M W base (fun _ => False)) k64.sz [(⟨ba, x⟩ : S64)] [.int .i64 ba, .int .u8 x] := ⟨rfl, fun j p hj => by
    cases j with
    | zero => cases hj; exact k64_mkM _ _ _ (⟨ba, x⟩ : S64)
    | succ j => simp at hj⟩
  refine ⟨fun k hk => ?_, [.int .i64 ba, .int .u8 x], ?_, ?_⟩
  · have : W.heap.size = k := by simpa [Value.ownBlock] using hk
    subst this
    exact hf
  · have h2 := World.ownsRow_lit (base := base) (e := 64) (size := 2) W #[.int .i64 ba, .int .u8 x] 1 hbase (by decide) rfl
    exact h2
  · refine hrep.imp_ (fun p c hp => k64.M_mono (fun k hk => ⟨hk.1.elim, fun he => hk.1.elim⟩) (Kd.M_below (k64.M_bound hp) (below_alloc (Below.refl _ _) _)))
theorem C_of_block {w : World} {g : Nat} {t : TypeId} {xs : List Int} {cs : Array Value} (h : w.heap[g]? = some (.cells cs t (0, 0))) (e : cs = (by8 xs).toArray) (hl : xs.length < 1000) : Kd.C (Kd.int .u8) w (some ⟨g, 0, none⟩) xs.length xs := by
  subst e
  refine C_of_range (fun j v hv => ?_) hl
  rw [blk_cell h, List.getElem?_toArray, Nat.zero_add]
  exact hv
set_option maxHeartbeats 8000000 in
set_option maxRecDepth 100000 in
theorem nvram_Plan.calls (A0 : Option Addr) (c0 : Nat) (l0 : List Int) (A1 : Option Addr) (c1 : Nat) (l1 : List Int) (r1 : List S64) (r2 : Int) (w : World) (hr0 : Kd.C (Kd.int .u8) w A0 l0.length l0) (hc0 : l0.length ≤ c0) (hr1 : Kd.C (Kd.int .u8) w A1 l1.length l1) (hc1 : l1.length ≤ c1) (h : nvram_Plan.f l0 l1 = some (r1, r2)) :
    Calls Tryd.prog 26 #[.slice A0 l0.length c0, .slice A1 l1.length c1] w fun e w' => ∃ v0_ : Value, e = .returned (.tuple #[v0_, .int .i64 r2]) ∧ Kd.R k64 64 w' w.heap.size (fun _ => True) v0_ r1 ∧ Below w.heap.size w w' := by
  unfold nvram_Plan.f at h
  by_cases hby : (∀ x ∈ l0, 0 ≤ x ∧ x ≤ 255) ∧ (∀ x ∈ l1, 0 ≤ x ∧ x ≤ 255)
  · rw [if_pos hby] at h
    have HB := Aside0.mk (Below.refl w.heap.size w)
    have H0 := Aside0.mk (nvram_both.any A0 c0 l0 w hr0 hc0 hby.1)
    have H := Aside0.mk h
    have HBY := Aside0.mk hby
    have HR1 := Aside0.mk hr1
    have HC1 := Aside0.mk hc1
    clear hr0 hc0 h hby hr1 hc1
    have hmf : ∀ (fn : Fn) (first cap : Array Value) (w : World), (Instr.makeFunc fn first cap).run Tryd.prog w = .ok (.func fn first cap) w := fun _ _ _ _ => rfl
    go_enter Tryd.func26, Tryd.ntmps26
    go_upto_region 2 with (first | (go_at_call 29; refine H0.out.mono ?_; rintro e w2 ⟨xs, ok, hok, hl, hb, hx, rfl, hbl⟩; have HOK := Aside0.mk hok; clear HB; have HB := Aside0.mk hbl; have HL := Aside0.mk hl; have HXB := Aside0.mk hb; have HX := Aside0.mk hx; clear hbl hl hb hx hok) | ((with_reducible refine gate_dst (N := 6) rfl ?_); refine wpList_alloc69 rfl rfl ?_; intro g hg w3 hbox hb; have n0_ := Aside0.mk (below_step HB.out hb); have n1_ : Aside0 (w3.there g 0 512) := ⟨there_of_block hbox 0 512 (by show 0 + 512 ≤ (Array.replicate 512 _).size; rw [Array.size_replicate]; omega)⟩; have GE : Aside0 (w.heap.size ≤ g) := ⟨by rw [hg]; exact below_size HB.out⟩; clear HB hb hbox hg; have HB := n0_; have TH := n1_; clear n0_ n1_) | (refine wpList_store_mid rfl 69 (.tmp 6) (.tmp 17) rfl g 0 (by8 xs).toArray rfl rfl (by rw [List.size_toArray, by8_len, HL.out]; exact TH.out) (by rw [List.size_toArray, by8_len, HL.out]; exact size69) (by8_one _) ?_))
    have n0_ : Aside0 ((w3.setCells g 0 (by8 xs)).rangeAt g 0 (by8 xs)) := ⟨World.rangeAt_setCells_same _ _ _ _ (by rw [by8_len, HL.out]; exact TH.out)⟩
    have n1_ : Aside0 (Below w.heap.size w (w3.setCells g 0 (by8 xs))) := ⟨below_setCells GE.out _ _ HB.out⟩
    generalize w3.setCells g 0 (by8 xs) = w4 at n0_ n1_ ⊢
    clear HB TH
    have RG := n0_
    have HB := n1_
    clear n0_ n1_
    have H2 := H.out
    have HOK2 := HOK.out
    cases ok with
    | false =>
      rw [if_neg (of_decide_eq_false HOK2.symm)] at H2
      simp only [Option.some.injEq, Prod.mk.injEq] at H2
      obtain ⟨rfl, rfl⟩ := H2
      clear H HOK2
      go_wp2
      go_ret2
      exact ⟨_, rfl, Kd.R_nil _ _ _ _ _, HB.out⟩
    | true =>
      have hl := of_decide_eq_true HOK2.symm
      obtain rfl := HX.out hl
      rw [if_pos hl] at H2
      clear H HOK2 HX H0
      by_cases hn : l1.length ≤ 248
      · rw [if_pos hn] at H2
        have hnb : decide (248 < (l1.length : Int)) = false := decide_eq_false (by omega)
        have hnc : (248 < l1.length) = False := eq_false (by omega)
        have HN := Aside0.mk hn
        clear hl hn
        go_upto_region 8 with (go_at_call 30; refine (nvram_counts.calls xs g _ HL.out HXB.out RG.out).mono ?_; rintro e w5 ⟨rfl, hb5⟩; have n0_ : Aside0 (w5.rangeAt g 0 (by8 xs)) := ⟨fun j v hv => by { have h := RG.out j v hv; exact (hb5.cell (World.block_lt_of_cell? _ _ h)).trans h }⟩; have n1_ := Aside0.mk (below_step HB.out hb5); clear HB RG hb5; have RG := n0_; have HB := n1_; clear n0_ n1_)
        have hz := fun (lo : Nat) (hlo : lo + 256 ≤ 512) => bank_cell (C_half RG.out HL.out lo hlo) 1 (by rw [List.length_take, List.length_drop, HL.out]; omega)
        have zx : w5.cell? ⟨g, 1, none⟩ = some (.int .u8 (rd (xs.take 256) 1)) := hz 0 (by omega)
        have zy : w5.cell? ⟨g, 257, none⟩ = some (.int .u8 (rd (xs.drop 256) 1)) := by
          have h := hz 256 (by omega)
          rw [show (xs.drop 256).take 256 = xs.drop 256 from List.take_of_length_le (by rw [List.length_drop, HL.out]; decide)] at h
          exact h
        have gx := rd_by (l := xs.take 256) (fun x hx => HXB.out x (List.mem_of_mem_take hx)) 1
        have gy := rd_by (l := xs.drop 256) (fun x hx => HXB.out x (List.mem_of_mem_drop hx)) 1
        clear hz
        rcases counts_cases xs with hk | ⟨hk, _⟩ | ⟨hk, _⟩
        · rw [hk] at H2 ⊢
          rw [if_neg (by decide), if_neg (by decide)] at H2
          simp only [Option.some.injEq, Prod.mk.injEq] at H2
          obtain ⟨rfl, rfl⟩ := H2
          clear hk
          go_upto_region 10 with (fail)
          obtain ⟨ge, hge⟩ : ∃ ge : Int, (1 : Int) = ge := ⟨_, rfl⟩
          have hgv : Value.int IntKind.u8 ((1 : Int)) = Value.int IntKind.u8 ge := by rw [hge]
          have hg0 : 0 ≤ ge ∧ ge ≤ 255 := by omega
          rw [hgv]
          have HGE := Aside0.mk hge
          have HG0 := Aside0.mk hg0
          have HB5 : Aside0 (Below w.heap.size w (w5)) := ⟨HB.out⟩
          clear hge hg0 hgv zx zy gx gy RG HB
          generalize w5 = w6 at HB5 ⊢
          obtain ⟨gb, hgb⟩ : ∃ gb, w6.heap.size = gb := ⟨_, rfl⟩
          have GB : Aside0 (w.heap.size ≤ gb) := ⟨by have := below_size HB5.out; omega⟩
          have GBE := Aside0.mk hgb
          go_upto_region 12 with (fail)
          clear hgb
          obtain ⟨gr, hgr⟩ : ∃ gr, gb + 1 + 1 = gr := ⟨_, rfl⟩
          have GR : Aside0 (gb + 2 = gr) := ⟨by omega⟩
          rw [hgr]
          have hw0 := below_size HB5.out
          have x1 := blk_alloc (blk_alloc (blk_new w6 (Obj.cells #[Value.int IntKind.i64 0] 3)) (Obj.cells #[Value.int IntKind.i64 0, Value.int IntKind.u8 0] 64)) (Obj.cells #[Value.slice (some { block := gb + 1, off := 0 }) 1 1] 32)
          have x2 := blk_new ((w6.alloc (Obj.cells #[Value.int IntKind.i64 0] 3)).alloc (Obj.cells #[Value.int IntKind.i64 0, Value.int IntKind.u8 0] 64)) (Obj.cells #[Value.slice (some { block := gb + 1, off := 0 }) 1 1] 32)
          have x3 := Kd.R_alloc (R_made64 (w6.alloc (Obj.cells #[Value.int IntKind.i64 0] 3)) w.heap.size (fun k => w.heap.size ≤ k ∧ k ≠ gb ∧ k ≠ gr) 0 0 (by rw [World.size_alloc]; omega) (by rw [World.size_alloc, GBE.out]; have := GB.out; omega)) (Obj.cells #[Value.slice (some { block := gb + 1, off := 0 }) 1 1] 32)
          have x4 := below_alloc (below_alloc (below_alloc HB5.out (Obj.cells #[Value.int IntKind.i64 0] 3)) (Obj.cells #[Value.int IntKind.i64 0, Value.int IntKind.u8 0] 64)) (Obj.cells #[Value.slice (some { block := gb + 1, off := 0 }) 1 1] 32)
          rw [World.size_alloc, GBE.out] at x3
          rw [World.size_alloc, World.size_alloc, GBE.out, hgr] at x2
          rw [GBE.out] at x1
          generalize (((w6.alloc (Obj.cells #[Value.int IntKind.i64 0] 3)).alloc (Obj.cells #[Value.int IntKind.i64 0, Value.int IntKind.u8 0] 64)).alloc (Obj.cells #[Value.slice (some { block := gb + 1, off := 0 }) 1 1] 32)) = w7 at x1 x2 x3 x4 ⊢
          clear hgr hw0 GBE HB5
          have BB := Aside0.mk x1
          have BR := Aside0.mk x2
          have HO := Aside0.mk x3
          have HB := Aside0.mk x4
          clear x1 x2 x3 x4
          go_upto_region 14 with (go_at_call 37; refine (lay_calls w gr gb 0 [⟨0, 0⟩] _ (fun k => (w.heap.size ≤ k ∧ k ≠ gb ∧ k ≠ gr) ∧ k ≠ w7.heap.size) (some ⟨w7.heap.size, 0, none⟩) 3 [ge, (l1.length : Int) / 256 % 256, (l1.length : Int) % 256] _ (below_alloc HB.out _) (by have := GR.out; have := GB.out; omega) GB.out (by have := GR.out; omega) (fun k hk => hk.1.2.2) (fun k hk => hk.1.2.1) (fun k hk => by { rw [World.size_alloc] at hk; have := blk_lt BB.out; have := blk_lt BR.out; have := below_size HB.out; omega }) (blk_alloc BR.out _) (blk_alloc BB.out _) (Kd.R_alloc (Kd.R_elderB HO.out _ (Nat.le_refl _)) _) (C_of_block (blk_new _ _) rfl (by simp)) (fun _ ad e => by { cases e; exact ⟨by have := blk_lt BR.out; show w7.heap.size ≠ gr; omega, fun k hk => hk.2⟩ }) (fun _ ad e => by { cases e; rw [World.size_alloc]; exact Nat.lt_succ_self _ }) (by omega) (by simp)).mono ?_; rintro e w8 ⟨rfl, v8, hr8, hb8, hR8, hB8, hs8, hk8⟩; have n0_ := Aside0.mk hr8; have n1_ := Aside0.mk hb8; have n2_ := Aside0.mk (Kd.R_mono hR8 (fun k hk => hk.1)); have n3_ := Aside0.mk hB8; clear BB BR HO HB hr8 hb8 hR8 hB8 hs8 hk8; have BR := n0_; have BB := n1_; have HO := n2_; have HB := n3_; clear n0_ n1_ n2_ n3_)
          generalize hrow1 : layR 0 [(⟨0, 0⟩ : S64)] [ge, (l1.length : Int) / 256 % 256, (l1.length : Int) % 256] = row1 at HO
          have HRW1 := Aside0.mk hrow1
          have HRL1 : Aside0 (row1.length = 4) := ⟨by rw [← hrow1, layR_len]; rfl⟩
          clear hrow1
          go_upto_region 15 with (first | (go_at_call 39; refine (nvram_Sum.calls ge A1 c1 l1 _ HG0.out.1 HG0.out.2 (Kd.C_below HR1.out HB.out) HC1.out HBY.out.2 (by have := HN.out; omega)).mono ?_; rintro e w9 ⟨rfl, hb9⟩; have n0_ := Aside0.mk (blk_below BR.out hb9); have n1_ := Aside0.mk (blk_below BB.out hb9); have n2_ := Aside0.mk (Kd.R_below HO.out hb9); have n3_ := Aside0.mk (below_step HB.out hb9); clear BB BR HO HB hb9; have BR := n0_; have BB := n1_; have HO := n2_; have HB := n3_; clear n0_ n1_ n2_ n3_) | (go_at_call 38; refine (nvram_four.calls (sumR ge l1) (fourR (sumR ge l1)) _ rfl).mono ?_; rintro e w10 ⟨v4, rfl, hR4, hb10⟩; obtain ⟨g4, c4, hv4, hg4, hl4, _⟩ := Kd.R_form hR4 (by show 0 < 4; decide); subst hv4; have HG4 := Aside0.mk hg4; have HL4 := Aside0.mk hl4; have HR4 := Aside0.mk (Kd.R_reads' hR4).2.2; have n0_ := Aside0.mk (blk_below BR.out hb10); have n1_ := Aside0.mk (blk_below BB.out hb10); have n2_ := Aside0.mk (Kd.R_below (Kd.R_elderB HO.out g4 hg4) hb10); have n3_ := Aside0.mk (below_step HB.out hb10); have NR4 : Aside0 (g4 ≠ gr ∧ g4 ≠ gb) := ⟨by have := blk_lt BB.out; have := blk_lt BR.out; omega⟩; clear BB BR HO HB hb10 hR4 hg4 hl4; have BR := n0_; have BB := n1_; have HO := n2_; have HB := n3_; clear n0_ n1_ n2_ n3_) | (go_at_call 37; refine (lay_calls w gr gb 0 row1 _ (fun k => (w.heap.size ≤ k ∧ k ≠ gb ∧ k ≠ gr) ∧ k ≠ g4) (some ⟨g4, 0, none⟩) c4 (fourR (sumR ge l1)) _ HB.out (by have := GR.out; have := GB.out; omega) GB.out (by have := GR.out; omega) (fun k hk => hk.1.2.2) (fun k hk => hk.1.2.1) (fun k hk => by { have := blk_lt BB.out; have := blk_lt BR.out; have := below_size HB.out; have := HL4.out; omega }) BR.out BB.out HO.out HR4.out (fun _ ad e => by { cases e; exact ⟨NR4.out.1, fun k hk => hk.2⟩ }) (fun _ ad e => by { cases e; exact HL4.out }) (by omega) (by rw [HRL1.out]; show 4 + 4 ≤ 1000; decide)).mono ?_; rintro e w11 ⟨rfl, v8, hr8, hb8, hR8, hB8, hs8, hk8⟩; have n0_ := Aside0.mk hr8; have n1_ := Aside0.mk hb8; have n2_ := Aside0.mk (Kd.R_mono hR8 (fun k hk => hk.1)); have n3_ := Aside0.mk hB8; clear BB BR HO HB hr8 hb8 hR8 hB8 hs8 hk8 HR4 HL4 HG4; have BR := n0_; have BB := n1_; have HO := n2_; have HB := n3_; clear n0_ n1_ n2_ n3_))
          generalize hrow2 : layR 0 row1 (fourR (sumR ge l1)) = row2 at HO
          have HRW2 := Aside0.mk hrow2
          have HRL2 : Aside0 (row2.length = 8) := ⟨by rw [← hrow2, layR_len, HRL1.out]; rfl⟩
          clear hrow2
          go_upto_region 16 with (go_at_call 37; refine (lay_calls w gr gb 0 row2 _ (fun k => w.heap.size ≤ k ∧ k ≠ gb ∧ k ≠ gr) A1 c1 l1 _ HB.out (by have := GR.out; have := GB.out; omega) GB.out (by have := GR.out; omega) (fun k hk => hk.2.2) (fun k hk => hk.2.1) (fun k hk => by { have := blk_lt BB.out; have := blk_lt BR.out; have := below_size HB.out; omega }) BR.out BB.out HO.out (Kd.C_below HR1.out HB.out) (fun h0 ad e => by { have hh := HR1.out; rw [e] at hh; have hlt := Kd.C_lt hh h0 (by decide); exact ⟨by have := GR.out; have := GB.out; omega, fun k hk => by have := hk.1; omega⟩ }) (fun h0 ad e => by { have hh := HR1.out; rw [e] at hh; have hlt := Kd.C_lt hh h0 (by decide); have := below_size HB.out; omega }) (by omega) (by rw [HRL2.out]; have := HN.out; omega)).mono ?_; rintro e w11 ⟨rfl, v8, hr8, hb8, hR8, hB8, hs8, hk8⟩; have n0_ := Aside0.mk hr8; have n1_ := Aside0.mk hb8; have n2_ := Aside0.mk hR8; have n3_ := Aside0.mk hB8; clear BB BR HO HB hr8 hb8 hR8 hB8 hs8 hk8; have BR := n0_; have BB := n1_; have HO := n2_; have HB := n3_; clear n0_ n1_ n2_ n3_)
          generalize hrow3 : layR 0 row2 l1 = row3 at HO
          have HRW3 := Aside0.mk hrow3
          have HRL3 : Aside0 (row3.length ≤ 256) := ⟨by rw [← hrow3, layR_len, HRL2.out]; have := HN.out; omega⟩
          clear hrow3
          obtain ⟨A9, c9, hv9⟩ := Kd.R_slice HO.out
          subst hv9
          have fr := blk_frozen BR.out 0
          have zr : _ = some (Value.slice A9 row3.length c9) := (blk_cell BR.out 0).trans rfl
          have zb : _ = some (Value.int IntKind.i64 0) := (blk_cell BB.out 0).trans rfl
          go_wp2_with ((with_reducible refine gate_builtin (b := .append) (xs := #[.tmp 62, .tmp 65]) rfl ?_); at_builtin; refine Kd.R_append k64 (w0 := w) w.heap.size rfl (.tmp 62) (.tmp 65) 32 64 (.agg #[(.int .i64 0), (.int .u8 0)]) 16 rfl Tryd.underlying32 info64 rfl (by decide) (by omega) (.slice A9 row3.length c9) row3 (⟨0, 165⟩ : S64) [.int .i64 0, .int .u8 165] (fun _ => True) (fun _ => False) rfl (by first | (go_simp; done) | (go_simp; rfl)) ?aP (fun _ hk => hk.elim) ?aF ?aO ?aB ?aS ?aL ?_; (case aP => exact k64_mkM _ _ _ (⟨0, 165⟩ : S64)); (case aB => exact HB.out); (case aF => exact fun _ _ => trivial); (case aO => exact Kd.R_mono HO.out (fun _ _ => trivial)); (case aS => exact below_size HB.out); (case aL => have := HRL3.out; omega); intro v1 w12 ho hb hg hat; have n0_ := Aside0.mk ho; have n1_ := Aside0.mk hb; clear ho hb hg hat zr zb fr)
          go_ret2
          refine ⟨_, rfl, ?_, n1_.out⟩
          have hfin : row3 ++ [(⟨0, 165⟩ : S64)] = rowR 0 (1) l1 := by
            unfold rowR
            rw [HGE.out, HRW1.out, HRW2.out, HRW3.out]
          rw [← hfin]
          exact n0_.out
        · rw [hk] at H2 ⊢
          rw [if_pos rfl] at H2
          simp only [Option.some.injEq, Prod.mk.injEq] at H2
          obtain ⟨rfl, rfl⟩ := H2
          clear hk
          go_upto_region 9 with (fail)
          go_quiet (fail)
          go_upto_region 10 with (fail)
          obtain ⟨ge, hge⟩ : ∃ ge : Int, (rd (xs.take 256) 1 + 1) % 256 = ge := ⟨_, rfl⟩
          have hgv : Value.int IntKind.u8 ((rd (xs.take 256) 1 + 1) % 256) = Value.int IntKind.u8 ge := by rw [hge]
          have hg0 : 0 ≤ ge ∧ ge ≤ 255 := by omega
          rw [hgv]
          have HGE := Aside0.mk hge
          have HG0 := Aside0.mk hg0
          have HB5 : Aside0 (Below w.heap.size w (w5.drewN nq)) := ⟨pw_below_drewN HB.out _⟩
          clear hge hg0 hgv zx zy gx gy RG HB
          generalize w5.drewN nq = w6 at HB5 ⊢
          obtain ⟨gb, hgb⟩ : ∃ gb, w6.heap.size = gb := ⟨_, rfl⟩
          have GB : Aside0 (w.heap.size ≤ gb) := ⟨by have := below_size HB5.out; omega⟩
          have GBE := Aside0.mk hgb
          go_upto_region 12 with (fail)
          clear hgb
          obtain ⟨gr, hgr⟩ : ∃ gr, gb + 1 + 1 = gr := ⟨_, rfl⟩
          have GR : Aside0 (gb + 2 = gr) := ⟨by omega⟩
          rw [hgr]
          have hw0 := below_size HB5.out
          have x1 := blk_alloc (blk_alloc (blk_new w6 (Obj.cells #[Value.int IntKind.i64 256] 3)) (Obj.cells #[Value.int IntKind.i64 256, Value.int IntKind.u8 0] 64)) (Obj.cells #[Value.slice (some { block := gb + 1, off := 0 }) 1 1] 32)
          have x2 := blk_new ((w6.alloc (Obj.cells #[Value.int IntKind.i64 256] 3)).alloc (Obj.cells #[Value.int IntKind.i64 256, Value.int IntKind.u8 0] 64)) (Obj.cells #[Value.slice (some { block := gb + 1, off := 0 }) 1 1] 32)
          have x3 := Kd.R_alloc (R_made64 (w6.alloc (Obj.cells #[Value.int IntKind.i64 256] 3)) w.heap.size (fun k => w.heap.size ≤ k ∧ k ≠ gb ∧ k ≠ gr) 256 0 (by rw [World.size_alloc]; omega) (by rw [World.size_alloc, GBE.out]; have := GB.out; omega)) (Obj.cells #[Value.slice (some { block := gb + 1, off := 0 }) 1 1] 32)
          have x4 := below_alloc (below_alloc (below_alloc HB5.out (Obj.cells #[Value.int IntKind.i64 256] 3)) (Obj.cells #[Value.int IntKind.i64 256, Value.int IntKind.u8 0] 64)) (Obj.cells #[Value.slice (some { block := gb + 1, off := 0 }) 1 1] 32)
          rw [World.size_alloc, GBE.out] at x3
          rw [World.size_alloc, World.size_alloc, GBE.out, hgr] at x2
          rw [GBE.out] at x1
          generalize (((w6.alloc (Obj.cells #[Value.int IntKind.i64 256] 3)).alloc (Obj.cells #[Value.int IntKind.i64 256, Value.int IntKind.u8 0] 64)).alloc (Obj.cells #[Value.slice (some { block := gb + 1, off := 0 }) 1 1] 32)) = w7 at x1 x2 x3 x4 ⊢
          clear hgr hw0 GBE HB5
          have BB := Aside0.mk x1
          have BR := Aside0.mk x2
          have HO := Aside0.mk x3
          have HB := Aside0.mk x4
          clear x1 x2 x3 x4
          go_upto_region 14 with (go_at_call 37; refine (lay_calls w gr gb 256 [⟨256, 0⟩] _ (fun k => (w.heap.size ≤ k ∧ k ≠ gb ∧ k ≠ gr) ∧ k ≠ w7.heap.size) (some ⟨w7.heap.size, 0, none⟩) 3 [ge, (l1.length : Int) / 256 % 256, (l1.length : Int) % 256] _ (below_alloc HB.out _) (by have := GR.out; have := GB.out; omega) GB.out (by have := GR.out; omega) (fun k hk => hk.1.2.2) (fun k hk => hk.1.2.1) (fun k hk => by { rw [World.size_alloc] at hk; have := blk_lt BB.out; have := blk_lt BR.out; have := below_size HB.out; omega }) (blk_alloc BR.out _) (blk_alloc BB.out _) (Kd.R_alloc (Kd.R_elderB HO.out _ (Nat.le_refl _)) _) (C_of_block (blk_new _ _) rfl (by simp)) (fun _ ad e => by { cases e; exact ⟨by have := blk_lt BR.out; show w7.heap.size ≠ gr; omega, fun k hk => hk.2⟩ }) (fun _ ad e => by { cases e; rw [World.size_alloc]; exact Nat.lt_succ_self _ }) (by omega) (by simp)).mono ?_; rintro e w8 ⟨rfl, v8, hr8, hb8, hR8, hB8, hs8, hk8⟩; have n0_ := Aside0.mk hr8; have n1_ := Aside0.mk hb8; have n2_ := Aside0.mk (Kd.R_mono hR8 (fun k hk => hk.1)); have n3_ := Aside0.mk hB8; clear BB BR HO HB hr8 hb8 hR8 hB8 hs8 hk8; have BR := n0_; have BB := n1_; have HO := n2_; have HB := n3_; clear n0_ n1_ n2_ n3_)
          generalize hrow1 : layR 256 [(⟨256, 0⟩ : S64)] [ge, (l1.length : Int) / 256 % 256, (l1.length : Int) % 256] = row1 at HO
          have HRW1 := Aside0.mk hrow1
          have HRL1 : Aside0 (row1.length = 4) := ⟨by rw [← hrow1, layR_len]; rfl⟩
          clear hrow1
          go_upto_region 15 with (first | (go_at_call 39; refine (nvram_Sum.calls ge A1 c1 l1 _ HG0.out.1 HG0.out.2 (Kd.C_below HR1.out HB.out) HC1.out HBY.out.2 (by have := HN.out; omega)).mono ?_; rintro e w9 ⟨rfl, hb9⟩; have n0_ := Aside0.mk (blk_below BR.out hb9); have n1_ := Aside0.mk (blk_below BB.out hb9); have n2_ := Aside0.mk (Kd.R_below HO.out hb9); have n3_ := Aside0.mk (below_step HB.out hb9); clear BB BR HO HB hb9; have BR := n0_; have BB := n1_; have HO := n2_; have HB := n3_; clear n0_ n1_ n2_ n3_) | (go_at_call 38; refine (nvram_four.calls (sumR ge l1) (fourR (sumR ge l1)) _ rfl).mono ?_; rintro e w10 ⟨v4, rfl, hR4, hb10⟩; obtain ⟨g4, c4, hv4, hg4, hl4, _⟩ := Kd.R_form hR4 (by show 0 < 4; decide); subst hv4; have HG4 := Aside0.mk hg4; have HL4 := Aside0.mk hl4; have HR4 := Aside0.mk (Kd.R_reads' hR4).2.2; have n0_ := Aside0.mk (blk_below BR.out hb10); have n1_ := Aside0.mk (blk_below BB.out hb10); have n2_ := Aside0.mk (Kd.R_below (Kd.R_elderB HO.out g4 hg4) hb10); have n3_ := Aside0.mk (below_step HB.out hb10); have NR4 : Aside0 (g4 ≠ gr ∧ g4 ≠ gb) := ⟨by have := blk_lt BB.out; have := blk_lt BR.out; omega⟩; clear BB BR HO HB hb10 hR4 hg4 hl4; have BR := n0_; have BB := n1_; have HO := n2_; have HB := n3_; clear n0_ n1_ n2_ n3_) | (go_at_call 37; refine (lay_calls w gr gb 256 row1 _ (fun k => (w.heap.size ≤ k ∧ k ≠ gb ∧ k ≠ gr) ∧ k ≠ g4) (some ⟨g4, 0, none⟩) c4 (fourR (sumR ge l1)) _ HB.out (by have := GR.out; have := GB.out; omega) GB.out (by have := GR.out; omega) (fun k hk => hk.1.2.2) (fun k hk => hk.1.2.1) (fun k hk => by { have := blk_lt BB.out; have := blk_lt BR.out; have := below_size HB.out; have := HL4.out; omega }) BR.out BB.out HO.out HR4.out (fun _ ad e => by { cases e; exact ⟨NR4.out.1, fun k hk => hk.2⟩ }) (fun _ ad e => by { cases e; exact HL4.out }) (by omega) (by rw [HRL1.out]; show 4 + 4 ≤ 1000; decide)).mono ?_; rintro e w11 ⟨rfl, v8, hr8, hb8, hR8, hB8, hs8, hk8⟩; have n0_ := Aside0.mk hr8; have n1_ := Aside0.mk hb8; have n2_ := Aside0.mk (Kd.R_mono hR8 (fun k hk => hk.1)); have n3_ := Aside0.mk hB8; clear BB BR HO HB hr8 hb8 hR8 hB8 hs8 hk8 HR4 HL4 HG4; have BR := n0_; have BB := n1_; have HO := n2_; have HB := n3_; clear n0_ n1_ n2_ n3_))
          generalize hrow2 : layR 256 row1 (fourR (sumR ge l1)) = row2 at HO
          have HRW2 := Aside0.mk hrow2
          have HRL2 : Aside0 (row2.length = 8) := ⟨by rw [← hrow2, layR_len, HRL1.out]; rfl⟩
          clear hrow2
          go_upto_region 16 with (go_at_call 37; refine (lay_calls w gr gb 256 row2 _ (fun k => w.heap.size ≤ k ∧ k ≠ gb ∧ k ≠ gr) A1 c1 l1 _ HB.out (by have := GR.out; have := GB.out; omega) GB.out (by have := GR.out; omega) (fun k hk => hk.2.2) (fun k hk => hk.2.1) (fun k hk => by { have := blk_lt BB.out; have := blk_lt BR.out; have := below_size HB.out; omega }) BR.out BB.out HO.out (Kd.C_below HR1.out HB.out) (fun h0 ad e => by { have hh := HR1.out; rw [e] at hh; have hlt := Kd.C_lt hh h0 (by decide); exact ⟨by have := GR.out; have := GB.out; omega, fun k hk => by have := hk.1; omega⟩ }) (fun h0 ad e => by { have hh := HR1.out; rw [e] at hh; have hlt := Kd.C_lt hh h0 (by decide); have := below_size HB.out; omega }) (by omega) (by rw [HRL2.out]; have := HN.out; omega)).mono ?_; rintro e w11 ⟨rfl, v8, hr8, hb8, hR8, hB8, hs8, hk8⟩; have n0_ := Aside0.mk hr8; have n1_ := Aside0.mk hb8; have n2_ := Aside0.mk hR8; have n3_ := Aside0.mk hB8; clear BB BR HO HB hr8 hb8 hR8 hB8 hs8 hk8; have BR := n0_; have BB := n1_; have HO := n2_; have HB := n3_; clear n0_ n1_ n2_ n3_)
          generalize hrow3 : layR 256 row2 l1 = row3 at HO
          have HRW3 := Aside0.mk hrow3
          have HRL3 : Aside0 (row3.length ≤ 256) := ⟨by rw [← hrow3, layR_len, HRL2.out]; have := HN.out; omega⟩
          clear hrow3
          obtain ⟨A9, c9, hv9⟩ := Kd.R_slice HO.out
          subst hv9
          have fr := blk_frozen BR.out 0
          have zr : _ = some (Value.slice A9 row3.length c9) := (blk_cell BR.out 0).trans rfl
          have zb : _ = some (Value.int IntKind.i64 256) := (blk_cell BB.out 0).trans rfl
          go_wp2_with ((with_reducible refine gate_builtin (b := .append) (xs := #[.tmp 62, .tmp 65]) rfl ?_); at_builtin; refine Kd.R_append k64 (w0 := w) w.heap.size rfl (.tmp 62) (.tmp 65) 32 64 (.agg #[(.int .i64 0), (.int .u8 0)]) 16 rfl Tryd.underlying32 info64 rfl (by decide) (by omega) (.slice A9 row3.length c9) row3 (⟨256, 165⟩ : S64) [.int .i64 256, .int .u8 165] (fun _ => True) (fun _ => False) rfl (by first | (go_simp; done) | (go_simp; rfl)) ?aP (fun _ hk => hk.elim) ?aF ?aO ?aB ?aS ?aL ?_; (case aP => exact k64_mkM _ _ _ (⟨256, 165⟩ : S64)); (case aB => exact HB.out); (case aF => exact fun _ _ => trivial); (case aO => exact Kd.R_mono HO.out (fun _ _ => trivial)); (case aS => exact below_size HB.out); (case aL => have := HRL3.out; omega); intro v1 w12 ho hb hg hat; have n0_ := Aside0.mk ho; have n1_ := Aside0.mk hb; clear ho hb hg hat zr zb fr)
          go_ret2
          refine ⟨_, rfl, ?_, n1_.out⟩
          have hfin : row3 ++ [(⟨256, 165⟩ : S64)] = rowR 256 ((rd (xs.take 256) 1 + 1) % 256) l1 := by
            unfold rowR
            rw [HGE.out, HRW1.out, HRW2.out, HRW3.out]
          rw [← hfin]
          exact n0_.out
        · rw [hk] at H2 ⊢
          rw [if_neg (by decide), if_pos rfl] at H2
          simp only [Option.some.injEq, Prod.mk.injEq] at H2
          obtain ⟨rfl, rfl⟩ := H2
          clear hk
          go_upto_region 9 with (fail)
          go_quiet (fail)
          go_upto_region 10 with (fail)
          obtain ⟨ge, hge⟩ : ∃ ge : Int, (rd (xs.drop 256) 1 + 1) % 256 = ge := ⟨_, rfl⟩
          have hgv : Value.int IntKind.u8 ((rd (xs.drop 256) 1 + 1) % 256) = Value.int IntKind.u8 ge := by rw [hge]
          have hg0 : 0 ≤ ge ∧ ge ≤ 255 := by omega
          rw [hgv]
          have HGE := Aside0.mk hge
          have HG0 := Aside0.mk hg0
          have HB5 : Aside0 (Below w.heap.size w (w5.drewN nq)) := ⟨pw_below_drewN HB.out _⟩
          clear hge hg0 hgv zx zy gx gy RG HB
          generalize w5.drewN nq = w6 at HB5 ⊢
          obtain ⟨gb, hgb⟩ : ∃ gb, w6.heap.size = gb := ⟨_, rfl⟩
          have GB : Aside0 (w.heap.size ≤ gb) := ⟨by have := below_size HB5.out; omega⟩
          have GBE := Aside0.mk hgb
          go_upto_region 12 with (fail)
          clear hgb
          obtain ⟨gr, hgr⟩ : ∃ gr, gb + 1 + 1 = gr := ⟨_, rfl⟩
          have GR : Aside0 (gb + 2 = gr) := ⟨by omega⟩
          rw [hgr]
          have hw0 := below_size HB5.out
          have x1 := blk_alloc (blk_alloc (blk_new w6 (Obj.cells #[Value.int IntKind.i64 0] 3)) (Obj.cells #[Value.int IntKind.i64 0, Value.int IntKind.u8 0] 64)) (Obj.cells #[Value.slice (some { block := gb + 1, off := 0 }) 1 1] 32)
          have x2 := blk_new ((w6.alloc (Obj.cells #[Value.int IntKind.i64 0] 3)).alloc (Obj.cells #[Value.int IntKind.i64 0, Value.int IntKind.u8 0] 64)) (Obj.cells #[Value.slice (some { block := gb + 1, off := 0 }) 1 1] 32)
          have x3 := Kd.R_alloc (R_made64 (w6.alloc (Obj.cells #[Value.int IntKind.i64 0] 3)) w.heap.size (fun k => w.heap.size ≤ k ∧ k ≠ gb ∧ k ≠ gr) 0 0 (by rw [World.size_alloc]; omega) (by rw [World.size_alloc, GBE.out]; have := GB.out; omega)) (Obj.cells #[Value.slice (some { block := gb + 1, off := 0 }) 1 1] 32)
          have x4 := below_alloc (below_alloc (below_alloc HB5.out (Obj.cells #[Value.int IntKind.i64 0] 3)) (Obj.cells #[Value.int IntKind.i64 0, Value.int IntKind.u8 0] 64)) (Obj.cells #[Value.slice (some { block := gb + 1, off := 0 }) 1 1] 32)
          rw [World.size_alloc, GBE.out] at x3
          rw [World.size_alloc, World.size_alloc, GBE.out, hgr] at x2
          rw [GBE.out] at x1
          generalize (((w6.alloc (Obj.cells #[Value.int IntKind.i64 0] 3)).alloc (Obj.cells #[Value.int IntKind.i64 0, Value.int IntKind.u8 0] 64)).alloc (Obj.cells #[Value.slice (some { block := gb + 1, off := 0 }) 1 1] 32)) = w7 at x1 x2 x3 x4 ⊢
          clear hgr hw0 GBE HB5
          have BB := Aside0.mk x1
          have BR := Aside0.mk x2
          have HO := Aside0.mk x3
          have HB := Aside0.mk x4
          clear x1 x2 x3 x4
          go_upto_region 14 with (go_at_call 37; refine (lay_calls w gr gb 0 [⟨0, 0⟩] _ (fun k => (w.heap.size ≤ k ∧ k ≠ gb ∧ k ≠ gr) ∧ k ≠ w7.heap.size) (some ⟨w7.heap.size, 0, none⟩) 3 [ge, (l1.length : Int) / 256 % 256, (l1.length : Int) % 256] _ (below_alloc HB.out _) (by have := GR.out; have := GB.out; omega) GB.out (by have := GR.out; omega) (fun k hk => hk.1.2.2) (fun k hk => hk.1.2.1) (fun k hk => by { rw [World.size_alloc] at hk; have := blk_lt BB.out; have := blk_lt BR.out; have := below_size HB.out; omega }) (blk_alloc BR.out _) (blk_alloc BB.out _) (Kd.R_alloc (Kd.R_elderB HO.out _ (Nat.le_refl _)) _) (C_of_block (blk_new _ _) rfl (by simp)) (fun _ ad e => by { cases e; exact ⟨by have := blk_lt BR.out; show w7.heap.size ≠ gr; omega, fun k hk => hk.2⟩ }) (fun _ ad e => by { cases e; rw [World.size_alloc]; exact Nat.lt_succ_self _ }) (by omega) (by simp)).mono ?_; rintro e w8 ⟨rfl, v8, hr8, hb8, hR8, hB8, hs8, hk8⟩; have n0_ := Aside0.mk hr8; have n1_ := Aside0.mk hb8; have n2_ := Aside0.mk (Kd.R_mono hR8 (fun k hk => hk.1)); have n3_ := Aside0.mk hB8; clear BB BR HO HB hr8 hb8 hR8 hB8 hs8 hk8; have BR := n0_; have BB := n1_; have HO := n2_; have HB := n3_; clear n0_ n1_ n2_ n3_)
          generalize hrow1 : layR 0 [(⟨0, 0⟩ : S64)] [ge, (l1.length : Int) / 256 % 256, (l1.length : Int) % 256] = row1 at HO
          have HRW1 := Aside0.mk hrow1
          have HRL1 : Aside0 (row1.length = 4) := ⟨by rw [← hrow1, layR_len]; rfl⟩
          clear hrow1
          go_upto_region 15 with (first | (go_at_call 39; refine (nvram_Sum.calls ge A1 c1 l1 _ HG0.out.1 HG0.out.2 (Kd.C_below HR1.out HB.out) HC1.out HBY.out.2 (by have := HN.out; omega)).mono ?_; rintro e w9 ⟨rfl, hb9⟩; have n0_ := Aside0.mk (blk_below BR.out hb9); have n1_ := Aside0.mk (blk_below BB.out hb9); have n2_ := Aside0.mk (Kd.R_below HO.out hb9); have n3_ := Aside0.mk (below_step HB.out hb9); clear BB BR HO HB hb9; have BR := n0_; have BB := n1_; have HO := n2_; have HB := n3_; clear n0_ n1_ n2_ n3_) | (go_at_call 38; refine (nvram_four.calls (sumR ge l1) (fourR (sumR ge l1)) _ rfl).mono ?_; rintro e w10 ⟨v4, rfl, hR4, hb10⟩; obtain ⟨g4, c4, hv4, hg4, hl4, _⟩ := Kd.R_form hR4 (by show 0 < 4; decide); subst hv4; have HG4 := Aside0.mk hg4; have HL4 := Aside0.mk hl4; have HR4 := Aside0.mk (Kd.R_reads' hR4).2.2; have n0_ := Aside0.mk (blk_below BR.out hb10); have n1_ := Aside0.mk (blk_below BB.out hb10); have n2_ := Aside0.mk (Kd.R_below (Kd.R_elderB HO.out g4 hg4) hb10); have n3_ := Aside0.mk (below_step HB.out hb10); have NR4 : Aside0 (g4 ≠ gr ∧ g4 ≠ gb) := ⟨by have := blk_lt BB.out; have := blk_lt BR.out; omega⟩; clear BB BR HO HB hb10 hR4 hg4 hl4; have BR := n0_; have BB := n1_; have HO := n2_; have HB := n3_; clear n0_ n1_ n2_ n3_) | (go_at_call 37; refine (lay_calls w gr gb 0 row1 _ (fun k => (w.heap.size ≤ k ∧ k ≠ gb ∧ k ≠ gr) ∧ k ≠ g4) (some ⟨g4, 0, none⟩) c4 (fourR (sumR ge l1)) _ HB.out (by have := GR.out; have := GB.out; omega) GB.out (by have := GR.out; omega) (fun k hk => hk.1.2.2) (fun k hk => hk.1.2.1) (fun k hk => by { have := blk_lt BB.out; have := blk_lt BR.out; have := below_size HB.out; have := HL4.out; omega }) BR.out BB.out HO.out HR4.out (fun _ ad e => by { cases e; exact ⟨NR4.out.1, fun k hk => hk.2⟩ }) (fun _ ad e => by { cases e; exact HL4.out }) (by omega) (by rw [HRL1.out]; show 4 + 4 ≤ 1000; decide)).mono ?_; rintro e w11 ⟨rfl, v8, hr8, hb8, hR8, hB8, hs8, hk8⟩; have n0_ := Aside0.mk hr8; have n1_ := Aside0.mk hb8; have n2_ := Aside0.mk (Kd.R_mono hR8 (fun k hk => hk.1)); have n3_ := Aside0.mk hB8; clear BB BR HO HB hr8 hb8 hR8 hB8 hs8 hk8 HR4 HL4 HG4; have BR := n0_; have BB := n1_; have HO := n2_; have HB := n3_; clear n0_ n1_ n2_ n3_))
          generalize hrow2 : layR 0 row1 (fourR (sumR ge l1)) = row2 at HO
          have HRW2 := Aside0.mk hrow2
          have HRL2 : Aside0 (row2.length = 8) := ⟨by rw [← hrow2, layR_len, HRL1.out]; rfl⟩
          clear hrow2
          go_upto_region 16 with (go_at_call 37; refine (lay_calls w gr gb 0 row2 _ (fun k => w.heap.size ≤ k ∧ k ≠ gb ∧ k ≠ gr) A1 c1 l1 _ HB.out (by have := GR.out; have := GB.out; omega) GB.out (by have := GR.out; omega) (fun k hk => hk.2.2) (fun k hk => hk.2.1) (fun k hk => by { have := blk_lt BB.out; have := blk_lt BR.out; have := below_size HB.out; omega }) BR.out BB.out HO.out (Kd.C_below HR1.out HB.out) (fun h0 ad e => by { have hh := HR1.out; rw [e] at hh; have hlt := Kd.C_lt hh h0 (by decide); exact ⟨by have := GR.out; have := GB.out; omega, fun k hk => by have := hk.1; omega⟩ }) (fun h0 ad e => by { have hh := HR1.out; rw [e] at hh; have hlt := Kd.C_lt hh h0 (by decide); have := below_size HB.out; omega }) (by omega) (by rw [HRL2.out]; have := HN.out; omega)).mono ?_; rintro e w11 ⟨rfl, v8, hr8, hb8, hR8, hB8, hs8, hk8⟩; have n0_ := Aside0.mk hr8; have n1_ := Aside0.mk hb8; have n2_ := Aside0.mk hR8; have n3_ := Aside0.mk hB8; clear BB BR HO HB hr8 hb8 hR8 hB8 hs8 hk8; have BR := n0_; have BB := n1_; have HO := n2_; have HB := n3_; clear n0_ n1_ n2_ n3_)
          generalize hrow3 : layR 0 row2 l1 = row3 at HO
          have HRW3 := Aside0.mk hrow3
          have HRL3 : Aside0 (row3.length ≤ 256) := ⟨by rw [← hrow3, layR_len, HRL2.out]; have := HN.out; omega⟩
          clear hrow3
          obtain ⟨A9, c9, hv9⟩ := Kd.R_slice HO.out
          subst hv9
          have fr := blk_frozen BR.out 0
          have zr : _ = some (Value.slice A9 row3.length c9) := (blk_cell BR.out 0).trans rfl
          have zb : _ = some (Value.int IntKind.i64 0) := (blk_cell BB.out 0).trans rfl
          go_wp2_with ((with_reducible refine gate_builtin (b := .append) (xs := #[.tmp 62, .tmp 65]) rfl ?_); at_builtin; refine Kd.R_append k64 (w0 := w) w.heap.size rfl (.tmp 62) (.tmp 65) 32 64 (.agg #[(.int .i64 0), (.int .u8 0)]) 16 rfl Tryd.underlying32 info64 rfl (by decide) (by omega) (.slice A9 row3.length c9) row3 (⟨0, 165⟩ : S64) [.int .i64 0, .int .u8 165] (fun _ => True) (fun _ => False) rfl (by first | (go_simp; done) | (go_simp; rfl)) ?aP (fun _ hk => hk.elim) ?aF ?aO ?aB ?aS ?aL ?_; (case aP => exact k64_mkM _ _ _ (⟨0, 165⟩ : S64)); (case aB => exact HB.out); (case aF => exact fun _ _ => trivial); (case aO => exact Kd.R_mono HO.out (fun _ _ => trivial)); (case aS => exact below_size HB.out); (case aL => have := HRL3.out; omega); intro v1 w12 ho hb hg hat; have n0_ := Aside0.mk ho; have n1_ := Aside0.mk hb; clear ho hb hg hat zr zb fr)
          go_ret2
          refine ⟨_, rfl, ?_, n1_.out⟩
          have hfin : row3 ++ [(⟨0, 165⟩ : S64)] = rowR 0 ((rd (xs.drop 256) 1 + 1) % 256) l1 := by
            unfold rowR
            rw [HGE.out, HRW1.out, HRW2.out, HRW3.out]
          rw [← hfin]
          exact n0_.out
      · rw [if_neg hn] at H2
        have hnb : decide (248 < (l1.length : Int)) = true := decide_eq_true (by omega)
        have hnc : (248 < l1.length) = True := eq_true (by omega)
        simp only [Option.some.injEq, Prod.mk.injEq] at H2
        obtain ⟨rfl, rfl⟩ := H2
        clear hl hn
        go_wp2
        go_ret2
        exact ⟨_, rfl, Kd.R_nil _ _ _ _ _, HB.out⟩
  · rw [if_neg hby] at h
    cases h
end

end Go.Proofs.YtdobpgomgnaleaaDoor.P
