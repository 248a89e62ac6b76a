/- The machine's side: functions of the translation as plain Lean functions, and that the machine's calls come to what they say. No condition. Written by a program (wip/tools/pp.py over the kit's printer); Lean checks it. -/
import Derived.Test.YtdobpgomgnaleaaDoorPx0
import Derived.Test.YtdobpgomgnaleaaDoorPx2
namespace Go.Proofs.YtdobpgomgnaleaaDoor.P
open Go.RowKit Go.Proofs.YtdobpgomgnaleaaDoorW.PrintWords Go.Proofs.YtdobpgomgnaleaaDoorW.PrintLast Go.Proofs.YtdobpgomgnaleaaDoorW.PrintMore
attribute [local go_sem] max2_int min2_int max_two min_two max_three min_three max_four min_four   -- for this text's walks alone
set_option linter.unusedVariables false
set_option linter.unusedSimpArgs false

/-! ### nvram_both: function 29 -/
section
open Go.Proofs.YtdobpgomgnaleaaDoor.G
def zer : Array Value := Array.replicate 512 (.int .u8 0)
theorem info69 : (Tryd.prog.info? 69).map (fun i => (i.zero, i.size)) = some (some (.agg zer), 512) := by kernel_rfl
theorem size69 : (Tryd.prog.info? 69).map (·.size) = some 512 := by kernel_rfl
theorem size68 : (Tryd.prog.info? 68).map (·.size) = some 256 := by kernel_rfl
theorem alloc69 (W : World) : (Instr.alloc 69 true (.tuple #[])).run Tryd.prog W = .ok (.pointer (some ⟨W.heap.size, 0, none⟩)) (W.alloc (.cells zer 69 (0, 0))) := by
  have h := info69
  cases hi : Tryd.prog.info? 69 with
  | none => rw [hi] at h; cases h
  | some i =>
    rw [hi] at h
    simp only [Option.map_some, Option.some.injEq, Prod.mk.injEq] at h
    simp [Instr.alloc, zeroValue, typeInfo, newVar, hi, h.1, go_sem]
theorem wpList_alloc69 {ops : Array Oper} {rest : List Oper} {o : Oper} {a : Act} {Q : Exit → Act → World → Prop} {W : World} (hgd : o.guard = none) (ho : o.op = .alloc 69)
    (h : ∀ g, g = W.heap.size → ∀ w1, w1.heap[g]? = some (.cells zer 69 (0, 0)) → Below W.heap.size W w1 → wpList Tryd.prog ops Q rest (a.put o.dst (.pointer (some ⟨g, 0, none⟩))) w1) : wpList Tryd.prog ops Q (o :: rest) a W :=
  Kd.event_run hgd (by unfold execOp; simp only [ho, Sem.run_bind, alloc69, Result.andThen_ok, Sem.run_pure]) (h _ rfl _ (blk_new W _) (below_alloc (Below.refl _ _) _))
/-- A row of bytes as cells. -/
def by8 (l : List Int) : List Value := l.map (Value.int .u8)
theorem by8_len (l : List Int) : (by8 l).length = l.length := List.length_map _
theorem by8_one (l : List Int) : (by8 l).toArray.all (·.oneCell') = true := all_oneCell_toArray (fun v hv => by
  obtain ⟨x, _, rfl⟩ := List.mem_map.1 hv
  rfl)
theorem range_of_C {w : World} {b o : Nat} {l : List Int} (h : Kd.C (Kd.int .u8) w (some ⟨b, o, none⟩) l.length l) : w.rangeAt b o (by8 l) := fun j v hv => by
  unfold by8 at hv
  rw [List.getElem?_map] at hv
  obtain ⟨x, hx, rfl⟩ := Option.map_eq_some_iff.1 hv
  have hj := (List.getElem?_eq_some_iff.1 hx).1
  have e := bank_cell h j hj
  rw [e]
  show some (Value.int .u8 (l.getD ((j : Int).toNat) 0)) = _
  rw [Int.toNat_natCast, List.getD_eq_getElem?_getD, hx]
  rfl
theorem C_of_range {w : World} {b o : Nat} {l : List Int} (h : w.rangeAt b o (by8 l)) (hl : l.length < 1000) : Kd.C (Kd.int .u8) w (some ⟨b, o, none⟩) l.length l := by
  refine Kd.C_of_reads (d := 0) ?_
  refine ⟨rfl, by omega, fun h0 => ⟨_, rfl, fun j hj => ?_⟩⟩
  rw [add_at]
  refine h j _ ?_
  unfold by8
  rw [List.getElem?_map, List.getElem?_eq_getElem hj, List.getD_eq_getElem?_getD, List.getElem?_eq_getElem hj]
  rfl
theorem spot_of_C {w : World} {ad : Addr} {l : List Int} (h : Kd.C (Kd.int .u8) w (some ad) l.length l) (h0 : 0 < l.length) : ∃ b o, ad = ⟨b, o, none⟩ := by
  obtain ⟨ad', e, hx⟩ := Kd.at_int h 0 (by omega) (by omega)
  cases e
  obtain ⟨b, o, s⟩ := ad
  cases s with
  | none => exact ⟨b, o, rfl⟩
  | some s =>
    rw [show (0 : Int).toNat = 0 from rfl, Addr.add, if_pos rfl] at hx
    unfold World.cell? at hx
    revert hx
    cases w.heap[b]? with
    | none => intro hx; cases hx
    | some ob => cases ob <;> (intro hx; cases hx)
theorem range_append {w : World} {b o : Nat} {xs ys : List Value} (h : w.rangeAt b o xs) (k : w.rangeAt b (o + xs.length) ys) : w.rangeAt b o (xs ++ ys) := fun j v hv => by
  by_cases hj : j < xs.length
  · rw [List.getElem?_append_left hj] at hv
    exact h j v hv
  · rw [List.getElem?_append_right (by omega)] at hv
    have := k _ v hv
    rw [show o + xs.length + (j - xs.length) = o + j by omega] at this
    exact this
theorem there_of_block {w : World} {b : Nat} {C : Array Value} {t : TypeId} (hb : w.heap[b]? = some (.cells C t (0, 0))) (o n : Nat) (h : o + n ≤ C.size) : w.there b o n := fun j hj =>
  ⟨by rw [blk_cell hb, Array.getElem?_eq_getElem (by omega)]; rfl, blk_frozen hb _⟩
theorem there_cut {w : World} {b o n : Nat} (h : w.there b o n) (i m : Nat) (hi : i + m ≤ n) : w.there b (o + i) m := fun j hj => by
  have := h (i + j) (by omega)
  rw [← Nat.add_assoc] at this
  exact this
theorem below_setCells {w : World} {g : Nat} (hg : w.heap.size ≤ g) : ∀ (vs : List Value) (o : Nat) {W : World}, Below w.heap.size w W → Below w.heap.size w (W.setCells g o vs)
  | [], _, _, h => h
  | v :: vs, o, W, h => by
    rw [World.setCells]
    exact below_setCells hg vs (o + 1) (below_set h hg)

theorem results_cell_tmp {P : Program} {fn : Func} {p q : Tmp} {ty : TypeId} (h : fn.results = #[.cell p ty, .tmp q]) (tmps : Array Value) (w : World) (g : Nat) (cs : List Value) (d : TypeDesc)
    (hp : tmps.getD p undef = .pointer (some ⟨g, 0, none⟩)) (hc : w.rangeAt g 0 cs) (hu : P.underlying ty = some d) (hd : d.isRow = true) (hi : (P.info? ty).map (·.size) = some cs.length) (v : Value) (hv : tmps.getD q undef = v) :
    (results fn tmps).run P w = .ok (.tuple #[.agg cs.toArray, v]) w := by
  have hp' : tmps[p]?.getD undef = .pointer (some ⟨g, 0, none⟩) := by simpa using hp
  have hv' : tmps[q]?.getD undef = v := by simpa using hv
  simp [results, h, hp', hv', asAddr, run_loadVar_mid w g 0 ty cs d hc hu hd hi]
theorem cut22 (W : World) (b o c0 lo hi : Nat) (h1 : lo ≤ hi) (h2 : hi ≤ c0) (h3 : lo < c0) :
    (Instr.slice 22 (.slice (some ⟨b, o, none⟩) 512 c0) (some (.int .i64 (lo : Int))) (some (.int .i64 (hi : Int))) none).run Tryd.prog W = .ok (.slice (some ⟨b, o + lo, none⟩) (hi - lo) (c0 - lo)) W := by
  have hu := Tryd.underlying22
  have he : Tryd.prog.elem 22 = 5 := by simp only [Program.elem, hu]
  rw [run_slice_lh W 22 (some ⟨b, o, none⟩) 512 c0 (by rw [he, hu]) .i64 .i64 lo hi (by omega) (by omega) (by omega)]
  obtain ⟨i0, hi0, _, hs, _⟩ := info_parts info5
  simp [sizeOf, typeInfo, he, hi0, hs, Result.andThen, sliced]
  rw [if_neg (show ¬ (c0 = lo) by omega)]
  exact congrArg some (add_at _ _ _)
theorem arr22 (W : World) (A : Option Addr) (c : Nat) : (Instr.arrayAt 68 (.slice A 256 c)).run Tryd.prog W = .ok (.pointer A) W := run_arrayAt (w := W) 68 5 256 A 256 c Tryd.underlying68 (Nat.le_refl _)
set_option maxHeartbeats 4000000 in
set_option maxRecDepth 100000 in
theorem nvram_both.yes (A0 : Option Addr) (c0 : Nat) (l0 : List Int) (w : World) (hr0 : Kd.C (Kd.int .u8) w A0 l0.length l0) (hc0 : l0.length ≤ c0) (hl : l0.length = 512) :
    Calls Tryd.prog 29 #[.slice A0 512 c0] w fun e w' => e = .returned (.tuple #[.agg (by8 l0).toArray, .bool true]) ∧ Below w.heap.size w w' := by
  have HB := Aside0.mk (Below.refl w.heap.size w)
  obtain ⟨ad, rfl, _⟩ := hr0.2.2 (by omega)
  obtain ⟨b, o, rfl⟩ := spot_of_C hr0 (by omega)
  have HR := Aside0.mk hr0
  have HL := Aside0.mk hl
  have HC0 := Aside0.mk hc0
  clear hr0 hl hc0
  go_enter Tryd.func29, Tryd.ntmps29
  go_upto_region 1 with ((with_reducible refine gate_dst (N := 2) rfl ?_); refine wpList_alloc69 rfl rfl ?_; intro g hg w2 hbox hb)
  clear HB
  have n0_ := Aside0.mk hbox
  have HB := Aside0.mk hb
  obtain ⟨g, hg'⟩ : ∃ g, w.heap.size = g := ⟨_, rfl⟩
  have GE : Aside0 (w.heap.size ≤ g) := ⟨by omega⟩
  clear hbox hb
  rw [hg] at n0_
  rw [hg'] at n0_ ⊢
  clear hg hg'
  have BK := n0_
  clear n0_
  have TH : Aside0 (w2.there g 0 512) := ⟨there_of_block BK.out 0 512 (by show 0 + 512 ≤ (Array.replicate 512 _).size; rw [Array.size_replicate]; omega)⟩
  clear BK
  go_wp2
  go_loopg [9] 2 (fun kq v w' => ∃ (j : Nat), v = .int .i64 j ∧ Aside0 (j + kq = 2) ∧ Aside0 (w'.there g 0 512) ∧ Aside0 (w'.rangeAt g 0 (by8 (l0.take (256 * j)))) ∧ Aside0 (Below w.heap.size w w'))
  case atStart => exact ⟨0, rfl, ⟨rfl⟩, TH, ⟨fun j v hv => by simp [by8] at hv⟩, HB⟩
  case round =>
    clear HB TH
    obtain ⟨j, rfl, HJ, TH, RG, HB⟩ := hrel
    cases gk with
    | zero =>
      have hj : j = 2 := by have := HJ.out; omega
      subst hj
      have RG2 := RG.out
      rw [List.take_of_length_le (by have := HL.out; omega)] at RG2
      have RG3 := Aside0.mk RG2
      clear RG2 RG
      have hu69 := Tryd.underlying69
      have hb8 : (by8 l0).length = 512 := by rw [by8_len, HL.out]
      have hs69 : (Tryd.prog.info? 69).map (·.size) = some (by8 l0).length := by rw [hb8]; exact size69
      have hs69' : (Tryd.prog.info? 69).map (·.size) = some (by8 l0).toArray.size := by rw [List.size_toArray]; exact hs69
      have hth : wr.there g 0 (by8 l0).toArray.size := by rw [List.size_toArray, hb8]; exact TH.out
      have HT := Aside0.mk hth
      have H6 := Aside0.mk hs69
      have H6' := Aside0.mk hs69'
      clear hth hb8 hs69 hs69'
      go_wp2_with (first | (refine wpList_load_mid rfl 69 (.tmp 2) rfl g 0 rfl (by8 l0) _ RG3.out hu69 rfl H6.out ?_) | (refine wpList_store_mid rfl 69 (.tmp 2) (.tmp 24) rfl g 0 (by8 l0).toArray rfl rfl HT.out H6'.out (by8_one _) ?_))
      refine bodyPost_ret (results_cell_tmp rfl _ _ g (by8 l0) _ rfl (World.rangeAt_setCells_same _ _ _ _ (by have := HT.out; rwa [List.size_toArray] at this)) hu69 rfl H6.out _ rfl) rfl ?_
      exact ⟨rfl, below_setCells GE.out _ _ HB.out⟩
    | succ k1 =>
      have hj2 : j < 2 := by have := HJ.out; omega
      have hat := arr22
      have hu68 := Tryd.underlying68
      have hC : ∀ lo, lo + 256 ≤ 512 → wr.rangeAt b (o + lo) (by8 ((l0.drop lo).take 256)) := fun lo hlo => range_of_C (by
        have h := C_mid8 lo 256 (Kd.C_below HR.out HB.out) (by have := HL.out; omega)
        have e : ((l0.drop lo).take 256).length = 256 := by rw [List.length_take, List.length_drop, HL.out]; omega
        exact e.symm ▸ h)
      have hL : ∀ lo, lo + 256 ≤ 512 → (by8 ((l0.drop lo).take 256)).length = 256 := fun lo hlo => by rw [by8_len, List.length_take, List.length_drop, HL.out]; omega
      have ht := TH.out
      have hJ2 : by8 (l0.take (256 * (j + 1))) = by8 (l0.take (256 * j)) ++ by8 ((l0.drop (256 * j)).take 256) := by
        unfold by8
        rw [← List.map_append, Nat.mul_add, Nat.mul_one, List.take_add]
      have HJ2 := Aside0.mk hJ2
      have hl1 : (by8 (l0.take (256 * j))).length = 256 * j := by rw [by8_len, List.length_take, HL.out]; omega
      have RG2 := RG.out
      rcases (show j = 0 ∨ j = 1 by omega) with rfl | rfl
      · have h1 := hC 0 (by omega)
        have LN := hL 0 (by omega)
        have hsl : ∀ W, (Instr.slice 22 (.slice (some ⟨b, o, none⟩) 512 c0) (some (.int .i64 0)) (some (.int .i64 256)) none).run Tryd.prog W = .ok (.slice (some ⟨b, o, none⟩) 256 (c0)) W := fun W => cut22 W b o c0 0 256 (by omega) (by have := HL.out; have := HC0.out; omega) (by have := HL.out; have := HC0.out; omega)
        generalize hvs : by8 ((l0.drop 0).take 256) = vs at h1 LN
        have RG1 : Aside0 (wr.rangeAt b (o) vs) := ⟨h1⟩
        have H6 : Aside0 ((Tryd.prog.info? 68).map (·.size) = some vs.length) := ⟨by rw [LN]; exact size68⟩
        have H6' : Aside0 ((Tryd.prog.info? 68).map (·.size) = some vs.toArray.size) := ⟨by rw [List.size_toArray, LN]; exact size68⟩
        have HT : Aside0 (wr.there g 0 vs.toArray.size) := ⟨by rw [List.size_toArray, LN]; exact there_cut ht 0 256 (by omega)⟩
        have HV := Aside0.mk hvs
        have HONE : Aside0 (vs.toArray.all (·.oneCell') = true) := ⟨by rw [← hvs]; exact by8_one _⟩
        have hN : Aside0 ((wr.setCells g 0 vs).rangeAt g 0 (by8 (l0.take (256 * (0 + 1))))) := ⟨by
          rw [HJ2.out, show 256 * 0 = 0 from rfl, hvs]
          refine range_append (World.rangeAt_setCells_apart RG2 _ _ _ (.inr (.inl (by rw [hl1]; omega)))) ?_
          rw [show (by8 (l0.take 0)).length = 0 from hl1]
          have e := World.rangeAt_setCells_same wr g 0 vs (by rw [LN]; exact there_cut ht 0 256 (by omega))
          rwa [show 0 + 0 = 0 by omega]⟩
        clear hC hL hj2 ht LN hvs h1 hJ2 hl1 RG2
        go_wp2_with (first | (refine wpList_load_mid rfl 68 (.tmp 20) rfl b (o) rfl vs _ RG1.out hu68 rfl H6.out ?_) | (refine wpList_store_mid rfl 68 (.tmp 22) (.tmp 21) rfl g 0 vs.toArray rfl rfl HT.out H6'.out HONE.out ?_))
        go_roundg k1
        case measure => omega
        case rel => exact ⟨0 + 1, rfl, ⟨by have := HJ.out; omega⟩, ⟨World.there_setCells TH.out _ _ _⟩, hN, ⟨below_setCells GE.out _ _ HB.out⟩⟩
      · have h1 := hC 256 (by omega)
        have LN := hL 256 (by omega)
        have hsl : ∀ W, (Instr.slice 22 (.slice (some ⟨b, o, none⟩) 512 c0) (some (.int .i64 256)) (some (.int .i64 512)) none).run Tryd.prog W = .ok (.slice (some ⟨b, o + 256, none⟩) 256 (c0 - 256)) W := fun W => cut22 W b o c0 256 512 (by omega) (by have := HL.out; have := HC0.out; omega) (by have := HL.out; have := HC0.out; omega)
        generalize hvs : by8 ((l0.drop 256).take 256) = vs at h1 LN
        have RG1 : Aside0 (wr.rangeAt b (o + 256) vs) := ⟨h1⟩
        have H6 : Aside0 ((Tryd.prog.info? 68).map (·.size) = some vs.length) := ⟨by rw [LN]; exact size68⟩
        have H6' : Aside0 ((Tryd.prog.info? 68).map (·.size) = some vs.toArray.size) := ⟨by rw [List.size_toArray, LN]; exact size68⟩
        have HT : Aside0 (wr.there g 256 vs.toArray.size) := ⟨by rw [List.size_toArray, LN]; exact there_cut ht 256 256 (by omega)⟩
        have HV := Aside0.mk hvs
        have HONE : Aside0 (vs.toArray.all (·.oneCell') = true) := ⟨by rw [← hvs]; exact by8_one _⟩
        have hN : Aside0 ((wr.setCells g 256 vs).rangeAt g 0 (by8 (l0.take (256 * (1 + 1))))) := ⟨by
          rw [HJ2.out, show 256 * 1 = 256 from rfl, hvs]
          refine range_append (World.rangeAt_setCells_apart RG2 _ _ _ (.inr (.inl (by rw [hl1]; omega)))) ?_
          rw [show (by8 (l0.take 256)).length = 256 from hl1]
          have e := World.rangeAt_setCells_same wr g 256 vs (by rw [LN]; exact there_cut ht 256 256 (by omega))
          rwa [show 0 + 256 = 256 by omega]⟩
        clear hC hL hj2 ht LN hvs h1 hJ2 hl1 RG2
        go_wp2_with (first | (refine wpList_load_mid rfl 68 (.tmp 20) rfl b (o + 256) rfl vs _ RG1.out hu68 rfl H6.out ?_) | (refine wpList_store_mid rfl 68 (.tmp 22) (.tmp 21) rfl g 256 vs.toArray rfl rfl HT.out H6'.out HONE.out ?_))
        go_roundg k1
        case measure => omega
        case rel => exact ⟨1 + 1, rfl, ⟨by have := HJ.out; omega⟩, ⟨World.there_setCells TH.out _ _ _⟩, hN, ⟨below_setCells GE.out _ _ HB.out⟩⟩
theorem zer_range {w : World} {g : Nat} (h : w.heap[g]? = some (.cells zer 69 (0, 0))) : w.rangeAt g 0 (by8 (List.replicate 512 0)) := fun j v hv => by
  unfold by8 at hv
  rw [List.getElem?_map] at hv
  obtain ⟨x, hx, rfl⟩ := Option.map_eq_some_iff.1 hv
  have hj := (List.getElem?_eq_some_iff.1 hx).1
  rw [List.length_replicate] at hj
  rw [List.getElem?_replicate, if_pos hj] at hx
  cases hx
  rw [blk_cell h]
  show (Array.replicate 512 (Value.int .u8 0))[0 + j]? = _
  rw [Array.getElem?_replicate, if_pos (by omega)]
set_option maxHeartbeats 4000000 in
set_option maxRecDepth 100000 in
theorem nvram_both.no (A0 : Option Addr) (c0 : Nat) (n : Nat) (w : World) (hl : n ≠ 512) :
    Calls Tryd.prog 29 #[.slice A0 n c0] w fun e w' => e = .returned (.tuple #[.agg (by8 (List.replicate 512 0)).toArray, .bool false]) ∧ Below w.heap.size w w' := by
  have HB := Aside0.mk (Below.refl w.heap.size w)
  have hb1 : ((n : Int) != 512) = true := bne_iff_ne.mpr (by omega)
  have hb2 : (n = 512) = False := eq_false hl
  clear hl
  go_enter Tryd.func29, Tryd.ntmps29
  go_upto_region 1 with ((with_reducible refine gate_dst (N := 2) rfl ?_); refine wpList_alloc69 rfl rfl ?_; intro g hg w2 hbox hb)
  clear HB
  have n0_ := Aside0.mk hbox
  have HB := Aside0.mk hb
  obtain ⟨g, hg'⟩ : ∃ g, w.heap.size = g := ⟨_, rfl⟩
  have GE : Aside0 (w.heap.size ≤ g) := ⟨by omega⟩
  clear hbox hb
  rw [hg] at n0_
  rw [hg'] at n0_ ⊢
  clear hg hg'
  have BK := n0_
  clear n0_
  have TH : Aside0 (w2.there g 0 512) := ⟨there_of_block BK.out 0 512 (by show 0 + 512 ≤ (Array.replicate 512 _).size; rw [Array.size_replicate]; omega)⟩
  have RG := Aside0.mk (zer_range BK.out)
  obtain ⟨vs, hvs⟩ : ∃ vs, by8 (List.replicate 512 0) = vs := ⟨_, rfl⟩
  have hone : vs.toArray.all (·.oneCell') = true := by rw [← hvs]; exact by8_one _
  have hb8 : vs.length = 512 := by rw [← hvs, by8_len, List.length_replicate]
  rw [hvs] at RG
  have HV := Aside0.mk hvs
  clear hvs BK
  have HONE := Aside0.mk hone
  have hu69 := Tryd.underlying69
  have H6 : Aside0 ((Tryd.prog.info? 69).map (·.size) = some vs.length) := ⟨by rw [hb8]; exact size69⟩
  have H6' : Aside0 ((Tryd.prog.info? 69).map (·.size) = some vs.toArray.size) := ⟨by rw [List.size_toArray, hb8]; exact size69⟩
  have HT : Aside0 (w2.there g 0 vs.toArray.size) := ⟨by rw [List.size_toArray, hb8]; exact TH.out⟩
  clear hone hb8 TH
  go_wp2_with (first | (refine wpList_load_mid rfl 69 (.tmp 2) rfl g 0 rfl vs _ RG.out hu69 rfl H6.out ?_) | (refine wpList_store_mid rfl 69 (.tmp 2) (.tmp 8) rfl g 0 vs.toArray rfl rfl HT.out H6'.out HONE.out ?_))
  refine bodyPost_ret (results_cell_tmp rfl _ _ g vs _ rfl (World.rangeAt_setCells_same _ _ _ _ (by have := HT.out; rwa [List.size_toArray] at this)) hu69 rfl H6.out _ rfl) rfl ?_
  exact ⟨by rw [HV.out]; rfl, below_setCells GE.out _ _ HB.out⟩
end

/-! ### nvram_counts: function 30 -/
section
open Go.Proofs.YtdobpgomgnaleaaDoor.G
def countsR (xs : List Int) : Int := if dOk (xs.drop 256) && (!dOk (xs.take 256) || rd (xs.drop 256) 1 == (rd (xs.take 256) 1 + 1) % 256) then 1 else if dOk (xs.take 256) then 0 else -1
theorem C_half {w : World} {g : Nat} {xs : List Int} (h : w.rangeAt g 0 (by8 xs)) (hl : xs.length = 512) (lo : Nat) (hlo : lo + 256 ≤ 512) : Kd.C (Kd.int .u8) w (some ⟨g, lo, none⟩) ((xs.drop lo).take 256).length ((xs.drop lo).take 256) := by
  have hC := C_of_range h (by omega)
  have h2 := C_mid8 lo 256 hC (by omega)
  have e : ((xs.drop lo).take 256).length = 256 := by rw [List.length_take, List.length_drop, hl]; omega
  rw [show 0 + lo = lo by omega] at h2
  exact e.symm ▸ h2
set_option maxHeartbeats 4000000 in
set_option maxRecDepth 100000 in
theorem nvram_counts.calls (xs : List Int) (g : Nat) (w : World) (hl : xs.length = 512) (hb : ∀ x ∈ xs, 0 ≤ x ∧ x ≤ 255) (hR : w.rangeAt g 0 (by8 xs)) :
    Calls Tryd.prog 30 #[.pointer (some ⟨g, 0, none⟩)] w fun e w' => e = .returned (.int .i64 (countsR xs)) ∧ Below w.heap.size w w' := by
  have HB := Aside0.mk (Below.refl w.heap.size w)
  have HR := Aside0.mk hR
  have HL := Aside0.mk hl
  have HBY := Aside0.mk hb
  have hx0 : (xs.drop 0).take 256 = xs.take 256 := by rw [List.drop_zero]
  have hy0 : (xs.drop 256).take 256 = xs.drop 256 := List.take_of_length_le (by rw [List.length_drop]; omega)
  have h1 := fun (W : World) (hB : Below w.heap.size w W) => (bank_data.calls (xs.take 256) g 0 W (by rw [List.length_take]; omega) (fun x hx => hb x (List.mem_of_mem_take hx)) (by have h := Kd.C_below (C_half hR hl 0 (by omega)) hB; rwa [hx0] at h)).mono (R' := fun e w' => (∃ A n c, e = .returned (.tuple #[.slice A n c, .bool (dOk (xs.take 256))])) ∧ Below w.heap.size w w') (fun e w' h => by
    obtain ⟨A, n, c, rfl, _, hb⟩ := h
    exact ⟨⟨A, n, c, rfl⟩, below_step hB hb⟩)
  have h2 := fun (W : World) (hB : Below w.heap.size w W) => (bank_data.calls (xs.drop 256) g 256 W (by rw [List.length_drop]; omega) (fun x hx => hb x (List.mem_of_mem_drop hx)) (by have h := Kd.C_below (C_half hR hl 256 (by omega)) hB; rwa [hy0] at h)).mono (R' := fun e w' => (∃ A n c, e = .returned (.tuple #[.slice A n c, .bool (dOk (xs.drop 256))])) ∧ Below w.heap.size w w') (fun e w' h => by
    obtain ⟨A, n, c, rfl, _, hb⟩ := h
    exact ⟨⟨A, n, c, rfl⟩, below_step hB hb⟩)
  have H1 := Aside0.mk h1
  have H2 := Aside0.mk h2
  clear hl hb hR hx0 hy0 h1 h2
  go_enter Tryd.func30, Tryd.ntmps30
  go_upto_region 2 with (go_at_call 31; refine (H1.out _ HB.out).mono ?_; rintro e w2 ⟨⟨A1, n1, c1, rfl⟩, hb1⟩; clear HB; have HB := Aside0.mk hb1; clear hb1)
  go_upto_region 3 with (go_at_call 31; refine (H2.out _ HB.out).mono ?_; rintro e w2 ⟨⟨A2, n2, c2, rfl⟩, hb1⟩; clear HB; have HB := Aside0.mk hb1; clear hb1)
  clear H1 H2
  have RW : Aside0 (w2.rangeAt g 0 (by8 xs)) := ⟨fun j v hv => by
    have h := HR.out j v hv
    exact (HB.out.cell (World.block_lt_of_cell? w _ h)).trans h⟩
  have hy0 : (xs.drop 256).take 256 = xs.drop 256 := List.take_of_length_le (by rw [List.length_drop, HL.out]; omega)
  have cx := C_half RW.out HL.out 0 (by omega)
  have cy := C_half RW.out HL.out 256 (by omega)
  rw [List.drop_zero] at cx
  rw [hy0] at cy
  have zx : w2.cell? ⟨g, 1, none⟩ = _ := bank_cell cx 1 (by rw [List.length_take, HL.out]; omega)
  have zy : w2.cell? ⟨g, 257, none⟩ = _ := bank_cell cy 1 (by rw [List.length_drop, HL.out]; omega)
  rw [show (((1 : Nat) : Int)) = 1 from rfl] at zx zy
  have bx := rd_by (l := xs.take 256) (fun x hx => HBY.out x (List.mem_of_mem_take hx)) 1
  have by_ := rd_by (l := xs.drop 256) (fun x hx => HBY.out x (List.mem_of_mem_drop hx)) 1
  clear cx cy hy0
  obtain ⟨r, hr⟩ : ∃ r, countsR xs = r := ⟨_, rfl⟩
  have hr2 := hr
  unfold countsR at hr2
  have HRR := Aside0.mk hr
  generalize hX : rd (xs.take 256) 1 = X at zx bx hr2
  generalize hY : rd (xs.drop 256) 1 = Y at zy by_ hr2
  generalize hdx : dOk (xs.take 256) = dx at hr2 ⊢
  generalize hdy : dOk (xs.drop 256) = dy at hr2 ⊢
  clear hr hX hY hdx hdy
  have H2 := Aside0.mk hr2
  clear hr2
  cases dy with
  | false =>
    go_quiet (fail)
    cases dx with
    | false =>
      go_wp2
      go_ret
      exact ⟨by rw [HRR.out, ← H2.out]; rfl, pw_below_drewN HB.out _⟩
    | true =>
      go_wp2
      go_ret
      exact ⟨by rw [HRR.out, ← H2.out]; rfl, pw_below_drewN HB.out _⟩
  | true =>
    cases dx with
    | false =>
      go_quiet (fail)
      go_wp2
      go_ret
      exact ⟨by rw [HRR.out, ← H2.out]; rfl, pw_below_drewN HB.out _⟩
    | true =>
      go_quiet (fail)
      by_cases h : Y = (X + 1) % 256
      · have hb : (Y == (X + 1) % 256) = true := beq_iff_eq.mpr h
        clear h
        go_wp2
        go_ret
        exact ⟨by rw [HRR.out, ← H2.out, hb]; rfl, pw_below_drewN HB.out _⟩
      · have hb : (Y == (X + 1) % 256) = false := beq_eq_false_iff_ne.mpr h
        clear h
        go_wp2
        go_ret
        exact ⟨by rw [HRR.out, ← H2.out, hb]; rfl, pw_below_drewN HB.out _⟩
end

/-! ### nvram_Recover: function 14 -/
section
open Go.Proofs.YtdobpgomgnaleaaDoor.G
def nvram_Recover.f (l0 : List Int) : Option (List Int × Int × Bool) :=
  if (∀ x ∈ l0, 0 ≤ x ∧ x ≤ 255) then (if l0.length = 512 then (if countsR l0 < 0 then some ([], 0, false) else some (dDat ((l0.drop (256 * (countsR l0).toNat)).take 256), countsR l0, true)) else some ([], 0, false)) else none
theorem counts_cases (xs : List Int) : countsR xs = -1 ∨ countsR xs = 0 ∧ dOk (xs.take 256) = true ∨ countsR xs = 1 ∧ dOk (xs.drop 256) = true := by
  unfold countsR
  cases dOk (xs.drop 256) <;> cases dOk (xs.take 256) <;> cases (rd (xs.drop 256) 1 == (rd (xs.take 256) 1 + 1) % 256) <;> simp
theorem dDat_fit (b : List Int) (hl : b.length = 256) (h : dOk b = true) : 8 + (dLen b).toNat ≤ b.length := by
  unfold dOk at h
  simp only [Bool.and_eq_true, decide_eq_true_eq] at h
  omega
theorem dDat_len (b : List Int) (hl : b.length = 256) (h : dOk b = true) : (dDat b).length = (dLen b).toNat := by
  have := dDat_fit b hl h
  unfold dDat
  rw [List.length_take, List.length_drop]
  omega
/-- What 'both' hands back, in one form. -/
theorem nvram_both.any (A0 : Option Addr) (c0 : Nat) (l0 : List Int) (w : World) (hr0 : Kd.C (Kd.int .u8) w A0 l0.length l0) (hc0 : l0.length ≤ c0) (hb : ∀ x ∈ l0, 0 ≤ x ∧ x ≤ 255) :
    Calls Tryd.prog 29 #[.slice A0 l0.length c0] w fun e w' => ∃ (xs : List Int) (ok : Bool), ok = decide (l0.length = 512) ∧ xs.length = 512 ∧ (∀ x ∈ xs, 0 ≤ x ∧ x ≤ 255) ∧ (l0.length = 512 → xs = l0) ∧ e = .returned (.tuple #[.agg (by8 xs).toArray, .bool ok]) ∧ Below w.heap.size w w' := by
  by_cases h : l0.length = 512
  · have := nvram_both.yes A0 c0 l0 w hr0 hc0 h
    rw [← h] at this
    exact this.mono fun e w' hh => ⟨l0, true, (decide_eq_true h).symm, h, hb, fun _ => rfl, by rw [hh.1], hh.2⟩
  · exact (nvram_both.no A0 c0 l0.length w h).mono fun e w' hh => ⟨List.replicate 512 0, false, (decide_eq_false h).symm, List.length_replicate, fun x hx => by rw [List.eq_of_mem_replicate hx]; omega, fun h2 => absurd h2 h, by rw [hh.1], hh.2⟩
set_option maxHeartbeats 4000000 in
set_option maxRecDepth 100000 in
theorem nvram_Recover.calls (A0 : Option Addr) (c0 : Nat) (l0 : List Int) (r1 : List Int) (r2 : Int) (r3 : Bool) (w : World) (hr0 : Kd.C (Kd.int .u8) w A0 l0.length l0) (hc0 : l0.length ≤ c0) (h : nvram_Recover.f l0 = some (r1, r2, r3)) :
    Calls Tryd.prog 14 #[.slice A0 l0.length c0] w fun e w' => ∃ v0_ : Value, e = .returned (.tuple #[v0_, .int .i64 r2, .bool r3]) ∧ Kd.R (Kd.int .u8) 5 w' w.heap.size (fun _ => True) v0_ r1 ∧ Below w.heap.size w w' := by
  unfold nvram_Recover.f at h
  by_cases hby : ∀ x ∈ l0, 0 ≤ x ∧ x ≤ 255
  · rw [if_pos hby] at h
    have HB := Aside0.mk (Below.refl w.heap.size w)
    have H0 := Aside0.mk (nvram_both.any A0 c0 l0 w hr0 hc0 hby)
    have H := Aside0.mk h
    have HBY := Aside0.mk hby
    clear hr0 hc0 h hby
    have hu69 := Tryd.underlying69
    go_enter Tryd.func14, Tryd.ntmps14
    go_upto_region 2 with (first | (go_at_call 29; refine H0.out.mono ?_; rintro e w2 ⟨xs, ok, hok, hl, hb, hx, rfl, hbl⟩; have HOK := Aside0.mk hok; clear HB; have HB := Aside0.mk hbl; have HL := Aside0.mk hl; have HXB := Aside0.mk hb; have HX := Aside0.mk hx; clear hbl hl hb hx hok) | ((with_reducible refine gate_dst (N := 5) rfl ?_); refine wpList_alloc69 rfl rfl ?_; intro g hg w3 hbox hb; have n0_ := Aside0.mk (below_step HB.out hb); have n1_ : Aside0 (w3.there g 0 512) := ⟨there_of_block hbox 0 512 (by show 0 + 512 ≤ (Array.replicate 512 _).size; rw [Array.size_replicate]; omega)⟩; have GE : Aside0 (w.heap.size ≤ g) := ⟨by rw [hg]; exact below_size HB.out⟩; clear HB hb hbox hg; have HB := n0_; have TH := n1_; clear n0_ n1_) | (refine wpList_store_mid rfl 69 (.tmp 5) (.tmp 13) rfl g 0 (by8 xs).toArray rfl rfl (by rw [List.size_toArray, by8_len, HL.out]; exact TH.out) (by rw [List.size_toArray, by8_len, HL.out]; exact size69) (by8_one _) ?_))
    have n0_ : Aside0 ((w3.setCells g 0 (by8 xs)).rangeAt g 0 (by8 xs)) := ⟨World.rangeAt_setCells_same _ _ _ _ (by rw [by8_len, HL.out]; exact TH.out)⟩
    have n1_ : Aside0 (Below w.heap.size w (w3.setCells g 0 (by8 xs))) := ⟨below_setCells GE.out _ _ HB.out⟩
    generalize w3.setCells g 0 (by8 xs) = w4 at n0_ n1_ ⊢
    clear HB TH
    have RG := n0_
    have HB := n1_
    clear n0_ n1_
    go_upto_region 3 with (go_at_call 30; refine (nvram_counts.calls xs g _ HL.out HXB.out RG.out).mono ?_; rintro e w5 ⟨rfl, hb5⟩; have n0_ : Aside0 (w5.rangeAt g 0 (by8 xs)) := ⟨fun j v hv => by { have h := RG.out j v hv; exact (hb5.cell (World.block_lt_of_cell? _ _ h)).trans h }⟩; have n1_ := Aside0.mk (below_step HB.out hb5); clear HB RG hb5; have RG := n0_; have HB := n1_; clear n0_ n1_)
    have H2 := H.out
    have HOK2 := HOK.out
    cases ok with
    | false =>
      rw [if_neg (of_decide_eq_false HOK2.symm)] at H2
      simp only [Option.some.injEq, Prod.mk.injEq] at H2
      obtain ⟨rfl, rfl, rfl⟩ := H2
      clear H HOK2
      go_wp2
      go_ret3
      exact ⟨_, rfl, Kd.R_nil _ _ _ _ _, HB.out⟩
    | true =>
      have hl := of_decide_eq_true HOK2.symm
      obtain rfl := HX.out hl
      rw [if_pos hl] at H2
      clear H HOK2 HX H0
      have ht : (xs.take 256).length = 256 := by rw [List.length_take, HL.out]; rfl
      have hd_ : (xs.drop 256).length = 256 := by rw [List.length_drop, HL.out]
      rcases counts_cases xs with hk | ⟨hk, hok⟩ | ⟨hk, hok⟩
      · rw [hk] at H2 ⊢
        rw [if_pos (by decide)] at H2
        simp only [Option.some.injEq, Prod.mk.injEq] at H2
        obtain ⟨rfl, rfl, rfl⟩ := H2
        clear hk hl
        go_wp2
        go_ret3
        exact ⟨_, rfl, Kd.R_nil _ _ _ _ _, HB.out⟩
      · rw [hk] at H2 ⊢
        rw [if_neg (by decide), show (xs.drop (256 * (0 : Int).toNat)).take 256 = xs.take 256 from rfl] at H2
        simp only [Option.some.injEq, Prod.mk.injEq] at H2
        obtain ⟨rfl, rfl, rfl⟩ := H2
        have hd := fun (W : World) (hB : Below w5.heap.size w5 W) => (bank_data.calls (xs.take 256) g 0 W ht (fun x hx => HXB.out x (List.mem_of_mem_take hx)) (by have h := Kd.C_below (C_half RG.out HL.out 0 (by omega)) hB; rwa [List.drop_zero] at h)).mono (R' := fun e w' => e = .returned (.tuple #[.slice (some ⟨g, 0 + 8, none⟩) (dDat (xs.take 256)).length 248, .bool true]) ∧ Below W.heap.size W w') (fun e w' h => by
          obtain ⟨A, n, c, rfl, h1, hb⟩ := h
          obtain ⟨rfl, rfl, rfl⟩ := h1 hok
          refine ⟨?_, hb⟩
          rw [hok, dDat_len (xs.take 256) ht hok])
        have hc := fun (W : World) (hB : Below w5.heap.size w5 W) => slices_Clone_byte_byte.calls (some ⟨g, 0 + 8, none⟩) 248 (dDat (xs.take 256)) (dDat (xs.take 256)) W (by
          have h := Kd.C_below (C_half RG.out HL.out 0 (by omega)) hB
          rw [List.drop_zero] at h
          have h2 : Kd.C (Kd.int .u8) W _ (dLen (xs.take 256)).toNat (dDat (xs.take 256)) := C_mid8 8 (dLen (xs.take 256)).toNat h (dDat_fit (xs.take 256) ht hok)
          rw [← dDat_len (xs.take 256) ht hok] at h2
          exact h2) (by have h := dDat_fit (xs.take 256) ht hok; rw [dDat_len (xs.take 256) ht hok]; rw [ht] at h; omega) (by
            have h := dDat_fit (xs.take 256) ht hok
            unfold slices_Clone_byte_byte.f
            rw [if_pos (by rw [dDat_len (xs.take 256) ht hok]; rw [ht] at h; omega)])
        have HD := Aside0.mk hd
        have HC := Aside0.mk hc
        clear hd hc hk hl hok ht hd_
        go_wp2_with (first | (go_at_call 31; refine (HD.out _ (Below.refl _ _)).mono ?_; rintro e w6 ⟨rfl, hb6⟩; have HB6 := Aside0.mk hb6; clear hb6) | (go_at_call 27; refine (HC.out _ HB6.out).mono ?_; rintro e w7 ⟨v7, rfl, hr7, hb7⟩; have HR7 := Aside0.mk hr7; have HB7 := Aside0.mk hb7; clear hr7 hb7))
        go_ret3
        exact ⟨_, rfl, Kd.R_mono (Kd.R_lower HR7.out (below_size (below_step HB.out HB6.out))) (fun _ _ => trivial), below_step (below_step HB.out HB6.out) HB7.out⟩
      · rw [hk] at H2 ⊢
        rw [if_neg (by decide), show (xs.drop (256 * (1 : Int).toNat)).take 256 = xs.drop 256 from List.take_of_length_le (by rw [List.length_drop, HL.out]; decide)] at H2
        simp only [Option.some.injEq, Prod.mk.injEq] at H2
        obtain ⟨rfl, rfl, rfl⟩ := H2
        have hd := fun (W : World) (hB : Below w5.heap.size w5 W) => (bank_data.calls (xs.drop 256) g 256 W hd_ (fun x hx => HXB.out x (List.mem_of_mem_drop hx)) (by have h := Kd.C_below (C_half RG.out HL.out 256 (by omega)) hB; rwa [show (xs.drop 256).take 256 = xs.drop 256 from List.take_of_length_le (by rw [List.length_drop, HL.out]; decide)] at h)).mono (R' := fun e w' => e = .returned (.tuple #[.slice (some ⟨g, 256 + 8, none⟩) (dDat (xs.drop 256)).length 248, .bool true]) ∧ Below W.heap.size W w') (fun e w' h => by
          obtain ⟨A, n, c, rfl, h1, hb⟩ := h
          obtain ⟨rfl, rfl, rfl⟩ := h1 hok
          refine ⟨?_, hb⟩
          rw [hok, dDat_len (xs.drop 256) hd_ hok])
        have hc := fun (W : World) (hB : Below w5.heap.size w5 W) => slices_Clone_byte_byte.calls (some ⟨g, 256 + 8, none⟩) 248 (dDat (xs.drop 256)) (dDat (xs.drop 256)) W (by
          have h := Kd.C_below (C_half RG.out HL.out 256 (by omega)) hB
          rw [show (xs.drop 256).take 256 = xs.drop 256 from List.take_of_length_le (by rw [List.length_drop, HL.out]; decide)] at h
          have h2 : Kd.C (Kd.int .u8) W _ (dLen (xs.drop 256)).toNat (dDat (xs.drop 256)) := C_mid8 8 (dLen (xs.drop 256)).toNat h (dDat_fit (xs.drop 256) hd_ hok)
          rw [← dDat_len (xs.drop 256) hd_ hok] at h2
          exact h2) (by have h := dDat_fit (xs.drop 256) hd_ hok; rw [dDat_len (xs.drop 256) hd_ hok]; rw [hd_] at h; omega) (by
            have h := dDat_fit (xs.drop 256) hd_ hok
            unfold slices_Clone_byte_byte.f
            rw [if_pos (by rw [dDat_len (xs.drop 256) hd_ hok]; rw [hd_] at h; omega)])
        have HD := Aside0.mk hd
        have HC := Aside0.mk hc
        clear hd hc hk hl hok ht hd_
        go_wp2_with (first | (go_at_call 31; refine (HD.out _ (Below.refl _ _)).mono ?_; rintro e w6 ⟨rfl, hb6⟩; have HB6 := Aside0.mk hb6; clear hb6) | (go_at_call 27; refine (HC.out _ HB6.out).mono ?_; rintro e w7 ⟨v7, rfl, hr7, hb7⟩; have HR7 := Aside0.mk hr7; have HB7 := Aside0.mk hb7; clear hr7 hb7))
        go_ret3
        exact ⟨_, rfl, Kd.R_mono (Kd.R_lower HR7.out (below_size (below_step HB.out HB6.out))) (fun _ _ => trivial), below_step (below_step HB.out HB6.out) HB7.out⟩
  · rw [if_neg hby] at h
    cases h
end

/-! ### vars_all: function 28 -/
def vars_all.f  : Option ((List (S50))) := some (([(⟨(⟨#[97, 117, 116, 111, 45, 98, 111, 111, 116, 63]⟩ : ByteArray), 0, (⟨#[116, 114, 117, 101]⟩ : ByteArray)⟩ : S50), (⟨(⟨#[98, 111, 111, 116, 45, 100, 101, 118, 105, 99, 101]⟩ : ByteArray), 2, (⟨#[100, 105, 115, 107, 32, 110, 101, 116]⟩ : ByteArray)⟩ : S50), (⟨(⟨#[98, 111, 111, 116, 45, 102, 105, 108, 101]⟩ : ByteArray), 2, (⟨#[]⟩ : ByteArray)⟩ : S50), (⟨(⟨#[98, 111, 111, 116, 45, 108, 105, 109, 105, 116]⟩ : ByteArray), 1, (⟨#[53, 48, 48, 48]⟩ : ByteArray)⟩ : S50), (⟨(⟨#[105, 110, 112, 117, 116, 45, 100, 101, 118, 105, 99, 101]⟩ : ByteArray), 2, (⟨#[107, 101, 121, 98, 111, 97, 114, 100]⟩ : ByteArray)⟩ : S50), (⟨(⟨#[110, 118, 114, 97, 109, 114, 99]⟩ : ByteArray), 2, (⟨#[]⟩ : ByteArray)⟩ : S50), (⟨(⟨#[111, 101, 109, 45, 98, 97, 110, 110, 101, 114]⟩ : ByteArray), 2, (⟨#[]⟩ : ByteArray)⟩ : S50), (⟨(⟨#[115, 99, 114, 101, 101, 110, 45, 116, 117, 114, 110]⟩ : ByteArray), 1, (⟨#[48]⟩ : ByteArray)⟩ : S50), (⟨(⟨#[117, 115, 101, 45, 110, 118, 114, 97, 109, 114, 99, 63]⟩ : ByteArray), 0, (⟨#[102, 97, 108, 115, 101]⟩ : ByteArray)⟩ : S50)] : List (S50)))
set_option maxHeartbeats 8000000 in
set_option maxRecDepth 100000 in
theorem vars_all.calls  (r : List (S50)) (w : World) (h : vars_all.f  = some r) :
    Calls Tryd.prog 28 #[] w fun e w' => ∃ v0_ : Value, e = .returned (v0_) ∧ Kd.R k50 50 w' w.heap.size (fun _ => True) v0_ r ∧ Below w.heap.size w w' := by
  have hu50 := Tryd.underlying50
  have HB := Aside0.mk (Below.refl w.heap.size w)
  have H : (some (([(⟨(⟨#[97, 117, 116, 111, 45, 98, 111, 111, 116, 63]⟩ : ByteArray), 0, (⟨#[116, 114, 117, 101]⟩ : ByteArray)⟩ : S50), (⟨(⟨#[98, 111, 111, 116, 45, 100, 101, 118, 105, 99, 101]⟩ : ByteArray), 2, (⟨#[100, 105, 115, 107, 32, 110, 101, 116]⟩ : ByteArray)⟩ : S50), (⟨(⟨#[98, 111, 111, 116, 45, 102, 105, 108, 101]⟩ : ByteArray), 2, (⟨#[]⟩ : ByteArray)⟩ : S50), (⟨(⟨#[98, 111, 111, 116, 45, 108, 105, 109, 105, 116]⟩ : ByteArray), 1, (⟨#[53, 48, 48, 48]⟩ : ByteArray)⟩ : S50), (⟨(⟨#[105, 110, 112, 117, 116, 45, 100, 101, 118, 105, 99, 101]⟩ : ByteArray), 2, (⟨#[107, 101, 121, 98, 111, 97, 114, 100]⟩ : ByteArray)⟩ : S50), (⟨(⟨#[110, 118, 114, 97, 109, 114, 99]⟩ : ByteArray), 2, (⟨#[]⟩ : ByteArray)⟩ : S50), (⟨(⟨#[111, 101, 109, 45, 98, 97, 110, 110, 101, 114]⟩ : ByteArray), 2, (⟨#[]⟩ : ByteArray)⟩ : S50), (⟨(⟨#[115, 99, 114, 101, 101, 110, 45, 116, 117, 114, 110]⟩ : ByteArray), 1, (⟨#[48]⟩ : ByteArray)⟩ : S50), (⟨(⟨#[117, 115, 101, 45, 110, 118, 114, 97, 109, 114, 99, 63]⟩ : ByteArray), 0, (⟨#[102, 97, 108, 115, 101]⟩ : ByteArray)⟩ : S50)] : List (S50)))) = some r := h
  clear h
  obtain ⟨y106, hy106⟩ : ∃ y_ : List (S50), y_ = (([(⟨(⟨#[97, 117, 116, 111, 45, 98, 111, 111, 116, 63]⟩ : ByteArray), 0, (⟨#[116, 114, 117, 101]⟩ : ByteArray)⟩ : S50), (⟨(⟨#[98, 111, 111, 116, 45, 100, 101, 118, 105, 99, 101]⟩ : ByteArray), 2, (⟨#[100, 105, 115, 107, 32, 110, 101, 116]⟩ : ByteArray)⟩ : S50), (⟨(⟨#[98, 111, 111, 116, 45, 102, 105, 108, 101]⟩ : ByteArray), 2, (⟨#[]⟩ : ByteArray)⟩ : S50), (⟨(⟨#[98, 111, 111, 116, 45, 108, 105, 109, 105, 116]⟩ : ByteArray), 1, (⟨#[53, 48, 48, 48]⟩ : ByteArray)⟩ : S50), (⟨(⟨#[105, 110, 112, 117, 116, 45, 100, 101, 118, 105, 99, 101]⟩ : ByteArray), 2, (⟨#[107, 101, 121, 98, 111, 97, 114, 100]⟩ : ByteArray)⟩ : S50), (⟨(⟨#[110, 118, 114, 97, 109, 114, 99]⟩ : ByteArray), 2, (⟨#[]⟩ : ByteArray)⟩ : S50), (⟨(⟨#[111, 101, 109, 45, 98, 97, 110, 110, 101, 114]⟩ : ByteArray), 2, (⟨#[]⟩ : ByteArray)⟩ : S50), (⟨(⟨#[115, 99, 114, 101, 101, 110, 45, 116, 117, 114, 110]⟩ : ByteArray), 1, (⟨#[48]⟩ : ByteArray)⟩ : S50), (⟨(⟨#[117, 115, 101, 45, 110, 118, 114, 97, 109, 114, 99, 63]⟩ : ByteArray), 0, (⟨#[102, 97, 108, 115, 101]⟩ : ByteArray)⟩ : S50)] : List (S50))) := ⟨_, rfl⟩
  replace H : (some y106) = some r := by first | (rw [hy106]; with_reducible exact H) | (have H2_ := (Option.bind_some _ _).symm.trans H; rw [hy106]; with_reducible exact H2_) | (have H2_ := (Option.bind_some _ _).symm.trans H; with_reducible exact H2_) | with_reducible exact H | (rw [hy106]; exact H) | exact H
  have Ny106 := Aside0.mk hy106
  clear hy106
  obtain rfl := Option.some.inj H
  go_enter Tryd.func28, Tryd.ntmps28
  go_wp2_with (first | ((with_reducible refine gate_dst (N := 10) rfl ?_); refine Kd.R_lit k50 _ 50 ?hg (N := 10) ?hd (xs := ([(⟨(⟨#[97, 117, 116, 111, 45, 98, 111, 111, 116, 63]⟩ : ByteArray), 0, (⟨#[116, 114, 117, 101]⟩ : ByteArray)⟩ : S50), (⟨(⟨#[98, 111, 111, 116, 45, 100, 101, 118, 105, 99, 101]⟩ : ByteArray), 2, (⟨#[100, 105, 115, 107, 32, 110, 101, 116]⟩ : ByteArray)⟩ : S50), (⟨(⟨#[98, 111, 111, 116, 45, 102, 105, 108, 101]⟩ : ByteArray), 2, (⟨#[]⟩ : ByteArray)⟩ : S50), (⟨(⟨#[98, 111, 111, 116, 45, 108, 105, 109, 105, 116]⟩ : ByteArray), 1, (⟨#[53, 48, 48, 48]⟩ : ByteArray)⟩ : S50), (⟨(⟨#[105, 110, 112, 117, 116, 45, 100, 101, 118, 105, 99, 101]⟩ : ByteArray), 2, (⟨#[107, 101, 121, 98, 111, 97, 114, 100]⟩ : ByteArray)⟩ : S50), (⟨(⟨#[110, 118, 114, 97, 109, 114, 99]⟩ : ByteArray), 2, (⟨#[]⟩ : ByteArray)⟩ : S50), (⟨(⟨#[111, 101, 109, 45, 98, 97, 110, 110, 101, 114]⟩ : ByteArray), 2, (⟨#[]⟩ : ByteArray)⟩ : S50), (⟨(⟨#[115, 99, 114, 101, 101, 110, 45, 116, 117, 114, 110]⟩ : ByteArray), 1, (⟨#[48]⟩ : ByteArray)⟩ : S50), (⟨(⟨#[117, 115, 101, 45, 110, 118, 114, 97, 109, 114, 99, 63]⟩ : ByteArray), 0, (⟨#[102, 97, 108, 115, 101]⟩ : ByteArray)⟩ : S50)] : List (S50))) (inner := [.string (⟨#[97, 117, 116, 111, 45, 98, 111, 111, 116, 63]⟩ : ByteArray), .int .i64 0, .string (⟨#[116, 114, 117, 101]⟩ : ByteArray), .string (⟨#[98, 111, 111, 116, 45, 100, 101, 118, 105, 99, 101]⟩ : ByteArray), .int .i64 2, .string (⟨#[100, 105, 115, 107, 32, 110, 101, 116]⟩ : ByteArray), .string (⟨#[98, 111, 111, 116, 45, 102, 105, 108, 101]⟩ : ByteArray), .int .i64 2, .string (⟨#[]⟩ : ByteArray), .string (⟨#[98, 111, 111, 116, 45, 108, 105, 109, 105, 116]⟩ : ByteArray), .int .i64 1, .string (⟨#[53, 48, 48, 48]⟩ : ByteArray), .string (⟨#[105, 110, 112, 117, 116, 45, 100, 101, 118, 105, 99, 101]⟩ : ByteArray), .int .i64 2, .string (⟨#[107, 101, 121, 98, 111, 97, 114, 100]⟩ : ByteArray), .string (⟨#[110, 118, 114, 97, 109, 114, 99]⟩ : ByteArray), .int .i64 2, .string (⟨#[]⟩ : ByteArray), .string (⟨#[111, 101, 109, 45, 98, 97, 110, 110, 101, 114]⟩ : ByteArray), .int .i64 2, .string (⟨#[]⟩ : ByteArray), .string (⟨#[115, 99, 114, 101, 101, 110, 45, 116, 117, 114, 110]⟩ : ByteArray), .int .i64 1, .string (⟨#[48]⟩ : ByteArray), .string (⟨#[117, 115, 101, 45, 110, 118, 114, 97, 109, 114, 99, 63]⟩ : ByteArray), .int .i64 0, .string (⟨#[102, 97, 108, 115, 101]⟩ : ByteArray)]) (ok := fun _ => True) (okp := fun _ => True) ?hr ?hp (fun _ hk => hk) trivial (Below.refl _ _) (Nat.le_refl _) (by simp) ?_; (case hd => rfl); (case hg => rfl); (case hr => first | (go_simp; done) | (go_simp; rfl)); (case hp => exact (Reps.c3 (show Kd.M k50 _ _ _ (⟨(⟨#[97, 117, 116, 111, 45, 98, 111, 111, 116, 63]⟩ : ByteArray), 0, (⟨#[116, 114, 117, 101]⟩ : ByteArray)⟩ : S50) [.string (⟨#[97, 117, 116, 111, 45, 98, 111, 111, 116, 63]⟩ : ByteArray), .int .i64 0, .string (⟨#[116, 114, 117, 101]⟩ : ByteArray)] from (k50_mkM _ _ _ (⟨(⟨#[97, 117, 116, 111, 45, 98, 111, 111, 116, 63]⟩ : ByteArray), 0, (⟨#[116, 114, 117, 101]⟩ : ByteArray)⟩ : S50) )) (Reps.c3 (show Kd.M k50 _ _ _ (⟨(⟨#[98, 111, 111, 116, 45, 100, 101, 118, 105, 99, 101]⟩ : ByteArray), 2, (⟨#[100, 105, 115, 107, 32, 110, 101, 116]⟩ : ByteArray)⟩ : S50) [.string (⟨#[98, 111, 111, 116, 45, 100, 101, 118, 105, 99, 101]⟩ : ByteArray), .int .i64 2, .string (⟨#[100, 105, 115, 107, 32, 110, 101, 116]⟩ : ByteArray)] from (k50_mkM _ _ _ (⟨(⟨#[98, 111, 111, 116, 45, 100, 101, 118, 105, 99, 101]⟩ : ByteArray), 2, (⟨#[100, 105, 115, 107, 32, 110, 101, 116]⟩ : ByteArray)⟩ : S50) )) (Reps.c3 (show Kd.M k50 _ _ _ (⟨(⟨#[98, 111, 111, 116, 45, 102, 105, 108, 101]⟩ : ByteArray), 2, (⟨#[]⟩ : ByteArray)⟩ : S50) [.string (⟨#[98, 111, 111, 116, 45, 102, 105, 108, 101]⟩ : ByteArray), .int .i64 2, .string (⟨#[]⟩ : ByteArray)] from (k50_mkM _ _ _ (⟨(⟨#[98, 111, 111, 116, 45, 102, 105, 108, 101]⟩ : ByteArray), 2, (⟨#[]⟩ : ByteArray)⟩ : S50) )) (Reps.c3 (show Kd.M k50 _ _ _ (⟨(⟨#[98, 111, 111, 116, 45, 108, 105, 109, 105, 116]⟩ : ByteArray), 1, (⟨#[53, 48, 48, 48]⟩ : ByteArray)⟩ : S50) [.string (⟨#[98, 111, 111, 116, 45, 108, 105, 109, 105, 116]⟩ : ByteArray), .int .i64 1, .string (⟨#[53, 48, 48, 48]⟩ : ByteArray)] from (k50_mkM _ _ _ (⟨(⟨#[98, 111, 111, 116, 45, 108, 105, 109, 105, 116]⟩ : ByteArray), 1, (⟨#[53, 48, 48, 48]⟩ : ByteArray)⟩ : S50) )) (Reps.c3 (show Kd.M k50 _ _ _ (⟨(⟨#[105, 110, 112, 117, 116, 45, 100, 101, 118, 105, 99, 101]⟩ : ByteArray), 2, (⟨#[107, 101, 121, 98, 111, 97, 114, 100]⟩ : ByteArray)⟩ : S50) [.string (⟨#[105, 110, 112, 117, 116, 45, 100, 101, 118, 105, 99, 101]⟩ : ByteArray), .int .i64 2, .string (⟨#[107, 101, 121, 98, 111, 97, 114, 100]⟩ : ByteArray)] from (k50_mkM _ _ _ (⟨(⟨#[105, 110, 112, 117, 116, 45, 100, 101, 118, 105, 99, 101]⟩ : ByteArray), 2, (⟨#[107, 101, 121, 98, 111, 97, 114, 100]⟩ : ByteArray)⟩ : S50) )) (Reps.c3 (show Kd.M k50 _ _ _ (⟨(⟨#[110, 118, 114, 97, 109, 114, 99]⟩ : ByteArray), 2, (⟨#[]⟩ : ByteArray)⟩ : S50) [.string (⟨#[110, 118, 114, 97, 109, 114, 99]⟩ : ByteArray), .int .i64 2, .string (⟨#[]⟩ : ByteArray)] from (k50_mkM _ _ _ (⟨(⟨#[110, 118, 114, 97, 109, 114, 99]⟩ : ByteArray), 2, (⟨#[]⟩ : ByteArray)⟩ : S50) )) (Reps.c3 (show Kd.M k50 _ _ _ (⟨(⟨#[111, 101, 109, 45, 98, 97, 110, 110, 101, 114]⟩ : ByteArray), 2, (⟨#[]⟩ : ByteArray)⟩ : S50) [.string (⟨#[111, 101, 109, 45, 98, 97, 110, 110, 101, 114]⟩ : ByteArray), .int .i64 2, .string (⟨#[]⟩ : ByteArray)] from (k50_mkM _ _ _ (⟨(⟨#[111, 101, 109, 45, 98, 97, 110, 110, 101, 114]⟩ : ByteArray), 2, (⟨#[]⟩ : ByteArray)⟩ : S50) )) (Reps.c3 (show Kd.M k50 _ _ _ (⟨(⟨#[115, 99, 114, 101, 101, 110, 45, 116, 117, 114, 110]⟩ : ByteArray), 1, (⟨#[48]⟩ : ByteArray)⟩ : S50) [.string (⟨#[115, 99, 114, 101, 101, 110, 45, 116, 117, 114, 110]⟩ : ByteArray), .int .i64 1, .string (⟨#[48]⟩ : ByteArray)] from (k50_mkM _ _ _ (⟨(⟨#[115, 99, 114, 101, 101, 110, 45, 116, 117, 114, 110]⟩ : ByteArray), 1, (⟨#[48]⟩ : ByteArray)⟩ : S50) )) (Reps.c3 (show Kd.M k50 _ _ _ (⟨(⟨#[117, 115, 101, 45, 110, 118, 114, 97, 109, 114, 99, 63]⟩ : ByteArray), 0, (⟨#[102, 97, 108, 115, 101]⟩ : ByteArray)⟩ : S50) [.string (⟨#[117, 115, 101, 45, 110, 118, 114, 97, 109, 114, 99, 63]⟩ : ByteArray), .int .i64 0, .string (⟨#[102, 97, 108, 115, 101]⟩ : ByteArray)] from (k50_mkM _ _ _ (⟨(⟨#[117, 115, 101, 45, 110, 118, 114, 97, 109, 114, 99, 63]⟩ : ByteArray), 0, (⟨#[102, 97, 108, 115, 101]⟩ : ByteArray)⟩ : S50) )) (Reps.none _ _))))))))))); intro v107 w1 ho2 hb hg_ hnew_; clear hg_ hnew_; (first | rw [← Ny106.out] at ho2 | (simp only [Int.reduceToNat] at ho2; rw [← Ny106.out] at ho2)); have n0_ := Aside0.mk (Kd.R_lower ho2 (below_size (by repeat (first | (with_reducible first | exact HB.out | apply below_alloc | apply pw_below_drewN | apply below_drew1) | exact HB.out)))); have n1_ := Aside0.mk (below_step (by repeat (first | (with_reducible first | exact HB.out | apply below_alloc | apply pw_below_drewN | apply below_drew1) | exact HB.out)) hb); clear HB; have HO108 := n0_; have HB := n1_; clear n0_ n1_; clear hb ho2))
  go_ret
  exact ⟨_, by first | rfl | (simp [errW_none, errW_some] <;> rfl) | (simp [*, errW_none, errW_some] <;> rfl), by (with_reducible repeat (first | apply Kd.R_alloc | apply Kd.R_drewN | apply Kd.R_drew)); exact HO108.out, by repeat (first | (with_reducible first | exact HB.out | apply below_alloc | apply pw_below_drewN | apply below_drew1) | exact HB.out)⟩

end Go.Proofs.YtdobpgomgnaleaaDoor.P
