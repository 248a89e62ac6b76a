/- The machine's side: functions of the translation as plain Lean functions, and that the machine's calls come to what they say. No condition. Written by a program (wip/tools/pp.py over the kit's printer); Lean checks it. -/
import Derived.Test.YtdobpgomgnaleaaDoorPx0
import Derived.Test.YtdobpgomgnaleaaDoorPx2
import Derived.Test.YtdobpgomgnaleaaDoorPx4
import Derived.Test.YtdobpgomgnaleaaDoorPx5
import Derived.Test.YtdobpgomgnaleaaDoorPx6
import Derived.Test.YtdobpgomgnaleaaDoorPx7
import Derived.Test.YtdobpgomgnaleaaDoorPx8
namespace Go.Proofs.YtdobpgomgnaleaaDoor.P
open Go.RowKit Go.Proofs.YtdobpgomgnaleaaDoorW.PrintWords Go.Proofs.YtdobpgomgnaleaaDoorW.PrintLast Go.Proofs.YtdobpgomgnaleaaDoorW.PrintMore
attribute [local go_sem] max2_int min2_int max_two min_two max_three min_three max_four min_four   -- for this text's walks alone
set_option linter.unusedVariables false
set_option linter.unusedSimpArgs false

/-! ### vars_Set: function 7 -/
section
open Go.Proofs.YtdobpgomgnaleaaDoor.G
def flat31 : List S31 → List Value
  | [] => []
  | x :: t => .string x.f0 :: .string x.f1 :: flat31 t
theorem flat31_length : ∀ l, (flat31 l).length = l.length * 2
  | [] => rfl
  | x :: t => by
    show (flat31 t).length + 1 + 1 = (t.length + 1) * 2
    rw [flat31_length t]; omega
theorem flat31_append : ∀ l m, flat31 (l ++ m) = flat31 l ++ flat31 m
  | [], m => rfl
  | x :: t, m => by
    show Value.string x.f0 :: Value.string x.f1 :: flat31 (t ++ m) = _
    rw [flat31_append t m]; rfl
theorem flat31_take : ∀ (l : List S31) (i : Nat), (flat31 l).take (i * 2) = flat31 (l.take i)
  | [], i => by simp [flat31]
  | x :: t, 0 => by simp [flat31]
  | x :: t, i + 1 => by
    show (Value.string x.f0 :: Value.string x.f1 :: flat31 t).take ((i + 1) * 2) = _
    rw [show (i + 1) * 2 = (i * 2 + 1) + 1 by omega, List.take_succ_cons, List.take_succ_cons, flat31_take t i]
    rfl
theorem flat31_drop : ∀ (l : List S31) (i : Nat), (flat31 l).drop (i * 2) = flat31 (l.drop i)
  | [], i => by simp [flat31]
  | x :: t, 0 => by simp [flat31]
  | x :: t, i + 1 => by
    show (Value.string x.f0 :: Value.string x.f1 :: flat31 t).drop ((i + 1) * 2) = _
    rw [show (i + 1) * 2 = (i * 2 + 1) + 1 by omega, List.drop_succ_cons, List.drop_succ_cons, flat31_drop t i]
    rfl
theorem flat31_one : ∀ (l : List S31), ∀ v ∈ flat31 l, v.oneCell' = true
  | [], v, h => by cases h
  | x :: t, v, h => by
    rcases List.mem_cons.mp h with rfl | h
    · rfl
    · rcases List.mem_cons.mp h with rfl | h
      · rfl
      · exact flat31_one t v h
theorem flat31_get (l : List S31) (j : Nat) (p : S31) (h : l[j]? = some p) : ((flat31 l).drop (j * 2)).take 2 = [.string p.f0, .string p.f1] := by
  obtain ⟨hj, rfl⟩ := List.getElem?_eq_some_iff.mp h
  rw [flat31_drop, List.drop_eq_getElem_cons hj]
  rfl
theorem reps31 (w : World) (base : Nat) (ok : Nat → Prop) (l : List S31) : Reps (k31.M w base ok) k31.sz l (flat31 l) :=
  ⟨flat31_length l, fun j p hj => by
    rw [show j * k31.sz = j * 2 from rfl, show k31.sz = 2 from rfl, flat31_get l j p hj]
    exact k31_mkM w base ok p⟩
theorem reps31_eq {w : World} {base : Nat} {ok : Nat → Prop} : ∀ (l : List S31) (cs : List Value), Reps (k31.M w base ok) k31.sz l cs → cs = flat31 l
  | [], cs, h => List.eq_nil_of_length_eq_zero (by rw [h.1]; rfl)
  | x :: t, cs, h => by
    have h0 := h.2 0 x rfl
    have h1 := k31_openM h0
    rw [Nat.zero_mul, List.drop_zero, show k31.sz = 2 from rfl] at h1
    have h2 := Kd.reps_drop (m := 1) h
    have h3 := reps31_eq t _ h2
    rw [show 1 * k31.sz = 2 from rfl] at h3
    rw [← List.take_append_drop 2 cs, h1, h3]
    rfl
theorem R31_row {w : World} {base g n c : Nat} {ok : Nat → Prop} {xs : List S31} (h : Kd.R k31 31 w base ok (.slice (some ⟨g, 0, none⟩) n c) xs) :
    ∃ cur : Array Value, w.heap[g]? = some (.cells cur 31 (0, 0)) ∧ cur.size = c * 2 ∧ n ≤ c ∧ c ≤ maxLen ∧ cur.toList.take (n * 2) = flat31 xs ∧ base ≤ g ∧ ok g := by
  obtain ⟨hn, hnc, _⟩ := Kd.R_reads' h
  obtain ⟨hok, inner, ho, hr⟩ := h
  have hi := reps31_eq _ _ hr
  rcases ho.2 with ⟨hv, _⟩ | ⟨g', cap', cur, hv, hb, hh, hnc', hcm, hcs, ht⟩
  · cases hv
  injection hv with ha hnn hc
  injection ha with ha
  injection ha with hg
  subst hg; subst hc
  refine ⟨cur, hh, hcs, hnc, hcm, ?_, hb, hok g (by simp [Value.ownBlock])⟩
  rw [← hi, ← ht, hn]
  rfl
theorem R31_of_row {w : World} {base g n c : Nat} {ok : Nat → Prop} {xs : List S31} {cur : Array Value} (hh : w.heap[g]? = some (.cells cur 31 (0, 0))) (hcs : cur.size = c * 2) (hn : n = xs.length) (hnc : n ≤ c) (hcm : c ≤ maxLen) (ht : cur.toList.take (n * 2) = flat31 xs) (hb : base ≤ g) (hok : ok g) :
    Kd.R k31 31 w base ok (.slice (some ⟨g, 0, none⟩) n c) xs := by
  subst hn
  refine ⟨fun k hk => ?_, flat31 xs, ⟨flat31_length xs, .inr ⟨g, c, cur, rfl, hb, hh, hnc, hcm, hcs, ht⟩⟩, reps31 _ _ _ _⟩
  have : g = k := by simpa [Value.ownBlock] using hk
  rw [← this]
  exact hok
theorem run_copy_any {P : Program} (w : World) (dT sT ty elem : TypeId) (b o dLen dCap : Nat) (a : Addr) (sLen sCap size : Nat) (cs : List Value)
    (hu : P.underlying dT = some (.slice elem)) (hs : (P.info? elem).map (·.size) = some size) (hn : cs.length = Nat.min sLen dLen * size)
    (hsrc : ∀ j v, cs[j]? = some v → w.cell? (a.add j) = some v) (hc : ∀ j, j < cs.length → (w.cell? ⟨b, o + j, none⟩).isSome = true) (hf : ∀ j, j < cs.length → w.frozen? ⟨b, o + j, none⟩ = false) (h1 : ∀ v ∈ cs, v.oneCell' = true) :
    (Builtin.copy_ #[dT, sT] ty #[.slice (some ⟨b, o, none⟩) dLen dCap, .slice (some a) sLen sCap]).run P w = .ok (goInt (Nat.min sLen dLen)) (w.setCells b o cs) := by
  have hl := run_loadCells_list (P := P) w a cs hsrc
  have hst := run_storeCells_cells (P := P) b o cs 0 w (by simpa using hc) (by simpa using hf) h1
  cases hq : P.info? elem with
  | none => simp [hq] at hs
  | some i =>
    have hi : i.size = size := by simpa [hq] using hs
    simp [Builtin.copy_, run_underlying hu, Builtin.lenOf, Builtin.firstCells, sizeOf, typeInfo, hq, hi, ← hn, hl, hst]
set_option maxHeartbeats 4000000 in
set_option maxRecDepth 100000 in
theorem insert_grow (b c i g : Nat) (l : List S31) (x : S31) (w0 w : World) (ok : Nat → Prop) (hi : i < l.length) (hroom : c < l.length + 1) (hlen : l.length ≤ 100000) (hB : Below w0.heap.size w0 w) (hfr : ∀ k, w.heap.size ≤ k → ok k) (hR : Kd.R k31 31 w w0.heap.size ok (.slice (some ⟨b, 0, none⟩) l.length c) l) (hC : w.heap[g]? = some (.cells #[.string x.f0, .string x.f1] 31 (0, 0))) :
    Calls Tryd.prog 24 #[.slice (some ⟨b, 0, none⟩) l.length c, .int .i64 i, .slice (some ⟨g, 0, none⟩) 1 1] w fun e w' => ∃ v, e = .returned v ∧ Kd.R k31 31 w' w0.heap.size ok v (l.take i ++ x :: l.drop i) ∧ Below w0.heap.size w0 w' := by
  obtain ⟨cur, hcur, hcsz, hnc, hcm, hct, hbb, hokb⟩ := R31_row hR
  have hc : c = l.length := by omega
  subst hc
  obtain ⟨i0, hi0, hz0, hzs, hzb⟩ := info_parts info31
  have hsz : (Tryd.prog.info? 31).map (·.size) = some 2 := by rw [hi0]; simp [hzs]
  have hbw : b < w.heap.size := blk_lt hcur
  have hgw : g < w.heap.size := blk_lt hC
  have hcl := flat31_length l
  have hcs : ∀ j v, (flat31 l)[j]? = some v → w.cell? ⟨b, j, none⟩ = some v := fun j v hj => by
    rw [blk_cell hcur j, ← Array.getElem?_toList]
    rw [← hct] at hj
    rw [List.getElem?_take] at hj
    split at hj
    · exact hj
    · cases hj
  have hvs : ∀ j v, ([.string x.f0, .string x.f1] : List Value)[j]? = some v → w.cell? ⟨g, j, none⟩ = some v := fun j v hj => by
    rw [blk_cell hC j]
    simpa using hj
  have hold : (Builtin.firstCells i0.size i (.slice (some ⟨b, 0, none⟩) i l.length)).run Tryd.prog w.drew = .ok ((flat31 l).take (i * 2)).toArray w.drew := by
    rw [hzs]
    exact run_firstCells_some w.drew 2 i ⟨b, 0, none⟩ i l.length ((flat31 l).take (i * 2)) (by rw [List.length_take, hcl]; omega) (fun j v hj => by
      rw [add_plain]
      rw [List.getElem?_take] at hj
      split at hj
      · exact hcs j v hj
      · cases hj)
  have hkk : (l.length : Int) + 1 - (i : Int) = ((l.length + 1 - i : Nat) : Int) := by omega
  have hik : i + (l.length + 1 - i) = l.length + 1 := by omega
  obtain ⟨G, hG⟩ : ∃ G, G = grownCap w (l.length + 1) l.length 31 := ⟨_, rfl⟩
  obtain ⟨N, hN0⟩ : ∃ N, N = w.heap.size := ⟨_, rfl⟩
  obtain ⟨ROW, hROW⟩ : ∃ ROW : Array Value, ROW = ((flat31 l).take (i * 2)).toArray ++ Builtin.zeroCells #[.string ⟨#[]⟩, .string ⟨#[]⟩] (l.length + 1 - i) ++ Builtin.zeroCells #[.string ⟨#[]⟩, .string ⟨#[]⟩] (G - (l.length + 1)) := ⟨_, rfl⟩
  obtain ⟨W1, hW1⟩ : ∃ W1, W1 = w.drew.alloc (.cells ROW 31) := ⟨_, rfl⟩
  have hrz : ∀ ty, (Builtin.append_ #[23, 3] ty #[.slice (some ⟨b, 0, none⟩) i l.length, .int .i64 ((l.length : Int) + 1 - (i : Int))]).run Tryd.prog w = .ok (.slice (some ⟨N, 0, none⟩) (l.length + 1) G) W1 := fun ty => by
    have h := Lib.run_append_grow_zeros w 23 3 ty 31 i0 _ .i64 .i64 Tryd.underlying23 Tryd.underlying3 hi0 hz0 (some ⟨b, 0, none⟩) i l.length ((flat31 l).take (i * 2)) hold (l.length + 1 - i) (by omega) (by omega) (by omega) (by omega) (by rw [hzb]; omega) (by rw [hzb, hik]; exact growslice_fits hroom (by omega))
    rw [hik] at h
    rw [hkk, hN0, hG, hW1, hROW, hG]
    exact h
  have hGn : l.length + 1 ≤ G := by rw [hG]; exact grownCap_ge w _ _ _
  have hG63 : G ≤ maxLen := by rw [hG]; exact grownCap_le_maxLen w (l.length + 1) l.length 31 (by unfold maxLen; omega)
  have hRsz : ROW.size = G * 2 := by
    rw [hROW]
    simp only [Array.size_append, List.size_toArray, List.length_take, size_zeroCells, hcl]
    show min (i * 2) (l.length * 2) + (l.length + 1 - i) * 2 + (G - (l.length + 1)) * 2 = G * 2
    omega
  have hN1 : W1.heap[N]? = some (.cells ROW 31 (0, 0)) := by rw [hW1, hN0]; exact blk_new w.drew _
  have hbl1 : Below w.heap.size w W1 := by rw [hW1]; exact below_alloc (pw_below_drewN (Below.refl _ _) 1) _
  have hcut : ∀ (g0 n0 c0 : Nat) (j : Int) (jn : Nat), j = (jn : Int) → jn ≤ n0 → jn < c0 → ∀ W, (Instr.slice 23 (.slice (some ⟨g0, 0, none⟩) n0 c0) (some (.int .i64 j)) none none).run Tryd.prog W = .ok (.slice (some ⟨g0, jn * 2, none⟩) (n0 - jn) (c0 - jn)) W := fun g0 n0 c0 j jn hj h1 h2 W => by
    subst hj
    have h3 := cut_from 23 31 .i64 Tryd.underlying23 hi0 2 hzs (some ⟨g0, 0, none⟩) n0 c0 (jn : Int) (by omega) (by omega) W
    rw [Int.toNat_natCast, if_neg (by omega)] at h3
    rw [h3, Option.map_some, add_plain]
  have hslA := hcut N (l.length + 1) G (i : Int) i rfl (by omega) (by omega)
  have hslB : ∀ W, (Instr.slice 23 (.slice (some ⟨b, 0, none⟩) l.length l.length) none (some (.int .i64 (i : Int))) none).run Tryd.prog W = .ok (.slice (some ⟨b, 0, none⟩) i l.length) W := fun W => by
    have h1 := cut_to 23 31 .i64 Tryd.underlying23 hi0 (some ⟨b, 0, none⟩) l.length l.length (i : Int) (by omega) (by omega) (Nat.le_refl _) W
    rw [Int.toNat_natCast] at h1
    exact h1
  have hslC := hcut N (l.length + 1) G ((i : Int) + 1) (i + 1) (by omega) (by omega) (by omega)
  have hslD := hcut b l.length l.length (i : Int) i rfl (by omega) (by omega)
  obtain ⟨W2, hW2⟩ : ∃ W2, W2 = W1.setCells N (i * 2) [.string x.f0, .string x.f1] := ⟨_, rfl⟩
  obtain ⟨ROW2, hN2, hR2sz, hROW2⟩ := setCells_row [.string x.f0, .string x.f1] (i * 2) W1 ROW hN1 (by rw [hRsz]; show i * 2 + 2 ≤ G * 2; omega)
  rw [← hW2] at hN2
  have hcpA : ∀ ty, (Builtin.copy_ #[23, 23] ty #[.slice (some ⟨N, i * 2, none⟩) (l.length + 1 - i) (G - i), .slice (some ⟨g, 0, none⟩) 1 1]).run Tryd.prog W1 = .ok (goInt (Nat.min 1 (l.length + 1 - i))) W2 := fun ty => by
    rw [hW2]
    refine run_copy_any W1 23 23 ty 31 N (i * 2) (l.length + 1 - i) (G - i) ⟨g, 0, none⟩ 1 1 2 [.string x.f0, .string x.f1] Tryd.underlying23 hsz ?_ ?_ ?_ ?_ ?_
    · rw [show Nat.min 1 (l.length + 1 - i) = 1 from Nat.min_eq_left (by omega)]; rfl
    · intro j v hj
      rw [add_plain]
      exact (blk_cell (blk_below hC hbl1) j).trans ((blk_cell hC j).symm.trans (hvs j v hj))
    · intro j hj
      rw [blk_cell hN1]
      rw [Array.getElem?_eq_getElem (by rw [hRsz]; simp at hj; omega)]
      rfl
    · intro j hj
      exact blk_frozen hN1 _
    · intro v hv
      simp at hv
      rcases hv with rfl | rfl <;> rfl
  have hfar : ∀ k, k ≠ N → W2.heap[k]? = W1.heap[k]? := fun k hk => by rw [hW2]; exact setCells_far _ _ k hk
  have hb2 : W2.heap[b]? = some (.cells cur 31 (0, 0)) := by rw [hfar b (by omega)]; exact blk_below hcur hbl1
  have hdl : (flat31 (l.drop i)).length = (l.length - i) * 2 := by rw [flat31_length, List.length_drop]
  obtain ⟨W3, hW3⟩ : ∃ W3, W3 = W2.drew.setCells N ((i + 1) * 2) (flat31 (l.drop i)) := ⟨_, rfl⟩
  obtain ⟨ROW3, hN3, hR3sz, hROW3⟩ := setCells_row (flat31 (l.drop i)) ((i + 1) * 2) W2.drew ROW2 hN2 (by rw [hdl, hR2sz, hRsz]; omega)
  rw [← hW3] at hN3
  have hcpB : ∀ ty, (Builtin.copy_ #[23, 23] ty #[.slice (some ⟨N, (i + 1) * 2, none⟩) (l.length + 1 - (i + 1)) (G - (i + 1)), .slice (some ⟨b, i * 2, none⟩) (l.length - i) (l.length - i)]).run Tryd.prog W2.drew = .ok (goInt (Nat.min (l.length - i) (l.length + 1 - (i + 1)))) W3 := fun ty => by
    rw [hW3]
    refine run_copy_any W2.drew 23 23 ty 31 N ((i + 1) * 2) (l.length + 1 - (i + 1)) (G - (i + 1)) ⟨b, i * 2, none⟩ (l.length - i) (l.length - i) 2 (flat31 (l.drop i)) Tryd.underlying23 hsz ?_ ?_ ?_ ?_ ?_
    · rw [show Nat.min (l.length - i) (l.length + 1 - (i + 1)) = l.length - i from Nat.min_eq_left (by omega), hdl]
    · intro j v hj
      have hb2' : W2.drew.heap[b]? = some (.cells cur 31 (0, 0)) := hb2
      rw [show (⟨b, i * 2, none⟩ : Addr).add j = ⟨b, i * 2 + j, none⟩ by unfold Addr.add; split <;> simp_all, blk_cell hb2', ← blk_cell hcur]
      refine hcs _ v ?_
      rw [← flat31_drop, List.getElem?_drop] at hj
      exact hj
    · intro j hj
      have hN2' : W2.drew.heap[N]? = some (.cells ROW2 31 (0, 0)) := hN2
      rw [blk_cell hN2']
      rw [Array.getElem?_eq_getElem (by rw [hR2sz, hRsz]; rw [hdl] at hj; omega)]
      rfl
    · intro j hj
      exact blk_frozen (w := W2.drew) hN2 _
    · exact flat31_one _
  have hfin : ROW3.toList.take ((l.length + 1) * 2) = flat31 (l.take i ++ x :: l.drop i) := by
    have ha : ROW.toList.take (i * 2) = flat31 (l.take i) := by
      rw [hROW]
      simp only [Array.toList_append]
      rw [List.append_assoc, List.take_append_of_le_length (by rw [List.length_take, hcl]; omega), List.take_take, Nat.min_self, flat31_take]
    rw [hROW3, hROW2, flat31_append, ha]
    have hl1 : (flat31 (l.take i) ++ [Value.string x.f0, Value.string x.f1]).length = (i + 1) * 2 := by
      rw [List.length_append, flat31_length, List.length_take, Nat.min_eq_left (by omega)]
      show i * 2 + 2 = _
      omega
    rw [List.take_append_of_le_length (l₁ := flat31 (l.take i) ++ [Value.string x.f0, Value.string x.f1]) (by omega), ← hl1, List.take_length]
    rw [List.take_append_of_le_length (by rw [List.length_append, hl1, hdl]; omega), List.take_of_length_le (by rw [List.length_append, hl1, hdl]; omega), List.append_assoc]
    rfl
  have hw1 : IntKind.i64.wrap ((i : Int) + 1) = (i : Int) + 1 := by rw [ww64 (by omega) (by omega)]
  have hw2 : IntKind.i64.wrap ((l.length : Int) + 1) = (l.length : Int) + 1 := by rw [ww64 (by omega) (by omega)]
  have hw3 : IntKind.i64.wrap ((l.length : Int) + 1 - (i : Int)) = (l.length : Int) + 1 - (i : Int) := by rw [ww64 (by omega) (by omega)]
  have hbe1 : ((i : Int) == (l.length : Int)) = false := beq_eq_false_iff_ne.2 (by omega)
  have hde1 : decide ((l.length : Int) < (l.length : Int) + 1) = true := decide_eq_true (by omega)
  have hRfin : Kd.R k31 31 W3 w0.heap.size ok (.slice (some ⟨N, 0, none⟩) (l.length + 1) G) (l.take i ++ x :: l.drop i) :=
    R31_of_row hN3 (by rw [hR3sz, hR2sz, hRsz]) (by simp; omega) hGn hG63 hfin (by rw [hN0]; exact below_size hB) (hfr N (by omega))
  have hBfin : Below w0.heap.size w0 W3 := by
    have h1 : Below w0.heap.size w0 W1 := below_step hB hbl1
    have h2 : W1.grownBy W2 (some N) := by
      obtain ⟨s1, s2, s3, s4⟩ := setCells_same N [.string x.f0, .string x.f1] (i * 2) W1
      rw [hW2]
      exact ⟨s1, s2, s3, by rw [s4]; exact Nat.le_refl _, fun k _ hk => setCells_far _ _ k (fun he => hk (by rw [he]))⟩
    have h3 : W2.drew.grownBy W3 (some N) := by
      obtain ⟨s1, s2, s3, s4⟩ := setCells_same N (flat31 (l.drop i)) ((i + 1) * 2) W2.drew
      rw [hW3]
      exact ⟨s1, s2, s3, by rw [s4]; exact Nat.le_refl _, fun k _ hk => setCells_far _ _ k (fun he => hk (by rw [he]))⟩
    have hbase : ∀ k, some N = some k → w0.heap.size ≤ k := fun k hk => by injection hk with hk; rw [← hk, hN0]; exact below_size hB
    have h4 := pw_below_grown h1 (some N) (below_size h1) h2 hbase
    have h5 := pw_below_drewN h4 1
    exact pw_below_grown h5 (some N) (below_size h5) h3 hbase
  have HR := Aside0.mk hRfin
  have HB := Aside0.mk hBfin
  clear hRfin hBfin hfin hROW3 hR3sz hN3 hW3 hdl hb2 hfar hROW2 hR2sz hN2 hW2 hcut hbl1 hN1 hRsz hG63 hGn hW1 hROW hN0 hG hik hkk hold hvs hcs hcl hgw hbw hsz hzb hzs hz0 hi0 hct hokb hbb hcm hcsz hcur hC hR hfr hB hroom hlen hnc
  have mixed : Tryd.prog.follows Departure.mixedOrders = true := by kernel_rfl
  go_enter Tryd.func24, Tryd.ntmps24
  go_wp2_with (first
    | (at_builtin; refine Lib.wpList_append_run _ rfl _ _ _ _ rfl _ _ rfl rfl _ _ (hrz _) ?_)
    | (at_builtin; refine wpList_copy_runI _ rfl _ _ 23 23 rfl _ _ rfl rfl (hcpA _) ?_))
  go_region_law_o (refine step_copy_runI rfl _ _ 23 23 rfl (.slice (some ⟨N, (i + 1) * 2, none⟩) (l.length + 1 - (i + 1)) (G - (i + 1))) (.slice (some ⟨b, i * 2, none⟩) (l.length - i) (l.length - i)) (by simp [Act.eval, Act.put]) (by simp [Act.eval, Act.put]) (hcpB 3) ?_)
  go_wp2
  go_ret
  exact ⟨_, rfl, HR.out, HB.out⟩
set_option maxHeartbeats 4000000 in
set_option maxRecDepth 100000 in
theorem insert_shift (b c i g : Nat) (l : List S31) (x : S31) (w0 w : World) (ok : Nat → Prop) (hi : i < l.length) (hroom : l.length + 1 ≤ c) (hlen : l.length ≤ 100000) (hgb : g ≠ b) (hB : Below w0.heap.size w0 w) (hR : Kd.R k31 31 w w0.heap.size ok (.slice (some ⟨b, 0, none⟩) l.length c) l) (hC : w.heap[g]? = some (.cells #[.string x.f0, .string x.f1] 31 (0, 0))) :
    Calls Tryd.prog 24 #[.slice (some ⟨b, 0, none⟩) l.length c, .int .i64 i, .slice (some ⟨g, 0, none⟩) 1 1] w fun e w' => ∃ v, e = .returned v ∧ Kd.R k31 31 w' w0.heap.size ok v (l.take i ++ x :: l.drop i) ∧ Below w0.heap.size w0 w' := by
  obtain ⟨cur, hcur, hcsz, hnc, hcm, hct, hbb, hokb⟩ := R31_row hR
  obtain ⟨i0, hi0, hz0, hzs, hzb⟩ := info_parts info31
  have hsz : (Tryd.prog.info? 31).map (·.size) = some 2 := by rw [hi0]; simp [hzs]
  have hcl := flat31_length l
  have hcs : ∀ j v, (flat31 l)[j]? = some v → cur[j]? = some v := fun j v hj => by
    rw [← Array.getElem?_toList]
    rw [← hct] at hj
    rw [List.getElem?_take] at hj
    split at hj
    · exact hj
    · cases hj
  have hcut : ∀ (g0 n0 c0 : Nat) (j : Int) (jn : Nat), j = (jn : Int) → jn ≤ n0 → jn < c0 → ∀ W, (Instr.slice 23 (.slice (some ⟨g0, 0, none⟩) n0 c0) (some (.int .i64 j)) none none).run Tryd.prog W = .ok (.slice (some ⟨g0, jn * 2, none⟩) (n0 - jn) (c0 - jn)) W := fun g0 n0 c0 j jn hj h1 h2 W => by
    subst hj
    have h3 := cut_from 23 31 .i64 Tryd.underlying23 hi0 2 hzs (some ⟨g0, 0, none⟩) n0 c0 (jn : Int) (by omega) (by omega) W
    rw [Int.toNat_natCast, if_neg (by omega)] at h3
    rw [h3, Option.map_some, add_plain]
  have hslA := hcut b l.length c (i : Int) i rfl (by omega) (by omega)
  have hslB : ∀ W, (Instr.slice 23 (.slice (some ⟨b, 0, none⟩) l.length c) none (some (.int .i64 ((l.length : Int) + 1))) none).run Tryd.prog W = .ok (.slice (some ⟨b, 0, none⟩) (l.length + 1) c) W := fun W => by
    have hel : Tryd.prog.elem 23 = 31 := by simp [Program.elem, Tryd.underlying23]
    rw [run_slice_h W 23 (some ⟨b, 0, none⟩) l.length c (by rw [hel]; exact Tryd.underlying23) .i64 ((l.length : Int) + 1) (by omega) (by omega), hel]
    simp [sizeOf, typeInfo, hi0, sliced, Result.andThen, add_plain]
  have hslC := hcut b (l.length + 1) c ((i : Int) + 1) (i + 1) (by omega) (by omega) (by omega)
  have hslD := hcut b (l.length + 1) c (i : Int) i rfl (by omega) (by omega)
  have hov : ∀ lb cb, (callFunc 35 #[.slice (some ⟨g, 0, none⟩) 1 1, .slice (some ⟨b, (i + 1) * 2, none⟩) lb cb]).run Tryd.prog w = .ok (.value (.bool false)) w := fun lb cb => by
    rw [run_callFunc_extern Tryd.func35 (by kernel_rfl) (by kernel_rfl) (by kernel_rfl) (e := Extern.SlicesOverlaps.overlaps #[23, 23] #[4]) (by kernel_rfl),
      Lib.run_overlaps_apart w 23 4 31 Tryd.underlying23 2 (fun w => by simp [sizeOf, typeInfo, hi0, hzs]) ⟨g, 0, none⟩ ⟨b, (i + 1) * 2, none⟩ 1 1 lb cb hgb 31 31 2 cur.size (by simp [World.shape?, hC]) (by simp [World.shape?, hcur]) (by omega) (blk_frozen hC _) (blk_frozen hC _)]
    rfl
  have hdl : (flat31 (l.drop i)).length = (l.length - i) * 2 := by rw [flat31_length, List.length_drop]
  obtain ⟨W2, hW2⟩ : ∃ W2, W2 = w.drew.setCells b ((i + 1) * 2) (flat31 (l.drop i)) := ⟨_, rfl⟩
  have hcur' : w.drew.heap[b]? = some (.cells cur 31 (0, 0)) := hcur
  obtain ⟨ROW2, hN2, hR2sz, hROW2⟩ := setCells_row (flat31 (l.drop i)) ((i + 1) * 2) w.drew cur hcur' (by rw [hdl, hcsz]; omega)
  rw [← hW2] at hN2
  have hcpA : ∀ ty, (Builtin.copy_ #[23, 23] ty #[.slice (some ⟨b, (i + 1) * 2, none⟩) (l.length + 1 - (i + 1)) (c - (i + 1)), .slice (some ⟨b, i * 2, none⟩) (l.length + 1 - i) (c - i)]).run Tryd.prog w.drew = .ok (goInt (Nat.min (l.length + 1 - i) (l.length + 1 - (i + 1)))) W2 := fun ty => by
    rw [hW2]
    refine run_copy_any w.drew 23 23 ty 31 b ((i + 1) * 2) (l.length + 1 - (i + 1)) (c - (i + 1)) ⟨b, i * 2, none⟩ (l.length + 1 - i) (c - i) 2 (flat31 (l.drop i)) Tryd.underlying23 hsz ?_ ?_ ?_ ?_ ?_
    · rw [show Nat.min (l.length + 1 - i) (l.length + 1 - (i + 1)) = l.length - i from by rw [show Nat.min (l.length + 1 - i) (l.length + 1 - (i + 1)) = l.length + 1 - (i + 1) from Nat.min_eq_right (by omega)]; omega, hdl]
    · intro j v hj
      rw [show (⟨b, i * 2, none⟩ : Addr).add j = ⟨b, i * 2 + j, none⟩ by unfold Addr.add; split <;> simp_all, blk_cell hcur']
      refine hcs _ v ?_
      rw [← flat31_drop, List.getElem?_drop] at hj
      exact hj
    · intro j hj
      rw [blk_cell hcur']
      rw [Array.getElem?_eq_getElem (by rw [hcsz]; rw [hdl] at hj; omega)]
      rfl
    · intro j hj
      exact blk_frozen hcur' _
    · exact flat31_one _
  have hfar : ∀ k, k ≠ b → W2.heap[k]? = w.heap[k]? := fun k hk => by rw [hW2]; exact setCells_far _ _ k hk
  have hC2 : W2.heap[g]? = some (.cells #[.string x.f0, .string x.f1] 31 (0, 0)) := by rw [hfar g hgb]; exact hC
  obtain ⟨W3, hW3⟩ : ∃ W3, W3 = W2.setCells b (i * 2) [.string x.f0, .string x.f1] := ⟨_, rfl⟩
  obtain ⟨ROW3, hN3, hR3sz, hROW3⟩ := setCells_row [.string x.f0, .string x.f1] (i * 2) W2 ROW2 hN2 (by rw [hR2sz, hcsz]; show i * 2 + 2 ≤ c * 2; omega)
  rw [← hW3] at hN3
  have hcpB : ∀ ty, (Builtin.copy_ #[23, 23] ty #[.slice (some ⟨b, i * 2, none⟩) (l.length + 1 - i) (c - i), .slice (some ⟨g, 0, none⟩) 1 1]).run Tryd.prog W2 = .ok (goInt (Nat.min 1 (l.length + 1 - i))) W3 := fun ty => by
    rw [hW3]
    refine run_copy_any W2 23 23 ty 31 b (i * 2) (l.length + 1 - i) (c - i) ⟨g, 0, none⟩ 1 1 2 [.string x.f0, .string x.f1] Tryd.underlying23 hsz ?_ ?_ ?_ ?_ ?_
    · rw [show Nat.min 1 (l.length + 1 - i) = 1 from Nat.min_eq_left (by omega)]; rfl
    · intro j v hj
      rw [add_plain, blk_cell hC2]
      simpa using hj
    · intro j hj
      rw [blk_cell hN2]
      rw [Array.getElem?_eq_getElem (by rw [hR2sz, hcsz]; simp at hj; omega)]
      rfl
    · intro j hj
      exact blk_frozen hN2 _
    · intro v hv
      simp at hv
      rcases hv with rfl | rfl <;> rfl
  have hfin : ROW3.toList.take ((l.length + 1) * 2) = flat31 (l.take i ++ x :: l.drop i) := by
    have ha : cur.toList.take (i * 2) = flat31 (l.take i) := by
      rw [← flat31_take, ← hct, List.take_take, Nat.min_eq_left (by omega)]
    have hb : (cur.toList.take ((i + 1) * 2)).length = (i + 1) * 2 := by rw [List.length_take, Array.length_toList, hcsz]; omega
    rw [hROW3, hROW2]
    have e1 : (cur.toList.take ((i + 1) * 2) ++ flat31 (l.drop i) ++ cur.toList.drop ((i + 1) * 2 + (flat31 (l.drop i)).length)).take (i * 2) = flat31 (l.take i) := by
      rw [List.append_assoc, List.take_append_of_le_length (by rw [hb]; omega), List.take_take, Nat.min_eq_left (by omega), ha]
    have e2 : (cur.toList.take ((i + 1) * 2) ++ flat31 (l.drop i) ++ cur.toList.drop ((i + 1) * 2 + (flat31 (l.drop i)).length)).drop (i * 2 + [Value.string x.f0, Value.string x.f1].length) = flat31 (l.drop i) ++ cur.toList.drop ((i + 1) * 2 + (flat31 (l.drop i)).length) := by
      rw [show i * 2 + [Value.string x.f0, Value.string x.f1].length = (cur.toList.take ((i + 1) * 2)).length by rw [hb]; show i * 2 + 2 = _; omega, List.append_assoc, List.drop_left]
    rw [e1, e2, flat31_append]
    have hl1 : (flat31 (l.take i) ++ [Value.string x.f0, Value.string x.f1] ++ flat31 (l.drop i)).length = (l.length + 1) * 2 := by
      rw [List.length_append, List.length_append, flat31_length, flat31_length, List.length_take, List.length_drop, Nat.min_eq_left (by omega)]
      show i * 2 + 2 + _ = _
      omega
    rw [← List.append_assoc, ← hl1, List.take_left, List.append_assoc]
    rfl
  have hw1 : IntKind.i64.wrap ((i : Int) + 1) = (i : Int) + 1 := by rw [ww64 (by omega) (by omega)]
  have hw2 : IntKind.i64.wrap ((l.length : Int) + 1) = (l.length : Int) + 1 := by rw [ww64 (by omega) (by omega)]
  have hbe1 : ((i : Int) == (l.length : Int)) = false := beq_eq_false_iff_ne.2 (by omega)
  have hde1 : decide ((c : Int) < (l.length : Int) + 1) = false := decide_eq_false (by omega)
  have hRfin : Kd.R k31 31 W3 w0.heap.size ok (.slice (some ⟨b, 0, none⟩) (l.length + 1) c) (l.take i ++ x :: l.drop i) :=
    R31_of_row hN3 (by rw [hR3sz, hR2sz, hcsz]) (by simp; omega) hroom hcm hfin hbb hokb
  have hBfin : Below w0.heap.size w0 W3 := by
    have h2 : w.drew.grownBy W2 (some b) := by
      obtain ⟨s1, s2, s3, s4⟩ := setCells_same b (flat31 (l.drop i)) ((i + 1) * 2) w.drew
      rw [hW2]
      exact ⟨s1, s2, s3, by rw [s4]; exact Nat.le_refl _, fun k _ hk => setCells_far _ _ k (fun he => hk (by rw [he]))⟩
    have h3 : W2.grownBy W3 (some b) := by
      obtain ⟨s1, s2, s3, s4⟩ := setCells_same b [.string x.f0, .string x.f1] (i * 2) W2
      rw [hW3]
      exact ⟨s1, s2, s3, by rw [s4]; exact Nat.le_refl _, fun k _ hk => setCells_far _ _ k (fun he => hk (by rw [he]))⟩
    have hbase : ∀ k, some b = some k → w0.heap.size ≤ k := fun k hk => by injection hk with hk; rw [← hk]; exact hbb
    have h4 := pw_below_drewN hB 1
    have h5 := pw_below_grown h4 (some b) (below_size h4) h2 hbase
    exact pw_below_grown h5 (some b) (below_size h5) h3 hbase
  have HR := Aside0.mk hRfin
  have HB := Aside0.mk hBfin
  clear hRfin hBfin hfin hROW3 hR3sz hN3 hW3 hdl hC2 hfar hROW2 hR2sz hN2 hW2 hcut hcs hcl hsz hzb hzs hz0 hi0 hct hokb hbb hcm hcsz hcur' hcur hC hR hB hroom hlen hnc hgb
  have mixed : Tryd.prog.follows Departure.mixedOrders = true := by kernel_rfl
  go_enter Tryd.func24, Tryd.ntmps24
  go_wp2_with (simp only [hov])
  go_region_law_o (refine step_copy_runI rfl _ _ 23 23 rfl (.slice (some ⟨b, (i + 1) * 2, none⟩) (l.length + 1 - (i + 1)) (c - (i + 1))) (.slice (some ⟨b, i * 2, none⟩) (l.length + 1 - i) (c - i)) (by simp [Act.eval, Act.put]) (by simp [Act.eval, Act.put]) (hcpA 3) ?_)
  go_wp2_with (at_builtin; refine wpList_copy_runI _ rfl _ _ 23 23 rfl _ _ rfl rfl (hcpB _) ?_)
  go_ret
  exact ⟨_, rfl, HR.out, HB.out⟩
set_option maxHeartbeats 4000000 in
set_option maxRecDepth 100000 in
theorem insert_end (A : Option Addr) (c g : Nat) (l : List S31) (x : S31) (w0 w : World) (ok : Nat → Prop) (hlen : l.length ≤ 100000) (hB : Below w0.heap.size w0 w) (hfr : ∀ k, w.heap.size ≤ k → ok k) (hR : Kd.R k31 31 w w0.heap.size ok (.slice A l.length c) l) (hC : Kd.C k31 w (some ⟨g, 0, none⟩) 1 [x]) :
    Calls Tryd.prog 24 #[.slice A l.length c, .int .i64 l.length, .slice (some ⟨g, 0, none⟩) 1 1] w fun e w' => ∃ v, e = .returned v ∧ Kd.R k31 31 w' w0.heap.size ok v (l ++ [x]) ∧ Below w0.heap.size w0 w' := by
  obtain ⟨V, hV⟩ : ∃ V : Value, ∀ W, (Instr.slice 23 (.slice A l.length c) (some (.int .i64 (l.length : Int))) none none).run Tryd.prog W = .ok V W := by
    obtain ⟨i0, hi0, hz0, hzs, hzb⟩ := info_parts info31
    exact ⟨_, cut_from 23 31 .i64 Tryd.underlying23 hi0 2 hzs A l.length c (l.length : Int) (by omega) (by omega)⟩
  have HB := Aside0.mk hB
  have HF := Aside0.mk hfr
  have HO := Aside0.mk hR
  have HC := Aside0.mk hC
  have HL : Aside0 ((l.length + [x].length) * 32 ≤ 140737488355328) := ⟨by show (l.length + 1) * 32 ≤ _; omega⟩
  clear hB hfr hR hC hlen
  go_enter Tryd.func24, Tryd.ntmps24
  go_wp2_with ((with_reducible refine gate_builtin (b := .append) (xs := #[.tmp 23, .tmp 24]) rfl ?_); at_builtin; refine Kd.R_append_rows k31 (w0 := w0) w0.heap.size rfl (.tmp 23) (.tmp 24) 23 31 (.agg #[(.string ⟨#[]⟩), (.string ⟨#[]⟩)]) 32 rfl Tryd.underlying23 info31 rfl (by decide) (by omega) _ l [x] (some ⟨g, 0, none⟩) 1 1 ok (fun _ => False) rfl rfl ?aO ?aR (fun _ _ h => h) (fun _ h => h.elim) ?aF ?aB ?aS ?aL ?_; (case aR => exact HC.out); (case aB => exact HB.out); (case aF => exact HF.out); (case aO => exact HO.out); (case aS => exact below_size HB.out); (case aL => exact HL.out); intro v2 w2 ho hb hg hat; have HO2 := Aside0.mk ho; have HB2 := Aside0.mk hb; clear ho hb hg hat)
  go_ret
  exact ⟨_, rfl, HO2.out, HB2.out⟩
theorem insert_calls (A : Option Addr) (c i g : Nat) (l : List S31) (x : S31) (w0 w : World) (ok : Nat → Prop) (hi : i ≤ l.length) (hlen : l.length ≤ 100000) (hne : some g ≠ (Value.slice A l.length c).ownBlock) (hB : Below w0.heap.size w0 w) (hfr : ∀ k, w.heap.size ≤ k → ok k) (hR : Kd.R k31 31 w w0.heap.size ok (.slice A l.length c) l) (hC : w.heap[g]? = some (.cells #[.string x.f0, .string x.f1] 31 (0, 0))) :
    Calls Tryd.prog 24 #[.slice A l.length c, .int .i64 i, .slice (some ⟨g, 0, none⟩) 1 1] w fun e w' => ∃ v, e = .returned v ∧ Kd.R k31 31 w' w0.heap.size ok v (l.take i ++ x :: l.drop i) ∧ Below w0.heap.size w0 w' := by
  have hCC : Kd.C k31 w (some ⟨g, 0, none⟩) 1 [x] := by
    refine ⟨rfl, by decide, fun _ => ⟨_, rfl, fun j p hj => ?_⟩⟩
    cases j with
    | succ j => simp at hj
    | zero =>
      cases hj
      refine ⟨_, rfl, k31_mk _ x, fun i u hu => ?_⟩
      rw [show (0 * k31.sz + i) = i by omega, add_plain, blk_cell hC]
      simpa using hu
  rcases Nat.lt_or_ge i l.length with h1 | h1
  · obtain ⟨b, cap, hv, _, _, _⟩ := Kd.R_form hR (by omega)
    injection hv with hA _ hc
    subst hA; subst hc
    rcases Nat.lt_or_ge c (l.length + 1) with h2 | h2
    · exact insert_grow b c i g l x w0 w ok h1 h2 hlen hB hfr hR hC
    · exact insert_shift b c i g l x w0 w ok h1 h2 hlen (fun he => hne (by rw [he]; simp [Value.ownBlock])) hB hR hC
  · obtain rfl : i = l.length := by omega
    rw [List.take_length, List.drop_length]
    exact insert_end A c g l x w0 w ok hlen hB hfr hR hCC
def insAt (l : List S31) (r : Int) (x : S31) : List S31 := if r < 0 then l ++ [x] else l.take r.toNat ++ x :: l.drop r.toNat
theorem idxS_spec (k : Nat) (n : Int) : ∀ (l : List S31) (i : Nat) (r : Int), idxS k n i l = some r → r = -1 ∨ ∃ j, r = ((i + j : Nat) : Int) ∧ j < l.length
  | [], i, r, h => .inl (Option.some.inj h).symm
  | x :: t, i, r, h => by
    obtain ⟨fr, hf, h⟩ := Option.bind_eq_some_iff.mp h
    by_cases hp : decide (n < fr.2.2.2.1) = true
    · replace h : (if decide (n < fr.2.2.2.1) = true then some (i : Int) else idxS k n (i + 1) t) = some r := h
      rw [if_pos hp] at h
      exact .inr ⟨0, by rw [← Option.some.inj h, Nat.add_zero], by simp⟩
    · replace h : (if decide (n < fr.2.2.2.1) = true then some (i : Int) else idxS k n (i + 1) t) = some r := h
      rw [if_neg hp] at h
      rcases idxS_spec k n t (i + 1) r h with h1 | ⟨j, h1, h2⟩
      · exact .inl h1
      · exact .inr ⟨j + 1, by rw [h1, show i + 1 + j = i + (j + 1) by omega], by simpa using h2⟩
theorem idxS_mono (n : Int) : ∀ (l : List S31) (i k : Nat), LeO (idxS k n i l) (idxS (k + 1) n i l)
  | [], i, k => LeO.refl _
  | x :: t, i, k => LeO.bind (vars_find.mono _ _) (fun _ => LeO.ite (LeO.refl _) (idxS_mono n t (i + 1) k))
def vars_Set.f (k : Nat) (l0 : List S31) (a1 a2 : ByteArray) : Option (List S31 × Int) :=
  (vars_Right.f k l0).bind fun ok => if ok = true then (vars_Form.f k a1 a2).bind fun se => if se.2 = 0 then (vars_find.f k a1).bind fun fr => if l0.length ≤ 100000 then (if se.1.toList = fr.2.2.1.toList then some (keepN a1 l0, 0) else (idxS k fr.2.2.2.1 0 (keepN a1 l0)).bind fun r => some (insAt (keepN a1 l0) r ⟨a1, se.1⟩, 0)) else none else some ([], se.2) else some ([], 1)
theorem vars_Set.mono : ∀ l0 a1 a2 k, LeO (vars_Set.f k l0 a1 a2) (vars_Set.f (k + 1) l0 a1 a2) := by
  intro l0 a1 a2 k
  unfold vars_Set.f
  refine LeO.bind (vars_Right.mono _ _) (fun _ => LeO.ite (LeO.bind (vars_Form.mono _ _ _) (fun _ => LeO.ite (LeO.bind (vars_find.mono _ _) (fun _ => LeO.ite (LeO.ite (LeO.refl _) (LeO.bind (idxS_mono _ _ _ _) (fun _ => LeO.refl _))) (LeO.none _))) (LeO.refl _))) (LeO.refl _))
theorem keepN_length (s : ByteArray) (l : List S31) : (keepN s l).length ≤ l.length := List.length_filter_le _ _
set_option maxHeartbeats 4000000 in
set_option maxRecDepth 100000 in
theorem vars_Set.calls (k : Nat) (A0 : Option Addr) (c0 : Nat) (l0 : List S31) (a1 a2 : ByteArray) (r1 : List S31) (r2 : Int) (w : World) (hr0 : Kd.C k31 w A0 l0.length l0) (hc0 : l0.length ≤ c0) (h : vars_Set.f k l0 a1 a2 = some (r1, r2)) (htab : TabOK w) :
    Calls Tryd.prog 7 #[.slice A0 l0.length c0, .string a1, .string a2] w fun e w' => ∃ v0_ : Value, e = .returned (.tuple #[v0_, .int .i64 r2]) ∧ Kd.R k31 31 w' w.heap.size (fun _ => True) v0_ r1 ∧ Below w.heap.size w w' := by
  have hmf : ∀ (fn : Fn) (first cap : Array Value) (w : World), (Instr.makeFunc fn first cap).run Tryd.prog w = .ok (.func fn first cap) w := fun _ _ _ _ => rfl
  unfold vars_Set.f at h
  obtain ⟨okr, h1, h⟩ := Option.bind_eq_some_iff.mp h
  have HB := Aside0.mk (Below.refl w.heap.size w)
  have HT := Aside0.mk htab
  clear htab
  have HR0 := Aside0.mk hr0
  have HC0 := Aside0.mk hc0
  have H1 := Aside0.mk h1
  clear hr0 hc0 h1
  by_cases hok : okr = true
  · rw [if_pos hok] at h
    subst hok
    obtain ⟨se, h2, h⟩ := Option.bind_eq_some_iff.mp h
    obtain ⟨s, e⟩ := se
    replace h : (if e = 0 then (vars_find.f k a1).bind fun fr => if l0.length ≤ 100000 then (if s.toList = fr.2.2.1.toList then some (keepN a1 l0, 0) else (idxS k fr.2.2.2.1 0 (keepN a1 l0)).bind fun r => some (insAt (keepN a1 l0) r (⟨a1, s⟩ : S31), 0)) else none else some ([], e)) = some (r1, r2) := h
    have H2 := Aside0.mk h2
    clear h2
    by_cases he : e = 0
    · rw [if_pos he] at h
      subst he
      obtain ⟨fr, h3, h⟩ := Option.bind_eq_some_iff.mp h
      obtain ⟨f1, f2, f3, f4, f5⟩ := fr
      replace h : (if l0.length ≤ 100000 then (if s.toList = f3.toList then some (keepN a1 l0, 0) else (idxS k f4 0 (keepN a1 l0)).bind fun r => some (insAt (keepN a1 l0) r (⟨a1, s⟩ : S31), 0)) else none) = some (r1, r2) := h
      by_cases hlen : l0.length ≤ 100000
      · rw [if_pos hlen] at h
        have H3 := Aside0.mk h3
        have H := Aside0.mk h
        have HLEN := Aside0.mk hlen
        clear h3 h hlen
        go_enter Tryd.func7, Tryd.ntmps7
        go_upto_region 7 with (first | (go_at_call 16; refine (vars_Right.calls k A0 c0 l0 true _ HR0.out HC0.out H1.out (HT.out.below HB.out)).mono ?_; rintro e w2 ⟨rfl, hb⟩; have n0_ := Aside0.mk (below_step HB.out hb); clear HB hb; have HB := n0_; clear n0_) | (go_at_call 17; refine (vars_Form.calls k a1 a2 s 0 _ H2.out (HT.out.below HB.out)).mono ?_; rintro e w2 ⟨rfl, hb⟩; have n0_ := Aside0.mk (below_step HB.out hb); clear HB hb; have HB := n0_; clear n0_) | (go_at_call 18; refine (vars_find.calls k a1 f1 f2 f3 f4 f5 _ H3.out).mono ?_; rintro e w2 ⟨rfl, hb⟩; have n0_ := Aside0.mk (below_step HB.out hb); clear HB hb; have HB := n0_; clear n0_))
        have x1 := blk_alloc (blk_new w2 (Obj.cells #[Value.string f1, Value.int IntKind.i64 f2, Value.string f3] 50)) (Obj.cells #[Value.int IntKind.i64 f4] 3)
        have x1n := blk_new (w2.alloc (Obj.cells #[Value.string f1, Value.int IntKind.i64 f2, Value.string f3] 50)) (Obj.cells #[Value.int IntKind.i64 f4] 3)
        rw [World.size_alloc] at x1n
        have x2 := below_alloc (below_alloc HB.out (Obj.cells #[Value.string f1, Value.int IntKind.i64 f2, Value.string f3] 50)) (Obj.cells #[Value.int IntKind.i64 f4] 3)
        obtain ⟨gv, hgv⟩ : ∃ gv, w2.heap.size = gv := ⟨_, rfl⟩
        obtain ⟨gn, hgn⟩ : ∃ gn, gv + 1 = gn := ⟨_, rfl⟩
        rw [hgv] at x1 x1n ⊢
        rw [hgn] at x1n ⊢
        generalize ((w2.alloc (Obj.cells #[Value.string f1, Value.int IntKind.i64 f2, Value.string f3] 50)).alloc (Obj.cells #[Value.int IntKind.i64 f4] 3)) = w3 at x1 x1n x2 ⊢
        clear HB hgv hgn
        have BK := Aside0.mk x1
        have BN := Aside0.mk x1n
        have HB := Aside0.mk x2
        clear x1 x1n x2
        go_upto_region 8 with (first
          | (go_at_call 20; refine (api_Setting.calls A0 c0 l0 l0 _ (Kd.C_below HR0.out HB.out) HC0.out ?hf).mono ?_; (case hf => unfold api_Setting.f; exact if_pos (by have := HLEN.out; omega)); rintro e w4 ⟨v4, rfl, hR4, hb4⟩; obtain ⟨A4, c4, hv4⟩ := Kd.R_slice hR4; subst hv4; have HO := Aside0.mk (Kd.R_lower (Kd.R_mono hR4 (fun _ h => h)) (below_size HB.out)); have n0_ := Aside0.mk (below_step HB.out hb4); have n1_ := Aside0.mk (blk_below BK.out hb4); have n2_ := Aside0.mk (blk_below BN.out hb4); clear HB BK BN hR4 hb4; have HB := n0_; have BK := n1_; have BN := n2_; clear n0_ n1_ n2_)
          | (go_at_call 21; refine (named_calls2 a1 _).mono ?_; rintro e w5 ⟨rfl, hw5⟩; have GF := Aside0.mk (blk_new w4 (.cells #[.string a1] 9)); have n0_ := Aside0.mk (below_alloc HB.out (.cells #[.string a1] 9)); have n1_ := Aside0.mk (blk_alloc BK.out (.cells #[.string a1] 9)); have n2_ := Aside0.mk (blk_alloc BN.out (.cells #[.string a1] 9)); have n3_ := Aside0.mk (Kd.R_alloc HO.out (.cells #[.string a1] 9)); rw [← hw5] at n0_ n1_ n2_ n3_ GF; clear HB BK BN HO hw5; have HB := n0_; have BK := n1_; have BN := n2_; have HO := n3_; clear n0_ n1_ n2_ n3_)
          | (go_at_call 19; refine (delete_calls _ a1 A4 c4 l0 w _ _ HB.out HO.out GF.out).mono ?_; rintro e w6 ⟨rfl, hO6, hB6, hG6⟩; have n0_ := Aside0.mk (blk_grown BK.out hG6 (Kd.R_ne HO.out BK.out (by decide))); have n1_ := Aside0.mk (blk_grown BN.out hG6 (Kd.R_ne HO.out BN.out (by decide))); clear HO HB BK BN GF; have HO := Aside0.mk hO6; have HB := Aside0.mk hB6; have BK := n0_; have BN := n1_; clear n0_ n1_ hO6 hB6 hG6))
        have z := (blk_cell BK.out 2).trans (show _ = some (Value.string f3) from rfl)
        have hH := H.out
        clear H BK
        generalize hkl : keepN a1 l0 = kl at hH HO ⊢
        have HKL : Aside0 (kl.length ≤ 100000) := ⟨by rw [← hkl]; exact Nat.le_trans (keepN_length a1 l0) HLEN.out⟩
        clear hkl
        by_cases hs : s.toList = f3.toList
        · rw [if_pos hs] at hH
          simp only [Option.some.injEq, Prod.mk.injEq] at hH
          obtain ⟨rfl, rfl⟩ := hH
          have hsb : (s.toList == f3.toList) = true := beq_iff_eq.mpr hs
          clear hs
          go_wp2
          go_ret2
          exact ⟨_, rfl, HO.out, HB.out⟩
        · rw [if_neg hs] at hH
          obtain ⟨r, hr, hH⟩ := Option.bind_eq_some_iff.mp hH
          simp only [Option.some.injEq, Prod.mk.injEq] at hH
          obtain ⟨rfl, rfl⟩ := hH
          have hsb : (s.toList == f3.toList) = false := beq_eq_false_iff_ne.mpr hs
          clear hs
          have HRR := Aside0.mk hr
          rcases idxS_spec k f4 kl 0 r hr with rfl | ⟨j, hrj, hj⟩
          · clear hr
            go_upto_region 13 with (go_at_call 22; refine (index23 k gn f4 (-1) A4 c4 kl _ (Kd.R_reads' HO.out).2.2 BN.out HRR.out).mono ?_; rintro e w7 ⟨rfl, hb7⟩; have n0_ := Aside0.mk (below_step HB.out hb7); have n1_ := Aside0.mk (Kd.R_below HO.out hb7); clear HB HO BN hb7 z; have HB := n0_; have HO := n1_; clear n0_ n1_)
            go_wp2_with (go_at_call 24; refine (insert_calls A4 c4 kl.length _ kl (⟨a1, s⟩ : S31) w _ (fun _ => True) ?hi HKL.out (Kd.R_ne_new HO.out 0) (below_alloc HB.out _) (fun _ _ => trivial) (Kd.R_alloc HO.out _) (blk_new _ _)).mono ?_; (case hi => exact Nat.le_refl _); rintro e w8 ⟨v8, rfl, hR8, hB8⟩; have HR8 := Aside0.mk hR8; have HB8 := Aside0.mk hB8; clear hR8 hB8)
            go_ret2
            exact ⟨_, rfl, by have h9 := HR8.out; rw [List.take_length, List.drop_length] at h9; exact h9, HB8.out⟩
          · rw [Nat.zero_add] at hrj
            subst hrj
            have HJ := Aside0.mk hj
            have hj0 : decide ((j : Int) < 0) = false := decide_eq_false (by omega)
            clear hr hj
            go_upto_region 13 with (go_at_call 22; refine (index23 k gn f4 (j : Int) A4 c4 kl _ (Kd.R_reads' HO.out).2.2 BN.out HRR.out).mono ?_; rintro e w7 ⟨rfl, hb7⟩; have n0_ := Aside0.mk (below_step HB.out hb7); have n1_ := Aside0.mk (Kd.R_below HO.out hb7); clear HB HO BN hb7 z; have HB := n0_; have HO := n1_; clear n0_ n1_)
            go_wp2_with (go_at_call 24; refine (insert_calls A4 c4 j _ kl (⟨a1, s⟩ : S31) w _ (fun _ => True) ?hi HKL.out (Kd.R_ne_new HO.out 0) (below_alloc HB.out _) (fun _ _ => trivial) (Kd.R_alloc HO.out _) (blk_new _ _)).mono ?_; (case hi => exact Nat.le_of_lt HJ.out); rintro e w8 ⟨v8, rfl, hR8, hB8⟩; have HR8 := Aside0.mk hR8; have HB8 := Aside0.mk hB8; clear hR8 hB8)
            go_ret2
            exact ⟨_, rfl, by unfold insAt; rw [if_neg (by omega), Int.toNat_natCast]; exact HR8.out, HB8.out⟩
      · rw [if_neg hlen] at h
        cases h
    · rw [if_neg he] at h
      simp only [Option.some.injEq, Prod.mk.injEq] at h
      obtain ⟨rfl, rfl⟩ := h
      have heb : (e != 0) = true := bne_iff_ne.mpr he
      go_enter Tryd.func7, Tryd.ntmps7
      go_wp2_with (first | (go_at_call 16; refine (vars_Right.calls k A0 c0 l0 true _ HR0.out HC0.out H1.out (HT.out.below HB.out)).mono ?_; rintro e w2 ⟨rfl, hb⟩; have n0_ := Aside0.mk (below_step HB.out hb); clear HB hb; have HB := n0_; clear n0_) | (go_at_call 17; refine (vars_Form.calls k a1 a2 s e _ H2.out (HT.out.below HB.out)).mono ?_; rintro e w2 ⟨rfl, hb⟩; have n0_ := Aside0.mk (below_step HB.out hb); clear HB hb; have HB := n0_; clear n0_))
      go_ret2
      exact ⟨_, rfl, Kd.R_nil _ _ _ _ _, by repeat (first | exact HB.out | apply below_alloc | apply pw_below_drewN | apply below_drew1)⟩
  · rw [if_neg hok] at h
    have hokf : okr = false := by simpa using hok
    subst hokf
    simp only [Option.some.injEq, Prod.mk.injEq] at h
    obtain ⟨rfl, rfl⟩ := h
    go_enter Tryd.func7, Tryd.ntmps7
    go_wp2_with (go_at_call 16; refine (vars_Right.calls k A0 c0 l0 false _ HR0.out HC0.out H1.out (HT.out.below HB.out)).mono ?_; rintro e w2 ⟨rfl, hb⟩; have n0_ := Aside0.mk (below_step HB.out hb); clear HB hb; have HB := n0_; clear n0_)
    go_ret2
    exact ⟨_, rfl, Kd.R_nil _ _ _ _ _, by repeat (first | exact HB.out | apply below_alloc | apply pw_below_drewN | apply below_drew1)⟩
end

end Go.Proofs.YtdobpgomgnaleaaDoor.P
