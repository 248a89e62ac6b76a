/- The machine's side: functions of the translation as plain Lean functions, and that the machine's calls come to what they say. No condition. Written by a program (wip/tools/pp.py over the kit's printer); Lean checks it. -/
import Derived.Test.YtpfpjdeaocbnfaaPx0
import Derived.Test.YtpfpjdeaocbnfaaPx1
namespace Go.Proofs.Ytpfpjdeaocbnfaa.P
open Go.RowKit Go.Proofs.YtpfpjdeaocbnfaaW.PrintWords Go.Proofs.YtpfpjdeaocbnfaaW.PrintLast Go.Proofs.YtpfpjdeaocbnfaaW.PrintMore
attribute [local go_sem] max2_int min2_int max_two min_two max_three min_three max_four min_four   -- for this text's walks alone
set_option linter.unusedVariables false
set_option linter.unusedSimpArgs false

/-! ### stack_deep: function 19 -/
theorem setCells_row (g : Nat) (t : TypeId) : ∀ (vs : List Value) (o : Nat) (cur : Array Value) (w : World), w.heap[g]? = some (.cells cur t (0, 0)) → o + vs.length ≤ cur.size →
    w.setCells g o vs = w.setRow g (cur.toList.take o ++ vs ++ cur.toList.drop (o + vs.length)).toArray
  | [], o, cur, w, hg, _ => by
    simp only [World.setCells, List.append_nil, List.length_nil, Nat.add_zero, List.take_append_drop, Array.toArray_toList]
    rw [setRow_self w g cur t (0, 0) hg]
  | v :: rest, o, cur, w, hg, hl => by
    have ih := setCells_row g t rest (o + 1) (cur.setIfInBounds o v) (w.setRow g (cur.setIfInBounds o v)) (setRow_heap w g cur _ t _ hg) (by simp at hl ⊢; omega)
    simp only [World.setCells]
    rw [setCell_eq_setRow w g o cur t (0, 0) v hg, ih, setRow_setRow]
    have e := list_seg_step cur.toList o v rest (by simp at hl ⊢; omega)
    congr 2
    simpa [Array.toList_setIfInBounds, Nat.add_assoc] using e
/-- The cells that are moved one to the left. -/
def moved (cur : Array Value) (i n : Nat) : List Value := (cur.toList.take n).drop (i + 1)
theorem moved_length {cur : Array Value} {i n : Nat} (h : n ≤ cur.size) : (moved cur i n).length = n - (i + 1) := by
  simp only [moved, List.length_drop, List.length_take, Array.length_toList]
  omega
theorem moved_get {cur : Array Value} {i n j : Nat} {u : Value} (h : (moved cur i n)[j]? = some u) : cur[i + 1 + j]? = some u := by
  simp only [moved, List.getElem?_drop, List.getElem?_take] at h
  by_cases hj : i + 1 + j < n
  · rw [if_pos hj] at h
    simpa using h
  · rw [if_neg hj] at h
    cases h
section
variable {P : Program} {ops : Array Oper} {rest : List Oper} {o : Oper} {a : Act} {Q : Exit → Act → World → Prop}
/-- The builtin clear as a step of the walk. -/
theorem wpList_clear {W w1 : World} (hgd : o.guard = none) (d : Operand) (t : TypeId) (hop : o.op = .call { callee := .builtin .clear, args := #[d], argTypes := #[t] }) (v : Value) (hd : a.eval d = v)
    (hrun : (Builtin.clear_ #[t] o.type #[v]).run P W = .ok (.tuple #[]) w1) (h : wpList P ops Q rest (a.put o.dst (.tuple #[])) w1) : wpList P ops Q (o :: rest) a W := by
  refine wpList_plain hgd fun K hK => ?_
  unfold Oper.wp execOp
  simp only [hop, resolve, invoke, builtin, Sem.run_bind, Sem.run_pure, Result.andThen_ok, List.map_toArray, List.map_cons, List.map_nil, hd, hrun]
  exact hK _ _ h
end
set_option maxHeartbeats 1600000 in
set_option maxRecDepth 1000000 in
theorem stack_deep.delete (g n cap i : Nat) (cur : Array Value) (w : World) (hg : w.heap[g]? = some (.cells cur 39 (0, 0))) (hs : cur.size = cap) (hi : i < n) (hl : n ≤ cap) (hm : cap ≤ 9223372036854775807) (h1 : ∀ v ∈ cur.toList.take n, v.oneCell' = true) :
    Calls Try.prog 23 #[.slice (some ⟨g, 0, none⟩) n cap, .int .i64 (i : Int), .int .i64 ((i : Int) + 1)] w fun e w' => e = .returned (.slice (some ⟨g, 0, none⟩) (n - 1) cap) ∧ w' = (w.drew.setCells g i (moved cur i n)).setCells g (n - 1) (List.replicate 1 (.int .u32 0)) := by
  obtain ⟨i0, hi0, hz0, hz1, hz2⟩ := info_parts info39
  obtain ⟨A, hA, hnews⟩ : ∃ A : Addr, (if cap = i + 1 then some (⟨g, 0, none⟩ : Addr) else some ⟨g, i + 1, none⟩) = some A ∧ Hid (∀ j u, (moved cur i n)[j]? = some u → w.drew.cell? (A.add j) = some u) := by
    by_cases h : cap = i + 1
    · refine ⟨⟨g, 0, none⟩, by simp [h], fun j u hu => ?_⟩
      have h0 : (moved cur i n).length = 0 := by rw [moved_length (by omega)]; omega
      rw [List.length_eq_zero_iff.1 h0] at hu
      simp at hu
    · refine ⟨⟨g, i + 1, none⟩, by simp [h], fun j u hu => ?_⟩
      have hq := moved_get hu
      rw [Addr.add_lit]
      show w.cell? _ = _
      simp [World.cell?, hg, hq]
  have s1 : Hid ((moved cur i n).length = (n - (i + 1)) * 1) := by rw [Nat.mul_one]; exact moved_length (by omega)
  have s2 : Hid (∀ u ∈ moved cur i n, u.oneCell' = true) := by
    intro u hu
    exact h1 u (List.mem_of_mem_drop hu)
  have s3 : Hid (∀ j, j < (moved cur i n).length → (w.drew.cell? ⟨g, 0 + i * 1 + j, none⟩).isSome = true ∧ w.drew.frozen? ⟨g, 0 + i * 1 + j, none⟩ = false) := by
    intro j hj
    rw [moved_length (by omega)] at hj
    constructor
    · show (w.cell? _).isSome = true
      have : i + j < cur.size := by omega
      simp [World.cell?, hg, this]
    · show w.frozen? _ = false
      simp [World.frozen?, hg]
  have hic : i ≤ cap := by omega
  have hin : (i : Int) ≤ (n : Int) := by omega
  have hp0 : (0 : Int) ≤ (i : Int) + 1 := by omega
  have hp1 : (i : Int) + 1 ≤ (n : Int) := by omega
  have hp2 : ((i : Int) + 1).toNat = i + 1 := by omega
  have hp3 : (i : Int) ≤ (i : Int) + 1 := by omega
  have hne : ((i : Int) == (i : Int) + 1) = false := by simp; omega
  clear h1
  have hz : ∀ w, (zeroValue 39).run Try.prog w = .ok (.int .u32 0) w := fun w => by simp [zeroValue, typeInfo, hi0, hz0]
  have hi9 : i + (n - (i + 1)) = n - 1 := by omega
  have hk1 : ((w.drew.setCells g i (moved cur i n)).cell? ⟨g, n - 1 + 0, none⟩).isSome := by
    refine World.isSome_setCells g _ _ _ _ ?_
    show (w.cell? _).isSome = true
    have : n - 1 < cur.size := by omega
    simp [World.cell?, hg, this]
  have hk2 : (w.drew.setCells g i (moved cur i n)).frozen? ⟨g, n - 1 + 0, none⟩ = false := by
    rw [World.frozen?_setCells]
    show w.frozen? _ = false
    simp [World.frozen?, hg]
  have hk3 : ∀ j, j < 1 → ((w.drew.setCells g i (moved cur i n)).cell? ⟨g, n - 1 + j, none⟩).isSome := by
    intro j hj
    have hj0 : j = 0 := by omega
    subst hj0
    exact hk1
  have hk4 : ∀ j, j < 1 → (w.drew.setCells g i (moved cur i n)).frozen? ⟨g, n - 1 + j, none⟩ = false := by
    intro j hj
    have hj0 : j = 0 := by omega
    subst hj0
    exact hk2
  have HK := Aside0.mk (Lib.run_clear_slice (P := Try.prog) (w.drew.setCells g i (moved cur i n)) 22 39 0 (.int .u32 0) Try.underlying22 hz rfl rfl g (n - 1) 1 (cap - (n - 1)) (by omega) hk3 hk4)
  have hle1 : ((n - 1 : Nat) : Int) ≤ (n : Int) := by omega
  have hi8 : n - (n - 1) = 1 := by omega
  clear hg hk1 hk2 hk3 hk4 hz
  go_enter Try.func23, Try.ntmps23
  go_wp2_with fail
  go_region_law (refine step_append_room rfl (.tmp 22) (.tmp 25) 22 rfl 39 i0 1 Try.underlying22 hi0 hz1 g 0 i cap (by simp [Act.eval, Act.put]) A (n - (i + 1)) (cap - (i + 1)) (moved cur i n) (by simp [Act.eval, Act.put]) s1.out hnews.out s2.out (by omega) s3.out ?_)
  go_wp2_with ((with_reducible refine gate_builtin (b := .clear) (xs := #[.tmp 31]) rfl ?_); go_must (refine wpList_clear rfl (.tmp 31) 22 rfl (.slice (some ⟨g, n - 1, none⟩) 1 (cap - (n - 1))) rfl HK.out ?_))
  go_ret
  exact ⟨rfl, rfl⟩
theorem deleted_take {xs : List Int} {i cap : Nat} {cur : Array Value} (hi : i < xs.length) (hc : xs.length ≤ cap) (hs : cur.size = cap) (ht : cur.toList.take xs.length = encs (Value.int .u32) xs) (z : Value) :
    let X := cur.toList.take i ++ moved cur i xs.length ++ cur.toList.drop (i + (moved cur i xs.length).length)
    let Y := X.take (xs.length - 1) ++ [z] ++ X.drop (xs.length - 1 + 1)
    X.length = cap ∧ Y.length = cap ∧ Y.take (xs.length - 1) = encs (Value.int .u32) (xs.take i ++ xs.drop (i + 1)) := by
  intro X Y
  have hml := moved_length (i := i) (show xs.length ≤ cur.size by omega)
  have hcu : cur.toList.length = cur.size := Array.length_toList
  have hX : X.length = cap := by
    show (cur.toList.take i ++ moved cur i xs.length ++ cur.toList.drop (i + (moved cur i xs.length).length)).length = cap
    rw [List.length_append, List.length_append, List.length_take, List.length_drop, hml, hcu]
    omega
  have hXt : X.take (xs.length - 1) = cur.toList.take i ++ moved cur i xs.length := by
    show (cur.toList.take i ++ moved cur i xs.length ++ cur.toList.drop (i + (moved cur i xs.length).length)).take (xs.length - 1) = _
    rw [List.take_append_of_le_length (by rw [List.length_append, List.length_take, hml, hcu]; omega), List.take_of_length_le (by rw [List.length_append, List.length_take, hml, hcu]; omega)]
  refine ⟨hX, ?_, ?_⟩
  · show (X.take (xs.length - 1) ++ [z] ++ X.drop (xs.length - 1 + 1)).length = cap
    rw [List.length_append, List.length_append, List.length_take, List.length_drop, hX]
    simp only [List.length_cons, List.length_nil]
    omega
  · show (X.take (xs.length - 1) ++ [z] ++ X.drop (xs.length - 1 + 1)).take (xs.length - 1) = _
    rw [List.append_assoc, List.take_append_of_le_length (by rw [List.length_take, hX]; omega), List.take_of_length_le (by rw [List.length_take]; omega), hXt]
    unfold moved
    rw [ht]
    have h2 : cur.toList.take i = (encs (Value.int .u32) xs).take i := by
      rw [← ht, List.take_take, Nat.min_eq_left (by omega)]
    rw [h2]
    unfold encs
    rw [List.map_append, List.map_take, List.map_drop]
theorem deleted_R {e : Nat} {xs : List Int} {g cap i base : Nat} {ok : Nat → Prop} {cur : Array Value} {w w0 : World} (hg : w.heap[g]? = some (.cells cur e (0, 0))) (hs : cur.size = cap) (hi : i < xs.length) (hc : xs.length ≤ cap) (hm : cap ≤ maxLen)
    (ht : cur.toList.take xs.length = encs (Value.int .u32) xs) (hb : base ≤ g) (hok : ok g) (HB : Below base w0 w) :
    Kd.R (Kd.int .u32) e ((w.drew.setCells g i (moved cur i xs.length)).setCells g (xs.length - 1) (List.replicate 1 (.int .u32 0))) base ok (.slice (some ⟨g, 0, none⟩) (xs.length - 1) cap) (xs.take i ++ xs.drop (i + 1)) ∧
      Below base w0 ((w.drew.setCells g i (moved cur i xs.length)).setCells g (xs.length - 1) (List.replicate 1 (.int .u32 0))) := by
  have hml := moved_length (i := i) (show xs.length ≤ cur.size by omega)
  obtain ⟨hX, hY, hT⟩ := deleted_take hi hc hs ht (.int .u32 0)
  have hl : (xs.take i ++ xs.drop (i + 1)).length = xs.length - 1 := by
    rw [List.length_append, List.length_take, List.length_drop]
    omega
  have hg0 : w.drew.heap[g]? = some (.cells cur e (0, 0)) := hg
  rw [setCells_row g e _ i cur w.drew hg0 (by rw [hml]; omega), setCells_row g e _ (xs.length - 1) _ _ (setRow_heap _ g _ _ e _ hg0) (by rw [List.size_toArray, hX, List.length_replicate]; omega), setRow_setRow]
  refine ⟨?_, below_setRow (below_drew1 HB) hb _⟩
  have hR := Kd.R_of_own (enc := Value.int .u32) (h1 := fun _ => rfl) (e := e) (w := w.drew.setRow g ((cur.toList.take i ++ moved cur i xs.length ++ cur.toList.drop (i + (moved cur i xs.length).length)).take (xs.length - 1) ++ [Value.int .u32 0] ++ (cur.toList.take i ++ moved cur i xs.length ++ cur.toList.drop (i + (moved cur i xs.length).length)).drop (xs.length - 1 + 1)).toArray) (base := base) (ok := ok) (v := .slice (some ⟨g, 0, none⟩) (xs.take i ++ xs.drop (i + 1)).length cap) (xs := xs.take i ++ xs.drop (i + 1)) ⟨by unfold encs; rw [List.length_map, Nat.mul_one], .inr ⟨g, cap, _, rfl, hb, setRow_heap _ g _ _ e _ hg0, by rw [hl]; omega, hm, by rw [List.size_toArray, hY, Nat.mul_one], by rw [hl, Nat.mul_one, List.toList_toArray]; exact hT⟩⟩ (fun k hk => by
      have : g = k := by simpa [Value.ownBlock] using hk
      rw [← this]
      exact hok)
  rw [hl] at hR
  exact hR
def stack_deep.f (a0 : Int) (l1 : List Int) : Option (List Int × Int) :=
  if l1.length < 35184372088832 then
    (if l1.length = 0 then some ([], 5) else
      (if 0 ≤ l1.getD (l1.length - 1) 0 ∧ l1.getD (l1.length - 1) 0 ≤ 4294967295 then
        (if (l1.length : Int) - 1 ≤ l1.getD (l1.length - 1) 0 then some ([], 5)
         else some ((if a0 = 79 then (l1.take (l1.length - 1)).take (l1.length - 2 - (l1.getD (l1.length - 1) 0).toNat) ++ (l1.take (l1.length - 1)).drop (l1.length - 2 - (l1.getD (l1.length - 1) 0).toNat + 1) else l1.take (l1.length - 1)) ++ [(l1.take (l1.length - 1)).getD (l1.length - 2 - (l1.getD (l1.length - 1) 0).toNat) 0], 0))
       else none))
  else none
set_option maxHeartbeats 1600000 in
set_option maxRecDepth 1000000 in
theorem stack_deep.calls (a0 : Int) (A1 : Option Addr) (c1 : Nat) (l1 : List Int) (r1 : List Int) (r2 : Int) (w : World) (hr1 : Kd.C (Kd.int .u32) w A1 l1.length l1) (hc1 : l1.length ≤ c1) (h : stack_deep.f a0 l1 = some (r1, r2)) :
    Calls Try.prog 19 #[.int .i64 a0, .slice A1 l1.length c1] w fun e w' => ∃ v0_ : Value, e = .returned (.tuple #[v0_, .int .i64 r2]) ∧ Kd.R (Kd.int .u32) 39 w' w.heap.size (fun _ => True) v0_ r1 ∧ Below w.heap.size w w' := by
  unfold stack_deep.f at h
  by_cases hb : l1.length < 35184372088832
  · rw [if_pos hb] at h
    have HR1 := Aside0.mk hr1
    have HC1 := Aside0.mk hc1
    have HL := Aside0.mk hb
    clear hr1 hc1 hb
    by_cases h0 : l1.length = 0
    · rw [if_pos h0] at h
      simp only [Option.some.injEq, Prod.mk.injEq] at h
      obtain ⟨rfl, rfl⟩ := h
      have P1 := Aside0.mk (show stack_Pop.f l1 1 = some ([], [], 5) by
        have c1 : ¬ (1 : Int) < 0 := by omega
        have c2 : (1 : Int) > (l1.length : Int) := by omega
        unfold stack_Pop.f
        rw [if_neg c1, if_pos c2])
      clear h0
      go_enter Try.func19, Try.ntmps19
      go_wp2_with fail
      (with_reducible refine (stack_Pop.calls _ _ l1 1 _ _ _ _ ?s1 ?s2 P1.out).mono ?_)
      (case s1 => exact HR1.out)
      (case s2 => exact HC1.out)
      rintro e w1 ⟨v0, v1, rfl, ho0, ho1, hb1⟩
      have HB1 := Aside0.mk hb1
      obtain ⟨A2, c2, e2⟩ := Kd.R_slice ho0
      obtain ⟨A3, c3, e3⟩ := Kd.R_slice ho1
      subst e2 e3
      clear ho0 ho1 hb1
      go_wp2_with fail
      go_ret2
      exact ⟨_, rfl, Kd.R_nil _ _ _ _ _, HB1.out⟩
    · rw [if_neg h0] at h
      obtain ⟨x, hx⟩ : ∃ x, l1.getD (l1.length - 1) 0 = x := ⟨_, rfl⟩
      obtain ⟨r, hr⟩ : ∃ r, l1.take (l1.length - 1) = r := ⟨_, rfl⟩
      obtain ⟨m, hm⟩ : ∃ m, m = r.length := ⟨_, rfl⟩
      have hlen : l1.length = m + 1 := by rw [hm, ← hr, List.length_take]; omega
      rw [hx, hr, hlen] at h
      have hdrop : l1.drop (l1.length - 1) = [x] := by
        apply List.ext_getElem?
        intro j
        rw [List.getElem?_drop, ← hx]
        rcases Nat.eq_zero_or_pos j with hj | hj
        · subst hj
          rw [Nat.add_zero, List.getElem?_cons_zero, List.getD_eq_getElem?_getD, List.getElem?_eq_getElem (by omega)]
          rfl
        · rw [List.getElem?_eq_none (by omega), List.getElem?_eq_none (by simp; omega)]
      have hw : wrap64 ((l1.length : Int) - 1) = (m : Int) := by unfold wrap64; have := HL.out; omega
      have ht1 : ((m : Nat) : Int).toNat = l1.length - 1 := by omega
      have P1 := Aside0.mk (show stack_Pop.f l1 1 = some (r, [x], 0) by
        have c1 : ¬ (1 : Int) < 0 := by omega
        have c2 : ¬ (1 : Int) > (l1.length : Int) := by omega
        have c3 : 0 ≤ (m : Int) := by omega
        have c4 : (m : Int) ≤ (l1.length : Int) := by omega
        unfold stack_Pop.f slices_Clone_uint32_uint32.f
        rw [if_neg c1, if_neg c2, hw, if_pos c3, if_pos c4, ht1, hr, hdrop, if_pos (by have := HL.out; omega), Option.bind_some, if_pos (by simp only [List.length_cons, List.length_nil]; omega), Option.bind_some])
      by_cases hb : 0 ≤ x ∧ x ≤ 4294967295
      · rw [if_pos hb] at h
        have hx1 := hb.1
        have hx2 := hb.2
        have HM := Aside0.mk (show m < 35184372088832 by have := HL.out; omega)
        clear hdrop hw ht1 hb h0 hx hr hlen
        by_cases hc : ((m + 1 : Nat) : Int) - 1 ≤ x
        · rw [if_pos hc] at h
          simp only [Option.some.injEq, Prod.mk.injEq] at h
          obtain ⟨rfl, rfl⟩ := h
          have hcb : decide ((m : Int) ≤ x) = true := decide_eq_true (by omega)
          have hum : IntKind.u64.wrap (m : Int) = (m : Int) := by have := HM.out; simp [IntKind.wrap, IntKind.bits, IntKind.signed]; omega
          clear hc
          have HMe := Aside0.mk hm
          clear hm
          go_enter Try.func19, Try.ntmps19
          go_wp2_with fail
          (with_reducible refine (stack_Pop.calls _ _ l1 1 _ _ _ _ ?s1 ?s2 P1.out).mono ?_)
          (case s1 => exact HR1.out)
          (case s2 => exact HC1.out)
          rintro e w1 ⟨v0, v1, rfl, ho0, ho1, hb1⟩
          have HB1 := Aside0.mk hb1
          obtain ⟨A2, c2, e2⟩ := Kd.R_slice ho0
          obtain ⟨A3, c3, e3⟩ := Kd.R_slice ho1
          subst e2 e3
          rw [← HMe.out]
          obtain ⟨ad, rfl, hcell⟩ := (Kd.R_reads' ho1).2.2.2.2 (by simp only [List.length_cons, List.length_nil]; omega)
          obtain ⟨cs, _, hK, hq⟩ := hcell 0 x rfl
          have hK' : cs = [Value.int .u32 x] := hK
          have hq0 : w1.cell? ad = some (.int .u32 x) := by
            have h9 := hq 0 (.int .u32 x) (by rw [hK']; rfl)
            rwa [show ad.add (0 * (Kd.int .u32).sz + 0) = ad from by show ad.add (0 * 1 + 0) = ad; cases ad with | mk b o s => cases s <;> simp [Addr.add]] at h9
          clear ho0 ho1 hb1 hq hK hK' hcell
          go_wp2_with fail
          go_ret2
          exact ⟨_, rfl, Kd.R_nil _ _ _ _ _, HB1.out⟩
        · rw [if_neg hc] at h
          simp only [Option.some.injEq, Prod.mk.injEq] at h
          obtain ⟨hr1, rfl⟩ := h
          have hcb : decide ((m : Int) ≤ x) = false := decide_eq_false (by omega)
          have hum : IntKind.u64.wrap (m : Int) = (m : Int) := by have := HM.out; simp [IntKind.wrap, IntKind.bits, IntKind.signed]; omega
          obtain ⟨i, hi⟩ : ∃ i, i = m + 1 - 2 - x.toNat := ⟨_, rfl⟩
          rw [← hi] at hr1
          have hI : i < m := by omega
          have hw1 : wrap64 ((m : Int) - 1) = (m : Int) - 1 := by unfold wrap64; have := HM.out; omega
          have hw2 : wrap64 ((m : Int) - 1 - x) = (i : Int) := by unfold wrap64; have := HM.out; omega
          have hw3 : wrap64 ((i : Int) + 1) = (i : Int) + 1 := by unfold wrap64; have := HM.out; omega
          have hI1 : (0 : Int) ≤ (i : Int) := by omega
          have hI2 : (i : Int) < (m : Int) := by omega
          obtain ⟨y, hy⟩ : ∃ y, r.getD i 0 = y := ⟨_, rfl⟩
          have hy2 : r[i]? = some y := by rw [← hy, List.getD_eq_getElem?_getD, List.getElem?_eq_getElem (by omega)]; rfl
          rw [hy] at hr1
          have HR9 := Aside0.mk hr1
          have HI := Aside0.mk hI
          have HMe := Aside0.mk hm
          clear hc hi hI hy hr1 hm
          go_enter Try.func19, Try.ntmps19
          go_wp2_with fail
          (with_reducible refine (stack_Pop.calls _ _ l1 1 _ _ _ _ ?s3 ?s4 P1.out).mono ?_)
          (case s3 => exact HR1.out)
          (case s4 => exact HC1.out)
          rintro e w1 ⟨v0, v1, rfl, ho0, ho1, hb1⟩
          have HB1 := Aside0.mk hb1
          have hos := Kd.own_of_R ho0
          rcases hos.2 with ⟨_, hn⟩ | ⟨g, c2, cur, e2, hgb, hgh, hgc, hgm, hgs, hgt⟩
          · exact absurd hn (by have := HI.out; have := HMe.out; omega)
          subst e2
          obtain ⟨A3, c3, e3⟩ := Kd.R_slice ho1
          subst e3
          rw [← HMe.out]
          have hok : g ≠ 0 ∨ True := .inr trivial
          obtain ⟨ad, rfl, hcell⟩ := (Kd.R_reads' ho1).2.2.2.2 (by simp only [List.length_cons, List.length_nil]; omega)
          obtain ⟨cs, _, hK, hq⟩ := hcell 0 x rfl
          have hK' : cs = [Value.int .u32 x] := hK
          have hq0 : w1.cell? ad = some (.int .u32 x) := by
            have h9 := hq 0 (.int .u32 x) (by rw [hK']; rfl)
            rwa [show ad.add (0 * (Kd.int .u32).sz + 0) = ad from by show ad.add (0 * 1 + 0) = ad; cases ad with | mk b o s => cases s <;> simp [Addr.add]] at h9
          have hq1 : w1.cell? ⟨g, i, none⟩ = some (.int .u32 y) := by
            obtain ⟨ad1, e9, hcell1⟩ := (Kd.R_reads' ho0).2.2.2.2 (by have := HI.out; have := HMe.out; omega)
            injection e9 with e9
            subst e9
            obtain ⟨cs1, _, hK1, hq9⟩ := hcell1 i y hy2
            have hK1' : cs1 = [Value.int .u32 y] := hK1
            have h9 := hq9 0 (.int .u32 y) (by rw [hK1']; rfl)
            rwa [show (⟨g, 0, none⟩ : Addr).add (i * (Kd.int .u32).sz + 0) = ⟨g, i, none⟩ from by show (⟨g, 0, none⟩ : Addr).add (i * 1 + 0) = _; rw [Addr.add_lit]; simp] at h9
          have ho9 := Kd.R_mono ho0 (ok' := fun _ => True) (fun _ _ => trivial)
          rw [← HMe.out] at ho9
          have HO0 := Aside0.mk ho9
          clear ho9
          have HG := Aside0.mk (And.intro hgb (And.intro hgh (And.intro hgc (And.intro hgm (And.intro hgs hgt)))))
          clear ho0 ho1 hb1 hq hK hK' hcell hos hgb hgh hgc hgm hgs hgt hy2
          by_cases ha : a0 = 79
          · have hab : (a0 == 79) = true := beq_iff_eq.mpr ha
            have H2 := HR9.out
            rw [if_pos ha] at H2
            clear HR9 ha
            subst H2
            go_wp2_with fail
            obtain ⟨hgb, hgh, hgc, hgm, hgs, hgt⟩ := HG.out
            have hrl : r.length ≤ c2 := hgc
            rw [Nat.mul_one] at hgs hgt
            (with_reducible refine (stack_deep.delete g m c2 i cur w1 ?t1 ?t2 ?t3 ?t4 ?t5 ?t6).mono ?_)
            (case t1 => exact hgh)
            (case t2 => exact hgs)
            (case t3 => exact HI.out)
            (case t4 => rw [HMe.out]; exact hgc)
            (case t5 => exact hgm)
            (case t6 => rw [HMe.out, hgt]; intro v hv; unfold encs at hv; obtain ⟨z, _, rfl⟩ := List.mem_map.1 hv; rfl)
            rintro e w2 ⟨rfl, hw⟩
            obtain ⟨hR, hB⟩ := deleted_R (e := 39) (ok := fun _ => True) (i := i) hgh hgs (by rw [← HMe.out]; exact HI.out) hgc hgm hgt hgb trivial HB1.out
            rw [← HMe.out, ← hw] at hR hB
            have HO2 := Aside0.mk hR
            have HB2 := Aside0.mk hB
            clear hR hB hw hgb hgh hgc hgm hgs hgt hrl hq0 hq1
            go_wp2_with (first | ((with_reducible refine gate_builtin (b := .append) (xs := #[.tmp 48, .tmp 50]) rfl ?_); at_builtin; go_must (refine Kd.R_append (Kd.int .u32) (w0 := w) w.heap.size rfl (.tmp 48) (.tmp 50) 22 39 (.int .u32 0) 4 rfl Try.underlying22 info39 rfl (by decide) (by omega) _ (r.take i ++ r.drop (i + 1)) y [.int .u32 y] (fun _ => True) (fun _ => False) rfl rfl ?aP (fun _ hk => hk.elim) ?aF ?aO ?aB ?aS ?aL ?_); (case aP => exact rfl); (case aB => exact HB2.out); (case aF => exact (fun _ _ => trivial)); (case aO => exact HO2.out); (case aS => exact below_size HB2.out); (case aL => have := HM.out; have := HMe.out; rw [List.length_append, List.length_take, List.length_drop]; omega); intro v7 w7 ho hb hg hat; have HO7 := Aside0.mk ho; have HB7 := Aside0.mk hb; clear ho hb hg hat))
            go_ret2
            exact ⟨_, rfl, HO7.out, HB7.out⟩
          · have hab : (a0 == 79) = false := beq_eq_false_iff_ne.mpr ha
            have H2 := HR9.out
            rw [if_neg ha] at H2
            subst H2
            clear HR9 ha
            go_wp2_with (first | ((with_reducible refine gate_builtin (b := .append) (xs := #[.tmp 48, .tmp 50]) rfl ?_); at_builtin; go_must (refine Kd.R_append (Kd.int .u32) (w0 := w) w.heap.size rfl (.tmp 48) (.tmp 50) 22 39 (.int .u32 0) 4 rfl Try.underlying22 info39 rfl (by decide) (by omega) _ (r) y [.int .u32 y] (fun _ => True) (fun _ => False) rfl rfl ?aP (fun _ hk => hk.elim) ?aF ?aO ?aB ?aS ?aL ?_); (case aP => exact rfl); (case aB => exact HB1.out); (case aF => exact (fun _ _ => trivial)); (case aO => exact HO0.out); (case aS => exact below_size HB1.out); (case aL => have := HM.out; have := HMe.out; omega); intro v7 w7 ho hb hg hat; have HO7 := Aside0.mk ho; have HB7 := Aside0.mk hb; clear ho hb hg hat))
            go_ret2
            exact ⟨_, rfl, HO7.out, HB7.out⟩
      · rw [if_neg hb] at h
        cases h
  · rw [if_neg hb] at h
    cases h

end Go.Proofs.Ytpfpjdeaocbnfaa.P
