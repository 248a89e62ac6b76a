/- The machine's side: functions of the translation as plain Lean functions, and that the machine's calls come to what they say. No condition. Written by a program (wip/tools/pp.py over the kit's printer); Lean checks it. -/
import Derived.Test.YtfaebbmngplilaaPx0
import Derived.Test.YtfaebbmngplilaaPx2
import Derived.Test.YtfaebbmngplilaaPx3
import Derived.Test.YtfaebbmngplilaaPx4
namespace Go.Proofs.Ytfaebbmngplilaa.P
open Go.RowKit Go.Proofs.YtfaebbmngplilaaW.PrintWords Go.Proofs.YtfaebbmngplilaaW.PrintLast Go.Proofs.YtfaebbmngplilaaW.PrintMore
attribute [local go_sem] max2_int min2_int max_two min_two max_three min_three max_four min_four   -- for this text's walks alone
set_option linter.unusedVariables false
set_option linter.unusedSimpArgs false

/-! ### token_Decode: function 11 -/
/-- A token behind its code, by what stands behind the code. -/
def tokP (kd : Int) (wide : Bool) (c : Int) (r1 : List Int) (l1 : Bool) : S34 × List Int × Bool :=
  if kd = 1 then (⟨c, (numP 4 r1 l1).1, (⟨#[]⟩ : ByteArray), 0⟩, (numP 4 r1 l1).2)
  else if kd = 2 then (⟨c, (codeP r1 l1).1, (⟨#[]⟩ : ByteArray), 0⟩, (codeP r1 l1).2)
  else if kd = 3 then (⟨c, 0, strOfNums (tkP (numP 1 r1 l1).1.toNat (numP 1 r1 l1).2.1 (numP 1 r1 l1).2.2).1, 0⟩, (tkP (numP 1 r1 l1).1.toNat (numP 1 r1 l1).2.1 (numP 1 r1 l1).2.2).2)
  else if kd = 4 then (if wide then (⟨c, 0, (⟨#[]⟩ : ByteArray), wrap64 (IntKind.i16.wrap (numP 2 r1 l1).1)⟩, (numP 2 r1 l1).2) else (⟨c, 0, (⟨#[]⟩ : ByteArray), wrap64 (IntKind.i8.wrap (numP 1 r1 l1).1)⟩, (numP 1 r1 l1).2))
  else if kd = 5 then (⟨c, (numP 2 r1 l1).1, (⟨#[]⟩ : ByteArray), 0⟩, (numP 2 r1 l1).2)
  else if kd = 6 then (⟨c, (numP 2 (tkP (numP 1 r1 l1).1.toNat (numP 1 r1 l1).2.1 (numP 1 r1 l1).2.2).2.1 (tkP (numP 1 r1 l1).1.toNat (numP 1 r1 l1).2.1 (numP 1 r1 l1).2.2).2.2).1, strOfNums (tkP (numP 1 r1 l1).1.toNat (numP 1 r1 l1).2.1 (numP 1 r1 l1).2.2).1, 0⟩, (numP 2 (tkP (numP 1 r1 l1).1.toNat (numP 1 r1 l1).2.1 (numP 1 r1 l1).2.2).2.1 (tkP (numP 1 r1 l1).1.toNat (numP 1 r1 l1).2.1 (numP 1 r1 l1).2.2).2.2).2)
  else (⟨c, 0, (⟨#[]⟩ : ByteArray), 0⟩, r1, l1)
theorem token_any {g : Nat} {rb : List Int} {wide lack : Bool} (W : World) (h : RS W g rb wide lack) (hB : Bys rb) {c : Int} {r1 : List Int} {l1 : Bool} (hp : codeP rb lack = (c, r1, l1)) {k : Nat} {kd : Int} (hk : token_behind.f k c = some kd) (hkd : 0 ≤ kd ∧ kd ≤ 6)
    {t : S34} {rb' : List Int} {lk : Bool} (ht : tokP kd wide c r1 l1 = (t, rb', lk)) :
    Calls Try.prog 19 #[.pointer (some ⟨g, 0, none⟩)] W fun e w' => e = .returned (.agg #[.int .i64 t.f0, .int .u32 t.f1, .string t.f2, .int .i64 t.f3]) ∧ RS w' g rb' wide lk ∧ W.grownBy w' (some g) := by
  unfold tokP at ht
  have hc : kd = 0 ∨ kd = 1 ∨ kd = 2 ∨ kd = 3 ∨ kd = 4 ∨ kd = 5 ∨ kd = 6 := by omega
  rcases hc with rfl | rfl | rfl | rfl | rfl | rfl | rfl
  · rw [if_neg (by decide), if_neg (by decide), if_neg (by decide), if_neg (by decide), if_neg (by decide), if_neg (by decide)] at ht
    simp only [Prod.mk.injEq] at ht
    obtain ⟨rfl, rfl, rfl⟩ := ht
    exact token_0 W h hB hp hk
  · rw [if_pos rfl] at ht
    simp only [Prod.mk.injEq] at ht
    obtain ⟨rfl, h2⟩ := ht
    exact token_1 W h hB hp hk (Prod.ext rfl h2)
  · rw [if_neg (by decide), if_pos rfl] at ht
    simp only [Prod.mk.injEq] at ht
    obtain ⟨rfl, h2⟩ := ht
    exact token_2 W h hB hp hk (Prod.ext rfl h2)
  · rw [if_neg (by decide), if_neg (by decide), if_pos rfl] at ht
    simp only [Prod.mk.injEq] at ht
    obtain ⟨rfl, h2⟩ := ht
    exact token_3 W h hB hp hk rfl (Prod.ext rfl h2)
  · rw [if_neg (by decide), if_neg (by decide), if_neg (by decide), if_pos rfl] at ht
    cases wide with
    | true =>
      rw [if_pos rfl] at ht
      simp only [Prod.mk.injEq] at ht
      obtain ⟨rfl, h2⟩ := ht
      exact token_4w W h hB hp hk (v := (numP 2 r1 l1).1) (r2 := rb') (l2 := lk) (Prod.ext rfl h2) rfl
    | false =>
      rw [if_neg (by decide)] at ht
      simp only [Prod.mk.injEq] at ht
      obtain ⟨rfl, h2⟩ := ht
      exact token_4 W h hB hp hk (v := (numP 1 r1 l1).1) (r2 := rb') (l2 := lk) (Prod.ext rfl h2) rfl
  · rw [if_neg (by decide), if_neg (by decide), if_neg (by decide), if_neg (by decide), if_pos rfl] at ht
    simp only [Prod.mk.injEq] at ht
    obtain ⟨rfl, h2⟩ := ht
    exact token_5 W h hB hp hk (Prod.ext rfl h2)
  · rw [if_neg (by decide), if_neg (by decide), if_neg (by decide), if_neg (by decide), if_neg (by decide), if_pos rfl] at ht
    simp only [Prod.mk.injEq] at ht
    obtain ⟨rfl, h2⟩ := ht
    exact token_6 W h hB hp hk rfl rfl (Prod.ext rfl h2)
theorem tokP_by {kd : Int} {wide : Bool} {c : Int} {r1 : List Int} {l1 : Bool} (h : Bys r1) : Bys (tokP kd wide c r1 l1).2.1 := by
  have hn : ∀ n, Bys (numP n r1 l1).2.1 := fun n => h.drop n
  unfold tokP
  by_cases h1 : kd = 1
  · rw [if_pos h1]; exact hn 4
  rw [if_neg h1]
  by_cases h2 : kd = 2
  · rw [if_pos h2]; exact (codeP_range h (show codeP r1 l1 = ((codeP r1 l1).1, (codeP r1 l1).2.1, (codeP r1 l1).2.2) from rfl)).2
  rw [if_neg h2]
  by_cases h3 : kd = 3
  · rw [if_pos h3]; exact (hn 1).drop _
  rw [if_neg h3]
  by_cases h4 : kd = 4
  · rw [if_pos h4]
    cases wide
    · exact hn 1
    · exact hn 2
  rw [if_neg h4]
  by_cases h5 : kd = 5
  · rw [if_pos h5]; exact hn 2
  rw [if_neg h5]
  by_cases h6 : kd = 6
  · rw [if_pos h6]; exact ((hn 1).drop _).drop _
  rw [if_neg h6]
  exact h
/-- The loop of Decode. -/
def token_Decode.l0 : Nat → Bool → List Int → List S34 → Option (List S34 × Int)
  | 0, _, _, _ => none
  | k + 1, wide, rb, l => if 0 < rb.length then ((token_behind.f k (codeP rb false).1).bind fun kd => if 0 ≤ kd ∧ kd ≤ 6 then
      (if (tokP kd wide (codeP rb false).1 (codeP rb false).2.1 (codeP rb false).2.2).2.2 = true then some ([], 16) else
        ((token_right.f k (tokP kd wide (codeP rb false).1 (codeP rb false).2.1 (codeP rb false).2.2).1.f0 (tokP kd wide (codeP rb false).1 (codeP rb false).2.1 (codeP rb false).2.2).1.f1 (tokP kd wide (codeP rb false).1 (codeP rb false).2.1 (codeP rb false).2.2).1.f2 (tokP kd wide (codeP rb false).1 (codeP rb false).2.1 (codeP rb false).2.2).1.f3 wide).bind fun ok =>
          if ok = true then (if l.length < 1000000 then token_Decode.l0 k (wide || ((tokP kd wide (codeP rb false).1 (codeP rb false).2.1 (codeP rb false).2.2).1.f0 == 204)) (tokP kd wide (codeP rb false).1 (codeP rb false).2.1 (codeP rb false).2.2).2.1 (l ++ [(tokP kd wide (codeP rb false).1 (codeP rb false).2.1 (codeP rb false).2.2).1]) else none) else some ([], 16))) else none) else some (l, 0)
def token_Decode.f (k : Nat) (l0 : List Int) (a1 : Bool) : Option (List S34 × Int) :=
  if (l0.length : Int) > 8192 then some ([], 3) else if l0.all (fun x => decide (0 ≤ x ∧ x ≤ 255)) = true then token_Decode.l0 k a1 l0 [] else none
theorem token_Decode.mono_l : ∀ k wide rb l, LeO (token_Decode.l0 k wide rb l) (token_Decode.l0 (k + 1) wide rb l)
  | 0 => fun _ _ _ r h => by simp [token_Decode.l0] at h
  | k + 1 => by
    have ih := token_Decode.mono_l k
    intro wide rb l
    unfold token_Decode.l0
    repeat' first
      | exact ih _ _ _
      | exact token_behind.mono _ _
      | exact token_right.mono _ _ _ _ _ _
      | exact LeO.refl _
      | exact LeO.none _
      | refine LeO.ite ?_ ?_
      | refine LeO.bind ?_ (fun _ => ?_)
theorem token_Decode.mono : ∀ a0 a1 k, LeO (token_Decode.f k a0 a1) (token_Decode.f (k + 1) a0 a1) := by
  intro a0 a1 k
  unfold token_Decode.f
  exact LeO.ite (LeO.refl _) (LeO.ite (token_Decode.mono_l _ _ _ _) (LeO.none _))
theorem RS.isLack {W : World} {g : Nat} {rb : List Int} {wide lack : Bool} (h : RS W g rb wide lack) : W.cell? ⟨g, 2, none⟩ = some (.bool lack) := by
  obtain ⟨A, c, h1, _⟩ := h
  exact cell_of_row W g 2 _ _ (0, 0) h1
theorem TB.below {W W1 : World} {gt : Nat} {c n : Int} {s : ByteArray} {o : Int} (h : TB W gt c n s o) (hb : Below W.heap.size W W1) : TB W1 gt c n s o := (hb.block gt h.lt).trans h
theorem infoT : (Try.prog.info? 34).map (fun i => (i.zero, i.size, i.bytes)) = some (some (.agg #[.int .i64 0, .int .u32 0, .string (⟨#[]⟩ : ByteArray), .int .i64 0]), 4, 40) := by kernel_rfl
theorem RS.free {W : World} {g : Nat} {rb : List Int} {wide lack : Bool} (h : RS W g rb wide lack) : W.frozen? ⟨g, 1, none⟩ = false := by
  obtain ⟨A, c, h1, _⟩ := h
  exact frozen_of_row W g 1 _ _ h1
theorem RS.setWide {W : World} {g : Nat} {rb : List Int} {wide lack : Bool} (h : RS W g rb wide lack) (x : Bool) : RS (W.setCell ⟨g, 1, none⟩ (.bool x)) g rb x lack := by
  obtain ⟨A, c, h1, h2, h3, h4⟩ := h
  exact ⟨A, c, heap_setCell_same W g 1 _ 43 _ h1, h2, h3, Kd.F_far h4 (p := ⟨g, 1, none⟩) (fun k hk => by show k ≠ g; omega) _⟩
theorem hS7_of {W W1 : World} {g : Nat} {rb : List Int} {wide lack : Bool} (hb : Below (g + 1) W W1) (h : RS W g rb wide lack) : RS W1 g rb wide lack := by
  obtain ⟨A, c, h1, h2, h3, h4⟩ := h
  exact ⟨A, c, (hb.block g (by omega)).trans h1, h2, h3, Kd.F_step h4 (fun k hk _ => hb.block k (by omega))⟩
theorem TB.grownR {W W1 : World} {gt : Nat} {r : Option Nat} {c n : Int} {s : ByteArray} {o : Int} (h : TB W gt c n s o) (hg : W.grownBy W1 r) (hne : some gt ≠ r) : TB W1 gt c n s o := (hg.block gt h.lt hne).trans h
theorem bys_of {l : List Int} (h : l.all (fun x => decide (0 ≤ x ∧ x ≤ 255)) = true) : Bys l := fun x hx => by
  have := List.all_eq_true.1 h x hx
  simpa using this
set_option maxHeartbeats 4000000 in
set_option maxRecDepth 100000 in
theorem token_Decode.calls (k : Nat) (A0 : Option Addr) (c0 : Nat) (l0 : List Int) (a1 : Bool) (r1 : List S34) (r2 : Int) (w : World) (hr0 : Kd.C (Kd.int .u8) w A0 l0.length l0) (hc0 : l0.length ≤ c0) (h : token_Decode.f k l0 a1 = some (r1, r2)) :
    Calls Try.prog 11 #[.slice A0 l0.length c0, .bool a1] w fun e w' => ∃ v0_ : Value, e = .returned (.tuple #[v0_, .int .i64 r2]) ∧ Kd.R k34 34 w' w.heap.size (fun _ => True) v0_ r1 ∧ Below w.heap.size w w' := by
  unfold token_Decode.f at h
  by_cases hb : (l0.length : Int) > 8192
  · rw [if_pos hb] at h
    simp only [Option.some.injEq, Prod.mk.injEq] at h
    obtain ⟨rfl, rfl⟩ := h
    have b1 : decide (8192 < (l0.length : Int)) = true := decide_eq_true hb
    clear hb hr0
    go_enter Try.func11, Try.ntmps11
    go_wp2
    go_ret2
    exact ⟨_, rfl, Kd.R_nil _ _ _ _ _, Below.refl _ _⟩
  · rw [if_neg hb] at h
    by_cases hall : l0.all (fun x => decide (0 ≤ x ∧ x ≤ 255)) = true
    · rw [if_pos hall] at h
      have hB := Aside0.mk (bys_of hall)
      have H0 := Aside0.mk h
      have b1 : decide (8192 < (l0.length : Int)) = false := decide_eq_false hb
      have hRS : RS (w.alloc (.cells #[.slice A0 l0.length c0, .bool a1, .bool false] 43)) w.heap.size l0 a1 false :=
        ⟨A0, c0, heap_alloc_new w _, hc0, by omega, Kd.F_alloc (Kd.C_F (Kd.heap_int .u8) hr0) _⟩
      have HRS := Aside0.mk hRS
      clear hall h hb hRS hr0
      go_enter Try.func11, Try.ntmps11
      go_wp2
      go_loopg [6, 8] k (fun kq v6 v8 w' => ∃ (l : List S34) (rb : List Int) (wd : Bool), Aside0 (token_Decode.l0 kq wd rb l = some (r1, r2)) ∧ Aside0 (kq ≤ k) ∧ Aside0 (Bys rb) ∧ Aside0 (Kd.R k34 34 w' (w.heap.size + 1) (fun _ => True) v6 l) ∧ Aside0 (RS w' w.heap.size rb wd false) ∧ Aside0 (Below w.heap.size w w'))
      case atStart => exact ⟨[], l0, a1, H0, ⟨Nat.le_refl _⟩, hB, ⟨Kd.R_nil _ _ _ _ _⟩, HRS, ⟨below_alloc (Below.refl _ _) _⟩⟩
      case round =>
        obtain ⟨l, rb, wd, HA, HK, HBy, HL, HS, HB⟩ := hrel
        cases gk with
        | zero => exact absurd HA.out (by simp [token_Decode.l0])
        | succ k1 =>
          have H := HA.out
          clear HA
          simp only [token_Decode.l0] at H
          obtain ⟨A, c, hg, hc, hm, hF⟩ := HS.out
          have q0 : wr.cell? ⟨w.heap.size, 0, none⟩ = some (.slice A rb.length c) := cell_of_row wr w.heap.size 0 _ _ (0, 0) hg
          clear hg hc hF
          by_cases h1 : 0 < rb.length
          · rw [if_pos h1] at H
            obtain ⟨cd, s1, lc, hcp⟩ : ∃ cd s1 lc, codeP rb false = (cd, s1, lc) := ⟨_, _, _, rfl⟩
            rw [hcp] at H
            simp only at H
            obtain ⟨kd, hk, H⟩ := Option.bind_eq_some_iff.mp H
            by_cases hkd : 0 ≤ kd ∧ kd ≤ 6
            · rw [if_pos hkd] at H
              obtain ⟨t, rb2, lk, htp⟩ : ∃ t rb2 lk, tokP kd wd cd s1 lc = (t, rb2, lk) := ⟨_, _, _, rfl⟩
              rw [htp] at H
              simp only at H
              have hB2 : Bys rb2 := by
                have h9 := tokP_by (kd := kd) (wide := wd) (c := cd) (l1 := lc) (codeP_range HBy.out hcp).2
                rw [htp] at h9
                exact h9
              have b2 : decide (0 < (rb.length : Int)) = true := decide_eq_true (by omega)
              have b3 : decide (0 < rb.length) = true := decide_eq_true h1
              have HCP := Aside0.mk hcp
              have HKB := Aside0.mk hk
              have HTP := Aside0.mk htp
              have HB2 := Aside0.mk hB2
              have HH := Aside0.mk H
              clear hcp hk htp hB2 h1 H
              go_wp2_with (go_at_call 19; (with_reducible refine (token_any _ HS.out HBy.out HCP.out HKB.out hkd HTP.out).mono ?_); rintro e w1 ⟨rfl, hr, hg⟩; have HS1 := Aside0.mk hr; have HG1 := Aside0.mk hg; clear hr hg)
              have hgt : w.heap.size ≠ w1.heap.size := by have := HS1.out.lt; omega
              have HS2 : RS (w1.alloc (.cells #[.int .i64 t.f0, .int .u32 t.f1, .string t.f2, .int .i64 t.f3] 34)) w.heap.size rb2 wd lk := HS1.out.below ((Below.refl _ _).alloc (Nat.le_refl _) _)
              have hT2 : TB (w1.alloc (.cells #[.int .i64 t.f0, .int .u32 t.f1, .string t.f2, .int .i64 t.f3] 34)) w1.heap.size t.f0 t.f1 t.f2 t.f3 := heap_alloc_new w1 _
              obtain ⟨⟨t0, t1, t2, t3⟩, g0, g1, g2, g3⟩ := hT2.cells
              obtain ⟨W2, hW2⟩ : ∃ W2, W2 = w1.alloc (.cells #[.int .i64 t.f0, .int .u32 t.f1, .string t.f2, .int .i64 t.f3] 34) := ⟨_, rfl⟩
              rw [← hW2] at HS2 hT2 t0 t1 t2 t3 g0 g1 g2 g3 ⊢
              have HT2 := Aside0.mk hT2
              have HW2 := Aside0.mk hW2
              clear hW2
              have s1 := HS2.isWide
              have s2 := HS2.isLack
              have HSS := Aside0.mk HS2
              clear HS2 hT2
              cases lk with
              | true =>
                have H := HH.out
                rw [if_pos rfl] at H
                go_still_tail 12, (by kernel_rfl)
                simp only [Option.some.injEq, Prod.mk.injEq] at H
                obtain ⟨rfl, rfl⟩ := H
                go_wp2
                go_ret2
                have hb2 : Below w.heap.size w W2.drew := by
                  rw [HW2.out]
                  exact below_drew (below_alloc (Below.grown HB.out HG1.out (by have := HS.out.lt; omega) (fun k hk => by injection hk with hk; omega)) _)
                exact ⟨_, rfl, Kd.R_nil _ _ _ _ _, hb2⟩
              | false =>
                have H := HH.out
                rw [if_neg (by decide)] at H
                obtain ⟨ok, hok, H⟩ := Option.bind_eq_some_iff.mp H
                have HOK := Aside0.mk hok
                have HH2 := Aside0.mk H
                clear hok H HH
                obtain ⟨Ao, co, eo⟩ := Kd.R_slice HL.out
                subst eo
                have hL2 : Kd.R k34 34 W2 (w.heap.size + 1) (fun _ => True) (.slice Ao l.length co) l := by
                  rw [HW2.out]
                  exact Kd.R_alloc (Kd.R_grown1 HL.out rfl HG1.out (fun e => by have := Kd.R_base HL.out _ e.symm; omega)) _
                have HL2 := Aside0.mk hL2
                have hB2 : Below w.heap.size w W2 := by
                  rw [HW2.out]
                  exact below_alloc (Below.grown HB.out HG1.out (by have := HS.out.lt; omega) (fun k hk => by injection hk with hk; omega)) _
                have HBW := Aside0.mk hB2
                clear hL2 hB2
                cases ok with
                | false =>
                  have H := HH2.out
                  rw [if_neg (by decide)] at H
                  simp only [Option.some.injEq, Prod.mk.injEq] at H
                  obtain ⟨rfl, rfl⟩ := H
                  go_still_tail 10, (by kernel_rfl)
                  go_wp2_with (go_at_call 20; (with_reducible refine (token_right.calls _ _ _ _ _ _ _ _ HOK.out).mono ?_); rintro e w3 ⟨rfl, hb⟩; have HB3 := Aside0.mk hb; clear hb)
                  go_ret2
                  exact ⟨_, rfl, Kd.R_nil _ _ _ _ _, below_step (below_drew HBW.out) HB3.out⟩
                | true =>
                  have H := HH2.out
                  rw [if_pos rfl] at H
                  by_cases hlim : l.length < 1000000
                  · rw [if_pos hlim] at H
                    have H' := Aside0.mk H
                    have HLim := Aside0.mk hlim
                    clear H hlim
                    go_still_tail 10, (by kernel_rfl)
                    go_wp2_with (first
                      | (go_at_call 20; (with_reducible refine (token_right.calls _ _ _ _ _ _ _ _ HOK.out).mono ?_); rintro e w3 ⟨rfl, hb⟩; have HB3 := Aside0.mk hb; have hT3 := TB.below (HT2.out.below (below_drew (Below.refl _ _))) hb; obtain ⟨⟨t0, t1, t2, t3⟩, g0, g1, g2, g3⟩ := hT3.cells; have hS3 := RS.below (HSS.out.below (below_drew (Below.refl _ _))) hb; have HT3 := Aside0.mk hT3; have HS3 := Aside0.mk hS3; have HL3 := Aside0.mk (Kd.R_below (Kd.R_drew HL2.out) hb); clear hb hT3 hS3)
                      | ((with_reducible refine gate_builtin (b := .append) (xs := #[.tmp 37, .tmp 39]) rfl ?_); at_builtin; go_must (refine Kd.R_append k34 (w0 := w3) (w.heap.size + 1) rfl (.tmp 37) (.tmp 39) 25 34 _ 40 rfl Try.underlying25 infoT rfl (by decide) (by omega) (.slice Ao l.length co) l t [.int .i64 t.f0, .int .u32 t.f1, .string t.f2, .int .i64 t.f3] (fun _ => True) (fun _ => False) rfl rfl ?aP (fun _ hk => hk.elim) ?aF ?aO ?aB ?aS ?aL ?_); (case aP => exact k34_mkM _ _ _ t); (case aB => exact Below.refl _ _); (case aF => exact (fun _ _ => trivial)); (case aO => exact HL3.out); (case aS => have := HS3.out.lt; omega); (case aL => have := HLim.out; omega); intro v7 w7 ho hb hg hat; have HO7 := Aside0.mk ho; have HB7 := Aside0.mk hb; have hS7 : RS w7 w.heap.size rb2 wd false := hS7_of hb HS3.out; have s1 := hS7.isWide; have s2 := hS7.free; have HS7 := Aside0.mk hS7; have hT7 := TB.grownR HT3.out hg (fun e => by have := Kd.R_lt HL.out _ e.symm; have := HG1.out.size; omega); obtain ⟨⟨t0, t1, t2, t3⟩, g0, g1, g2, g3⟩ := hT7.cells; clear ho hb hg hat hS7 hT7))
                    all_goals
                      go_roundg k1
                      case measure => have := HK.out; omega
                      case rel =>
                        refine ⟨_, _, _, H', ⟨by have := HK.out; omega⟩, HB2, ⟨Kd.R_grown1 HO7.out rfl (grown_set 1 _) (fun e => by have := Kd.R_base HO7.out _ e.symm; omega)⟩, ⟨?_⟩, ⟨?_⟩⟩
                        · first
                            | (have e : (wd || t.f0 == 204) = true := (by simp [*]); rw [e]; exact HS7.out.setWide _)
                            | (have e : (wd || t.f0 == 204) = (t.f0 == 204) := (by simp [*]); rw [e]; exact HS7.out.setWide _)
                        exact Below.setCell ((below_step (below_drew HBW.out) HB3.out).trans (HB7.out.mono (by omega))) (Nat.le_refl _) _
                  · rw [if_neg hlim] at H
                    cases H
            · rw [if_neg hkd] at H
              cases H
          · rw [if_neg h1] at H
            simp only [Option.some.injEq, Prod.mk.injEq] at H
            obtain ⟨rfl, rfl⟩ := H
            have b2 : decide (0 < (rb.length : Int)) = false := decide_eq_false (by omega)
            have b3 : decide (0 < rb.length) = false := decide_eq_false h1
            obtain ⟨Ao, co, eo⟩ := Kd.R_slice HL.out
            subst eo
            clear h1
            go_wp2
            go_ret2
            exact ⟨_, rfl, Kd.R_lower HL.out (by omega), HB.out⟩
    · rw [if_neg hall] at h
      cases h

/-! ### token_writer_code: function 30 -/
/-- A writer's state: its block, the bytes written (a row of its own behind the block). -/
def WS (W : World) (g : Nat) (v : Value) (bs : List Int) : Prop := W.heap[g]? = some (.cells #[v] 49 (0, 0)) ∧ Kd.R (Kd.int .u8) 5 W (g + 1) (fun _ => True) v bs
/-- What a writer's method leaves as it was. -/
structure WK (W W1 : World) (g : Nat) (v v1 : Value) : Prop where
  os : W1.os = W.os
  tape : W1.tape = W.tape
  output : W1.output = W.output
  size : W.heap.size ≤ W1.heap.size
  block : ∀ k, k < W.heap.size → k ≠ g → some k ≠ v.ownBlock → W1.heap[k]? = W.heap[k]?
  at_ : v1.ownBlock = v.ownBlock ∨ ∃ b, v1.ownBlock = some b ∧ W.heap.size ≤ b
theorem WK.refl (W : World) (g : Nat) (v : Value) : WK W W g v v := ⟨rfl, rfl, rfl, Nat.le_refl _, fun _ _ _ _ => rfl, .inl rfl⟩
theorem WK.trans {W W1 W2 : World} {g : Nat} {v v1 v2 : Value} (h : WK W W1 g v v1) (k : WK W1 W2 g v1 v2) : WK W W2 g v v2 := by
  refine ⟨k.os.trans h.os, k.tape.trans h.tape, k.output.trans h.output, Nat.le_trans h.size k.size, fun i hi hg hv => (k.block i (Nat.lt_of_lt_of_le hi h.size) hg ?_).trans (h.block i hi hg hv), ?_⟩
  · rcases h.at_ with e | ⟨b, e, hb⟩
    · rw [e]; exact hv
    · rw [e]
      intro e2
      injection e2 with e2
      omega
  · rcases k.at_ with e | ⟨b, e, hb⟩
    · rw [e]; exact h.at_
    · exact .inr ⟨b, e, Nat.le_trans h.size hb⟩
theorem WS.lt {W : World} {g : Nat} {v : Value} {bs : List Int} (h : WS W g v bs) : g < W.heap.size := (Array.getElem?_eq_some_iff.1 h.1).1
theorem WS.cell {W : World} {g : Nat} {v : Value} {bs : List Int} (h : WS W g v bs) : W.cell? ⟨g, 0, none⟩ = some v ∧ W.frozen? ⟨g, 0, none⟩ = false := ⟨cell_of_row W g 0 _ _ (0, 0) h.1, frozen_of_row W g 0 _ _ h.1⟩
theorem WS.step {W W1 : World} {g : Nat} {v : Value} {bs : List Int} (h : WS W g v bs) (hb : ∀ k, k < W.heap.size → g ≤ k → W1.heap[k]? = W.heap[k]?) : WS W1 g v bs :=
  ⟨(hb g h.lt (Nat.le_refl _)).trans h.1, Kd.R_move (Kd.R_bound h.2 |> fun h2 => Kd.R_mono h2 (fun k hk => hk)) (fun k hk => hb k hk.2.2.1 (by omega)) |> fun h3 => Kd.R_mono h3 (fun _ _ => trivial)⟩
theorem WS.below {W W1 : World} {g : Nat} {v : Value} {bs : List Int} (h : WS W g v bs) (hb : Below W.heap.size W W1) : WS W1 g v bs := h.step (fun k hk _ => hb.block k hk)
theorem WK.ofBelow {W W1 : World} {g : Nat} {v : Value} (hb : Below W.heap.size W W1) : WK W W1 g v v := ⟨hb.os, hb.tape, hb.output, hb.size, fun k hk _ _ => hb.block k hk, .inl rfl⟩
/-- What the append leaves, and the store behind it. -/
theorem WS.wrote {W W1 : World} {g : Nat} {v v1 : Value} {bs bs1 : List Int} (h : WS W g v bs) (hR : Kd.R (Kd.int .u8) 5 W1 (g + 1) (fun _ => True) v1 bs1) (hB : Below (g + 1) W W1) (hg : W.grownBy W1 v.ownBlock) (hat : v1.ownBlock = v.ownBlock ∨ ∃ b, v1.ownBlock = some b ∧ W.heap.size ≤ b) :
    WS (W1.setCell ⟨g, 0, none⟩ v1) g v1 bs1 ∧ WK W (W1.setCell ⟨g, 0, none⟩ v1) g v v1 := by
  have h1 : W1.heap[g]? = some (.cells #[v] 49 (0, 0)) := (hB.block g (by omega)).trans h.1
  refine ⟨⟨heap_setCell_same W1 g 0 _ 49 v1 h1, Kd.R_grown1 hR rfl (grown_set 0 _) (fun e => by have := Kd.R_base hR _ e.symm; omega)⟩, ⟨hg.os, hg.tape, hg.output, ?_, fun k hk hne hv => (Below.heap_setCell W1 ⟨g, 0, none⟩ v1 k hne).trans (hg.block k hk hv), hat⟩⟩
  rw [show (W1.setCell ⟨g, 0, none⟩ v1).heap.size = W1.heap.size by simp [World.setCell]]
  exact hg.size
theorem hS_cell {W W1 : World} {g : Nat} {x : Value} (hb : Below (g + 1) W W1) (h : W.cell? ⟨g, 0, none⟩ = some x) : W1.cell? ⟨g, 0, none⟩ = some x := (hb.cell (p := ⟨g, 0, none⟩) (by show g < g + 1; omega)).trans h
theorem hS_frozen {W W1 : World} {g : Nat} (hb : Below (g + 1) W W1) (h : W.frozen? ⟨g, 0, none⟩ = false) : W1.frozen? ⟨g, 0, none⟩ = false := (hb.frozen (p := ⟨g, 0, none⟩) (by show g < g + 1; omega)).trans h
theorem size_set (W : World) (a : Addr) (v : Value) : (W.setCell a v).heap.size = W.heap.size := by simp [World.setCell]
def codeB (c : Int) : List Int := if c > 255 then [c / 256 % 256, c % 256] else [c % 256]
set_option maxHeartbeats 1600000 in
theorem wcode_any {g : Nat} {v : Value} {bs : List Int} {c : Int} (W : World) (h : WS W g v bs) (h0 : 0 ≤ c) (h1 : c ≤ 4294967295) (hl : bs.length ≤ 1000000) :
    Calls Try.prog 30 #[.pointer (some ⟨g, 0, none⟩), .int .i64 c] W fun e w' => e = .returned (.tuple #[]) ∧ ∃ v', WS w' g v' (bs ++ codeB c) ∧ WK W w' g v v' := by
  obtain ⟨q0, f0⟩ := h.cell
  obtain ⟨A, cc, e⟩ := Kd.R_slice h.2
  subst e
  have hlt := h.lt
  have HW := Aside0.mk h
  have HL := Aside0.mk hl
  by_cases hc : c > 255
  · have b1 : decide (255 < c) = true := decide_eq_true hc
    have HE := Aside0.mk (show codeB c = [c / 256 % 256] ++ [c % 256] by unfold codeB; rw [if_pos hc]; rfl)
    obtain ⟨y, hy⟩ : ∃ q_, q_ = bs ++ [c / 256 % 256] := ⟨_, rfl⟩
    have HY := Aside0.mk hy
    have LY := Aside0.mk (congrArg List.length hy)
    clear hy
    obtain ⟨z, hz⟩ : ∃ q_, q_ = y ++ [c % 256] := ⟨_, rfl⟩
    have HZ := Aside0.mk hz
    have LZ := Aside0.mk (congrArg List.length hz)
    clear hz
    clear h hl hc
    go_enter Try.func30, Try.ntmps30
    go_wp2_with (first | ((with_reducible refine gate_builtin (b := .append) (xs := #[.tmp 10, .tmp 14]) rfl ?_); at_builtin; go_must (refine Kd.R_append (Kd.int .u8) (w0 := W) (g + 1) rfl (.tmp 10) (.tmp 14) 22 5 (.int .u8 0) 1 rfl Try.underlying22 info5 rfl (by decide) (by omega) (.slice A bs.length cc) bs (c / 256 % 256) [.int .u8 (c / 256 % 256)] (fun _ => True) (fun _ => False) rfl (by first | rfl | (rw [size_set]; rfl)) ?aP (fun _ hk => hk.elim) ?aF ?aO ?aB ?aS ?aL ?_); (case aP => exact rfl); (case aB => exact Below.refl _ _); (case aF => exact (fun _ _ => trivial)); (case aO => exact HW.out.2); (case aS => have := HW.out.lt; omega); (case aL => have := HL.out; omega); intro v7 w7 ho hb hg hat; rw [← HY.out] at ho; obtain ⟨A7, c7, e7⟩ := Kd.R_slice ho; subst e7; obtain ⟨r1, r2⟩ := WS.wrote HW.out ho hb hg hat; have R7 := Aside0.mk r1; have K7 := Aside0.mk r2; have n7 := hS_cell hb q0; have m7 := hS_frozen hb f0; have hq := R7.out.cell; have q8 := hq.1; have f8 := hq.2; clear hq; clear ho hb hg hat r1 r2) | ((with_reducible refine gate_builtin (b := .append) (xs := #[.tmp 22, .tmp 25]) rfl ?_); at_builtin; go_must (refine Kd.R_append (Kd.int .u8) (w0 := (w7.setCell ⟨g, 0, none⟩ (.slice A7 y.length c7))) (g + 1) rfl (.tmp 22) (.tmp 25) 22 5 (.int .u8 0) 1 rfl Try.underlying22 info5 rfl (by decide) (by omega) (.slice A7 y.length c7) y (c % 256) [.int .u8 (c % 256)] (fun _ => True) (fun _ => False) rfl (by first | rfl | (rw [size_set]; rfl)) ?aP (fun _ hk => hk.elim) ?aF ?aO ?aB ?aS ?aL ?_); (case aP => exact rfl); (case aB => exact Below.refl _ _); (case aF => exact (fun _ _ => trivial)); (case aO => exact R7.out.2); (case aS => have := R7.out.lt; omega); (case aL => have := HL.out; have := LY.out; simp only [List.length_append, List.length_cons, List.length_nil] at this; omega); intro v8 w8 ho hb hg hat; rw [← HZ.out] at ho; obtain ⟨A8, c8, e8⟩ := Kd.R_slice ho; subst e8; obtain ⟨r1, r2⟩ := WS.wrote R7.out ho hb hg hat; have R8 := Aside0.mk r1; have K8 := Aside0.mk r2; have n8 := hS_cell hb q8; have m8 := hS_frozen hb f8; clear ho hb hg hat r1 r2))
    go_end0
    refine ⟨rfl, _, ?_, K7.out.trans K8.out⟩
    rw [HE.out, ← List.append_assoc, ← HY.out, ← HZ.out]
    exact R8.out
  · have b1 : decide (255 < c) = false := decide_eq_false hc
    have HE := Aside0.mk (show codeB c = [c % 256] by unfold codeB; rw [if_neg hc])
    obtain ⟨y, hy⟩ : ∃ q_, q_ = bs ++ [c % 256] := ⟨_, rfl⟩
    have HY := Aside0.mk hy
    have LY := Aside0.mk (congrArg List.length hy)
    clear hy
    clear h hl hc
    go_enter Try.func30, Try.ntmps30
    go_wp2_with ((with_reducible refine gate_builtin (b := .append) (xs := #[.tmp 22, .tmp 25]) rfl ?_); at_builtin; go_must (refine Kd.R_append (Kd.int .u8) (w0 := W) (g + 1) rfl (.tmp 22) (.tmp 25) 22 5 (.int .u8 0) 1 rfl Try.underlying22 info5 rfl (by decide) (by omega) (.slice A bs.length cc) bs (c % 256) [.int .u8 (c % 256)] (fun _ => True) (fun _ => False) rfl (by first | rfl | (rw [size_set]; rfl)) ?aP (fun _ hk => hk.elim) ?aF ?aO ?aB ?aS ?aL ?_); (case aP => exact rfl); (case aB => exact Below.refl _ _); (case aF => exact (fun _ _ => trivial)); (case aO => exact HW.out.2); (case aS => have := HW.out.lt; omega); (case aL => have := HL.out; omega); intro v7 w7 ho hb hg hat; rw [← HY.out] at ho; obtain ⟨A7, c7, e7⟩ := Kd.R_slice ho; subst e7; obtain ⟨r1, r2⟩ := WS.wrote HW.out ho hb hg hat; have R7 := Aside0.mk r1; have K7 := Aside0.mk r2; have n7 := hS_cell hb q0; have m7 := hS_frozen hb f0; clear ho hb hg hat r1 r2)
    go_end0
    refine ⟨rfl, _, ?_, K7.out⟩
    rw [HE.out, ← HY.out]
    exact R7.out

/-! ### token_writer_text: function 32 -/
section
variable {P : Program} {ops : Array Oper} {rest : List Oper} {o : Oper} {a : Act} {Q : Exit → Act → World → Prop}
theorem append_str_at (w : World) (base : Nat) (t u ty e : TypeId) (i : TypeInfo) (ht : P.underlying t = some (.slice e)) (hu : P.underlying u = some .string) (hi : P.info? e = some i) (hz : i.zero = some (.int .u8 0))
    (hsize : i.size = 1) (hby : i.bytes = 1) (v : Value) (n : Nat) (xs : List Value) (hown : w.ownsRow base e 1 v n xs) (s : ByteArray) (h63 : n + s.size ≤ maxLen) (hbytes : n + s.size ≤ 140737488355328) (hbase : base ≤ w.heap.size) :
    ∃ v' w', (Builtin.append_ #[t, u] ty #[v, .string s]).run P w = .ok v' w' ∧ w'.ownsRow base e 1 v' (n + s.size) (xs ++ Lib.strCells s) ∧ w.grownBy w' v.ownBlock ∧ (v'.ownBlock = v.ownBlock ∨ ∃ b, v'.ownBlock = some b ∧ w.heap.size ≤ b) := by
  obtain ⟨v', w', hr, h1, h2, h3⟩ := Lib.run_append_own_string (P := P) w base t u ty e i ht hu hi hz hsize hby v n xs hown s h63 hbytes hbase
  refine ⟨v', w', hr, h1, h2, ?_⟩
  simp only [maxLen] at h63
  have hxl : xs.length = n := by simpa using hown.1
  rcases hown.2 with ⟨rfl, rfl⟩ | ⟨g, cap, cur, rfl, hbg, hg, hnc, hcm, hcs, htake⟩
  · by_cases hm : s.size = 0
    · exact .inl (by rw [h3.2 ⟨rfl, hm⟩])
    · have hr2 := run_append_nil_string (P := P) w t u ty e i (.int .u8 0) ht hu hi hz s (by omega) (by omega) (by rw [hby]; omega)
      rw [hr] at hr2
      injection hr2 with e1 e2
      subst e1
      exact .inr ⟨_, rfl, Nat.le_refl _⟩
  · by_cases hroom : n + s.size ≤ cap
    · have hcs' : cur.size = cap := by simpa using hcs
      have hr2 := Lib.run_append_room_string (P := P) w t u ty e i ht hu hi hsize g n cap cur hg s hroom (by omega)
      rw [hr] at hr2
      injection hr2 with e1 e2
      subst e1
      exact .inl rfl
    · have holds : ∀ j u, xs[j]? = some u → w.cell? ((⟨g, 0, none⟩ : Addr).add j) = some u := hown.cells (g := g) rfl
      have hr2 := Lib.run_append_grow_string (P := P) w t u ty e i (.int .u8 0) ht hu hi hz ⟨g, 0, none⟩ n cap xs (by rw [hsize]; simpa using hxl) holds s (by omega) (by omega) (by rw [hby]; exact growslice_fits (by omega) (by omega))
      rw [hr] at hr2
      injection hr2 with e1 e2
      subst e1
      exact .inr ⟨_, rfl, Nat.le_refl _⟩
theorem wpList_append_str_at {W : World} (base : Nat) (hgd : o.guard = none) (s x : Operand) (t u e : TypeId)
    (ho : o.op = .call { callee := .builtin .append, args := #[s, x], argTypes := #[t, u] })
    (ht : P.underlying t = some (.slice e)) (hu : P.underlying u = some .string) (hinfo : (P.info? e).map (fun i => (i.zero, i.size, i.bytes)) = some (some (.int .u8 0), 1, 1))
    (v : Value) (xs : List Int) (y : ByteArray) (hs : a.eval s = v) (hx : a.eval x = .string y)
    (HO : Kd.R (Kd.int .u8) e W base (fun _ => True) v xs) (hbase : base ≤ W.heap.size) (hl : xs.length + y.size ≤ 140737488355328)
    (h : ∀ v1 w1, Kd.R (Kd.int .u8) e w1 base (fun _ => True) v1 (xs ++ bytesOf y) → Below base W w1 → W.grownBy w1 v.ownBlock → (v1.ownBlock = v.ownBlock ∨ ∃ b, v1.ownBlock = some b ∧ W.heap.size ≤ b) → wpList P ops Q rest (a.put o.dst v1) w1) :
    wpList P ops Q (o :: rest) a W := by
  obtain ⟨i0, hi, hzz⟩ := Option.map_eq_some_iff.1 hinfo
  simp only [Prod.mk.injEq] at hzz
  obtain ⟨hz0, hz1, hz2⟩ := hzz
  have hown := Kd.own_of_R HO
  refine wpList_plain hgd fun K hK => ?_
  obtain ⟨v', w', hr, h2, h3, h4⟩ := append_str_at (P := P) W base t u o.type e i0 ht hu hi hz0 hz1 hz2 v xs.length _ hown y (by simp only [maxLen]; omega) hl hbase
  unfold Oper.wp execOp
  simp only [ho, resolve, invoke, builtin, Sem.run_bind, Sem.run_pure, Result.andThen_ok, List.map_toArray, List.map_cons, List.map_nil, hs, hx, hr]
  refine hK _ _ (h v' w' ?_ ((Below.refl _ _).grown h3 hbase (Kd.R_base HO)) h3 h4)
  have hl2 : (xs ++ bytesOf y).length = xs.length + y.size := by rw [List.length_append, bytesOf_length]
  have hc : encs (Value.int .u8) (xs ++ bytesOf y) = encs (Value.int .u8) xs ++ Lib.strCells y := by
    unfold encs; rw [List.map_append]; congr 1; simp [bytesOf, Lib.strCells]
  exact Kd.R_of_own (by rw [hl2, hc]; exact h2) (fun _ _ => trivial)
end
def twoB (n : Int) : List Int := [n / 256 % 256, n % 256]
set_option maxHeartbeats 1600000 in
theorem wtwo_any {g : Nat} {v : Value} {bs : List Int} {n : Int} (W : World) (h : WS W g v bs) (h0 : -9223372036854775808 ≤ n) (h1 : n ≤ 9223372036854775807) (hl : bs.length ≤ 1000000) :
    Calls Try.prog 31 #[.pointer (some ⟨g, 0, none⟩), .int .i64 n] W fun e w' => e = .returned (.tuple #[]) ∧ ∃ v', WS w' g v' (bs ++ twoB n) ∧ WK W w' g v v' := by
  obtain ⟨q0, f0⟩ := h.cell
  obtain ⟨A, cc, e⟩ := Kd.R_slice h.2
  subst e
  have hlt := h.lt
  have HW := Aside0.mk h
  have HL := Aside0.mk hl
  obtain ⟨y, hy⟩ : ∃ q_, q_ = bs ++ [n / 256 % 256, n % 256] := ⟨_, rfl⟩
  have HY := Aside0.mk hy
  have LY := Aside0.mk (congrArg List.length hy)
  clear hy
  clear h hl
  go_enter Try.func31, Try.ntmps31
  go_wp2_with (first | ((with_reducible refine gate_dst (N := 14) rfl ?_); refine Kd.R_lit (Kd.int .u8) W.heap.size 5 ?hg (N := 14) ?hd (xs := ([n / 256 % 256, n % 256] : List Int)) (inner := [.int .u8 (n / 256 % 256), .int .u8 (n % 256)]) (ok := fun _ => True) (okp := fun _ => True) ?hr ?hp (fun _ hk => hk) trivial (Below.refl _ _) (Nat.le_refl _) (by simp) ?_; (case hd => rfl); (case hg => rfl); (case hr => first | (go_simp; done) | (go_simp; rfl)); (case hp => exact (Reps.one (show Kd.M (Kd.int .u8) _ _ _ (n / 256 % 256) [.int .u8 (n / 256 % 256)] from rfl) (Reps.one (show Kd.M (Kd.int .u8) _ _ _ (n % 256) [.int .u8 (n % 256)] from rfl) (Reps.none _ _)))); intro v3 w3 ho hb hg_ hnew_; clear hg_ hnew_; have HL3 := Aside0.mk ho; have HW3 := Aside0.mk (HW.out.below hb); have K3 := Aside0.mk (WK.ofBelow (g := g) (v := .slice A bs.length cc) hb); have hq := HW3.out.cell; have q3 := hq.1; have f3 := hq.2; clear hq ho hb; obtain ⟨A3, c3, e3⟩ := Kd.R_slice HL3.out; subst e3) | ((with_reducible refine gate_builtin (b := .append) (xs := #[.tmp 8, .tmp 14]) rfl ?_); at_builtin; go_must (refine Kd.R_append_rows (Kd.int .u8) (w0 := w3) (g + 1) rfl (.tmp 8) (.tmp 14) 22 5 (.int .u8 0) 1 rfl Try.underlying22 info5 rfl (by decide) (by omega) (.slice A bs.length cc) bs ([n / 256 % 256, n % 256] : List Int) _ _ _ (fun _ => True) (fun _ => False) rfl rfl ?aO ?aR (fun _ _ h => h) (fun _ h => h.elim) ?aF ?aB ?aS ?aL ?_); (case aR => exact (Kd.R_reads' HL3.out).2.2); (case aB => exact Below.refl _ _); (case aF => exact (fun _ _ => trivial)); (case aO => exact HW3.out.2); (case aS => have := HW3.out.lt; omega); (case aL => have := HL.out; simp only [List.length_cons, List.length_nil]; omega); intro v7 w7 ho hb hg hat; rw [← HY.out] at ho; obtain ⟨A7, c7, e7⟩ := Kd.R_slice ho; subst e7; obtain ⟨r1, r2⟩ := WS.wrote HW3.out ho hb hg hat; have R7 := Aside0.mk r1; have K7 := Aside0.mk r2; have n7 := hS_cell hb q3; have m7 := hS_frozen hb f3; clear ho hb hg hat r1 r2))
  go_end0
  refine ⟨rfl, _, ?_, K3.out.trans K7.out⟩
  show WS _ _ _ (bs ++ [n / 256 % 256, n % 256])
  rw [← HY.out]
  exact R7.out
theorem two_grown {a b c : World} {u v1 v2 : Value} (h : a.grownBy b u.ownBlock) (hat : v1.ownBlock = u.ownBlock ∨ ∃ k, v1.ownBlock = some k ∧ a.heap.size ≤ k) (k : b.grownBy c v1.ownBlock) (kat : v2.ownBlock = v1.ownBlock ∨ ∃ k, v2.ownBlock = some k ∧ b.heap.size ≤ k) :
    a.grownBy c u.ownBlock ∧ (v2.ownBlock = u.ownBlock ∨ ∃ k, v2.ownBlock = some k ∧ a.heap.size ≤ k) := by
  refine ⟨⟨k.os.trans h.os, k.tape.trans h.tape, k.output.trans h.output, Nat.le_trans h.size k.size, fun i hi hn => (k.block i (Nat.lt_of_lt_of_le hi h.size) ?_).trans (h.block i hi hn)⟩, ?_⟩
  · rcases hat with e | ⟨x, e, hx⟩
    · rw [e]; exact hn
    · rw [e]
      intro e2
      injection e2 with e2
      omega
  · rcases kat with e | ⟨x, e, hx⟩
    · rw [e]; exact hat
    · exact .inr ⟨x, e, Nat.le_trans h.size hx⟩
def textB (s : ByteArray) : List Int := [(s.size : Int) % 256] ++ bytesOf s
set_option maxHeartbeats 1600000 in
theorem wtext_any {g : Nat} {v : Value} {bs : List Int} {s : ByteArray} (W : World) (h : WS W g v bs) (hs : s.size ≤ 1000) (hl : bs.length ≤ 1000000) :
    Calls Try.prog 32 #[.pointer (some ⟨g, 0, none⟩), .string s] W fun e w' => e = .returned (.tuple #[]) ∧ ∃ v', WS w' g v' (bs ++ textB s) ∧ WK W w' g v v' := by
  obtain ⟨q0, f0⟩ := h.cell
  obtain ⟨A, cc, e⟩ := Kd.R_slice h.2
  subst e
  have hlt := h.lt
  have HW := Aside0.mk h
  have HL := Aside0.mk hl
  have HS := Aside0.mk hs
  obtain ⟨y, hy⟩ : ∃ q_, q_ = bs ++ [(s.size : Int) % 256] := ⟨_, rfl⟩
  have HY := Aside0.mk hy
  have LY := Aside0.mk (congrArg List.length hy)
  clear hy
  obtain ⟨z, hz⟩ : ∃ q_, q_ = y ++ bytesOf s := ⟨_, rfl⟩
  have HZ := Aside0.mk hz
  have LZ := Aside0.mk (congrArg List.length hz)
  clear hz
  clear h hl
  go_enter Try.func32, Try.ntmps32
  go_wp2_with (first | ((with_reducible refine gate_builtin (b := .append) (xs := #[.tmp 8, .tmp 12]) rfl ?_); at_builtin; go_must (refine Kd.R_append (Kd.int .u8) (w0 := W) (g + 1) rfl (.tmp 8) (.tmp 12) 22 5 (.int .u8 0) 1 rfl Try.underlying22 info5 rfl (by decide) (by omega) (.slice A bs.length cc) bs ((s.size : Int) % 256) [.int .u8 ((s.size : Int) % 256)] (fun _ => True) (fun _ => False) rfl rfl ?aP (fun _ hk => hk.elim) ?aF ?aO ?aB ?aS ?aL ?_); (case aP => exact rfl); (case aB => exact Below.refl _ _); (case aF => exact (fun _ _ => trivial)); (case aO => exact HW.out.2); (case aS => omega); (case aL => have := HL.out; omega); intro v7 w7 ho hb hg hat; rw [← HY.out] at ho; obtain ⟨A7, c7, e7⟩ := Kd.R_slice ho; subst e7; have HO7 := Aside0.mk ho; have HB7 := Aside0.mk hb; have HG7 := Aside0.mk hg; have HT7 := Aside0.mk hat; clear ho hb hg hat) | ((with_reducible refine gate_builtin (b := .append) (xs := #[.tmp 13, .tmp 14]) rfl ?_); at_builtin; go_must (refine wpList_append_str_at (g + 1) rfl (.tmp 13) (.tmp 14) 22 9 5 rfl Try.underlying22 Try.underlying9 info5 (.slice A7 y.length c7) y s rfl rfl HO7.out ?aS ?aL ?_); (case aS => have := HG7.out.size; omega); (case aL => have := HL.out; have := HS.out; have := LY.out; simp only [List.length_append, List.length_cons, List.length_nil] at this; omega); intro v8 w8 ho hb hg hat; rw [← HZ.out] at ho; obtain ⟨A8, c8, e8⟩ := Kd.R_slice ho; subst e8; obtain ⟨hg2, hat2⟩ := two_grown HG7.out HT7.out hg hat; obtain ⟨r1, r2⟩ := WS.wrote HW.out ho (HB7.out.trans hb) hg2 hat2; have R8 := Aside0.mk r1; have K8 := Aside0.mk r2; have n8 := hS_cell (HB7.out.trans hb) q0; have m8 := hS_frozen (HB7.out.trans hb) f0; clear ho hb hg hat r1 r2 hg2 hat2))
  go_end0
  refine ⟨rfl, _, ?_, K8.out⟩
  unfold textB
  rw [← List.append_assoc, ← HY.out, ← HZ.out]
  exact R8.out

/-! ### token_writer_two: function 31 -/

end Go.Proofs.Ytfaebbmngplilaa.P
