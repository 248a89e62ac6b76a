/- The machine's side: functions of the translation as plain Lean functions, and that the machine's calls come to what they say. No condition. Written by a program (wip/tools/pp.py over the kit's printer); Lean checks it. -/
import Derived.Test.YtfaebbmngplilaaPx0
import Derived.Test.YtfaebbmngplilaaPx2
namespace Go.Proofs.Ytfaebbmngplilaa.P
open Go.RowKit Go.Proofs.YtfaebbmngplilaaW.PrintWords Go.Proofs.YtfaebbmngplilaaW.PrintLast Go.Proofs.YtfaebbmngplilaaW.PrintMore
attribute [local go_sem] max2_int min2_int max_two min_two max_three min_three max_four min_four   -- for this text's walks alone
set_option linter.unusedVariables false
set_option linter.unusedSimpArgs false

/-! ### token_reader_token: function 19 -/
theorem RS.set {W : World} {g gt i : Nat} {rb : List Int} {wide lack : Bool} (h : RS W g rb wide lack) (hne : g < gt) (v : Value) : RS (W.setCell ⟨gt, i, none⟩ v) g rb wide lack := by
  obtain ⟨A, c, h1, h2, h3, h4⟩ := h
  exact ⟨A, c, (Below.heap_setCell W ⟨gt, i, none⟩ v g (by show g ≠ gt; omega)).trans h1, h2, h3, Kd.F_far h4 (p := ⟨gt, i, none⟩) (fun k hk => by show k ≠ gt; omega) v⟩
theorem RS.drewN {W : World} {g : Nat} {rb : List Int} {wide lack : Bool} (h : RS W g rb wide lack) (n : Nat) : RS (W.drewN n) g rb wide lack := by
  exact h.below (by first | exact pw_below_drewN (Below.refl _ _) n | exact below_drewN (Below.refl _ _) n)
/-- The token's own block. -/
def TB (W : World) (gt : Nat) (c n : Int) (s : ByteArray) (o : Int) : Prop := W.heap[gt]? = some (.cells #[.int .i64 c, .int .u32 n, .string s, .int .i64 o] 34 (0, 0))
theorem TB.cells {W : World} {gt : Nat} {c n : Int} {s : ByteArray} {o : Int} (h : TB W gt c n s o) :
    (W.cell? ⟨gt, 0, none⟩ = some (.int .i64 c) ∧ W.cell? ⟨gt, 1, none⟩ = some (.int .u32 n) ∧ W.cell? ⟨gt, 2, none⟩ = some (.string s) ∧ W.cell? ⟨gt, 3, none⟩ = some (.int .i64 o)) ∧
    W.frozen? ⟨gt, 0, none⟩ = false ∧ W.frozen? ⟨gt, 1, none⟩ = false ∧ W.frozen? ⟨gt, 2, none⟩ = false ∧ W.frozen? ⟨gt, 3, none⟩ = false :=
  ⟨⟨cell_of_row W gt 0 _ _ (0, 0) h, cell_of_row W gt 1 _ _ (0, 0) h, cell_of_row W gt 2 _ _ (0, 0) h, cell_of_row W gt 3 _ _ (0, 0) h⟩, frozen_of_row W gt 0 _ _ h, frozen_of_row W gt 1 _ _ h, frozen_of_row W gt 2 _ _ h, frozen_of_row W gt 3 _ _ h⟩
theorem TB.grown {W W1 : World} {gt g : Nat} {c n : Int} {s : ByteArray} {o : Int} (h : TB W gt c n s o) (hg : W.grownBy W1 (some g)) (hne : g < gt) : TB W1 gt c n s o :=
  (hg.block gt (Array.getElem?_eq_some_iff.1 h).1 (by simp; omega)).trans h
theorem TB.lt {W : World} {gt : Nat} {c n : Int} {s : ByteArray} {o : Int} (h : TB W gt c n s o) : gt < W.heap.size := (Array.getElem?_eq_some_iff.1 h).1
theorem TB.new (W : World) : TB (W.alloc (.cells #[.int .i64 0, .int .u32 0, .string (⟨#[]⟩ : ByteArray), .int .i64 0] 34)) W.heap.size 0 0 (⟨#[]⟩ : ByteArray) 0 := heap_alloc_new W _
theorem behind_k {k : Nat} {c kd : Int} (W : World) (h : token_behind.f k c = some kd) : Calls Try.prog 25 #[.int .i64 c] W fun e w' => e = .returned (.int .i64 kd) ∧ Drawn0 W w' := token_behind.calls k c kd W h
theorem TB.set0 {W : World} {gt : Nat} {c n : Int} {s : ByteArray} {o : Int} (h : TB W gt c n s o) (x : Int) : TB (W.setCell ⟨gt, 0, none⟩ (.int .i64 x)) gt x n s o := heap_setCell_same W gt 0 _ 34 _ h
theorem TB.set1 {W : World} {gt : Nat} {c n : Int} {s : ByteArray} {o : Int} (h : TB W gt c n s o) (x : Int) : TB (W.setCell ⟨gt, 1, none⟩ (.int .u32 x)) gt c x s o := heap_setCell_same W gt 1 _ 34 _ h
theorem TB.set2 {W : World} {gt : Nat} {c n : Int} {s : ByteArray} {o : Int} (h : TB W gt c n s o) (x : ByteArray) : TB (W.setCell ⟨gt, 2, none⟩ (.string x)) gt c n x o := heap_setCell_same W gt 2 _ 34 _ h
theorem TB.set3 {W : World} {gt : Nat} {c n : Int} {s : ByteArray} {o : Int} (h : TB W gt c n s o) (x : Int) : TB (W.setCell ⟨gt, 3, none⟩ (.int .i64 x)) gt c n s x := heap_setCell_same W gt 3 _ 34 _ h
theorem TB.drewN {W : World} {gt : Nat} {c n : Int} {s : ByteArray} {o : Int} (h : TB W gt c n s o) (m : Nat) : TB (W.drewN m) gt c n s o :=
  ((show Below W.heap.size W (W.drewN m) by first | exact pw_below_drewN (Below.refl _ _) m | exact below_drewN (Below.refl _ _) m).block gt h.lt).trans h
theorem token_end {gt : Nat} {c n : Int} {s : ByteArray} {o : Int} {a : Act} {W : World} {post : Ending → World → Prop} (hT : TB W gt c n s o) (hd : a.defers = []) (h2 : a.tmps.getD 2 undef = .pointer (some ⟨gt, 0, none⟩))
    (hp : post (.returned (.agg #[.int .i64 c, .int .u32 n, .string s, .int .i64 o])) W) : bodyPost Try.prog Try.f19 post .ret a W := by
  obtain ⟨⟨q0, q1, q2, q3⟩, _⟩ := hT.cells
  have h3 : a.tmps[2]?.getD undef = .pointer (some ⟨gt, 0, none⟩) := by rw [← h2]; simp
  exact bodyPost_ret (v := .agg #[.int .i64 c, .int .u32 n, .string s, .int .i64 o]) (by simp [results, Try.results19, go_sem, h2, h3, q0, q1, q2, q3]) hd hp
theorem grown_new {W0 W1 : World} {r : Option Nat} {b i : Nat} (h : W0.grownBy W1 r) (hb : W0.heap.size ≤ b) (v : Value) : W0.grownBy (W1.setCell ⟨b, i, none⟩ v) r :=
  ⟨h.os, h.tape, h.output, by rw [show (W1.setCell ⟨b, i, none⟩ v).heap.size = W1.heap.size by simp [World.setCell]]; exact h.size, fun k hk hn => (Below.heap_setCell W1 ⟨b, i, none⟩ v k (by show k ≠ b; omega)).trans (h.block k hk hn)⟩
theorem grown_drew {W0 W1 : World} {r : Option Nat} (h : W0.grownBy W1 r) (m : Nat) : W0.grownBy (W1.drewN m) r :=
  grown_trans h (grown_below (by first | exact pw_below_drewN (Below.refl _ _) m | exact below_drewN (Below.refl _ _) m))
theorem RS.isWide {W : World} {g : Nat} {rb : List Int} {wide lack : Bool} (h : RS W g rb wide lack) : W.cell? ⟨g, 1, none⟩ = some (.bool wide) := by
  obtain ⟨A, c, h1, _⟩ := h
  exact cell_of_row W g 1 _ _ (0, 0) h1
/-- Bytes taken, what is left, whether there were too few. -/
def tkP (n : Nat) (rb : List Int) (lack : Bool) : List Int × List Int × Bool := (takeB rb n, rb.drop n, lack || decide (rb.length < n))
theorem take_k {g : Nat} {rb : List Int} {wide lack : Bool} {n : Int} (W : World) (h : RS W g rb wide lack) (h0 : 0 ≤ n) (h1 : n ≤ 255) {bs rb' : List Int} {lk : Bool} (hp : tkP n.toNat rb lack = (bs, rb', lk)) :
    Calls Try.prog 27 #[.pointer (some ⟨g, 0, none⟩), .int .i64 n] W fun e w' => ∃ v, e = .returned v ∧ Kd.V (Kd.int .u8) 5 w' 0 (fun k => k ≠ g) v bs ∧ RS w' g rb' wide lk ∧ W.grownBy w' (some g) := by
  unfold tkP at hp
  simp only [Prod.mk.injEq] at hp
  obtain ⟨rfl, rfl, rfl⟩ := hp
  exact take_any W h h0 h1
theorem text_of {W : World} {A : Option Addr} {c : Nat} {bs : List Int} {ok : Nat → Prop} (h : Kd.V (Kd.int .u8) 5 W 0 ok (.slice A bs.length c) bs) : (convert 22 9 (.slice A bs.length c)).run Try.prog W = .ok (.string (strOfNums bs)) W :=
  Kd.C_string Try.underlying22 Try.underlying5 Try.underlying9 (Kd.V_reads' h).2.2
set_option maxHeartbeats 1600000 in
theorem token_0 {g : Nat} {rb : List Int} {wide lack : Bool} (W : World) (h : RS W g rb wide lack) (hB : Bys rb) {c : Int} {r1 : List Int} {l1 : Bool} (hp : codeP rb lack = (c, r1, l1)) {k : Nat} (hk : token_behind.f k c = some 0) :
    Calls Try.prog 19 #[.pointer (some ⟨g, 0, none⟩)] W fun e w' => e = .returned (.agg #[.int .i64 c, .int .u32 0, .string (⟨#[]⟩ : ByteArray), .int .i64 0]) ∧ RS w' g r1 wide l1 ∧ W.grownBy w' (some g) := by
  have hlt := h.lt
  have HP := Aside0.mk hp
  have HK := Aside0.mk hk
  have HB0 := Aside0.mk hB
  have HB1 := Aside0.mk (codeP_range hB hp).2
  have h0 : RS (W.alloc (.cells #[.int .i64 0, .int .u32 0, .string (⟨#[]⟩ : ByteArray), .int .i64 0] 34)) g rb wide lack := h.below ((Below.refl _ _).alloc (Nat.le_refl _) _)
  have HR0 := Aside0.mk h0
  clear h h0 hp hk hB
  go_enter Try.func19, Try.ntmps19
  go_wp2_with (first | (go_at_call 24; (with_reducible refine (code_any _ HR0.out HB0.out HP.out).mono ?_); rintro e w1 ⟨rfl, hr, hg⟩; have HR1 := Aside0.mk hr; have HG1 := Aside0.mk hg; have ht := TB.grown (TB.new W) hg hlt; obtain ⟨⟨q0, q1, q2, q3⟩, f0, f1, f2, f3⟩ := ht.cells; have HT1 := Aside0.mk ht; clear hr hg ht) | (go_at_call 25; (with_reducible refine (behind_k _ HK.out).mono ?_); rintro e w2 ⟨rfl, ⟨nd, rfl⟩⟩; have HRd := Aside0.mk ((HR1.out.set (i := 0) hlt (.int .i64 c)).drewN nd); have HTd := Aside0.mk ((HT1.out.set0 c).drewN nd); have HGd := Aside0.mk (grown_drew (grown_new (i := 0) (grown_trans (grown_none (World.grownBy_alloc W _ none)) HG1.out) (Nat.le_refl W.heap.size) (.int .i64 c)) nd)))
  have ht := (((HTd.out.set0 c).set1 0).set2 (⟨#[]⟩ : ByteArray)).set3 0
  refine token_end ht rfl rfl ⟨rfl, ?_, ?_⟩
  · exact (((HRd.out.set hlt _).set hlt _).set hlt _).set hlt _
  · exact grown_new (grown_new (grown_new (grown_new HGd.out (Nat.le_refl _) _) (Nat.le_refl _) _) (Nat.le_refl _) _) (Nat.le_refl _) _
set_option maxHeartbeats 1600000 in
theorem token_1 {g : Nat} {rb : List Int} {wide lack : Bool} (W : World) (h : RS W g rb wide lack) (hB : Bys rb) {c : Int} {r1 : List Int} {l1 : Bool} (hp : codeP rb lack = (c, r1, l1)) {k : Nat} (hk : token_behind.f k c = some 1) {v : Int} {r2 : List Int} {l2 : Bool} (h2 : numP 4 r1 l1 = (v, r2, l2)) :
    Calls Try.prog 19 #[.pointer (some ⟨g, 0, none⟩)] W fun e w' => e = .returned (.agg #[.int .i64 c, .int .u32 v, .string (⟨#[]⟩ : ByteArray), .int .i64 0]) ∧ RS w' g r2 wide l2 ∧ W.grownBy w' (some g) := by
  have hlt := h.lt
  have HP := Aside0.mk hp
  have HK := Aside0.mk hk
  have HB0 := Aside0.mk hB
  have HB1 := Aside0.mk (codeP_range hB hp).2
  have h0 : RS (W.alloc (.cells #[.int .i64 0, .int .u32 0, .string (⟨#[]⟩ : ByteArray), .int .i64 0] 34)) g rb wide lack := h.below ((Below.refl _ _).alloc (Nat.le_refl _) _)
  have HR0 := Aside0.mk h0
  have H2 := Aside0.mk h2
  clear h2
  clear h h0 hp hk hB
  go_enter Try.func19, Try.ntmps19
  go_wp2_with (first | (go_at_call 24; (with_reducible refine (code_any _ HR0.out HB0.out HP.out).mono ?_); rintro e w1 ⟨rfl, hr, hg⟩; have HR1 := Aside0.mk hr; have HG1 := Aside0.mk hg; have ht := TB.grown (TB.new W) hg hlt; obtain ⟨⟨q0, q1, q2, q3⟩, f0, f1, f2, f3⟩ := ht.cells; have HT1 := Aside0.mk ht; clear hr hg ht) | (go_at_call 25; (with_reducible refine (behind_k _ HK.out).mono ?_); rintro e w2 ⟨rfl, ⟨nd, rfl⟩⟩; have HRd := Aside0.mk ((HR1.out.set (i := 0) hlt (.int .i64 c)).drewN nd); have HTd := Aside0.mk ((HT1.out.set0 c).drewN nd); have HGd := Aside0.mk (grown_drew (grown_new (i := 0) (grown_trans (grown_none (World.grownBy_alloc W _ none)) HG1.out) (Nat.le_refl W.heap.size) (.int .i64 c)) nd)) | (go_at_call 26; (with_reducible refine (number_any (n := 4) (m := 4) _ HRd.out HB1.out rfl (by decide) H2.out).mono ?_); rintro e w3 ⟨rfl, hr, hg⟩; have HR3 := Aside0.mk hr; have HG3 := Aside0.mk hg; have ht := TB.grown HTd.out hg hlt; obtain ⟨⟨q0, q1, q2, q3⟩, f0, f1, f2, f3⟩ := ht.cells; have HT3 := Aside0.mk ht; clear hr hg ht))
  have ht := ((((HT3.out.set1 v).set0 c).set1 v).set2 (⟨#[]⟩ : ByteArray)).set3 0
  refine token_end ht rfl rfl ⟨rfl, ?_, ?_⟩
  · exact ((((HR3.out.set hlt _).set hlt _).set hlt _).set hlt _).set hlt _
  · exact grown_new (grown_new (grown_new (grown_new (grown_new (grown_trans HGd.out HG3.out) (Nat.le_refl _) _) (Nat.le_refl _) _) (Nat.le_refl _) _) (Nat.le_refl _) _) (Nat.le_refl _) _
set_option maxHeartbeats 1600000 in
theorem token_2 {g : Nat} {rb : List Int} {wide lack : Bool} (W : World) (h : RS W g rb wide lack) (hB : Bys rb) {c : Int} {r1 : List Int} {l1 : Bool} (hp : codeP rb lack = (c, r1, l1)) {k : Nat} (hk : token_behind.f k c = some 2) {v : Int} {r2 : List Int} {l2 : Bool} (h2 : codeP r1 l1 = (v, r2, l2)) :
    Calls Try.prog 19 #[.pointer (some ⟨g, 0, none⟩)] W fun e w' => e = .returned (.agg #[.int .i64 c, .int .u32 v, .string (⟨#[]⟩ : ByteArray), .int .i64 0]) ∧ RS w' g r2 wide l2 ∧ W.grownBy w' (some g) := by
  have hlt := h.lt
  have HP := Aside0.mk hp
  have HK := Aside0.mk hk
  have HB0 := Aside0.mk hB
  have HB1 := Aside0.mk (codeP_range hB hp).2
  have h0 : RS (W.alloc (.cells #[.int .i64 0, .int .u32 0, .string (⟨#[]⟩ : ByteArray), .int .i64 0] 34)) g rb wide lack := h.below ((Below.refl _ _).alloc (Nat.le_refl _) _)
  have HR0 := Aside0.mk h0
  have hv := (codeP_range HB1.out h2).1
  have H2 := Aside0.mk h2
  clear h2
  clear h h0 hp hk hB
  go_enter Try.func19, Try.ntmps19
  go_wp2_with (first | (go_at_call 24; (with_reducible refine (code_any _ HR0.out HB0.out HP.out).mono ?_); rintro e w1 ⟨rfl, hr, hg⟩; have HR1 := Aside0.mk hr; have HG1 := Aside0.mk hg; have ht := TB.grown (TB.new W) hg hlt; obtain ⟨⟨q0, q1, q2, q3⟩, f0, f1, f2, f3⟩ := ht.cells; have HT1 := Aside0.mk ht; clear hr hg ht) | (go_at_call 25; (with_reducible refine (behind_k _ HK.out).mono ?_); rintro e w2 ⟨rfl, ⟨nd, rfl⟩⟩; have HRd := Aside0.mk ((HR1.out.set (i := 0) hlt (.int .i64 c)).drewN nd); have HTd := Aside0.mk ((HT1.out.set0 c).drewN nd); have HGd := Aside0.mk (grown_drew (grown_new (i := 0) (grown_trans (grown_none (World.grownBy_alloc W _ none)) HG1.out) (Nat.le_refl W.heap.size) (.int .i64 c)) nd)) | (go_at_call 24; (with_reducible refine (code_any _ HRd.out HB1.out H2.out).mono ?_); rintro e w3 ⟨rfl, hr, hg⟩; have HR3 := Aside0.mk hr; have HG3 := Aside0.mk hg; have ht := TB.grown HTd.out hg hlt; obtain ⟨⟨q0, q1, q2, q3⟩, f0, f1, f2, f3⟩ := ht.cells; have HT3 := Aside0.mk ht; clear hr hg ht))
  have ht := ((((HT3.out.set1 v).set0 c).set1 v).set2 (⟨#[]⟩ : ByteArray)).set3 0
  refine token_end ht rfl rfl ⟨rfl, ?_, ?_⟩
  · exact ((((HR3.out.set hlt _).set hlt _).set hlt _).set hlt _).set hlt _
  · exact grown_new (grown_new (grown_new (grown_new (grown_new (grown_trans HGd.out HG3.out) (Nat.le_refl _) _) (Nat.le_refl _) _) (Nat.le_refl _) _) (Nat.le_refl _) _) (Nat.le_refl _) _
set_option maxHeartbeats 1600000 in
theorem token_3 {g : Nat} {rb : List Int} {wide lack : Bool} (W : World) (h : RS W g rb wide lack) (hB : Bys rb) {c : Int} {r1 : List Int} {l1 : Bool} (hp : codeP rb lack = (c, r1, l1)) {k : Nat} (hk : token_behind.f k c = some 3) {m : Int} {r2 : List Int} {l2 : Bool} (h2 : numP 1 r1 l1 = (m, r2, l2)) {bs r3 : List Int} {l3 : Bool} (h3 : tkP m.toNat r2 l2 = (bs, r3, l3)) :
    Calls Try.prog 19 #[.pointer (some ⟨g, 0, none⟩)] W fun e w' => e = .returned (.agg #[.int .i64 c, .int .u32 0, .string (strOfNums bs), .int .i64 0]) ∧ RS w' g r3 wide l3 ∧ W.grownBy w' (some g) := by
  have hlt := h.lt
  have HP := Aside0.mk hp
  have HK := Aside0.mk hk
  have HB0 := Aside0.mk hB
  have HB1 := Aside0.mk (codeP_range hB hp).2
  have h0 : RS (W.alloc (.cells #[.int .i64 0, .int .u32 0, .string (⟨#[]⟩ : ByteArray), .int .i64 0] 34)) g rb wide lack := h.below ((Below.refl _ _).alloc (Nat.le_refl _) _)
  have HR0 := Aside0.mk h0
  have hm := (numP_one HB1.out h2).1
  have H2 := Aside0.mk h2
  have H3 := Aside0.mk h3
  clear h2 h3
  clear h h0 hp hk hB
  go_enter Try.func19, Try.ntmps19
  go_wp2_with (first | (go_at_call 24; (with_reducible refine (code_any _ HR0.out HB0.out HP.out).mono ?_); rintro e w1 ⟨rfl, hr, hg⟩; have HR1 := Aside0.mk hr; have HG1 := Aside0.mk hg; have ht := TB.grown (TB.new W) hg hlt; obtain ⟨⟨q0, q1, q2, q3⟩, f0, f1, f2, f3⟩ := ht.cells; have HT1 := Aside0.mk ht; clear hr hg ht) | (go_at_call 25; (with_reducible refine (behind_k _ HK.out).mono ?_); rintro e w2 ⟨rfl, ⟨nd, rfl⟩⟩; have HRd := Aside0.mk ((HR1.out.set (i := 0) hlt (.int .i64 c)).drewN nd); have HTd := Aside0.mk ((HT1.out.set0 c).drewN nd); have HGd := Aside0.mk (grown_drew (grown_new (i := 0) (grown_trans (grown_none (World.grownBy_alloc W _ none)) HG1.out) (Nat.le_refl W.heap.size) (.int .i64 c)) nd)) | (go_at_call 26; (with_reducible refine (number_any (n := 1) (m := 1) _ HRd.out HB1.out rfl (by decide) H2.out).mono ?_); rintro e w3 ⟨rfl, hr, hg⟩; have HR3 := Aside0.mk hr; have HG3 := Aside0.mk hg; have ht := TB.grown HTd.out hg hlt; obtain ⟨⟨q0, q1, q2, q3⟩, f0, f1, f2, f3⟩ := ht.cells; have HT3 := Aside0.mk ht; clear hr hg ht) | (go_at_call 27; (with_reducible refine (take_k _ HR3.out hm.1 hm.2 H3.out).mono ?_); rintro e w4 ⟨v, rfl, hv, hr, hg⟩; obtain ⟨A1, c1, e1⟩ := Kd.V_slice hv; subst e1; have hcv := text_of hv; clear hv; have HR4 := Aside0.mk hr; have HG4 := Aside0.mk hg; have ht := TB.grown HT3.out hg hlt; obtain ⟨⟨q0, q1, q2, q3⟩, f0, f1, f2, f3⟩ := ht.cells; have HT4 := Aside0.mk ht; clear hr hg ht))
  have ht := ((((HT4.out.set2 (strOfNums bs)).set0 c).set1 0).set2 (strOfNums bs)).set3 0
  refine token_end ht rfl rfl ⟨rfl, ?_, ?_⟩
  · exact ((((HR4.out.set hlt _).set hlt _).set hlt _).set hlt _).set hlt _
  · exact grown_new (grown_new (grown_new (grown_new (grown_new (grown_trans (grown_trans HGd.out HG3.out) HG4.out) (Nat.le_refl _) _) (Nat.le_refl _) _) (Nat.le_refl _) _) (Nat.le_refl _) _) (Nat.le_refl _) _
set_option maxHeartbeats 1600000 in
theorem token_5 {g : Nat} {rb : List Int} {wide lack : Bool} (W : World) (h : RS W g rb wide lack) (hB : Bys rb) {c : Int} {r1 : List Int} {l1 : Bool} (hp : codeP rb lack = (c, r1, l1)) {k : Nat} (hk : token_behind.f k c = some 5) {v : Int} {r2 : List Int} {l2 : Bool} (h2 : numP 2 r1 l1 = (v, r2, l2)) :
    Calls Try.prog 19 #[.pointer (some ⟨g, 0, none⟩)] W fun e w' => e = .returned (.agg #[.int .i64 c, .int .u32 v, .string (⟨#[]⟩ : ByteArray), .int .i64 0]) ∧ RS w' g r2 wide l2 ∧ W.grownBy w' (some g) := by
  have hlt := h.lt
  have HP := Aside0.mk hp
  have HK := Aside0.mk hk
  have HB0 := Aside0.mk hB
  have HB1 := Aside0.mk (codeP_range hB hp).2
  have h0 : RS (W.alloc (.cells #[.int .i64 0, .int .u32 0, .string (⟨#[]⟩ : ByteArray), .int .i64 0] 34)) g rb wide lack := h.below ((Below.refl _ _).alloc (Nat.le_refl _) _)
  have HR0 := Aside0.mk h0
  have H2 := Aside0.mk h2
  clear h2
  clear h h0 hp hk hB
  go_enter Try.func19, Try.ntmps19
  go_wp2_with (first | (go_at_call 24; (with_reducible refine (code_any _ HR0.out HB0.out HP.out).mono ?_); rintro e w1 ⟨rfl, hr, hg⟩; have HR1 := Aside0.mk hr; have HG1 := Aside0.mk hg; have ht := TB.grown (TB.new W) hg hlt; obtain ⟨⟨q0, q1, q2, q3⟩, f0, f1, f2, f3⟩ := ht.cells; have HT1 := Aside0.mk ht; clear hr hg ht) | (go_at_call 25; (with_reducible refine (behind_k _ HK.out).mono ?_); rintro e w2 ⟨rfl, ⟨nd, rfl⟩⟩; have HRd := Aside0.mk ((HR1.out.set (i := 0) hlt (.int .i64 c)).drewN nd); have HTd := Aside0.mk ((HT1.out.set0 c).drewN nd); have HGd := Aside0.mk (grown_drew (grown_new (i := 0) (grown_trans (grown_none (World.grownBy_alloc W _ none)) HG1.out) (Nat.le_refl W.heap.size) (.int .i64 c)) nd)) | (go_at_call 26; (with_reducible refine (number_any (n := 2) (m := 2) _ HRd.out HB1.out rfl (by decide) H2.out).mono ?_); rintro e w3 ⟨rfl, hr, hg⟩; have HR3 := Aside0.mk hr; have HG3 := Aside0.mk hg; have ht := TB.grown HTd.out hg hlt; obtain ⟨⟨q0, q1, q2, q3⟩, f0, f1, f2, f3⟩ := ht.cells; have HT3 := Aside0.mk ht; clear hr hg ht))
  have ht := ((((HT3.out.set1 v).set0 c).set1 v).set2 (⟨#[]⟩ : ByteArray)).set3 0
  refine token_end ht rfl rfl ⟨rfl, ?_, ?_⟩
  · exact ((((HR3.out.set hlt _).set hlt _).set hlt _).set hlt _).set hlt _
  · exact grown_new (grown_new (grown_new (grown_new (grown_new (grown_trans HGd.out HG3.out) (Nat.le_refl _) _) (Nat.le_refl _) _) (Nat.le_refl _) _) (Nat.le_refl _) _) (Nat.le_refl _) _
set_option maxHeartbeats 1600000 in
theorem token_4w {g : Nat} {rb : List Int} {lack : Bool} (W : World) (h : RS W g rb true lack) (hB : Bys rb) {c : Int} {r1 : List Int} {l1 : Bool} (hp : codeP rb lack = (c, r1, l1)) {k : Nat} (hk : token_behind.f k c = some 4) {v : Int} {r2 : List Int} {l2 : Bool} (h2 : numP 2 r1 l1 = (v, r2, l2)) {o : Int} (ho : wrap64 (IntKind.i16.wrap v) = o) :
    Calls Try.prog 19 #[.pointer (some ⟨g, 0, none⟩)] W fun e w' => e = .returned (.agg #[.int .i64 c, .int .u32 0, .string (⟨#[]⟩ : ByteArray), .int .i64 o]) ∧ RS w' g r2 true l2 ∧ W.grownBy w' (some g) := by
  have hlt := h.lt
  have HP := Aside0.mk hp
  have HK := Aside0.mk hk
  have HB0 := Aside0.mk hB
  have HB1 := Aside0.mk (codeP_range hB hp).2
  have h0 : RS (W.alloc (.cells #[.int .i64 0, .int .u32 0, .string (⟨#[]⟩ : ByteArray), .int .i64 0] 34)) g rb true lack := h.below ((Below.refl _ _).alloc (Nat.le_refl _) _)
  have HR0 := Aside0.mk h0
  have hne : g ≠ W.heap.size := by omega
  have H2 := Aside0.mk h2
  have HO := Aside0.mk ho
  clear h2 ho
  clear h h0 hp hk hB
  go_enter Try.func19, Try.ntmps19
  go_wp2_with (first | (go_at_call 24; (with_reducible refine (code_any _ HR0.out HB0.out HP.out).mono ?_); rintro e w1 ⟨rfl, hr, hg⟩; have HR1 := Aside0.mk hr; have HG1 := Aside0.mk hg; have ht := TB.grown (TB.new W) hg hlt; obtain ⟨⟨q0, q1, q2, q3⟩, f0, f1, f2, f3⟩ := ht.cells; have HT1 := Aside0.mk ht; clear hr hg ht) | (go_at_call 25; (with_reducible refine (behind_k _ HK.out).mono ?_); rintro e w2 ⟨rfl, ⟨nd, rfl⟩⟩; have HRd := Aside0.mk ((HR1.out.set (i := 0) hlt (.int .i64 c)).drewN nd); have HTd := Aside0.mk ((HT1.out.set0 c).drewN nd); have HGd := Aside0.mk (grown_drew (grown_new (i := 0) (grown_trans (grown_none (World.grownBy_alloc W _ none)) HG1.out) (Nat.le_refl W.heap.size) (.int .i64 c)) nd); have hw := HR1.out.isWide; have hw2 := HRd.out.isWide) | (go_at_call 26; (with_reducible refine (number_any (n := 2) (m := 2) _ HRd.out HB1.out rfl (by decide) H2.out).mono ?_); rintro e w3 ⟨rfl, hr, hg⟩; have HR3 := Aside0.mk hr; have HG3 := Aside0.mk hg; have ht := TB.grown HTd.out hg hlt; obtain ⟨⟨q0, q1, q2, q3⟩, f0, f1, f2, f3⟩ := ht.cells; have HT3 := Aside0.mk ht; clear hr hg ht))
  rw [HO.out]
  have ht := ((((HT3.out.set3 o).set0 c).set1 0).set2 (⟨#[]⟩ : ByteArray)).set3 o
  refine token_end ht rfl rfl ⟨rfl, ?_, ?_⟩
  · exact ((((HR3.out.set hlt _).set hlt _).set hlt _).set hlt _).set hlt _
  · exact grown_new (grown_new (grown_new (grown_new (grown_new (grown_trans HGd.out HG3.out) (Nat.le_refl _) _) (Nat.le_refl _) _) (Nat.le_refl _) _) (Nat.le_refl _) _) (Nat.le_refl _) _
set_option maxHeartbeats 1600000 in
theorem token_4 {g : Nat} {rb : List Int} {lack : Bool} (W : World) (h : RS W g rb false lack) (hB : Bys rb) {c : Int} {r1 : List Int} {l1 : Bool} (hp : codeP rb lack = (c, r1, l1)) {k : Nat} (hk : token_behind.f k c = some 4) {v : Int} {r2 : List Int} {l2 : Bool} (h2 : numP 1 r1 l1 = (v, r2, l2)) {o : Int} (ho : wrap64 (IntKind.i8.wrap v) = o) :
    Calls Try.prog 19 #[.pointer (some ⟨g, 0, none⟩)] W fun e w' => e = .returned (.agg #[.int .i64 c, .int .u32 0, .string (⟨#[]⟩ : ByteArray), .int .i64 o]) ∧ RS w' g r2 false l2 ∧ W.grownBy w' (some g) := by
  have hlt := h.lt
  have HP := Aside0.mk hp
  have HK := Aside0.mk hk
  have HB0 := Aside0.mk hB
  have HB1 := Aside0.mk (codeP_range hB hp).2
  have h0 : RS (W.alloc (.cells #[.int .i64 0, .int .u32 0, .string (⟨#[]⟩ : ByteArray), .int .i64 0] 34)) g rb false lack := h.below ((Below.refl _ _).alloc (Nat.le_refl _) _)
  have HR0 := Aside0.mk h0
  have hne : g ≠ W.heap.size := by omega
  have H2 := Aside0.mk h2
  have HO := Aside0.mk ho
  clear h2 ho
  clear h h0 hp hk hB
  go_enter Try.func19, Try.ntmps19
  go_wp2_with (first | (go_at_call 24; (with_reducible refine (code_any _ HR0.out HB0.out HP.out).mono ?_); rintro e w1 ⟨rfl, hr, hg⟩; have HR1 := Aside0.mk hr; have HG1 := Aside0.mk hg; have ht := TB.grown (TB.new W) hg hlt; obtain ⟨⟨q0, q1, q2, q3⟩, f0, f1, f2, f3⟩ := ht.cells; have HT1 := Aside0.mk ht; clear hr hg ht) | (go_at_call 25; (with_reducible refine (behind_k _ HK.out).mono ?_); rintro e w2 ⟨rfl, ⟨nd, rfl⟩⟩; have HRd := Aside0.mk ((HR1.out.set (i := 0) hlt (.int .i64 c)).drewN nd); have HTd := Aside0.mk ((HT1.out.set0 c).drewN nd); have HGd := Aside0.mk (grown_drew (grown_new (i := 0) (grown_trans (grown_none (World.grownBy_alloc W _ none)) HG1.out) (Nat.le_refl W.heap.size) (.int .i64 c)) nd); have hw := HR1.out.isWide; have hw2 := HRd.out.isWide) | (go_at_call 26; (with_reducible refine (number_any (n := 1) (m := 1) _ HRd.out HB1.out rfl (by decide) H2.out).mono ?_); rintro e w3 ⟨rfl, hr, hg⟩; have HR3 := Aside0.mk hr; have HG3 := Aside0.mk hg; have ht := TB.grown HTd.out hg hlt; obtain ⟨⟨q0, q1, q2, q3⟩, f0, f1, f2, f3⟩ := ht.cells; have HT3 := Aside0.mk ht; clear hr hg ht))
  rw [HO.out]
  have ht := ((((HT3.out.set3 o).set0 c).set1 0).set2 (⟨#[]⟩ : ByteArray)).set3 o
  refine token_end ht rfl rfl ⟨rfl, ?_, ?_⟩
  · exact ((((HR3.out.set hlt _).set hlt _).set hlt _).set hlt _).set hlt _
  · exact grown_new (grown_new (grown_new (grown_new (grown_new (grown_trans HGd.out HG3.out) (Nat.le_refl _) _) (Nat.le_refl _) _) (Nat.le_refl _) _) (Nat.le_refl _) _) (Nat.le_refl _) _
set_option maxHeartbeats 1600000 in
theorem token_6 {g : Nat} {rb : List Int} {wide lack : Bool} (W : World) (h : RS W g rb wide lack) (hB : Bys rb) {c : Int} {r1 : List Int} {l1 : Bool} (hp : codeP rb lack = (c, r1, l1)) {k : Nat} (hk : token_behind.f k c = some 6) {m : Int} {r2 : List Int} {l2 : Bool} (h2 : numP 1 r1 l1 = (m, r2, l2)) {bs r3 : List Int} {l3 : Bool} (h3 : tkP m.toNat r2 l2 = (bs, r3, l3)) {v : Int} {r4 : List Int} {l4 : Bool} (h4 : numP 2 r3 l3 = (v, r4, l4)) :
    Calls Try.prog 19 #[.pointer (some ⟨g, 0, none⟩)] W fun e w' => e = .returned (.agg #[.int .i64 c, .int .u32 v, .string (strOfNums bs), .int .i64 0]) ∧ RS w' g r4 wide l4 ∧ W.grownBy w' (some g) := by
  have hlt := h.lt
  have HP := Aside0.mk hp
  have HK := Aside0.mk hk
  have HB0 := Aside0.mk hB
  have HB1 := Aside0.mk (codeP_range hB hp).2
  have h0 : RS (W.alloc (.cells #[.int .i64 0, .int .u32 0, .string (⟨#[]⟩ : ByteArray), .int .i64 0] 34)) g rb wide lack := h.below ((Below.refl _ _).alloc (Nat.le_refl _) _)
  have HR0 := Aside0.mk h0
  have hm := (numP_one HB1.out h2).1
  have HB3 := Aside0.mk (show Bys r3 by
    have h5 := (numP_one HB1.out h2).2
    unfold tkP at h3
    simp only [Prod.mk.injEq] at h3
    rw [← h3.2.1]
    exact h5.drop _)
  have H2 := Aside0.mk h2
  have H3 := Aside0.mk h3
  have H4 := Aside0.mk h4
  clear h2 h3 h4
  clear h h0 hp hk hB
  go_enter Try.func19, Try.ntmps19
  go_wp2_with (first | (go_at_call 24; (with_reducible refine (code_any _ HR0.out HB0.out HP.out).mono ?_); rintro e w1 ⟨rfl, hr, hg⟩; have HR1 := Aside0.mk hr; have HG1 := Aside0.mk hg; have ht := TB.grown (TB.new W) hg hlt; obtain ⟨⟨q0, q1, q2, q3⟩, f0, f1, f2, f3⟩ := ht.cells; have HT1 := Aside0.mk ht; clear hr hg ht) | (go_at_call 25; (with_reducible refine (behind_k _ HK.out).mono ?_); rintro e w2 ⟨rfl, ⟨nd, rfl⟩⟩; have HRd := Aside0.mk ((HR1.out.set (i := 0) hlt (.int .i64 c)).drewN nd); have HTd := Aside0.mk ((HT1.out.set0 c).drewN nd); have HGd := Aside0.mk (grown_drew (grown_new (i := 0) (grown_trans (grown_none (World.grownBy_alloc W _ none)) HG1.out) (Nat.le_refl W.heap.size) (.int .i64 c)) nd)) | (go_at_call 26; (with_reducible refine (number_any (n := 1) (m := 1) _ HRd.out HB1.out rfl (by decide) H2.out).mono ?_); rintro e w3 ⟨rfl, hr, hg⟩; have HR3 := Aside0.mk hr; have HG3 := Aside0.mk hg; have ht := TB.grown HTd.out hg hlt; obtain ⟨⟨q0, q1, q2, q3⟩, f0, f1, f2, f3⟩ := ht.cells; have HT3 := Aside0.mk ht; clear hr hg ht) | (go_at_call 27; (with_reducible refine (take_k _ HR3.out hm.1 hm.2 H3.out).mono ?_); rintro e w4 ⟨v, rfl, hv, hr, hg⟩; obtain ⟨A1, c1, e1⟩ := Kd.V_slice hv; subst e1; have hcv := text_of hv; clear hv; have HR4 := Aside0.mk hr; have HG4 := Aside0.mk hg; have ht := TB.grown HT3.out hg hlt; obtain ⟨⟨q0, q1, q2, q3⟩, f0, f1, f2, f3⟩ := ht.cells; have HT4 := Aside0.mk ht; clear hr hg ht; have HRe := Aside0.mk (HR4.out.set (i := 2) hlt (.string (strOfNums bs))); have HTe := Aside0.mk (HT4.out.set2 (strOfNums bs))) | (go_at_call 26; (with_reducible refine (number_any (n := 2) (m := 2) _ HRe.out HB3.out rfl (by decide) H4.out).mono ?_); rintro e w5 ⟨rfl, hr, hg⟩; have HR5 := Aside0.mk hr; have HG5 := Aside0.mk hg; have ht := TB.grown HTe.out hg hlt; obtain ⟨⟨q0, q1, q2, q3⟩, f0, f1, f2, f3⟩ := ht.cells; have HT5 := Aside0.mk ht; clear hr hg ht))
  have ht := ((((HT5.out.set1 v).set0 c).set1 v).set2 (strOfNums bs)).set3 0
  refine token_end ht rfl rfl ⟨rfl, ?_, ?_⟩
  · exact ((((HR5.out.set hlt _).set hlt _).set hlt _).set hlt _).set hlt _
  · exact grown_new (grown_new (grown_new (grown_new (grown_new (grown_trans (grown_new (grown_trans (grown_trans HGd.out HG3.out) HG4.out) (Nat.le_refl _) _) HG5.out) (Nat.le_refl _) _) (Nat.le_refl _) _) (Nat.le_refl _) _) (Nat.le_refl _) _) (Nat.le_refl _) _

/-! ### token_coded: function 28 -/
def token_coded.f (a0 : Int) : Option (Bool) := if a0 = 0 then (some true) else (if a0 ≥ 16 then (some (decide (a0 ≤ 4095))) else (some false))
set_option maxHeartbeats 8000000 in
set_option maxRecDepth 100000 in
theorem token_coded.calls (a0 : Int) (r : Bool) (w : World) (h : token_coded.f a0 = some r) :
    Calls Try.prog 28 #[.int .i64 a0] w fun e w' => e = .returned (.bool r) ∧ Drawn0 w w' := by
  have H : (if a0 = 0 then (some true) else (if a0 ≥ 16 then (some (decide (a0 ≤ 4095))) else (some false))) = some r := h
  clear h
  by_cases c2 : a0 = 0
  · rw [if_pos c2] at H
    have c2b0 : (a0 == 0) = true := beq_iff_eq.mpr c2
    have c2b1 : (a0 != 0) = false := bne_eq_false_iff_eq.mpr c2
    clear c2
    obtain rfl := Option.some.inj H
    go_enter Try.func28, Try.ntmps28
    go_wp2
    go_ret
    exact ⟨by first | rfl | (simp; done) | (simp [*]; done), by repeat (first | exact Drawn0.refl _ | apply Drawn0.step)⟩
  · rw [if_neg c2] at H
    have c2b0 : (a0 == 0) = false := beq_eq_false_iff_ne.mpr c2
    have c2b1 : (a0 != 0) = true := bne_iff_ne.mpr c2
    by_cases c3 : a0 ≥ 16
    · rw [if_pos c3] at H
      have c3b0 : decide (16 ≤ a0) = true := decide_eq_true c3
      clear c3
      obtain rfl := Option.some.inj H
      go_enter Try.func28, Try.ntmps28
      go_wp2
      go_ret
      exact ⟨by first | rfl | (simp; done) | (simp [*]; done), by repeat (first | exact Drawn0.refl _ | apply Drawn0.step)⟩
    · rw [if_neg c3] at H
      have c3b0 : decide (16 ≤ a0) = false := decide_eq_false c3
      clear c3
      obtain rfl := Option.some.inj H
      go_enter Try.func28, Try.ntmps28
      go_wp2
      go_ret
      exact ⟨by first | rfl | (simp; done) | (simp [*]; done), by repeat (first | exact Drawn0.refl _ | apply Drawn0.step)⟩

end Go.Proofs.Ytfaebbmngplilaa.P
