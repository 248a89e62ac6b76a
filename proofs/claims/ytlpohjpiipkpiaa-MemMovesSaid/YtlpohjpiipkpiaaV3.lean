/- Stretches compared; what was moved. -/
import Derived.Test.YtlpohjpiipkpiaaV1
namespace Go.Proofs.Ytlpohjpiipkpiaa.V
open Go.RowKit Go.Proofs.Ytlpohjpiipkpiaa.P Go.Proofs.Ytlpohjpiipkpiaa.G Go.Proofs.YtlpohjpiipkpiaaW.PrintWords Go.Proofs.YtlpohjpiipkpiaaW.PrintLast Go.Proofs.YtlpohjpiipkpiaaW.PrintMore
set_option linter.unusedVariables false

/-- Two lists of numbers, byte by byte. -/
def cmp : List Int → List Int → Int
  | [], [] => 0
  | [], _ :: _ => -1
  | _ :: _, [] => 1
  | x :: a, y :: b => if x = y then cmp a b else if x < y then -1 else 1
theorem cmp_range (a b : List Int) : cmp a b = -1 ∨ cmp a b = 0 ∨ cmp a b = 1 := by
  induction a generalizing b with
  | nil => cases b <;> simp [cmp]
  | cons x a ih =>
    cases b with
    | nil => simp [cmp]
    | cons y b =>
      unfold cmp
      split
      · exact ih b
      · split <;> simp
theorem cmp_neg (a b : List Int) : cmp b a = - cmp a b := by
  induction a generalizing b with
  | nil => cases b <;> simp [cmp]
  | cons x a ih =>
    cases b with
    | nil => simp [cmp]
    | cons y b =>
      unfold cmp
      by_cases h : x = y
      · rw [if_pos h, if_pos h.symm, ih]
      · rw [if_neg h, if_neg (fun e => h e.symm)]
        by_cases h2 : x < y
        · rw [if_pos h2, if_neg (by omega)]
          rfl
        · rw [if_neg h2, if_pos (by omega)]
theorem u8_lt {x y : Int} (hx : 0 ≤ x ∧ x ≤ 255) (hy : 0 ≤ y ∧ y ≤ 255) : (UInt8.ofNat x.toNat < UInt8.ofNat y.toNat) ↔ x < y := by
  rw [UInt8.lt_iff_toNat_lt]
  simp
  omega
theorem compare_cmp {a b : List Int} (ha : By a) (hb : By b) : Lib.compareBytes (Lib.bytesOf a) (Lib.bytesOf b) = cmp a b := by
  induction a generalizing b with
  | nil =>
    cases b with
    | nil => rfl
    | cons y b => rfl
  | cons x a ih =>
    cases b with
    | nil => rfl
    | cons y b =>
      have hx := ha x List.mem_cons_self
      have hy := hb y List.mem_cons_self
      have ih' := ih (fun z hz => ha z (List.mem_cons_of_mem _ hz)) (b := b) (fun z hz => hb z (List.mem_cons_of_mem _ hz))
      show Lib.compareBytes (UInt8.ofNat x.toNat :: Lib.bytesOf a) (UInt8.ofNat y.toNat :: Lib.bytesOf b) = _
      unfold Lib.compareBytes cmp
      by_cases h : x = y
      · subst h
        simp [ih']
      · rw [if_neg h]
        by_cases h2 : x < y
        · rw [if_pos h2]
          simp [(u8_lt hx hy).2 h2]
        · rw [if_neg h2]
          have h3 : ¬ UInt8.ofNat x.toNat < UInt8.ofNat y.toNat := fun e => h2 ((u8_lt hx hy).1 e)
          rw [if_neg h3, if_pos ((u8_lt hy hx).2 (by omega))]
theorem seg_take (l : List Int) {a n : Int} (ha : 0 ≤ a) (hn : 0 ≤ n) : seg l a n = (l.drop a.toNat).take n.toNat := by
  unfold seg
  rw [List.drop_take, show (a + n).toNat - a.toNat = n.toNat by omega]
theorem drop_cons (l : List Int) (j : Nat) (h : j < l.length) : l.drop j = rd l (j : Int) :: l.drop (j + 1) := by
  rw [rd_at l j h]
  exact List.drop_eq_getElem_cons h
theorem compare_loop {l : List Int} {a b n : Int} (hl : Sh l) (ha : U a) (hb : U b) (hn : U n) (h1 : a + n ≤ (l.length : Int)) (h2 : b + n ≤ (l.length : Int)) (d : Nat) : ∀ (k i : Nat), (i : Int) ≤ n → n.toNat - i = d → d < k →
    tinderref04_Compare.l0 k l a b n (i : Int) = some (cmp ((l.drop (a.toNat + i)).take d) ((l.drop (b.toNat + i)).take d) % 4294967296, 0) := by
  unfold U at ha hb hn
  unfold Sh at hl
  induction d with
  | zero =>
    intro k i hi hd hk
    obtain ⟨k, rfl⟩ : ∃ m, k = m + 1 := ⟨k - 1, by omega⟩
    rw [tinderref04_Compare.l0, w64 (n := n) (by omega) (by omega), if_neg (by omega)]
    rfl
  | succ d ih =>
    intro k i hi hd hk
    obtain ⟨k, rfl⟩ : ∃ m, k = m + 1 := ⟨k - 1, by omega⟩
    have h3 := ih k (i + 1) (by omega) (by omega) (by omega)
    have ea : a + (i : Int) = ((a.toNat + i : Nat) : Int) := by omega
    have eb : b + (i : Int) = ((b.toNat + i : Nat) : Int) := by omega
    rw [drop_cons l (a.toNat + i) (by omega), drop_cons l (b.toNat + i) (by omega), List.take_succ_cons, List.take_succ_cons]
    rw [tinderref04_Compare.l0, w64 (n := n) (by omega) (by omega), if_pos (by omega), w64 (n := a) (by omega) (by omega), w64 (n := b) (by omega) (by omega), w64 (n := a + (i : Int)) (by omega) (by omega), w64 (n := b + (i : Int)) (by omega) (by omega), if_pos (by omega), if_pos (by omega), if_pos (by omega), if_pos (by omega), ea, eb]
    unfold cmp
    by_cases hx : rd l ((a.toNat + i : Nat) : Int) = rd l ((b.toNat + i : Nat) : Int)
    · rw [if_neg (by omega), if_neg (by omega), if_pos hx, w64 (by omega) (by omega)]
      exact h3
    · rw [if_neg hx]
      by_cases hy : rd l ((a.toNat + i : Nat) : Int) < rd l ((b.toNat + i : Nat) : Int)
      · rw [if_neg (by omega), if_pos hy, if_pos hy]
        rfl
      · rw [if_pos (by omega), if_neg hy]
        rfl
def cmpAt (l : List Int) (a b n : Int) : Int × Int := if a + n ≤ (l.length : Int) ∧ b + n ≤ (l.length : Int) then (cmp (seg l a n) (seg l b n) % 4294967296, 0) else (0, 9)
theorem mcompare_eq {l : List Int} {a b n : Int} (hB : By l) (ha : U a) (hb : U b) (hn : U n) : mem_Compare.f l a b n = some (cmpAt l a b n) := by
  unfold mem_Compare.f cmpAt bytes_Compare.f
  rw [stretch_eq ha hn, Option.bind_some, stretch_eq hb hn, Option.bind_some]
  by_cases h1 : a + n ≤ (l.length : Int)
  · rw [if_pos h1, if_pos rfl]
    by_cases h2 : b + n ≤ (l.length : Int)
    · rw [if_pos h2, if_pos rfl, Option.bind_some, if_pos ⟨h1, h2⟩, compare_cmp (seg_by hB a n) (seg_by hB b n)]
    · rw [if_neg h2, if_neg (by decide), if_neg (fun h => h2 h.2)]
  · rw [if_neg h1, if_neg (by decide), if_neg (fun h => h1 h.1)]
theorem rcompare_eq {l : List Int} {a b n : Int} (hl : Sh l) (ha : U a) (hb : U b) (hn : U n) {k : Nat} (hk : l.length + 2 < k) : tinderref04_Compare.f k l a b n = some (cmpAt l a b n) := by
  obtain ⟨k, rfl⟩ : ∃ m, k = m + 1 := ⟨k - 1, by omega⟩
  unfold tinderref04_Compare.f cmpAt
  rw [in_eq hl ha hn, Option.bind_some]
  by_cases h1 : a + n ≤ (l.length : Int)
  · rw [decide_eq_true h1, if_pos rfl, in_eq hl hb hn, Option.bind_some]
    by_cases h2 : b + n ≤ (l.length : Int)
    · have h3 := compare_loop hl ha hb hn h1 h2 n.toNat k 0 (by unfold U at hn; omega) (by omega) (by unfold U at ha hn; omega)
      rw [decide_eq_true h2, tinderref04_Compare.j0, if_neg (by decide), if_pos ⟨h1, h2⟩, seg_take l ha.1 hn.1, seg_take l hb.1 hn.1]
      exact h3
    · rw [decide_eq_false h2, tinderref04_Compare.j0, if_pos (by decide), if_neg (fun h => h2 h.2)]
  · rw [decide_eq_false h1, if_neg (by decide), tinderref04_Compare.j0, if_pos rfl, if_neg (fun h => h1 h.1)]
theorem move_eq {l : List Int} {a b n : Int} (hl : Sh l) (ha : U a) (hb : U b) (hn : U n) : mem_Move.f l a b n = some (if a + n ≤ (l.length : Int) ∧ b + n ≤ (l.length : Int) then (splice l b.toNat (bytesOf (strOfNums (seg l a n))), 0) else ([], 9)) := by
  unfold mem_Move.f
  rw [text_eq ha hn, Option.bind_some]
  by_cases h1 : a + n ≤ (l.length : Int)
  · have hsz : (strOfNums (seg l a n)).size = n.toNat := by rw [strOfNums_size, seg_length ha.1 hn.1 h1]
    have hn1 := hn.1
    have ha1 := ha.1
    rw [if_pos h1, if_pos rfl, put_eq hl hb (by rw [hsz]; unfold Sh at hl; omega), Option.bind_some, hsz, show ((n.toNat : Nat) : Int) = n by omega]
    by_cases h2 : b + n ≤ (l.length : Int)
    · rw [if_pos h2, if_pos ⟨h1, h2⟩]
    · rw [if_neg h2, if_neg (fun h => h2 h.2)]
  · rw [if_neg h1, if_neg (by decide), if_neg (fun h => h1 h.1)]
theorem bytesOf_strOfNums {l : List Int} (h : By l) : bytesOf (strOfNums l) = l := by
  unfold bytesOf
  rw [strOfNums_data, List.map_map]
  conv => rhs; rw [← List.map_id l]
  apply List.map_congr_left
  intro x hx
  have := h x hx
  simp
  omega
theorem seg_splice {l cs : List Int} {b : Int} (hb : 0 ≤ b) (h : b + (cs.length : Int) ≤ (l.length : Int)) : seg (splice l b.toNat cs) b (cs.length : Int) = cs := by
  rw [seg_take _ hb (by omega)]
  unfold splice
  rw [List.drop_append, List.length_take, List.drop_eq_nil_of_le (by rw [List.length_take]; omega), show b.toNat - min b.toNat l.length = 0 by omega, List.nil_append, List.drop_zero, show ((cs.length : Int)).toNat = cs.length by omega, List.take_left]
end Go.Proofs.Ytlpohjpiipkpiaa.V
