/- A memory moved or filled is what the reference makes; too far is refused by both. No condition. -/
import Derived.Test.YtlpohjpiipkpiaaPx7
import Derived.Test.YtlpohjpiipkpiaaV3
namespace Go.Proofs.Ytlpohjpiipkpiaa.Pure
open Go.RowKit Go.Proofs.Ytlpohjpiipkpiaa.P Go.Proofs.Ytlpohjpiipkpiaa.G Go.Proofs.Ytlpohjpiipkpiaa.V Go.Proofs.YtlpohjpiipkpiaaW.PrintWords Go.Proofs.YtlpohjpiipkpiaaW.PrintLast Go.Proofs.YtlpohjpiipkpiaaW.PrintMore
set_option linter.unusedVariables false

theorem rmove_eq {l : List Int} {a b n : Int} (hl : Sh l) (ha : U a) (hb : U b) (hn : U n) : tinderref04_Move.f l a b n = some (if a + n ≤ (l.length : Int) ∧ b + n ≤ (l.length : Int) then (splice l b.toNat (bytesOf (strOfNums (seg l a n))), 0) else ([], 9)) := by
  unfold tinderref04_Move.f
  rw [rtext_eq hl ha hn, Option.bind_some]
  by_cases h1 : a + n ≤ (l.length : Int)
  · have hsz : (strOfNums (seg l a n)).size = n.toNat := by rw [strOfNums_size, seg_length ha.1 hn.1 h1]
    have hn1 := hn.1
    have ha1 := ha.1
    rw [if_pos h1, if_pos rfl, in_eq hl hb hn, Option.bind_some]
    by_cases h2 : b + n ≤ (l.length : Int)
    · rw [decide_eq_true h2, if_pos rfl, rput_eq hl hb (by rw [hsz]; unfold Sh at hl; omega), Option.bind_some, hsz, show ((n.toNat : Nat) : Int) = n by omega, if_pos h2, if_pos ⟨h1, h2⟩]
    · rw [decide_eq_false h2, if_neg (by decide), if_neg (fun h => h2 h.2)]
  · rw [if_neg h1, if_neg (by decide), if_neg (fun h => h1 h.1)]
theorem splice_set' {m cs : List Int} {a : Nat} {x : Int} (h : a + cs.length < m.length) : (splice m a cs).set (a + cs.length) x = splice m a (cs ++ [x]) := by
  unfold splice
  have ht : (m.take a).length = a := by rw [List.length_take]; omega
  rw [List.set_append_right _ _ (by omega), ht, show a + cs.length - a = cs.length by omega, List.set_append_right _ _ (by omega), Nat.sub_self, List.drop_eq_getElem_cons h, List.set_cons_zero]
  simp [List.append_assoc, Nat.add_assoc]
theorem splice_nil (m : List Int) (a : Nat) : splice m a [] = m := by
  unfold splice
  rw [List.nil_append, List.length_nil, Nat.add_zero, List.take_append_drop]
theorem rfill_loop {l : List Int} {a n v : Int} (ha : U a) (hn : U n) (hv : 0 ≤ v) (hl : Sh l) (h : a + n ≤ (l.length : Int)) (d : Nat) : ∀ (k i : Nat), (i : Int) ≤ n → n.toNat - i = d → d < k →
    tinderref04_Fill.l0 k a n v (splice l a.toNat (List.replicate i (v % 256))) (i : Int) = some (splice l a.toNat (List.replicate n.toNat (v % 256)), 0) := by
  unfold U at ha hn
  unfold Sh at hl
  induction d with
  | zero =>
    intro k i hi hd hk
    obtain ⟨k, rfl⟩ : ∃ m, k = m + 1 := ⟨k - 1, by omega⟩
    rw [tinderref04_Fill.l0, w64 (n := n) (by omega) (by omega), if_neg (by omega), show n.toNat = i by omega]
  | succ d ih =>
    intro k i hi hd hk
    obtain ⟨k, rfl⟩ : ∃ m, k = m + 1 := ⟨k - 1, by omega⟩
    have h2 := ih k (i + 1) (by omega) (by omega) (by omega)
    have hlen : (splice l a.toNat (List.replicate i (v % 256))).length = l.length := length_splice _ _ _ (by rw [List.length_replicate]; omega)
    have h3 := splice_set' (m := l) (cs := List.replicate i (v % 256)) (a := a.toNat) (x := v % 256) (by rw [List.length_replicate]; omega)
    rw [List.length_replicate, ← List.replicate_succ'] at h3
    rw [tinderref04_Fill.l0, w64 (n := n) (by omega) (by omega), if_pos (by omega), w64 (n := a) (by omega) (by omega), w64 (n := a + (i : Int)) (by omega) (by omega), if_pos (by omega), hlen, if_pos (by omega), w64 (n := (i : Int) + 1) (by omega) (by omega), Int.tmod_eq_emod_of_nonneg hv, show v % 256 % 256 = v % 256 by omega, show (a + (i : Int)).toNat = a.toNat + i by omega, h3]
    exact h2
theorem rfill_eq {l : List Int} {a n v : Int} (hl : Sh l) (ha : U a) (hn : U n) (hv : 0 ≤ v) {k : Nat} (hk : n.toNat < k) : tinderref04_Fill.f k l a n v = some (if a + n ≤ (l.length : Int) then (splice l a.toNat (List.replicate n.toNat (v % 256)), 0) else ([], 9)) := by
  unfold tinderref04_Fill.f
  rw [in_eq hl ha hn, Option.bind_some]
  by_cases h : a + n ≤ (l.length : Int)
  · have h2 := rfill_loop ha hn hv hl h n.toNat k 0 (by unfold U at hn; omega) (by omega) hk
    rw [List.replicate_zero, splice_nil] at h2
    rw [decide_eq_true h, if_pos rfl, copy_eq hl, Option.bind_some, if_pos h]
    exact h2
  · rw [decide_eq_false h, if_neg (by decide), if_neg h]
theorem replicate_by (n : Nat) {v : Int} (hv : 0 ≤ v) : By (List.replicate n (v % 256)) := by
  intro x hx
  have := (List.mem_replicate.mp hx).2
  omega
theorem fill_eq {l : List Int} {a n v : Int} (hl : Sh l) (ha : U a) (hn : U n) (hv : 0 ≤ v) : mem_Fill.f l a n v = some (if a + n ≤ (l.length : Int) then (splice l a.toNat (List.replicate n.toNat (v % 256)), 0) else ([], 9)) := by
  unfold mem_Fill.f
  rw [stretch_eq ha hn, Option.bind_some]
  have hn1 := hn.1
  have ha1 := ha.1
  by_cases h : a + n ≤ (l.length : Int)
  · have hsz : (strOfNums (List.replicate n.toNat (v % 256))).size = n.toNat := by rw [strOfNums_size, List.length_replicate]
    rw [if_pos h, if_pos rfl, if_pos (show 0 ≤ n ∧ n ≤ 4294967295 from hn), put_eq hl ha (by rw [hsz]; unfold Sh at hl; omega), hsz, if_pos (show a + ((n.toNat : Nat) : Int) ≤ (l.length : Int) by omega), bytesOf_strOfNums (replicate_by _ hv), if_pos h]
  · rw [if_neg h, if_neg (by decide), if_neg h]

theorem MemMoves : tinderlaw04_MemMoves.Pure := by
  intro l a b n v hm hl hw ha hb hn hv
  have hl' : Sh l := by unfold Sh; omega
  have ha' := U.of ha
  have hb' := U.of hb
  have hn' := U.of hn
  have hv' := (U.of hv).1
  refine ⟨n.toNat + 40, ?_⟩
  unfold tinderlaw04_MemMoves.f tinderref04_Same.f
  rw [alive_eq (by omega), Option.bind_some, if_pos rfl, copy_eq hl', Option.bind_some, move_eq hl' ha' hb' hn', Option.bind_some, rmove_eq hl' ha' hb' hn', Option.bind_some, fill_eq hl' ha' hn' hv', Option.bind_some, rfill_eq hl' ha' hn' hv' (by omega), Option.bind_some]
  rw [Option.bind_some, beq_self_eq_true, if_pos rfl, if_pos rfl, Option.bind_some, beq_self_eq_true, if_pos rfl, if_pos rfl, Option.bind_some, beq_self_eq_true]

end Go.Proofs.Ytlpohjpiipkpiaa.Pure
