/- What was stored in a memory is fetched, and no other place is changed. No condition. -/
import Derived.Test.YtlpohjpiipkpiaaV4
namespace Go.Proofs.Ytlpohjpiipkpiaa.Pure
open Go.RowKit Go.Proofs.Ytlpohjpiipkpiaa.P Go.Proofs.Ytlpohjpiipkpiaa.G Go.Proofs.Ytlpohjpiipkpiaa.V Go.Proofs.YtlpohjpiipkpiaaW.PrintWords Go.Proofs.YtlpohjpiipkpiaaW.PrintLast Go.Proofs.YtlpohjpiipkpiaaW.PrintMore

theorem rd_splice {l cs : List Int} {a i : Nat} (h : a + cs.length ≤ l.length) (hi : i < a ∨ a + cs.length ≤ i) : rd (splice l a cs) (i : Int) = rd l (i : Int) := by
  unfold rd splice
  rw [List.getD_eq_getElem?_getD, List.getD_eq_getElem?_getD, show ((i : Int)).toNat = i by omega]
  congr 1
  have ht : (l.take a).length = a := by rw [List.length_take]; omega
  rcases hi with hi | hi
  · rw [List.getElem?_append_left (by omega), List.getElem?_take, if_pos hi]
  · rw [List.getElem?_append_right (by omega), List.getElem?_append_right (by omega), List.getElem?_drop, ht]
    congr 1
    omega
theorem keeps_loop {l m : List Int} {a s : Int} (hl : Sh l) (ha : U a) (hs : U s) (hm : m.length = l.length) (hk : ∀ i : Nat, i < l.length → rd m (i : Int) ≠ rd l (i : Int) → a ≤ (i : Int) ∧ (i : Int) < a + s) (d : Nat) : ∀ (k i : Nat), i ≤ l.length → l.length - i = d → d < k → tinderlaw04_MemKeeps.l0 k l m (i : Int) a s = some true := by
  unfold U at ha hs
  unfold Sh at hl
  induction d with
  | zero =>
    intro k i hi hd hk2
    obtain ⟨k, rfl⟩ : ∃ m, k = m + 1 := ⟨k - 1, by omega⟩
    rw [tinderlaw04_MemKeeps.l0, if_neg (by omega)]
  | succ d ih =>
    intro k i hi hd hk2
    obtain ⟨k, rfl⟩ : ∃ m, k = m + 1 := ⟨k - 1, by omega⟩
    have h2 := ih k (i + 1) (by omega) (by omega) (by omega)
    have e : wrap64 ((i : Int) + 1) = ((i + 1 : Nat) : Int) := by rw [w64 (by omega) (by omega)]; omega
    rw [tinderlaw04_MemKeeps.l0, if_pos (by omega), if_pos (by omega), if_pos (by omega), e]
    by_cases hx : rd m (i : Int) = rd l (i : Int)
    · rw [if_pos hx]
      exact h2
    · have h3 := hk i (by omega) hx
      rw [if_neg hx, w64 (n := a) (by omega) (by omega), w64 (n := s) (by omega) (by omega), if_neg (by omega), w64 (n := (i : Int) - a) (by omega) (by omega), if_neg (by omega)]
      exact h2
theorem seg_splice {l cs : List Int} {b : Int} (hb : 0 ≤ b) (h : b + (cs.length : Int) ≤ (l.length : Int)) : seg (splice l b.toNat cs) b (cs.length : Int) = cs := by
  rw [seg_take _ hb (by omega)]
  unfold splice
  rw [List.drop_append, List.length_take, List.drop_eq_nil_of_le (by rw [List.length_take]; omega), show b.toNat - min b.toNat l.length = 0 by omega, List.nil_append, List.drop_zero, show ((cs.length : Int)).toNat = cs.length by omega, List.take_left]
theorem MemKeeps : tinderlaw04_MemKeeps.Pure := by
  intro l a s v hm hl hw ha hs hv
  have hl' : Sh l := by unfold Sh; omega
  have hB := By.of hw
  have ha' := U.of ha
  have hs' := U.of hs
  have hv' := U.of hv
  refine ⟨l.length + 40, ?_⟩
  unfold tinderlaw04_MemKeeps.f
  rw [alive_eq (by omega), Option.bind_some, if_pos rfl, store_eq hl' ha' hs' hv' (by omega), Option.bind_some]
  by_cases h : wr l a s = 0
  · obtain ⟨h1, h2⟩ := wr_ok h
    have hbl := be_length v s.toNat
    have ha1 := ha'.1
    have hs1 := hs'.1
    have hv1 := hv'.1
    have hv2 := hv'.2
    have hlen : (splice l a.toNat (be v s.toNat)).length = l.length := length_splice _ _ _ (by omega)
    have es : sto l a s v = (splice l a.toNat (be v s.toNat), 0) := by unfold sto; rw [if_pos h, h]
    have hw2 : wr (splice l a.toNat (be v s.toNat)) a s = 0 := by
      unfold wr at h ⊢
      rw [hlen]
      exact h
    have hB2 : By (splice l a.toNat (be v s.toNat)) := (hB.take _).append ((be_by v _).append (hB.drop _))
    have hsg : seg (splice l a.toNat (be v s.toNat)) a s = be v s.toNat := by
      have := seg_splice (l := l) (cs := be v s.toNat) ha1 (by omega)
      rwa [hbl, show ((s.toNat : Nat) : Int) = s by omega] at this
    have hkeep := keeps_loop hl' ha' hs' hlen (fun i hi hne => by
      refine Classical.byContradiction fun hc => hne (rd_splice (by omega) ?_)
      omega) l.length (l.length + 37) 0 (by omega) (by omega) (by omega)
    rw [es, if_pos rfl, fetch_eq hB2 ha' hs' (by omega), Option.bind_some]
    unfold ftc
    rw [if_pos hw2, hw2, hsg]
    show (if s < 4 then _ else tinderlaw04_MemKeeps.j0 _ l (splice l a.toNat (be v s.toNat)) (val 0 (be v s.toNat)) 0 v a s) = _
    have fin : ∀ x : Int, val 0 (be v s.toNat) = x → tinderlaw04_MemKeeps.j0 (l.length + 40) l (splice l a.toNat (be v s.toNat)) (val 0 (be v s.toNat)) 0 x a s = some true := by
      intro x hx
      have e1 : ((((splice l a.toNat (be v s.toNat)).length : Int)) != (l.length : Int)) = false := by rw [hlen]; simp
      rw [tinderlaw04_MemKeeps.j0, if_pos hx, if_pos rfl, e1, tinderlaw04_MemKeeps.j1, if_neg (by decide)]
      exact at_rounds (g := fun k => tinderlaw04_MemKeeps.l0 k l (splice l a.toNat (be v s.toNat)) 0 a s) (fun k => (tinderlaw04_MemKeeps.mono_l k).2.2 _ _ _ _ _) (by omega) hkeep
    rcases h1 with rfl | rfl | rfl
    · have e2 : shl .u32 1 ((8 * 1) % 4294967296) = 256 := by decide +kernel
      rw [if_pos (by decide), e2, if_neg (by decide)]
      refine fin _ ?_
      show (0 * 256 + v % 256) % 4294967296 = Int.tmod v 256
      rw [Int.tmod_eq_emod_of_nonneg hv1]
      omega
    · have e2 : shl .u32 1 ((8 * 2) % 4294967296) = 65536 := by decide +kernel
      rw [if_pos (by decide), e2, if_neg (by decide)]
      refine fin _ ?_
      show ((0 * 256 + v / 256 % 256) % 4294967296 * 256 + v % 256) % 4294967296 = Int.tmod v 65536
      rw [Int.tmod_eq_emod_of_nonneg hv1]
      omega
    · rw [if_neg (by decide)]
      refine fin _ ?_
      show val 0 (be v 4) = v
      rw [be4]
      show ((((0 * 256 + v / 16777216 % 256) % 4294967296 * 256 + v / 65536 % 256) % 4294967296 * 256 + v / 256 % 256) % 4294967296 * 256 + v % 256) % 4294967296 = v
      omega
  · have es : sto l a s v = ([], wr l a s) := by unfold sto; rw [if_neg h]
    rw [es, if_neg h]
    rfl

end Go.Proofs.Ytlpohjpiipkpiaa.Pure
