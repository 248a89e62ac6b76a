/- Plain closed forms of the memory's functions. -/
import Derived.Test.YtlpohjpiipkpiaaPx6
import Derived.Test.YtlpohjpiipkpiaaG
namespace Go.Proofs.Ytlpohjpiipkpiaa.V
open Go.RowKit Go.Proofs.Ytlpohjpiipkpiaa.P Go.Proofs.Ytlpohjpiipkpiaa.G Go.Proofs.YtlpohjpiipkpiaaW.PrintWords Go.Proofs.YtlpohjpiipkpiaaW.PrintLast Go.Proofs.YtlpohjpiipkpiaaW.PrintMore
set_option linter.unusedVariables false

theorem alive_eq {k : Nat} (hk : 30 ≤ k) : tinderlaw04_alive.f k = some true :=
  at_rounds (g := tinderlaw04_alive.f) tinderlaw04_alive.mono hk (by decide +kernel)
/-- A number of 32 bits. -/
def U (a : Int) : Prop := 0 ≤ a ∧ a ≤ 4294967295
theorem U.of {a : Int} (h : (Lit.int .u32 a).wf = true) : U a := bounds_u32 h
/-- No longer than what a slice that is read may be. -/
def Sh (l : List Int) : Prop := l.length ≤ 140737488351232
theorem copy_eq {l : List Int} (h : Sh l) : tinderref04_Copy.f l = some l := by
  unfold tinderref04_Copy.f
  unfold Sh at h
  rw [if_pos (by simp only [List.length_nil]; omega), List.nil_append]
theorem in_eq {l : List Int} {a n : Int} (h : Sh l) (ha : U a) (hn : U n) : tinderref04_In.f l a n = some (decide (a + n ≤ (l.length : Int))) := by
  unfold tinderref04_In.f
  unfold Sh at h
  unfold U at ha hn
  rw [w64 (n := a) (by omega) (by omega), w64 (n := n) (by omega) (by omega)]
  by_cases h1 : a ≤ (l.length : Int)
  · rw [if_pos h1, w64 (by omega) (by omega)]
    congr 1
    rw [decide_eq_decide]
    omega
  · rw [if_neg h1, decide_eq_false (by omega)]
/-- A stretch. -/
def seg (l : List Int) (a n : Int) : List Int := (l.take (a + n).toNat).drop a.toNat
theorem seg_length {l : List Int} {a n : Int} (ha : 0 ≤ a) (hn : 0 ≤ n) (h : a + n ≤ (l.length : Int)) : (seg l a n).length = n.toNat := by
  unfold seg
  rw [List.length_drop, List.length_take]
  omega
theorem seg_by {l : List Int} (h : By l) (a n : Int) : By (seg l a n) := (h.take _).drop _
theorem stretch_eq {l : List Int} {a n : Int} (ha : U a) (hn : U n) : mem_stretch.f l a (wrap64 n) = some (if a + n ≤ (l.length : Int) then (seg l a n, true) else ([], false)) := by
  unfold mem_stretch.f
  unfold U at ha hn
  rw [w64 (n := n) (by omega) (by omega), if_pos ⟨by omega, by omega, by omega, by omega⟩]
  split <;> rfl
theorem text_eq {l : List Int} {a n : Int} (ha : U a) (hn : U n) : mem_Text.f l a n = some (if a + n ≤ (l.length : Int) then (strOfNums (seg l a n), 0) else (⟨#[]⟩, 9)) := by
  unfold mem_Text.f
  rw [stretch_eq ha hn, Option.bind_some]
  by_cases h : a + n ≤ (l.length : Int)
  · rw [if_pos h, if_pos rfl, if_pos h]
  · rw [if_neg h, if_neg (by decide), if_neg h]
theorem rtext_eq {l : List Int} {a n : Int} (hl : Sh l) (ha : U a) (hn : U n) : tinderref04_Text.f l a n = some (if a + n ≤ (l.length : Int) then (strOfNums (seg l a n), 0) else (⟨#[]⟩, 9)) := by
  unfold tinderref04_Text.f
  rw [in_eq hl ha hn, Option.bind_some]
  unfold Sh at hl
  unfold U at ha hn
  by_cases h : a + n ≤ (l.length : Int)
  · rw [decide_eq_true h, if_pos rfl, if_pos h, w64 (n := a) (by omega) (by omega), w64 (n := n) (by omega) (by omega), w64 (n := a + n) (by omega) (by omega), if_pos ha.1, if_pos (show a ≤ a + n by omega), if_pos h]
    rfl
  · rw [decide_eq_false h, if_neg (by decide), if_neg h]
theorem put_eq {l : List Int} {a : Int} {s : ByteArray} (hl : Sh l) (ha : U a) (hs : s.size ≤ 140737488351232) : mem_Put.f l a s = some (if a + (s.size : Int) ≤ (l.length : Int) then (splice l a.toNat (bytesOf s), 0) else ([], 9)) := by
  unfold mem_Put.f
  unfold Sh at hl
  unfold U at ha
  rw [if_pos ⟨by omega, by omega, by omega⟩]
  by_cases h : a + (s.size : Int) ≤ (l.length : Int)
  · rw [if_pos h, if_pos (show l.length < 140737488355328 by omega), if_pos h]
  · rw [if_neg h, if_neg h]
theorem rput_eq {l : List Int} {a : Int} {s : ByteArray} (hl : Sh l) (ha : U a) (hs : s.size ≤ 140737488351232) : tinderref04_Put.f l a s = some (if a + (s.size : Int) ≤ (l.length : Int) then (splice l a.toNat (bytesOf s), 0) else ([], 9)) := by
  unfold tinderref04_Put.f
  have hl' := hl
  unfold Sh at hl
  unfold U at ha
  rw [w64 (n := a) (by omega) (by omega)]
  by_cases h1 : a ≤ (l.length : Int)
  · rw [if_neg (show ¬ a > (l.length : Int) by omega), w64 (n := (l.length : Int) - a) (by omega) (by omega)]
    by_cases h : a + (s.size : Int) ≤ (l.length : Int)
    · have ht : (l.take a.toNat).length = a.toNat := by rw [List.length_take]; omega
      have hd : (l.drop (a + (s.size : Int)).toNat).length = l.length - (a + (s.size : Int)).toNat := List.length_drop
      rw [if_neg (show ¬ (s.size : Int) > (l.length : Int) - a by omega), if_pos ha.1, if_pos h1, copy_eq (show Sh (l.take a.toNat) by unfold Sh; omega), Option.bind_some, if_pos (by omega), Option.bind_some, w64 (n := a + (s.size : Int)) (by omega) (by omega), if_pos (show 0 ≤ a + (s.size : Int) by omega), if_pos h, if_pos (by rw [List.length_append, bytesOf_length]; omega), if_pos h]
      unfold splice
      rw [bytesOf_length, List.append_assoc, show (a + (s.size : Int)).toNat = a.toNat + s.size by omega]
    · rw [if_pos (show (s.size : Int) > (l.length : Int) - a by omega), if_neg h]
  · rw [if_pos (show a > (l.length : Int) by omega), if_neg (by omega)]
end Go.Proofs.Ytlpohjpiipkpiaa.V
