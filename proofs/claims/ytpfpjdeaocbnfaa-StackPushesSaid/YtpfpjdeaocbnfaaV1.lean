/- Plain closed forms of the stack's functions. -/
import Derived.Test.YtpfpjdeaocbnfaaPx7
import Derived.Test.YtpfpjdeaocbnfaaG
namespace Go.Proofs.Ytpfpjdeaocbnfaa.V
open Go.RowKit Go.Proofs.Ytpfpjdeaocbnfaa.P Go.Proofs.Ytpfpjdeaocbnfaa.G Go.Proofs.YtpfpjdeaocbnfaaW.PrintWords Go.Proofs.YtpfpjdeaocbnfaaW.PrintLast Go.Proofs.YtpfpjdeaocbnfaaW.PrintMore
set_option linter.unusedVariables false

theorem alive_eq {k : Nat} (hk : 30 ≤ k) : tinderlaw03_alive.f k = some true :=
  at_rounds (g := tinderlaw03_alive.f) tinderlaw03_alive.mono hk (by decide +kernel)
def Sh (l : List Int) : Prop := l.length ≤ 35184372088830
def Cells (l : List Int) : Prop := ∀ x ∈ l, 0 ≤ x ∧ x ≤ 4294967295
theorem Cells.of {l : List Int} (h : ∀ x ∈ l, (Lit.int .u32 x).wf = true) : Cells l := fun x hx => bounds_u32 (h x hx)
theorem Cells.append {l m : List Int} (h : Cells l) (k : Cells m) : Cells (l ++ m) := fun x hx => by
  rcases List.mem_append.1 hx with hx | hx
  · exact h x hx
  · exact k x hx
theorem same_loop {a b : List Int} (ha : Sh a) (hab : a.length = b.length) (d : Nat) : ∀ (k i : Nat), i ≤ a.length → a.length - i = d → d < k → tinderref03_Same.l0 k a b (i : Int) = some (decide (a.drop i = b.drop i)) := by
  unfold Sh at ha
  induction d with
  | zero =>
    intro k i hi hd hk
    obtain ⟨k, rfl⟩ : ∃ m, k = m + 1 := ⟨k - 1, by omega⟩
    rw [tinderref03_Same.l0, if_neg (by omega), List.drop_eq_nil_of_le (by omega), List.drop_eq_nil_of_le (by omega)]
    rfl
  | succ d ih =>
    intro k i hi hd hk
    obtain ⟨k, rfl⟩ : ∃ m, k = m + 1 := ⟨k - 1, by omega⟩
    have h2 := ih k (i + 1) (by omega) (by omega) (by omega)
    have e : wrap64 ((i : Int) + 1) = ((i + 1 : Nat) : Int) := by rw [w64 (by omega) (by omega)]; omega
    rw [tinderref03_Same.l0, if_pos (by omega), if_pos (by omega), if_pos (by omega), e, rd_at a i (by omega), rd_at b i (by omega), List.drop_eq_getElem_cons (by omega : i < a.length), List.drop_eq_getElem_cons (by omega : i < b.length), h2]
    by_cases hx : a[i] = b[i]
    · rw [if_pos hx]
      congr 1
      rw [decide_eq_decide, List.cons.injEq]
      exact ⟨fun h => ⟨hx, h⟩, fun h => h.2⟩
    · rw [if_neg hx, decide_eq_false (fun h => hx (List.cons.inj h).1)]
theorem same_eq {a b : List Int} (ha : Sh a) {k : Nat} (hk : a.length < k) : tinderref03_Same.f k a b = some (decide (a = b)) := by
  unfold tinderref03_Same.f
  by_cases h : a.length = b.length
  · rw [if_pos (by omega)]
    have := same_loop ha h a.length k 0 (by omega) (by omega) hk
    rw [List.drop_zero, List.drop_zero] at this
    exact this
  · rw [if_neg (by omega), decide_eq_false (fun e => h (by rw [e]))]
theorem same_refl {a : List Int} (ha : Sh a) {k : Nat} (hk : a.length < k) : tinderref03_Same.f k a a = some true := by
  rw [same_eq ha hk, decide_eq_true rfl]
theorem copy_eq {l : List Int} (h : Sh l) : tinderref03_Copy.f l = some l := by
  unfold tinderref03_Copy.f
  unfold Sh at h
  rw [if_pos (by simp only [List.length_nil]; omega), List.nil_append]
theorem clone_eq {l : List Int} (h : Sh l) : slices_Clone_uint32_uint32.f l = some l := by
  unfold slices_Clone_uint32_uint32.f
  unfold Sh at h
  rw [if_pos (by omega)]
theorem Sh.take {l : List Int} (h : Sh l) (n : Nat) : Sh (l.take n) := by
  unfold Sh at h ⊢
  rw [List.length_take]
  omega
theorem Sh.drop {l : List Int} (h : Sh l) (n : Nat) : Sh (l.drop n) := by
  unfold Sh at h ⊢
  rw [List.length_drop]
  omega
/-- Popped. -/
def popx (l : List Int) (n : Int) : List Int × List Int × Int :=
  if n < 0 then ([], [], 1) else if n > (l.length : Int) then ([], [], 5) else (l.take (l.length - n.toNat), l.drop (l.length - n.toNat), 0)
theorem pop_eq {l : List Int} {n : Int} (h : Sh l) (hn : n ≤ 9223372036854775807) : stack_Pop.f l n = some (popx l n) := by
  unfold stack_Pop.f popx
  by_cases h0 : n < 0
  · rw [if_pos h0, if_pos h0]
  · by_cases h1 : n > (l.length : Int)
    · rw [if_neg h0, if_pos h1, if_neg h0, if_pos h1]
    · have hs := h
      unfold Sh at hs
      have e : wrap64 ((l.length : Int) - n) = (l.length : Int) - n := w64 (by omega) (by omega)
      have e2 : ((l.length : Int) - n).toNat = l.length - n.toNat := by omega
      rw [if_neg h0, if_neg h1, if_neg h0, if_neg h1, e, if_pos (by omega), if_pos (by omega), e2, clone_eq (h.take _), Option.bind_some, clone_eq (h.drop _), Option.bind_some]
theorem rpop_eq {l : List Int} {n : Int} (h : Sh l) (hn : n ≤ 9223372036854775807) : tinderref03_Pop.f l n = some (popx l n) := by
  unfold tinderref03_Pop.f popx
  by_cases h0 : n < 0
  · rw [if_pos h0, if_pos h0]
  · by_cases h1 : n > (l.length : Int)
    · rw [if_neg h0, if_pos h1, if_neg h0, if_pos h1]
    · have hs := h
      unfold Sh at hs
      have e : wrap64 ((l.length : Int) - n) = (l.length : Int) - n := w64 (by omega) (by omega)
      have e2 : ((l.length : Int) - n).toNat = l.length - n.toNat := by omega
      rw [if_neg h0, if_neg h1, if_neg h0, if_neg h1, e, if_pos (by omega), if_pos (by omega), e2, copy_eq (h.take _), Option.bind_some, copy_eq (h.drop _), Option.bind_some]
/-- What is left of a stack: too high or not. -/
def chk (r : List Int) : List Int × Int := if r.length > 64 then ([], 6) else (r, 0)
theorem full_eq (r : List Int) : stack_full.f r = some (chk r) := by
  unfold stack_full.f chk
  by_cases h : r.length > 64
  · rw [if_pos (by omega), if_pos h]
  · rw [if_neg (by omega), if_neg h]
theorem push_eq {l m : List Int} (h : l.length + m.length < 35184372088832) : stack_Push.f l m = some (chk (l ++ m)) := by
  unfold stack_Push.f chk
  rw [if_pos h]
  by_cases h : (l ++ m).length > 64
  · rw [if_pos (by omega), if_pos h]
  · rw [if_neg (by omega), if_neg h]
theorem rpush_eq {l m : List Int} (hl : Sh l) (hm : Sh m) : tinderref03_Push.f l m = some (chk (l ++ m)) := by
  unfold tinderref03_Push.f chk
  have hs := hl
  have hs' := hm
  unfold Sh at hs hs'
  have e : wrap64 (64 - (l.length : Int)) = 64 - (l.length : Int) := w64 (by omega) (by omega)
  have el : (l ++ m).length = l.length + m.length := List.length_append
  rw [e]
  by_cases h : l.length > 64
  · rw [if_pos (by omega), if_pos (by omega)]
  · rw [if_neg (by omega)]
    by_cases h2 : (l ++ m).length > 64
    · rw [if_pos (by omega), if_pos (by omega)]
    · rw [if_neg (by omega), if_neg (by omega), copy_eq hl, Option.bind_some, if_pos (by omega)]
/-- The words that turn: how many cells, which are left, and these as letters. -/
def tab (op : Int) : Option (Nat × List Int × ByteArray) :=
  if op = 70 then some (1, [], ⟨#[32]⟩) else if op = 71 then some (1, [0, 0], ⟨#[97, 97]⟩) else if op = 72 then some (2, [0, 1, 0], ⟨#[97, 98, 97]⟩) else
  if op = 73 then some (2, [1, 0], ⟨#[98, 97]⟩) else if op = 74 then some (3, [1, 2, 0], ⟨#[98, 99, 97]⟩) else if op = 75 then some (3, [2, 0, 1], ⟨#[99, 97, 98]⟩) else
  if op = 76 then some (2, [1, 0, 1], ⟨#[98, 97, 98]⟩) else if op = 77 then some (2, [1], ⟨#[98]⟩) else if op = 82 then some (2, [], ⟨#[32]⟩) else
  if op = 83 then some (2, [0, 1, 0, 1], ⟨#[97, 98, 97, 98]⟩) else if op = 84 then some (4, [0, 1, 2, 3, 0, 1], ⟨#[97, 98, 99, 100, 97, 98]⟩) else
  if op = 85 then some (4, [2, 3, 0, 1], ⟨#[99, 100, 97, 98]⟩) else if op = 86 then some (6, [2, 3, 4, 5, 0, 1], ⟨#[99, 100, 101, 102, 97, 98]⟩) else none
theorem ops_of (op : Int) : op = 70 ∨ op = 71 ∨ op = 72 ∨ op = 73 ∨ op = 74 ∨ op = 75 ∨ op = 76 ∨ op = 77 ∨ op = 82 ∨ op = 83 ∨ op = 84 ∨ op = 85 ∨ op = 86 ∨ (¬ op = 70 ∧ ¬ op = 71 ∧ ¬ op = 72 ∧ ¬ op = 73 ∧ ¬ op = 74 ∧ ¬ op = 75 ∧ ¬ op = 76 ∧ ¬ op = 77 ∧ ¬ op = 82 ∧ ¬ op = 83 ∧ ¬ op = 84 ∧ ¬ op = 85 ∧ ¬ op = 86) := by omega
theorem tab_none {op : Int} (h : ¬ op = 70 ∧ ¬ op = 71 ∧ ¬ op = 72 ∧ ¬ op = 73 ∧ ¬ op = 74 ∧ ¬ op = 75 ∧ ¬ op = 76 ∧ ¬ op = 77 ∧ ¬ op = 82 ∧ ¬ op = 83 ∧ ¬ op = 84 ∧ ¬ op = 85 ∧ ¬ op = 86) : tab op = none := by
  obtain ⟨h70, h71, h72, h73, h74, h75, h76, h77, h82, h83, h84, h85, h86⟩ := h
  unfold tab
  rw [if_neg h70, if_neg h71, if_neg h72, if_neg h73, if_neg h74, if_neg h75, if_neg h76, if_neg h77, if_neg h82, if_neg h83, if_neg h84, if_neg h85, if_neg h86]
theorem turns_eq (op : Int) : stack_turns.f op = some (match tab op with | some (t, ix, _) => ((t : Int), ix, true) | none => (0, [], false)) := by
  rcases ops_of op with rfl | rfl | rfl | rfl | rfl | rfl | rfl | rfl | rfl | rfl | rfl | rfl | rfl | ⟨h70, h71, h72, h73, h74, h75, h76, h77, h82, h83, h84, h85, h86⟩
  all_goals first | rfl | skip
  rw [tab_none ⟨h70, h71, h72, h73, h74, h75, h76, h77, h82, h83, h84, h85, h86⟩]
  unfold stack_turns.f
  rw [if_neg h70, if_neg h71, if_neg h72, if_neg h73, if_neg h74, if_neg h75, if_neg h76, if_neg h77, if_neg h82, if_neg h83, if_neg h84, if_neg h85, if_neg h86]
theorem effect_eq (op : Int) : tinderref03_effect.f op = some (match tab op with | some (t, _, s) => ((t : Int), s) | none => (0, ByteArray.empty)) := by
  rcases ops_of op with rfl | rfl | rfl | rfl | rfl | rfl | rfl | rfl | rfl | rfl | rfl | rfl | rfl | ⟨h70, h71, h72, h73, h74, h75, h76, h77, h82, h83, h84, h85, h86⟩
  all_goals first | rfl | skip
  rw [tab_none ⟨h70, h71, h72, h73, h74, h75, h76, h77, h82, h83, h84, h85, h86⟩]
  unfold tinderref03_effect.f
  rw [if_neg h70, if_neg h71, if_neg h72, if_neg h73, if_neg h74, if_neg h75, if_neg h76, if_neg h77, if_neg h82, if_neg h83, if_neg h84, if_neg h85, if_neg h86]
  rfl
/-- The letters without the blank, as places. -/
def places (s : ByteArray) : List Int := (s.data.toList.filter (· != 32)).map fun c => ((c.toNat : Int) - 97) % 256
def okRow (t : Nat) (ix : List Int) (s : ByteArray) : Bool := ix.all (fun i => decide (0 ≤ i ∧ i < t)) && decide (t ≤ 6) && decide (ix.length ≤ 6) && !s.data.toList.isEmpty && decide (s.data.toList.length ≤ 6) && decide (places s = ix)
theorem tab_ok {op : Int} {t : Nat} {ix : List Int} {s : ByteArray} (h : tab op = some (t, ix, s)) : okRow t ix s = true := by
  have key : (match tab op with | some (t, ix, s) => okRow t ix s | none => true) = true := by
    rcases ops_of op with rfl | rfl | rfl | rfl | rfl | rfl | rfl | rfl | rfl | rfl | rfl | rfl | rfl | ⟨h70, h71, h72, h73, h74, h75, h76, h77, h82, h83, h84, h85, h86⟩
    all_goals first | decide +kernel | skip
    rw [tab_none ⟨h70, h71, h72, h73, h74, h75, h76, h77, h82, h83, h84, h85, h86⟩]
  rw [h] at key
  exact key
end Go.Proofs.Ytpfpjdeaocbnfaa.V
