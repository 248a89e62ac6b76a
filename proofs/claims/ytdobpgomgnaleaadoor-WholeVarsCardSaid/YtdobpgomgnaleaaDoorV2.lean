/- WholeVars, plain: the functions with fuel come to an end: find, Parse, form, Right. No condition. -/
import Derived.Test.YtdobpgomgnaleaaDoorV1
namespace Go.Proofs.YtdobpgomgnaleaaDoor.V
open Go.RowKit Go.Proofs.YtdobpgomgnaleaaDoor.P Go.Proofs.YtdobpgomgnaleaaDoor.G Go.Proofs.YtdobpgomgnaleaaDoorW.PrintWords
set_option linter.unusedVariables false
set_option linter.unusedSimpArgs false
def Ev {α : Type} (f : Nat → Option α) (r : α) : Prop := ∃ K, ∀ k, K ≤ k → f k = some r
theorem Ev.const {α : Type} {a : Option α} {r : α} (h : a = some r) : Ev (fun _ => a) r := ⟨0, fun _ _ => h⟩
theorem Ev.bind {α β : Type} {f : Nat → Option α} {r : α} {g : Nat → α → Option β} {s : β} (h : Ev f r) (k : Ev (fun n => g n r) s) : Ev (fun n => (f n).bind (g n)) s := by
  obtain ⟨K, h⟩ := h
  obtain ⟨L, k⟩ := k
  refine ⟨max K L, fun n hn => ?_⟩
  show (f n).bind (g n) = some s
  rw [h n (by omega)]
  exact k n (by omega)
theorem Ev.succ {α : Type} {f g : Nat → Option α} {r : α} (e : ∀ k, f (k + 1) = g k) (h : Ev g r) : Ev f r := by
  obtain ⟨K, h⟩ := h
  refine ⟨K + 1, fun k hk => ?_⟩
  obtain ⟨j, rfl⟩ : ∃ j, k = j + 1 := ⟨k - 1, by omega⟩
  rw [e]
  exact h j (by omega)
theorem Ev.congr {α : Type} {f g : Nat → Option α} {r : α} (e : ∀ k, f k = g k) (h : Ev g r) : Ev f r := by
  rw [show f = g from funext e]
  exact h
theorem Ev.uniq {α : Type} {f : Nat → Option α} {r s : α} (h : Ev f r) (k : Ev f s) : r = s := by
  obtain ⟨K, h⟩ := h
  obtain ⟨L, k⟩ := k
  have h1 := h (max K L) (by omega)
  rw [k (max K L) (by omega)] at h1
  exact (Option.some.inj h1).symm
theorem wrap1 {n : Int} (h0 : -9223372036854775808 ≤ n) (h : n < 9223372036854775807) : wrap64 (n + 1) = n + 1 := w64 (by omega) (by omega)
/-! find -/
def findL (a : ByteArray) : List S50 → Nat → ByteArray × Int × ByteArray × Int × Bool
  | [], _ => (⟨#[]⟩, 0, ⟨#[]⟩, -1, false)
  | x :: t, i => if x.f0.toList = a.toList then (x.f0, x.f1, x.f2, (i : Int), true) else findL a t (i + 1)
theorem drop50 (l : List S50) (j : Nat) (h : j < l.length) : l.drop j = rd_T50 l (j : Int) :: l.drop (j + 1) := by
  show l.drop j = l.getD ((j : Int).toNat) z50 :: l.drop (j + 1)
  rw [Int.toNat_natCast, List.getD_eq_getElem?_getD, List.getElem?_eq_getElem h]
  exact List.drop_eq_getElem_cons h
theorem find_ev (a : ByteArray) (xs : List S50) (hx : xs.length ≤ 1000) : ∀ (m j : Nat), j + m = xs.length → Ev (fun k => vars_find.l0 k a xs (xs.length : Int) (j : Int)) (findL a (xs.drop j) j)
  | 0, j, h => by
    refine Ev.succ (g := fun _ => some ((⟨#[]⟩ : ByteArray), 0, (⟨#[]⟩ : ByteArray), (-1), false)) (fun k => ?_) (Ev.const (by rw [List.drop_eq_nil_of_le (by omega)]; rfl))
    show (if (j : Int) < (xs.length : Int) then _ else _) = _
    rw [if_neg (by omega)]
  | m + 1, j, h => by
    have hj : j < xs.length := by omega
    rw [drop50 xs j hj]
    unfold findL
    by_cases hp : (rd_T50 xs (j : Int)).f0.toList = a.toList
    · rw [if_pos hp]
      refine Ev.succ (g := fun _ => some ((rd_T50 xs (j : Int)).f0, (rd_T50 xs (j : Int)).f1, (rd_T50 xs (j : Int)).f2, (j : Int), true)) (fun k => ?_) (Ev.const rfl)
      show (if (j : Int) < (xs.length : Int) then _ else _) = _
      rw [if_pos (by omega), if_pos (by omega), if_pos (by omega), if_pos hp]
    · rw [if_neg hp]
      refine Ev.succ (g := fun k => vars_find.l0 k a xs (xs.length : Int) ((j + 1 : Nat) : Int)) (fun k => ?_) (find_ev a xs hx m (j + 1) (by omega))
      show (if (j : Int) < (xs.length : Int) then _ else _) = _
      rw [if_pos (by omega), if_pos (by omega), if_pos (by omega), if_neg hp, wrap1 (by omega) (by omega)]
      rfl
def tab : List S50 := (vars_all.f).getD []
theorem tab_eq : vars_all.f = some tab := rfl
theorem tab_len : tab.length = 9 := rfl
def findR (a : ByteArray) : ByteArray × Int × ByteArray × Int × Bool := findL a tab 0
theorem find_tot (a : ByteArray) : Ev (fun k => vars_find.f k a) (findR a) := by
  refine Ev.congr (g := fun k => vars_find.l0 k a tab (tab.length : Int) 0) (fun k => ?_) ?_
  · show (vars_all.f).bind _ = _
    rw [tab_eq]
    rfl
  · exact find_ev a tab (by rw [tab_len]; omega) 9 0 rfl
theorem findL_ok (a : ByteArray) : ∀ (xs : List S50) (i : Nat), (findL a xs i).2.2.2.2 = true → ∃ j, (findL a xs i).2.2.2.1 = ((i + j : Nat) : Int) ∧ j < xs.length ∧ ∃ x ∈ xs, x.f0.toList = a.toList ∧ (findL a xs i).2.1 = x.f1
  | [], i, h => by cases h
  | x :: t, i, h => by
    unfold findL at h ⊢
    by_cases hp : x.f0.toList = a.toList
    · rw [if_pos hp]
      exact ⟨0, rfl, by simp, x, List.mem_cons_self, hp, rfl⟩
    · rw [if_neg hp] at h ⊢
      obtain ⟨j, h1, h2, y, hy, h3, h4⟩ := findL_ok a t (i + 1) h
      exact ⟨j + 1, by rw [h1, show i + 1 + j = i + (j + 1) by omega], by simpa using h2, y, List.mem_cons_of_mem _ hy, h3, h4⟩
def okName (l : List UInt8) : Prop := (∀ b ∈ l, b ≠ 0 ∧ b ≠ 61) ∧ l.length ≤ 20
theorem tab_names : ∀ x ∈ tab, okName x.f0.toList := by
  have h : tab.all (fun x => x.f0.toList.all (fun b => b != 0 && b != 61) && decide (x.f0.toList.length ≤ 20)) = true := by decide +kernel
  intro x hx
  have h1 := List.all_eq_true.mp h x hx
  rw [Bool.and_eq_true] at h1
  refine ⟨fun b hb => ?_, of_decide_eq_true h1.2⟩
  have h2 := List.all_eq_true.mp h1.1 b hb
  rw [Bool.and_eq_true, bne_iff_ne, bne_iff_ne] at h2
  exact h2
theorem find_ok (a : ByteArray) (h : (findR a).2.2.2.2 = true) : 0 ≤ (findR a).2.2.2.1 ∧ (findR a).2.2.2.1 ≤ 8 ∧ okName a.toList := by
  obtain ⟨j, h1, h2, x, hx, h3, _⟩ := findL_ok a tab 0 h
  rw [tab_len] at h2
  refine ⟨by rw [show (findR a).2.2.2.1 = _ from h1]; omega, by rw [show (findR a).2.2.2.1 = _ from h1]; omega, ?_⟩
  rw [← h3]
  exact tab_names x hx
/-! Parse -/
theorem value_tot (c : Int) : ∃ r : Int × Bool, Ev (fun k => digit_Value.f k c 10) r := by
  have hf : digit_fit.f 10 = some true := rfl
  have h2 : ∀ b : Bool, ∃ r : Int × Bool, Ev (fun k => digit_Value.j2 k c 10 255 b) r := fun b => by
    cases b with
    | true =>
      refine ⟨if ((c - 65) % 256) + 10 ≥ 10 then (0, false) else (((c - 65) % 256) + 10, true), Ev.succ (g := fun _ => some (if ((c - 65) % 256) + 10 ≥ 10 then (0, false) else (((c - 65) % 256) + 10, true))) (fun k => ?_) (Ev.const rfl)⟩
      simp only [digit_Value.j2, if_true, hf, Option.bind_some]
      split <;> rfl
    | false =>
      refine ⟨(0, false), Ev.succ (g := fun _ => some (0, false)) (fun k => ?_) (Ev.const rfl)⟩
      simp [digit_Value.j2, hf]
  have h1 : ∀ b : Bool, ∃ r : Int × Bool, Ev (fun k => digit_Value.j1 k c 10 255 b) r := fun b => by
    cases b with
    | true =>
      refine ⟨if ((c - 97) % 256) + 10 ≥ 10 then (0, false) else (((c - 97) % 256) + 10, true), Ev.succ (g := fun _ => some (if ((c - 97) % 256) + 10 ≥ 10 then (0, false) else (((c - 97) % 256) + 10, true))) (fun k => ?_) (Ev.const rfl)⟩
      simp only [digit_Value.j1, if_true, hf, Option.bind_some]
      split <;> rfl
    | false =>
      by_cases hc : c ≥ 65
      · obtain ⟨r, hr⟩ := h2 (decide (c ≤ 90))
        refine ⟨r, Ev.succ (fun k => ?_) hr⟩
        simp only [digit_Value.j1, Bool.false_eq_true, if_false]
        rw [if_pos hc]
      · obtain ⟨r, hr⟩ := h2 false
        refine ⟨r, Ev.succ (fun k => ?_) hr⟩
        simp only [digit_Value.j1, Bool.false_eq_true, if_false]
        rw [if_neg hc]
  have h0 : ∀ b : Bool, ∃ r : Int × Bool, Ev (fun k => digit_Value.j0 k c 10 255 b) r := fun b => by
    cases b with
    | true =>
      refine ⟨if ((c - 48) % 256) ≥ 10 then (0, false) else (((c - 48) % 256), true), Ev.succ (g := fun _ => some (if ((c - 48) % 256) ≥ 10 then (0, false) else (((c - 48) % 256), true))) (fun k => ?_) (Ev.const rfl)⟩
      simp only [digit_Value.j0, if_true, hf, Option.bind_some]
      split <;> rfl
    | false =>
      by_cases hc : c ≥ 97
      · obtain ⟨r, hr⟩ := h1 (decide (c ≤ 122))
        refine ⟨r, Ev.succ (fun k => ?_) hr⟩
        simp only [digit_Value.j0, Bool.false_eq_true, if_false]
        rw [if_pos hc]
      · obtain ⟨r, hr⟩ := h1 false
        refine ⟨r, Ev.succ (fun k => ?_) hr⟩
        simp only [digit_Value.j0, Bool.false_eq_true, if_false]
        rw [if_neg hc]
  by_cases hc : c ≥ 48
  · obtain ⟨r, hr⟩ := h0 (decide (c ≤ 57))
    refine ⟨r, Ev.congr (fun k => ?_) hr⟩
    show (if c ≥ 48 then _ else _) = _
    rw [if_pos hc]
  · obtain ⟨r, hr⟩ := h0 false
    refine ⟨r, Ev.congr (fun k => ?_) hr⟩
    show (if c ≥ 48 then _ else _) = _
    rw [if_neg hc]
theorem parse_ev (s : ByteArray) (neg : Bool) (hs : s.size ≤ 9223372036854775807) : ∀ (m j : Nat) (acc e : Int), j + m = s.size → ∃ r : Int × Int, Ev (fun k => digit_Parse.l0 k 10 s neg acc e (s.size : Int) (j : Int)) r ∧ 0 ≤ r.1 ∧ r.1 < 4294967296
  | 0, j, acc, e, h => by
    refine ⟨if e = 0 then (if neg = true then ((IntKind.u64.wrap (-acc)) % 4294967296, 0) else (acc % 4294967296, 0)) else (0, e), Ev.succ (g := fun _ => some (if e = 0 then (if neg = true then ((IntKind.u64.wrap (-acc)) % 4294967296, 0) else (acc % 4294967296, 0)) else (0, e))) (fun k => ?_) (Ev.const rfl), ?_⟩
    · show (if (j : Int) < (s.size : Int) then _ else _) = _
      rw [if_neg (by omega)]
      split
      · split <;> rfl
      · rfl
    · split
      · split
        · show 0 ≤ (IntKind.u64.wrap (-acc)) % 4294967296 ∧ (IntKind.u64.wrap (-acc)) % 4294967296 < 4294967296
          omega
        · show 0 ≤ acc % 4294967296 ∧ acc % 4294967296 < 4294967296
          omega
      · show (0 : Int) ≤ 0 ∧ (0 : Int) < 4294967296
        omega
  | m + 1, j, acc, e, h => by
    obtain ⟨⟨d, ok⟩, hv⟩ := value_tot (bt s (j : Int))
    have hjj : wrap64 ((j : Int) + 1) = ((j + 1 : Nat) : Int) := by rw [wrap1 (by omega) (by omega)]; rfl
    cases ok with
    | false =>
      refine ⟨(0, 15), Ev.succ (g := fun k => (digit_Value.f k (bt s (j : Int)) 10).bind fun bt125 => (if bt125.2 = true then (if (IntKind.u64.wrap ((IntKind.u64.wrap (acc * (IntKind.u64.wrap (10)))) + (IntKind.u64.wrap (bt125.1)))) > 4294967295 then (digit_Parse.l0 k 10 s neg 4294967296 4 (s.size : Int) (wrap64 ((j : Int) + 1))) else (digit_Parse.l0 k 10 s neg (IntKind.u64.wrap ((IntKind.u64.wrap (acc * (IntKind.u64.wrap (10)))) + (IntKind.u64.wrap (bt125.1)))) e (s.size : Int) (wrap64 ((j : Int) + 1)))) else (some (0, 15)))) (fun k => ?_) (Ev.bind hv (Ev.const rfl)), by show (0 : Int) ≤ 0 ∧ (0 : Int) < 4294967296; omega⟩
      show (if (j : Int) < (s.size : Int) then _ else _) = _
      rw [if_pos (by omega), if_pos (by omega), if_pos (by omega)]
    | true =>
      by_cases hb : (IntKind.u64.wrap ((IntKind.u64.wrap (acc * (IntKind.u64.wrap (10)))) + (IntKind.u64.wrap d))) > 4294967295
      · obtain ⟨r, hr, hr2⟩ := parse_ev s neg hs m (j + 1) 4294967296 4 (by omega)
        refine ⟨r, Ev.succ (g := fun k => (digit_Value.f k (bt s (j : Int)) 10).bind fun bt125 => (if bt125.2 = true then (if (IntKind.u64.wrap ((IntKind.u64.wrap (acc * (IntKind.u64.wrap (10)))) + (IntKind.u64.wrap (bt125.1)))) > 4294967295 then (digit_Parse.l0 k 10 s neg 4294967296 4 (s.size : Int) (wrap64 ((j : Int) + 1))) else (digit_Parse.l0 k 10 s neg (IntKind.u64.wrap ((IntKind.u64.wrap (acc * (IntKind.u64.wrap (10)))) + (IntKind.u64.wrap (bt125.1)))) e (s.size : Int) (wrap64 ((j : Int) + 1)))) else (some (0, 15)))) (fun k => ?_) (Ev.bind hv (Ev.congr (fun k => ?_) hr)), hr2⟩
        · show (if (j : Int) < (s.size : Int) then _ else _) = _
          rw [if_pos (by omega), if_pos (by omega), if_pos (by omega)]
        · show (if true = true then (if (IntKind.u64.wrap ((IntKind.u64.wrap (acc * (IntKind.u64.wrap (10)))) + (IntKind.u64.wrap d))) > 4294967295 then _ else _) else _) = _
          rw [if_pos rfl, if_pos hb, hjj]
      · obtain ⟨r, hr, hr2⟩ := parse_ev s neg hs m (j + 1) (IntKind.u64.wrap ((IntKind.u64.wrap (acc * (IntKind.u64.wrap (10)))) + (IntKind.u64.wrap d))) e (by omega)
        refine ⟨r, Ev.succ (g := fun k => (digit_Value.f k (bt s (j : Int)) 10).bind fun bt125 => (if bt125.2 = true then (if (IntKind.u64.wrap ((IntKind.u64.wrap (acc * (IntKind.u64.wrap (10)))) + (IntKind.u64.wrap (bt125.1)))) > 4294967295 then (digit_Parse.l0 k 10 s neg 4294967296 4 (s.size : Int) (wrap64 ((j : Int) + 1))) else (digit_Parse.l0 k 10 s neg (IntKind.u64.wrap ((IntKind.u64.wrap (acc * (IntKind.u64.wrap (10)))) + (IntKind.u64.wrap (bt125.1)))) e (s.size : Int) (wrap64 ((j : Int) + 1)))) else (some (0, 15)))) (fun k => ?_) (Ev.bind hv (Ev.congr (fun k => ?_) hr)), hr2⟩
        · show (if (j : Int) < (s.size : Int) then _ else _) = _
          rw [if_pos (by omega), if_pos (by omega), if_pos (by omega)]
        · show (if true = true then (if (IntKind.u64.wrap ((IntKind.u64.wrap (acc * (IntKind.u64.wrap (10)))) + (IntKind.u64.wrap d))) > 4294967295 then _ else _) else _) = _
          rw [if_pos rfl, if_neg hb, hjj]
theorem cutp_tot (s : ByteArray) : ∃ r : ByteArray × Bool, strings_CutPrefix.f s (⟨#[45]⟩ : ByteArray) = some r ∧ r.1.size ≤ s.size := by
  have h1 : ∃ b, stringslite_HasPrefix.f s (⟨#[45]⟩ : ByteArray) = some b ∧ (b = true → 1 ≤ s.size) := by
    unfold stringslite_HasPrefix.f
    by_cases h : (s.size : Int) ≥ ((⟨#[45]⟩ : ByteArray).size : Int)
    · rw [if_pos h, if_pos (by omega), if_pos h]
      exact ⟨_, rfl, fun _ => by have h' : (s.size : Int) ≥ 1 := h; omega⟩
    · rw [if_neg h]
      exact ⟨_, rfl, fun e => by cases e⟩
  obtain ⟨b, hb, hb1⟩ := h1
  unfold strings_CutPrefix.f stringslite_CutPrefix.f
  rw [hb]
  cases b with
  | false => exact ⟨_, rfl, Nat.le_refl _⟩
  | true =>
    have h2 := hb1 rfl
    refine ⟨(s.extract 1 s.size, true), ?_, ?_⟩
    · simp only [Option.bind_some, if_true]
      rw [if_pos (by omega), if_pos (by show (1 : Int) ≤ _; omega)]
      rfl
    · show (s.extract 1 s.size).size ≤ s.size
      rw [ByteArray.size_extract]
      omega
theorem parse_tot (s : ByteArray) (hs : s.size ≤ 9223372036854775807) : ∃ r : Int × Int, Ev (fun k => digit_Parse.f k s 10) r ∧ 0 ≤ r.1 ∧ r.1 < 4294967296 := by
  obtain ⟨c, hc, hcs⟩ := cutp_tot s
  by_cases he : c.1.toList = ([] : List UInt8)
  · refine ⟨(0, 15), Ev.congr (g := fun _ => some (0, 15)) (fun k => ?_) (Ev.const rfl), by show (0 : Int) ≤ 0 ∧ (0 : Int) < 4294967296; omega⟩
    show Option.bind (digit_fit.f 10) _ = _
    rw [show digit_fit.f 10 = some true from rfl]
    simp only [Option.bind_some, if_true]
    rw [hc]
    simp only [Option.bind_some]
    rw [if_pos he]
  · obtain ⟨r, hr, hr2⟩ := parse_ev c.1 c.2 (by omega) c.1.size 0 0 0 (by omega)
    refine ⟨r, Ev.congr (fun k => ?_) hr, hr2⟩
    show Option.bind (digit_fit.f 10) _ = _
    rw [show digit_fit.f 10 = some true from rfl]
    simp only [Option.bind_some, if_true]
    rw [hc]
    simp only [Option.bind_some]
    rw [if_neg he]
    rfl
end Go.Proofs.YtdobpgomgnaleaaDoor.V
