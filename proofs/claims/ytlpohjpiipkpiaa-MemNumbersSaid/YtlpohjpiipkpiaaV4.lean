/- Numbers in a memory: closed forms. -/
import Derived.Test.YtlpohjpiipkpiaaV1
namespace Go.Proofs.Ytlpohjpiipkpiaa.V
open Go.RowKit Go.Proofs.Ytlpohjpiipkpiaa.P Go.Proofs.Ytlpohjpiipkpiaa.G Go.Proofs.YtlpohjpiipkpiaaW.PrintWords Go.Proofs.YtlpohjpiipkpiaaW.PrintLast Go.Proofs.YtlpohjpiipkpiaaW.PrintMore
set_option linter.unusedVariables false

theorem wraps_u32 (n : Int) (h0 : 0 ≤ n) (h1 : n < 2 ^ 32) : IntKind.u32.wrap n = n := by rw [IntKind.wrap_u32]; omega
theorem and_u32 (i : Nat) (hi : i ≤ 32) {x m : Int} (hm : m = 2 ^ i - 1) (h0 : 0 ≤ x) (h1 : x < 2 ^ 32) : Go.bits .and .u32 x m = x % 2 ^ i := by
  rw [hm]
  exact bits_mask .u32 32 (by decide) wraps_u32 i hi x h0 h1
theorem or_u32 {x y : Int} (hx₀ : 0 ≤ x) (hx : x % 256 = 0) (hx₁ : x < 2 ^ 32) (h₀ : 0 ≤ y) (h₁ : y < 256) : Go.bits .or .u32 x y = x + y :=
  bits_join .u32 32 (by decide) wraps_u32 8 x y hx₀ (by omega) hx₁ h₀ (by omega) (by omega)
/-- Why a number is refused; 0: it isn't. -/
def wr (l : List Int) (a s : Int) : Int := if s = 1 ∨ s = 2 ∨ s = 4 then (if a % s = 0 then (if a + s ≤ (l.length : Int) then 0 else 9) else 8) else 1
theorem cell_eq {l : List Int} {a s : Int} (ha : U a) (hs : U s) (k : Nat) : mem_cell.f (k + 1) l a s = some (if wr l a s = 0 then seg l a s else [], wr l a s) := by
  unfold mem_cell.f wr
  have J : (s = 1 ∨ s = 2 ∨ s = 4) → mem_cell.j0 (k + 1) l a s = some (if (if a % s = 0 then (if a + s ≤ (l.length : Int) then (0 : Int) else 9) else 8) = 0 then seg l a s else [], (if a % s = 0 then (if a + s ≤ (l.length : Int) then 0 else 9) else 8)) := by
    intro h
    have hb : Go.bits .and .u32 a ((s - 1) % 4294967296) = a % s := by
      unfold U at ha
      rcases h with rfl | rfl | rfl
      · exact and_u32 0 (by decide) (by decide) ha.1 (by omega)
      · exact and_u32 1 (by decide) (by decide) ha.1 (by omega)
      · exact and_u32 2 (by decide) (by decide) ha.1 (by omega)
    rw [mem_cell.j0, hb]
    by_cases h0 : a % s = 0
    · rw [if_pos h0, if_pos h0, stretch_eq ha hs, Option.bind_some]
      by_cases h1 : a + s ≤ (l.length : Int)
      · rw [if_pos h1, if_pos rfl, if_pos h1, if_pos rfl]
      · rw [if_neg h1, if_neg (by decide), if_neg h1, if_neg (by decide)]
    · rw [if_neg h0, if_neg h0, if_neg (by decide)]
  by_cases h : s = 1 ∨ s = 2 ∨ s = 4
  · rw [if_pos h, J h]
    by_cases h1 : s = 1
    · rw [if_pos h1]
    · rw [if_neg h1]
      by_cases h2 : s = 2
      · rw [if_pos h2]
      · rw [if_neg h2, if_pos (by omega)]
  · rw [if_neg h, if_neg (fun e => h (.inl e)), if_neg (fun e => h (.inr (.inl e))), if_neg (fun e => h (.inr (.inr e))), if_neg (by decide)]
theorem rwrong_eq {l : List Int} {a s : Int} (hl : Sh l) (ha : U a) (hs : U s) (k : Nat) : tinderref04_wrong.f (k + 1) l a s = some (wr l a s) := by
  unfold tinderref04_wrong.f wr
  have J : (s = 1 ∨ s = 2 ∨ s = 4) → tinderref04_wrong.j0 (k + 1) l a s false = some (if a % s = 0 then (if a + s ≤ (l.length : Int) then 0 else 9) else 8) := by
    intro h
    unfold U at ha
    rw [tinderref04_wrong.j0, if_neg (by decide), if_neg (by omega), Int.tmod_eq_emod_of_nonneg ha.1]
    by_cases h0 : a % s = 0
    · rw [if_pos h0, if_pos h0, in_eq hl ha hs, Option.bind_some]
      by_cases h1 : a + s ≤ (l.length : Int)
      · rw [decide_eq_true h1, if_pos rfl, if_pos h1]
      · rw [decide_eq_false h1, if_neg (by decide), if_neg h1]
    · rw [if_neg h0, if_neg h0]
  by_cases h : s = 1 ∨ s = 2 ∨ s = 4
  · rw [if_pos h, ← J h]
    by_cases h1 : s = 1
    · rw [if_pos h1]
    · rw [if_neg h1]
      by_cases h2 : s = 2
      · rw [if_pos h2]
      · rw [if_neg h2, show (s != 4) = false by simp; omega]
  · rw [if_neg h, if_neg (fun e => h (.inl e)), if_neg (fun e => h (.inr (.inl e))), show (s != 4) = true by simp; omega, tinderref04_wrong.j0, if_pos rfl]
/-- Bytes as a number, the greatest first. -/
def val (n : Int) : List Int → Int
  | [] => n
  | x :: l => val ((n * 256 + x) % 4294967296) l
theorem drop_cons (l : List Int) (j : Nat) (h : j < l.length) : l.drop j = rd l (j : Int) :: l.drop (j + 1) := by
  rw [rd_at l j h]
  exact List.drop_eq_getElem_cons h
theorem fetch_loop {q : List Int} (hB : By q) (hq : q.length ≤ 140737488351232) (d : Nat) : ∀ (k i : Nat) (n : Int), 0 ≤ n → n ≤ 4294967295 → i ≤ q.length → q.length - i = d → d < k → mem_Fetch.l0 k n q (q.length : Int) (i : Int) = some (val n (q.drop i), 0) := by
  induction d with
  | zero =>
    intro k i n h0 h1 hi hd hk
    obtain ⟨k, rfl⟩ : ∃ m, k = m + 1 := ⟨k - 1, by omega⟩
    rw [mem_Fetch.l0, if_neg (by omega), List.drop_eq_nil_of_le (by omega)]
    rfl
  | succ d ih =>
    intro k i n h0 h1 hi hd hk
    obtain ⟨k, rfl⟩ : ∃ m, k = m + 1 := ⟨k - 1, by omega⟩
    have hr := rd_by hB (i : Int)
    have h2 := ih k (i + 1) ((n * 256 + rd q i) % 4294967296) (by omega) (by omega) (by omega) (by omega) (by omega)
    rw [drop_cons q i (by omega), mem_Fetch.l0, if_pos (by omega), if_pos (by omega), if_pos (by omega), show rd q (i : Int) % 4294967296 = rd q i by omega, or_u32 (by omega) (by omega) (by omega) hr.1 (by omega), w64 (by omega) (by omega), show n * 256 % 4294967296 + rd q (i : Int) = (n * 256 + rd q i) % 4294967296 by omega]
    exact h2
theorem rfetch_loop {l : List Int} {a s : Int} (hB : By l) (hl : Sh l) (ha : U a) (hs : U s) (h : a + s ≤ (l.length : Int)) (d : Nat) : ∀ (k i : Nat) (n : Int), 0 ≤ n → n ≤ 4294967295 → (i : Int) ≤ s → s.toNat - i = d → d < k → tinderref04_Fetch.l0 k l a s n (i : Int) = some (val n ((l.drop (a.toNat + i)).take d), 0) := by
  unfold U at ha hs
  unfold Sh at hl
  induction d with
  | zero =>
    intro k i n h0 h1 hi hd hk
    obtain ⟨k, rfl⟩ : ∃ m, k = m + 1 := ⟨k - 1, by omega⟩
    rw [tinderref04_Fetch.l0, w64 (n := s) (by omega) (by omega), if_neg (by omega)]
    rfl
  | succ d ih =>
    intro k i n h0 h1 hi hd hk
    obtain ⟨k, rfl⟩ : ∃ m, k = m + 1 := ⟨k - 1, by omega⟩
    have ea : a + (i : Int) = ((a.toNat + i : Nat) : Int) := by omega
    have hr := rd_by hB ((a.toNat + i : Nat) : Int)
    have h2 := ih k (i + 1) ((n * 256 + rd l ((a.toNat + i : Nat) : Int)) % 4294967296) (by omega) (by omega) (by omega) (by omega) (by omega)
    rw [drop_cons l (a.toNat + i) (by omega), List.take_succ_cons, tinderref04_Fetch.l0, w64 (n := s) (by omega) (by omega), if_pos (by omega), w64 (n := a) (by omega) (by omega), w64 (n := a + (i : Int)) (by omega) (by omega), if_pos (by omega), if_pos (by omega), w64 (n := (i : Int) + 1) (by omega) (by omega), ea, show ((n * 256) % 4294967296 + rd l ((a.toNat + i : Nat) : Int) % 4294967296) % 4294967296 = (n * 256 + rd l ((a.toNat + i : Nat) : Int)) % 4294967296 by omega]
    exact h2
theorem seg_take (l : List Int) {a n : Int} (ha : 0 ≤ a) (hn : 0 ≤ n) : seg l a n = (l.drop a.toNat).take n.toNat := by
  unfold seg
  rw [List.drop_take, show (a + n).toNat - a.toNat = n.toNat by omega]
theorem wr_ok {l : List Int} {a s : Int} (h : wr l a s = 0) : (s = 1 ∨ s = 2 ∨ s = 4) ∧ a + s ≤ (l.length : Int) := by
  unfold wr at h
  split at h
  · rename_i h1
    split at h
    · split at h
      · rename_i h2
        exact ⟨h1, h2⟩
      · omega
    · omega
  · omega
def ftc (l : List Int) (a s : Int) : Int × Int := (if wr l a s = 0 then val 0 (seg l a s) else 0, wr l a s)
theorem fetch_eq {l : List Int} {a s : Int} (hB : By l) (ha : U a) (hs : U s) {k : Nat} (hk : 10 < k) : mem_Fetch.f k l a s = some (ftc l a s) := by
  obtain ⟨k, rfl⟩ : ∃ m, k = m + 1 := ⟨k - 1, by omega⟩
  unfold mem_Fetch.f ftc
  rw [cell_eq ha hs, Option.bind_some]
  by_cases h : wr l a s = 0
  · obtain ⟨h1, h2⟩ := wr_ok h
    have hsl := seg_length ha.1 hs.1 h2
    rw [if_pos h, if_pos h, if_pos h]
    have := fetch_loop (seg_by hB a s) (by omega) s.toNat (k + 1) 0 0 (by omega) (by omega) (by omega) (by omega) (by omega)
    rw [List.drop_zero] at this
    rw [h]
    exact this
  · rw [if_neg h, if_neg h, if_neg h]
theorem rfetch_eq {l : List Int} {a s : Int} (hB : By l) (hl : Sh l) (ha : U a) (hs : U s) {k : Nat} (hk : 10 < k) : tinderref04_Fetch.f k l a s = some (ftc l a s) := by
  obtain ⟨k, rfl⟩ : ∃ m, k = m + 1 := ⟨k - 1, by omega⟩
  unfold tinderref04_Fetch.f ftc
  rw [rwrong_eq hl ha hs, Option.bind_some]
  by_cases h : wr l a s = 0
  · obtain ⟨h1, h2⟩ := wr_ok h
    rw [if_pos h, if_pos h, h, seg_take l ha.1 hs.1]
    exact rfetch_loop hB hl ha hs h2 s.toNat (k + 1) 0 0 (by omega) (by omega) (by omega) (by omega) (by omega)
  · rw [if_neg h, if_neg h]
/-- The bytes of a number, the greatest first. -/
def be (v : Int) : Nat → List Int
  | 0 => []
  | n + 1 => be (v / 256) n ++ [v % 256]
theorem be_length (v : Int) (n : Nat) : (be v n).length = n := by
  induction n generalizing v with
  | zero => rfl
  | succ n ih => unfold be; rw [List.length_append, ih]; rfl
theorem be_by (v : Int) (n : Nat) : By (be v n) := by
  induction n generalizing v with
  | zero => exact By.nil
  | succ n ih => unfold be; exact (ih _).append (By.cons (by omega) By.nil)
theorem be4 (v : Int) : be v 4 = [v / 16777216 % 256, v / 65536 % 256, v / 256 % 256, v % 256] := by
  show [v / 256 / 256 / 256 % 256, v / 256 / 256 % 256, v / 256 % 256, v % 256] = _
  rw [show v / 256 / 256 / 256 = v / 16777216 by omega, show v / 256 / 256 = v / 65536 by omega]
theorem be2 (v : Int) : be v 2 = [v / 256 % 256, v % 256] := rfl
theorem be1 (v : Int) : be v 1 = [v % 256] := rfl
theorem splice_set {m cs : List Int} {a : Nat} {x : Int} (h : a + cs.length < m.length) : splice (m.set (a + cs.length) x) a cs = splice m a (cs ++ [x]) := by
  unfold splice
  rw [List.take_set_of_le (by omega), List.drop_set, if_neg (by omega), Nat.sub_self, List.length_append, List.length_singleton, List.append_assoc]
  congr 2
  rw [List.drop_eq_getElem_cons h]
  rfl
theorem rstore_loop {a : Int} (ha : U a) (d : Nat) : ∀ (k : Nat) (v : Int) (m : List Int), 0 ≤ v → v ≤ 4294967295 → Sh m → a + (d : Int) ≤ (m.length : Int) → d < k → tinderref04_Store.l0 k a v m ((d : Int) - 1) = some (splice m a.toNat (be v d), 0) := by
  unfold U at ha
  induction d with
  | zero =>
    intro k v m h0 h1 hm hd hk
    obtain ⟨k, rfl⟩ : ∃ m, k = m + 1 := ⟨k - 1, by omega⟩
    rw [tinderref04_Store.l0, if_neg (by omega)]
    unfold be splice
    rw [List.nil_append, List.length_nil, Nat.add_zero, List.take_append_drop]
  | succ d ih =>
    intro k v m h0 h1 hm hd hk
    obtain ⟨k, rfl⟩ : ∃ m, k = m + 1 := ⟨k - 1, by omega⟩
    unfold Sh at hm
    have h2 := ih k (v / 256) (m.set (a.toNat + d) (v % 256)) (by omega) (by omega) (by unfold Sh; rw [List.length_set]; exact hm) (by rw [List.length_set]; omega) (by omega)
    have hbl := be_length (v / 256) d
    have h3 := splice_set (m := m) (cs := be (v / 256) d) (a := a.toNat) (x := v % 256) (by omega)
    rw [hbl] at h3
    rw [tinderref04_Store.l0, if_pos (by omega), w64 (n := a) (by omega) (by omega), w64 (n := a + _) (by omega) (by omega), if_pos (by omega), if_pos (by omega), w64 (by omega) (by omega), Int.tdiv_eq_ediv_of_nonneg h0, Int.tmod_eq_emod_of_nonneg h0, show v / 256 % 4294967296 = v / 256 by omega, show v % 256 % 256 = v % 256 by omega, show (a + (((d + 1 : Nat) : Int) - 1)).toNat = a.toNat + d by omega, show (((d + 1 : Nat) : Int) - 1 - 1) = (d : Int) - 1 by omega, h2, h3]
    rfl
def sto (l : List Int) (a s v : Int) : List Int × Int := (if wr l a s = 0 then splice l a.toNat (be v s.toNat) else [], wr l a s)
theorem rstore_eq {l : List Int} {a s v : Int} (hl : Sh l) (ha : U a) (hs : U s) (hv : U v) {k : Nat} (hk : 10 < k) : tinderref04_Store.f k l a s v = some (sto l a s v) := by
  obtain ⟨k, rfl⟩ : ∃ m, k = m + 1 := ⟨k - 1, by omega⟩
  unfold tinderref04_Store.f sto
  rw [rwrong_eq hl ha hs, Option.bind_some]
  by_cases h : wr l a s = 0
  · obtain ⟨h1, h2⟩ := wr_ok h
    have h3 := rstore_loop ha s.toNat (k + 1) v l hv.1 hv.2 hl (by omega) (by omega)
    rw [if_pos h, copy_eq hl, Option.bind_some, w64 (n := s) (by omega) (by omega), w64 (by omega) (by omega), if_pos h, h, show s - 1 = ((s.toNat : Nat) : Int) - 1 by omega]
    exact h3
  · rw [if_neg h, if_neg h]
theorem bytesOf_strOfNums {l : List Int} (h : By l) : bytesOf (strOfNums l) = l := by
  unfold bytesOf
  rw [strOfNums_data, List.map_map]
  conv => rhs; rw [← List.map_id l]
  apply List.map_congr_left
  intro x hx
  have := h x hx
  simp
  omega
theorem store_eq {l : List Int} {a s v : Int} (hl : Sh l) (ha : U a) (hs : U s) (hv : U v) {k : Nat} (hk : 10 < k) : mem_Store.f k l a s v = some (sto l a s v) := by
  obtain ⟨k, rfl⟩ : ∃ m, k = m + 1 := ⟨k - 1, by omega⟩
  unfold mem_Store.f sto
  rw [cell_eq ha hs, Option.bind_some]
  by_cases h : wr l a s = 0
  · obtain ⟨h1, h2⟩ := wr_ok h
    have hd : ([(v / 16777216) % 256, (v / 65536) % 256, (v / 256) % 256, v % 256] : List Int).drop ((4 - s) % 4294967296).toNat = be v s.toNat := by
      rcases h1 with rfl | rfl | rfl
      · rfl
      · rfl
      · exact (be4 v).symm
    have hsz : (strOfNums (be v s.toNat)).size = s.toNat := by rw [strOfNums_size, be_length]
    rw [if_pos h, if_pos h, Option.bind_some, if_pos (by omega), if_pos (by simp only [List.length_cons, List.length_nil]; omega), hd, put_eq hl ha (by omega), Option.bind_some, hsz, if_pos (by omega), bytesOf_strOfNums (be_by v _), h]
  · rw [if_neg h, if_neg h, if_neg h]
end Go.Proofs.Ytlpohjpiipkpiaa.V
