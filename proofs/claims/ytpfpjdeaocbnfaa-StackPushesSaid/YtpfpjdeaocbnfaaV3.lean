/- What the document says that a word does to the stack, in closed form. -/
import Derived.Test.YtpfpjdeaocbnfaaV2
namespace Go.Proofs.Ytpfpjdeaocbnfaa.V
open Go.RowKit Go.Proofs.Ytpfpjdeaocbnfaa.P Go.Proofs.Ytpfpjdeaocbnfaa.G Go.Proofs.YtpfpjdeaocbnfaaW.PrintWords Go.Proofs.YtpfpjdeaocbnfaaW.PrintLast Go.Proofs.YtpfpjdeaocbnfaaW.PrintMore
set_option linter.unusedVariables false

theorem bt_get {s : ByteArray} {cs : List UInt8} (hcs : s.data.toList = cs) (i : Nat) (h : i < cs.length) : bt s (i : Int) = (cs[i].toNat : Int) := by
  subst hcs
  have hs : i < s.size := by rw [Array.length_toList] at h; exact h
  have := bt_at s (i : Int) (by simpa using hs)
  rw [← this]
  rfl
theorem size_of {s : ByteArray} {cs : List UInt8} (hcs : s.data.toList = cs) : s.size = cs.length := by
  subst hcs
  rw [Array.length_toList]
  rfl
theorem let_loop {l : List Int} {s : ByteArray} {cs : List UInt8} (hcs : s.data.toList = cs) {at_ n : Nat} (hn : at_ + n ≤ l.length) (hl : l.length ≤ 64) (hs : cs.length ≤ 6) (hp : ∀ c ∈ cs, c ≠ 32 → 0 ≤ ((c.toNat : Int) - 97) % 256 ∧ ((c.toNat : Int) - 97) % 256 < (n : Int)) (d : Nat) : ∀ (k i : Nat) (out : List Int), i ≤ cs.length → cs.length - i = d → d < k → out.length ≤ 100 + i →
    tinderref03_Do.l0 k l out s (at_ : Int) (i : Int) = some (chk (out ++ (((cs.drop i).filter (· != 32)).map fun c => ((c.toNat : Int) - 97) % 256).map (rd (l.drop at_)))) := by
  have hsz := size_of hcs
  induction d with
  | zero =>
    intro k i out hi hd hk ho
    obtain ⟨k, rfl⟩ : ∃ m, k = m + 1 := ⟨k - 1, by omega⟩
    rw [tinderref03_Do.l0, hsz, if_neg (by omega), show cs.drop i = [] from List.drop_eq_nil_of_le (by omega), List.filter_nil, List.map_nil, List.map_nil, List.append_nil]
    unfold chk
    by_cases h : out.length > 64
    · rw [if_pos (by omega), if_pos h]
    · rw [if_neg (by omega), if_neg h]
  | succ d ih =>
    intro k i out hi hd hk ho
    obtain ⟨k, rfl⟩ : ∃ m, k = m + 1 := ⟨k - 1, by omega⟩
    have hi2 : i < cs.length := Nat.lt_of_sub_eq_succ hd
    have hc : cs.drop i = cs[i] :: cs.drop (i + 1) := List.drop_eq_getElem_cons hi2
    rw [tinderref03_Do.l0, hsz, if_pos (by omega), if_pos (by omega), bt_get hcs i hi2, show wrap64 ((i : Int) + 1) = ((i + 1 : Nat) : Int) by rw [w64 (by omega) (by omega)]; omega, hc]
    by_cases hb : cs[i] = 32
    · have h2 := ih k (i + 1) out (by omega) (by omega) (by omega) (by omega)
      have h32 : (cs[i].toNat : Int) = 32 := by
        have := congrArg UInt8.toNat hb
        have h9 : (32 : UInt8).toNat = 32 := by decide
        omega
      rw [if_pos h32, h2, List.filter_cons_of_neg (by rw [hb]; decide)]
    · have hpl := hp cs[i] (List.getElem_mem _) hb
      have hne : ¬ (cs[i].toNat : Int) = 32 := by
        intro h
        apply hb
        have h9 : (32 : UInt8).toNat = 32 := by decide
        exact UInt8.toNat_inj.1 (by omega)
      obtain ⟨p, hpe⟩ : ∃ p, ((cs[i].toNat : Int) - 97) % 256 = p := ⟨_, rfl⟩
      rw [hpe] at hpl
      have er : rd l ((at_ : Int) + p) = rd (l.drop at_) p := by
        unfold rd
        rw [List.getD_eq_getElem?_getD, List.getD_eq_getElem?_getD, List.getElem?_drop]
        congr 2
        omega
      have h2 := ih k (i + 1) (out ++ [rd (l.drop at_) p]) (by omega) (by omega) (by omega) (by rw [List.length_append]; simp; omega)
      rw [if_neg hne, hpe, show wrap64 ((at_ : Int) + p) = (at_ : Int) + p from w64 (by omega) (by omega), if_pos (by omega), if_pos (by omega), if_pos (by omega), er, h2, List.filter_cons_of_pos (by simpa using hb), List.map_cons, List.map_cons, hpe, List.append_assoc]
      rfl
theorem top_at {l : List Int} (h : 0 < l.length) : rd l ((l.length : Int) - 1) = top l := by
  unfold rd top
  congr 1
  omega
theorem chk_le {r : List Int} (h : r.length ≤ 64) : chk r = (r, 0) := by
  unfold chk
  rw [if_neg (by omega)]
theorem rdeep {op : Int} {l : List Int} (h : Cells l) (hl : l.length ≤ 64) (hop : op = 78 ∨ op = 79) {k : Nat} (hk : 2 ≤ k) : tinderref03_Do.j0 k op l [] true = some (deepx op l) := by
  obtain ⟨k, rfl⟩ : ∃ m, k = m + 1 := ⟨k - 1, by omega⟩
  obtain ⟨k, rfl⟩ : ∃ m, k = m + 1 := ⟨k - 1, by omega⟩
  unfold deepx
  have ht := top_cell h
  by_cases h0 : l.length = 0
  · rw [tinderref03_Do.j0, if_pos rfl, if_pos (by omega), tinderref03_Do.j1, if_pos rfl, if_pos h0]
  · have e1 : wrap64 ((l.length : Int) - 1) = (l.length : Int) - 1 := w64 (by omega) (by omega)
    have e2 : wrap64 (top l) = top l := w64 (by omega) (by omega)
    rw [tinderref03_Do.j0, if_pos rfl, if_neg (by omega), e1, if_pos (by omega), if_pos (by omega), top_at (by omega), e2, if_neg h0]
    by_cases h1 : (l.length : Int) - 1 ≤ top l
    · rw [decide_eq_true (by omega), tinderref03_Do.j1, if_pos rfl, if_pos h1]
    · have e3 : wrap64 ((l.length : Int) - 2) = (l.length : Int) - 2 := w64 (by omega) (by omega)
      have e4 : wrap64 ((l.length : Int) - 2 - top l) = (l.length : Int) - 2 - top l := w64 (by omega) (by omega)
      have e5 : wrap64 ((l.length : Int) - 2 - top l + 1) = (l.length : Int) - 2 - top l + 1 := w64 (by omega) (by omega)
      obtain ⟨p, hp⟩ : ∃ p : Nat, (l.length : Int) - 2 - top l = (p : Int) := ⟨((l.length : Int) - 2 - top l).toNat, by omega⟩
      have hp2 : l.length - 2 - (top l).toNat = p := by omega
      have er : rd l (p : Int) = (l.take (l.length - 1)).getD p 0 := by
        unfold rd
        rw [Int.toNat_natCast, List.getD_eq_getElem?_getD, List.getD_eq_getElem?_getD, List.getElem?_take, if_pos (by omega)]
      have et : ((l.length : Int) - 1).toNat = l.length - 1 := by omega
      have ep : ((p : Int) + 1).toNat = p + 1 := by omega
      rw [decide_eq_false (by omega), tinderref03_Do.j1, if_neg (by decide), e1, if_pos (by omega), if_pos (by omega), if_neg h1, top_at (by omega), e2, e3, e4, hp, hp2, er, et, Int.toNat_natCast]
      rw [hp] at e5
      rw [e5, ep]
      rcases hop with rfl | rfl
      · have hlen : ([] ++ l.take (l.length - 1) ++ [(l.take (l.length - 1)).getD p 0]).length = l.length := by simp; omega
        rw [if_pos rfl, if_pos (by omega), if_pos (by simp; omega), Option.bind_some, if_pos (by omega), if_pos (by omega), if_pos (by simp; omega), Option.bind_some, if_neg (by omega), if_neg (by decide), List.nil_append]
      · have hlen : ([] ++ l.take p ++ (l.take (l.length - 1)).drop (p + 1) ++ [(l.take (l.length - 1)).getD p 0]).length = l.length - 1 := by simp; omega
        rw [if_neg (by decide), if_pos (by omega), if_pos (by omega), if_pos (by simp; omega), Option.bind_some, if_pos (by omega), if_pos (by omega), if_pos (by omega), if_pos (by simp; omega), Option.bind_some, if_pos (by omega), if_pos (by simp; omega), Option.bind_some, if_neg (by omega), if_pos rfl, List.nil_append, List.take_take, Nat.min_eq_left (by omega)]
theorem rdo_eq {op : Int} {l : List Int} (h : Cells l) {k : Nat} (hk : 20 ≤ k) : tinderref03_Do.f k op l = some (dox op l) := by
  unfold tinderref03_Do.f dox
  by_cases h64 : l.length > 64
  · rw [if_pos (by omega), if_pos h64]
  have hs : Sh l := by unfold Sh; omega
  rw [if_neg (by omega), if_neg h64, effect_eq, Option.bind_some]
  cases ht : tab op with
  | some r =>
    obtain ⟨t, ix, s⟩ := r
    have hok := tab_ok ht
    simp only [okRow, Bool.and_eq_true, List.all_eq_true, decide_eq_true_eq] at hok
    obtain ⟨⟨⟨⟨⟨h1, h2⟩, h3⟩, h4⟩, h5⟩, h6⟩ := hok
    have hne : ¬ s.toList = [] := by
      rw [Lib.toList_data]
      intro h
      rw [h] at h4
      cases h4
    have e1 : wrap64 ((l.length : Int) - (t : Int)) = (l.length : Int) - (t : Int) := w64 (by omega) (by omega)
    simp only
    rw [if_neg hne]
    by_cases hl : l.length < t
    · rw [if_pos (by omega), if_pos hl]
    · have e2 : (l.length : Int) - (t : Int) = ((l.length - t : Nat) : Int) := by omega
      rw [if_neg (by omega), if_neg hl, e1, e2, if_pos (by omega), if_pos (by omega), Int.toNat_natCast, if_pos (by simp; omega), List.nil_append]
      obtain ⟨cs, hcs⟩ : ∃ cs, s.data.toList = cs := ⟨_, rfl⟩
      unfold places at h6
      rw [hcs] at h4 h5 h6
      have := let_loop (l := l) hcs (at_ := l.length - t) (n := t) (by omega) (by omega) h5 (fun c hc h32 => h1 _ (by rw [← h6]; exact List.mem_map.2 ⟨c, List.mem_filter.2 ⟨hc, by simpa using h32⟩, rfl⟩)) cs.length k 0 (l.take (l.length - t)) (by omega) (by omega) (by omega) (by rw [List.length_take]; omega)
      rw [List.drop_zero] at this
      rw [h6] at this
      exact this
  | none =>
    simp only
    rw [if_pos (by rw [Lib.toList_data]; rfl)]
    by_cases h80 : op = 80
    · rw [if_pos h80, if_neg (show ¬ (op = 78 ∨ op = 79) by omega), if_pos h80]
      by_cases h0 : l.length = 0
      · rw [if_pos (by omega), if_pos h0]
      · have e1 : wrap64 ((l.length : Int) - 1) = (l.length : Int) - 1 := w64 (by omega) (by omega)
        rw [if_neg (by omega), if_neg h0, if_pos (by simp; omega), Option.bind_some, e1, if_pos (by omega), if_pos (by omega), top_at (by omega), List.nil_append]
        by_cases hz : top l = 0
        · rw [if_pos hz, if_pos hz, if_neg (by omega)]
        · rw [if_neg hz, if_neg hz, if_pos (by omega), Option.bind_some]
          unfold chk
          by_cases h : (l ++ [top l]).length > 64
          · rw [if_pos (by omega), if_pos h]
          · rw [if_neg (by omega), if_neg h]
    · rw [if_neg h80]
      by_cases h81 : op = 81
      · rw [if_pos h81, if_neg (show ¬ (op = 78 ∨ op = 79) by omega), if_neg h80, if_pos h81, if_pos (by simp; omega), Option.bind_some, List.nil_append, if_pos (by omega), Option.bind_some, Int.emod_eq_of_lt (by omega) (by omega)]
        unfold chk
        by_cases h : (l ++ [(l.length : Int)]).length > 64
        · rw [if_pos (by omega), if_pos h]
        · rw [if_neg (by omega), if_neg h]
      · rw [if_neg h81]
        by_cases h78 : op = 78
        · rw [if_pos h78, if_pos (.inl h78), rdeep h (by omega) (.inl h78) (by omega)]
        · rw [if_neg h78]
          by_cases h79 : op = 79
          · rw [show (op == 79) = true by subst h79; decide, if_pos (.inr h79), rdeep h (by omega) (.inr h79) (by omega)]
          · obtain ⟨k, rfl⟩ : ∃ m, k = m + 1 := ⟨k - 1, by omega⟩
            rw [beq_eq_false_iff_ne.mpr h79, if_neg (show ¬ (op = 78 ∨ op = 79) by omega), if_neg h80, if_neg h81, tinderref03_Do.j0, if_neg (by decide)]
end Go.Proofs.Ytpfpjdeaocbnfaa.V
