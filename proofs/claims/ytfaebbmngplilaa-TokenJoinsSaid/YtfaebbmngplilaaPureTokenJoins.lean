/- Bytes joined decode to tokens joined. -/
import Derived.Test.YtfaebbmngplilaaV7
namespace Go.Proofs.Ytfaebbmngplilaa.Pure
open Go.RowKit Go.Proofs.Ytfaebbmngplilaa.P Go.Proofs.Ytfaebbmngplilaa.G Go.Proofs.Ytfaebbmngplilaa.V Go.Proofs.YtfaebbmngplilaaW.PrintWords Go.Proofs.YtfaebbmngplilaaW.PrintLast Go.Proofs.YtfaebbmngplilaaW.PrintMore
set_option linter.unusedVariables false

/-- The tail of the law, once no token widens. -/
theorem joins_tail {x0 x1 : List Int} {wide : Bool} {y : List S34} (hb0 : Bys x0) (hb1 : Bys x1) (h0 : x0.length ≤ 4000) (h1 : x1.length ≤ 4000) (e1 : x0 = bytesL y wide) (e2 : okL y wide) (e3 : ∀ t ∈ y, Wf t) (e4 : y.length ≤ x0.length) (hw : wideL y wide = wide)
    {k : Nat} (hk : 20000 ≤ k) (i : Int) (hi : ¬ i < (y.length : Int)) : tinderlaw13_TokenJoins.l0 (k + 1) x0 x1 wide y i = some true := by
  obtain ⟨z, e, f1, f2, f3⟩ := dec_ex x1.length x1 wide (by omega) hb1
  have ha := dec_app y wide x1 [] (k - y.length) e2 e3 (by rw [← e1]; exact bys_app hb0 hb1) (by omega) (by simp only [List.length_nil]; omega)
  rw [← e1, hw, List.nil_append, show k - y.length + y.length = k by omega, f3 _ y (by omega) (by omega)] at ha
  have hc : tinderref04_Copy.f x0 = some x0 := by
    unfold tinderref04_Copy.f
    rw [if_pos (by simp only [List.length_nil]; omega)]
    rfl
  rw [tinderlaw13_TokenJoins.l0, if_neg hi, dec_f hb1 (by omega), f3 k [] (by omega) (by simp only [List.length_nil]; omega), Option.bind_some, hc, Option.bind_some, if_pos (by omega), dec_f (bys_app hb0 hb1) (by rw [List.length_append]; omega), ha, Option.bind_some]
  rcases f1 with rfl | rfl
  · obtain ⟨g1, g2, g3, g4⟩ := f2 rfl
    simp only [if_true, List.nil_append]
    rw [if_pos (by rw [w64 (by omega) (by omega), List.length_append]; omega), if_pos (by omega), if_pos (by rw [List.length_append]; omega), Int.toNat_natCast, List.take_left' rfl, List.drop_left' rfl, same_toks (by omega) (by omega), Option.bind_some, if_pos rfl, same_toks (by omega) (by omega), Option.bind_some]
  · rw [if_neg (show ¬ (16 : Int) = 0 by decide), if_neg (show ¬ (16 : Int) = 0 by decide)]
    rw [if_pos rfl, if_neg (show ¬ (16 : Int) = 0 by decide)]
theorem wide_of (y : List S34) : ∀ wide, (∀ t ∈ y, t.f0 ≠ 204) → wideL y wide = wide := by
  induction y with
  | nil => intro wide _; rfl
  | cons t y ih =>
    intro wide h
    rw [wideL, ih _ (fun x hx => h x (List.mem_cons_of_mem _ hx))]
    have := h t List.mem_cons_self
    have h2 : (t.f0 == 204) = false := by simpa using this
    rw [h2, Bool.or_false]
theorem joins_loop {x0 x1 : List Int} {wide : Bool} {y : List S34} (hb0 : Bys x0) (hb1 : Bys x1) (h0 : x0.length ≤ 4000) (h1 : x1.length ≤ 4000) (e1 : x0 = bytesL y wide) (e2 : okL y wide) (e3 : ∀ t ∈ y, Wf t) (e4 : y.length ≤ x0.length)
    (d : Nat) : ∀ (k i : Nat), i ≤ y.length → y.length - i = d → 20001 + d ≤ k → (∀ t ∈ y.take i, t.f0 ≠ 204) → tinderlaw13_TokenJoins.l0 k x0 x1 wide y (i : Int) = some true := by
  induction d with
  | zero =>
    intro k i hi hd hk hn
    obtain ⟨k, rfl⟩ : ∃ m, k = m + 1 := ⟨k - 1, by omega⟩
    rw [List.take_of_length_le (by omega)] at hn
    exact joins_tail hb0 hb1 h0 h1 e1 e2 e3 e4 (wide_of y wide hn) (by omega) _ (by omega)
  | succ d ih =>
    intro k i hi hd hk hn
    obtain ⟨k, rfl⟩ : ∃ m, k = m + 1 := ⟨k - 1, by omega⟩
    have hlt : i < y.length := by omega
    rw [tinderlaw13_TokenJoins.l0, if_pos (by omega), if_pos (by omega), rd_tok hlt]
    by_cases hc : y[i].f0 = 204
    · rw [if_pos hc]
    · rw [if_neg hc, show wrap64 ((i : Int) + 1) = ((i + 1 : Nat) : Int) by rw [w64 (by omega) (by omega)]; omega]
      refine ih k (i + 1) (by omega) (by omega) (by omega) (fun t ht => ?_)
      rw [List.take_succ_eq_append_getElem hlt] at ht
      rcases List.mem_append.1 ht with ht | ht
      · exact hn t ht
      · obtain rfl := List.mem_singleton.1 ht
        exact hc
/-- The statement over numbers and lists. -/
theorem TokenJoins : tinderlaw13_TokenJoins.Pure := by
  intro l0 l1 wide _ _ hw0 _ _ hw1
  have hb0 : Bys l0 := fun x hx => bounds_u8 (hw0 x hx)
  have hb1 : Bys l1 := fun x hx => bounds_u8 (hw1 x hx)
  refine ⟨30000, ?_⟩
  unfold tinderlaw13_TokenJoins.f
  rw [alive_eq (by omega), Option.bind_some, if_pos rfl]
  by_cases h0 : (l0.length : Int) > 4000
  · rw [if_pos h0, tinderlaw13_TokenJoins.j0, if_pos rfl]
  · rw [if_neg h0, tinderlaw13_TokenJoins.j0]
    by_cases h1 : (l1.length : Int) > 4000
    · rw [decide_eq_true h1, if_pos rfl]
    · rw [decide_eq_false h1, if_neg (by decide)]
      obtain ⟨y, e, f1, f2, f3⟩ := dec_ex l0.length l0 wide (by omega) hb0
      rw [dec_f hb0 (by omega), f3 _ [] (by omega) (by simp only [List.length_nil]; omega), Option.bind_some]
      rcases f1 with rfl | rfl
      · obtain ⟨g1, g2, g3, g4⟩ := f2 rfl
        rw [if_pos rfl, if_pos rfl, List.nil_append]
        exact joins_loop hb0 hb1 (by omega) (by omega) g1 g2 g3 g4 y.length _ 0 (by omega) (by omega) (by omega) (fun t ht => by simp at ht)
      · rw [if_neg (show ¬ (16 : Int) = 0 by decide), if_neg (show ¬ (16 : Int) = 0 by decide)]

end Go.Proofs.Ytfaebbmngplilaa.Pure
