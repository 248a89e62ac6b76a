/- A token's bytes are read as the token, and a token that was read has the bytes that were there. -/
import Derived.Test.YtfaebbmngplilaaV5
namespace Go.Proofs.Ytfaebbmngplilaa.V
open Go.RowKit Go.Proofs.Ytfaebbmngplilaa.P Go.Proofs.Ytfaebbmngplilaa.G Go.Proofs.YtfaebbmngplilaaW.PrintWords Go.Proofs.YtfaebbmngplilaaW.PrintLast Go.Proofs.YtfaebbmngplilaaW.PrintMore
set_option linter.unusedVariables false
set_option linter.unusedSimpArgs false

theorem bys_drop {rb a r : List Int} (hB : Bys rb) (h : rb = a ++ r) : Bys r := fun x hx => hB x (by rw [h]; exact List.mem_append_right _ hx)
theorem tok_again {wide : Bool} {rb r : List Int} {t : S34} (hB : Bys rb) (h : tok1 wide rb = (t, r, false)) : rb = wtokB (kindOf t.f0) wide t ++ r ∧ Wf t := by
  unfold tok1 at h
  obtain ⟨c, r1, l1, e⟩ : ∃ c r1 l1, codeP rb false = (c, r1, l1) := ⟨_, _, _, rfl⟩
  rw [e] at h
  simp only at h
  have hl1 : l1 = false := by
    cases l1 with
    | false => rfl
    | true => exact (lack_of (kindOf c) wide c r1 (by rw [h])).elim
  subst hl1
  obtain ⟨_, hrb, _⟩ := code_again hB e
  have hB1 : Bys r1 := bys_drop hB hrb
  obtain ⟨kd, hkd⟩ : ∃ kd, kindOf c = kd := ⟨_, rfl⟩
  rw [hkd] at h
  unfold tokP at h
  unfold wtokB Wf
  by_cases h1 : kd = 1
  · rw [if_pos h1] at h
    simp only [Prod.mk.injEq] at h
    obtain ⟨rfl, h2⟩ := h
    have e2 : numP 4 r1 false = ((numP 4 r1 false).1, r, false) := Prod.ext rfl h2
    obtain ⟨_, h5⟩ := four_again hB1 e2
    have h6 := (numP_range hB1 e2).1
    simp only
    rw [hkd, if_pos h1, hrb]
    refine ⟨?_, h6, by omega⟩
    rw [List.append_assoc]
    congr 1
  rw [if_neg h1] at h
  by_cases h2 : kd = 2
  · rw [if_pos h2] at h
    simp only [Prod.mk.injEq] at h
    obtain ⟨rfl, h3⟩ := h
    have e2 : codeP r1 false = ((codeP r1 false).1, r, false) := Prod.ext rfl h3
    obtain ⟨_, h5, _⟩ := code_again hB1 e2
    have h6 := (codeP_range hB1 e2).1
    simp only
    rw [hkd, if_neg h1, if_pos h2, hrb]
    refine ⟨?_, by omega, by omega⟩
    rw [List.append_assoc]
    congr 1
  rw [if_neg h2] at h
  by_cases h3 : kd = 3
  · rw [if_pos h3] at h
    obtain ⟨n, r2, l2, e2⟩ : ∃ n r2 l2, numP 1 r1 false = (n, r2, l2) := ⟨_, _, _, rfl⟩
    rw [e2] at h
    simp only [Prod.mk.injEq] at h
    obtain ⟨rfl, h4⟩ := h
    have e3 : tkP n.toNat r2 l2 = ((tkP n.toNat r2 l2).1, r, false) := Prod.ext rfl h4
    obtain ⟨rfl, _⟩ := tk_ok e3
    obtain ⟨_, h5⟩ := text_again hB1 e2 e3
    simp only
    rw [hkd, if_neg h1, if_neg h2, if_pos h3, hrb]
    refine ⟨?_, by omega, by omega⟩
    rw [List.append_assoc]
    congr 1
  rw [if_neg h3] at h
  by_cases h4 : kd = 4
  · rw [if_pos h4] at h
    cases wide with
    | true =>
      rw [if_pos rfl] at h
      simp only [Prod.mk.injEq] at h
      obtain ⟨rfl, h5⟩ := h
      have e2 : numP 2 r1 false = ((numP 2 r1 false).1, r, false) := Prod.ext rfl h5
      obtain ⟨_, h6, h7, h8⟩ := two_again hB1 e2
      generalize (numP 2 r1 false).1 = v at h6 h7 h8 ⊢
      have h9 := i16_back h7 h8
      simp only
      rw [hkd, if_neg h1, if_neg h2, if_neg h3, if_pos h4, if_pos trivial, hrb, h9]
      refine ⟨?_, by omega, ?_⟩
      · rw [List.append_assoc, h6]
        congr 2
        unfold twoB
        by_cases hv : v < 32768
        · rw [if_pos hv]
        · rw [if_neg hv]
          congr 1
          · omega
          · congr 1
            omega
      · split <;> omega
    | false =>
      rw [if_neg (by decide)] at h
      simp only [Prod.mk.injEq] at h
      obtain ⟨rfl, h5⟩ := h
      have e2 : numP 1 r1 false = ((numP 1 r1 false).1, r, false) := Prod.ext rfl h5
      obtain ⟨_, h6, h7, h8⟩ := one_again hB1 e2
      generalize (numP 1 r1 false).1 = v at h6 h7 h8 ⊢
      have h9 := i8_back h7 h8
      simp only
      rw [hkd, if_neg h1, if_neg h2, if_neg h3, if_pos h4, if_neg (by decide), hrb, h9]
      refine ⟨?_, by omega, ?_⟩
      · rw [List.append_assoc, h6]
        congr 1
        show v :: r = (if v < 128 then v else v - 256) % 256 :: r
        congr 1
        split <;> omega
      · split <;> omega
  rw [if_neg h4] at h
  by_cases h5 : kd = 5
  · rw [if_pos h5] at h
    simp only [Prod.mk.injEq] at h
    obtain ⟨rfl, h6⟩ := h
    have e2 : numP 2 r1 false = ((numP 2 r1 false).1, r, false) := Prod.ext rfl h6
    obtain ⟨_, h7, h8, h9⟩ := two_again hB1 e2
    simp only
    rw [hkd, if_neg h1, if_neg h2, if_neg h3, if_neg h4, if_pos h5, hrb]
    refine ⟨?_, by omega, by omega⟩
    rw [List.append_assoc]
    congr 1
  rw [if_neg h5] at h
  by_cases h6 : kd = 6
  · rw [if_pos h6] at h
    obtain ⟨n, r2, l2, e2⟩ : ∃ n r2 l2, numP 1 r1 false = (n, r2, l2) := ⟨_, _, _, rfl⟩
    rw [e2] at h
    simp only at h
    obtain ⟨bs, r3, l3, e3⟩ : ∃ bs r3 l3, tkP n.toNat r2 l2 = (bs, r3, l3) := ⟨_, _, _, rfl⟩
    rw [e3] at h
    simp only [Prod.mk.injEq] at h
    obtain ⟨rfl, h7⟩ := h
    have e4 : numP 2 r3 l3 = ((numP 2 r3 l3).1, r, false) := Prod.ext rfl h7
    obtain ⟨rfl, _⟩ := num_ok e4
    obtain ⟨rfl, _⟩ := tk_ok e3
    obtain ⟨_, h8⟩ := text_again hB1 e2 e3
    obtain ⟨_, h9, h10, h11⟩ := two_again (bys_drop hB1 h8) e4
    simp only
    rw [hkd, if_neg h1, if_neg h2, if_neg h3, if_neg h4, if_neg h5, if_pos h6, hrb]
    refine ⟨?_, by omega, by omega⟩
    rw [List.append_assoc, List.append_assoc, h8]
    congr 2
  rw [if_neg h6] at h
  simp only [Prod.mk.injEq] at h
  obtain ⟨rfl, rfl, _⟩ := h
  simp only
  rw [hkd, if_neg h1, if_neg h2, if_neg h3, if_neg h4, if_neg h5, if_neg h6, List.append_nil]
  exact ⟨hrb, by omega, by omega⟩
theorem str_empty {s : ByteArray} (h : s.toList = []) : s = (⟨#[]⟩ : ByteArray) := by
  rw [Lib.toList_data] at h
  apply ByteArray.ext
  exact Array.toList_inj.1 h
theorem two_back {n : Int} (r : List Int) (h0 : 0 ≤ n) (h1 : n ≤ 65535) : numP 2 (twoB n ++ r) false = (n, r, false) := by
  have := num_app (n := 2) (bs := twoB n) (r := r) rfl
  rw [this]
  unfold twoB
  rw [numB2 (by omega)]
  simp only [Prod.mk.injEq, and_true]
  omega
theorem text_back {s : ByteArray} (r : List Int) (h : s.size ≤ 255) : numP 1 (textB s ++ r) false = ((s.size : Int), bytesOf s ++ r, false) ∧ tkP (s.size : Int).toNat (bytesOf s ++ r) false = (bytesOf s, r, false) := by
  have hl := bytesOf_length s
  constructor
  · have := num_app (n := 1) (bs := [(s.size : Int) % 256]) (r := bytesOf s ++ r) rfl
    rw [numB1] at this
    unfold textB
    rw [List.append_assoc, this]
    simp only [Prod.mk.injEq, and_true]
    omega
  · rw [Int.toNat_natCast, tk_of (by rw [List.length_append]; omega), ← hl, List.take_left, List.drop_left]
theorem str_back (s : ByteArray) : strOfNums (bytesOf s) = s := by
  apply ByteArray.ext
  apply Array.toList_inj.1
  rw [strOfNums_data]
  unfold bytesOf
  rw [List.map_map]
  conv => rhs; rw [← List.map_id s.data.toList]
  apply List.map_congr_left
  intro x _
  simp
theorem tok_back {wide : Bool} {t : S34} (r : List Int) (ho : okTok t wide = true) (hw : Wf t) : tok1 wide (wtokB (kindOf t.f0) wide t ++ r) = (t, r, false) := by
  obtain ⟨p1, p2, p3, p4⟩ := ok_parts ho
  have hs := ok_size ho
  obtain ⟨hw1, hw3⟩ := hw
  obtain ⟨c, n, s, o⟩ := t
  simp only at p1 p2 p3 p4 hs hw1 hw3 ⊢
  unfold tok1 wtokB
  simp only
  rw [List.append_assoc, code_back _ (coded_range p1)]
  simp only
  unfold okK at p4
  unfold tokP
  rcases kind_range c with e | e | e | e | e | e | e <;> rw [e] at p2 p3 p4 ⊢ <;> simp only [Int.reduceEq, if_true, if_false, reduceIte, or_true, or_false, false_or, or_self] at p2 p3 p4 ⊢
  · simp only [decide_eq_true_eq] at p4
    subst p4 p2
    rw [str_empty p3]
    rfl
  · subst p2
    rw [str_empty p3, List.append_assoc]
    have e4 : numP 4 ((twoB (n / 65536) ++ twoB (n % 65536)) ++ r) false = (n, r, false) := by
      have := num_app (n := 4) (bs := twoB (n / 65536) ++ twoB (n % 65536)) (r := r) rfl
      rw [this]
      show (numB [n / 65536 / 256 % 256, n / 65536 % 256, n % 65536 / 256 % 256, n % 65536 % 256], r, false) = _
      rw [numB4 (by omega) (by omega) (by omega)]
      simp only [Prod.mk.injEq, and_true]
      omega
    rw [List.append_assoc] at e4
    rw [e4]
  · subst p2
    simp only [Bool.and_eq_true, decide_eq_true_eq] at p4
    rw [str_empty p3, code_back r (coded_range p4.2)]
  · subst p2
    simp only [Bool.and_eq_true, decide_eq_true_eq] at p4
    obtain ⟨rfl, _⟩ := p4
    obtain ⟨b1, b2⟩ := text_back r hs
    rw [b1]
    simp only
    rw [b2, str_back]
  · simp only [Bool.and_eq_true, decide_eq_true_eq] at p4
    obtain ⟨rfl, q1, q2⟩ := p4
    rw [str_empty p3]
    unfold mostOf at q1 q2
    cases wide with
    | true =>
      simp only [if_true, reduceIte] at q1 q2 ⊢
      have e2 : numP 2 (twoB o ++ r) false = (if o < 0 then o + 65536 else o, r, false) := by
        have := num_app (n := 2) (bs := twoB o) (r := r) rfl
        rw [this]
        unfold twoB
        rw [numB2 (by omega)]
        simp only [Prod.mk.injEq, and_true]
        split <;> omega
      rw [e2, i16_back (by split <;> omega) (by split <;> omega)]
      simp only [Prod.mk.injEq, S34.mk.injEq, and_true, true_and]
      split <;> (try split) <;> omega
    | false =>
      simp only [Bool.false_eq_true, if_false, reduceIte] at q1 q2 ⊢
      have e2 : numP 1 ([o % 256] ++ r) false = (if o < 0 then o + 256 else o, r, false) := by
        have := num_app (n := 1) (bs := [o % 256]) (r := r) rfl
        rw [this, numB1]
        simp only [Prod.mk.injEq, and_true]
        split <;> omega
      rw [e2, i8_back (by split <;> omega) (by split <;> omega)]
      simp only [Prod.mk.injEq, S34.mk.injEq, and_true, true_and]
      split <;> (try split) <;> omega
  · subst p2
    simp only [Bool.and_eq_true, decide_eq_true_eq] at p4
    rw [str_empty p3, two_back r hw1.1 (by omega)]
  · subst p2
    simp only [Bool.and_eq_true, decide_eq_true_eq] at p4
    obtain ⟨b1, b2⟩ := text_back (twoB n ++ r) hs
    rw [List.append_assoc, b1]
    simp only
    rw [b2]
    simp only
    rw [two_back r hw1.1 (by omega), str_back]
end Go.Proofs.Ytfaebbmngplilaa.V
