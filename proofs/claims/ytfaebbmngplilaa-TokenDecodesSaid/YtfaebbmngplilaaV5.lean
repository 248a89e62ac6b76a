/- A token read: with other bytes behind it; its bytes; a token's bytes read. -/
import Derived.Test.YtfaebbmngplilaaV4
namespace Go.Proofs.Ytfaebbmngplilaa.V
open Go.RowKit Go.Proofs.Ytfaebbmngplilaa.P Go.Proofs.Ytfaebbmngplilaa.G Go.Proofs.YtfaebbmngplilaaW.PrintWords Go.Proofs.YtfaebbmngplilaaW.PrintLast Go.Proofs.YtfaebbmngplilaaW.PrintMore
set_option linter.unusedVariables false

theorem tk_lack (n : Nat) (rb : List Int) : (tkP n rb true).2.2 = true := rfl
theorem lack_of (kd : Int) (wide : Bool) (c : Int) (r : List Int) (h : (tokP kd wide c r true).2.2 = false) : False := by
  unfold tokP at h
  by_cases h1 : kd = 1
  · rw [if_pos h1] at h; cases h
  rw [if_neg h1] at h
  by_cases h2 : kd = 2
  · rw [if_pos h2] at h
    exact code_lack (rb := r) (r := (codeP r true).2.1) (v := (codeP r true).1) (by rw [show codeP r true = ((codeP r true).1, (codeP r true).2.1, (codeP r true).2.2) from rfl, show (codeP r true).2.2 = false from h])
  rw [if_neg h2] at h
  by_cases h3 : kd = 3
  · rw [if_pos h3] at h; cases h
  rw [if_neg h3] at h
  by_cases h4 : kd = 4
  · rw [if_pos h4] at h
    cases wide <;> cases h
  rw [if_neg h4] at h
  by_cases h5 : kd = 5
  · rw [if_pos h5] at h; cases h
  rw [if_neg h5] at h
  by_cases h6 : kd = 6
  · rw [if_pos h6] at h; cases h
  rw [if_neg h6] at h
  cases h
/-- Other bytes behind. -/
theorem tok_join {wide : Bool} {rb r b : List Int} {t : S34} (h : tok1 wide rb = (t, r, false)) : tok1 wide (rb ++ b) = (t, r ++ b, false) := by
  unfold tok1 at h ⊢
  obtain ⟨c, r1, l1, e⟩ : ∃ c r1 l1, codeP rb false = (c, r1, l1) := ⟨_, _, _, rfl⟩
  rw [e] at h
  simp only at h
  have hl1 : l1 = false := by
    cases l1 with
    | false => rfl
    | true => exact (lack_of (kindOf c) wide c r1 (by rw [h])).elim
  subst hl1
  rw [code_join (b := b) e]
  simp only
  generalize kindOf c = kd at h ⊢
  unfold tokP at h ⊢
  by_cases h1 : kd = 1
  · rw [if_pos h1] at h ⊢
    simp only [Prod.mk.injEq] at h
    obtain ⟨rfl, h2⟩ := h
    rw [num_join (b := b) (Prod.ext rfl h2)]
  rw [if_neg h1] at h ⊢
  by_cases h2 : kd = 2
  · rw [if_pos h2] at h ⊢
    simp only [Prod.mk.injEq] at h
    obtain ⟨rfl, h2⟩ := h
    rw [code_join (b := b) (Prod.ext rfl h2)]
  rw [if_neg h2] at h ⊢
  by_cases h3 : kd = 3
  · rw [if_pos h3] at h ⊢
    obtain ⟨n, r2, l2, e2⟩ : ∃ n r2 l2, numP 1 r1 false = (n, r2, l2) := ⟨_, _, _, rfl⟩
    rw [e2] at h
    simp only [Prod.mk.injEq] at h
    obtain ⟨rfl, h2⟩ := h
    obtain ⟨rfl, _⟩ := tk_ok (n := n.toNat) (rb := r2) (lack := l2) (bs := (tkP n.toNat r2 l2).1) (r := r) (Prod.ext rfl h2)
    rw [num_join (b := b) e2]
    simp only
    rw [tk_join (b := b) (Prod.ext rfl h2)]
  rw [if_neg h3] at h ⊢
  by_cases h4 : kd = 4
  · rw [if_pos h4] at h ⊢
    cases wide with
    | true =>
      rw [if_pos rfl] at h ⊢
      simp only [Prod.mk.injEq] at h
      obtain ⟨rfl, h2⟩ := h
      rw [num_join (v := (numP 2 r1 false).1) (r := r) (b := b) (Prod.ext rfl h2)]
    | false =>
      rw [if_neg (by decide)] at h ⊢
      simp only [Prod.mk.injEq] at h
      obtain ⟨rfl, h2⟩ := h
      rw [num_join (v := (numP 1 r1 false).1) (r := r) (b := b) (Prod.ext rfl h2)]
  rw [if_neg h4] at h ⊢
  by_cases h5 : kd = 5
  · rw [if_pos h5] at h ⊢
    simp only [Prod.mk.injEq] at h
    obtain ⟨rfl, h2⟩ := h
    rw [num_join (b := b) (Prod.ext rfl h2)]
  rw [if_neg h5] at h ⊢
  by_cases h6 : kd = 6
  · rw [if_pos h6] at h ⊢
    obtain ⟨n, r2, l2, e2⟩ : ∃ n r2 l2, numP 1 r1 false = (n, r2, l2) := ⟨_, _, _, rfl⟩
    rw [e2] at h
    simp only at h
    obtain ⟨bs, r3, l3, e3⟩ : ∃ bs r3 l3, tkP n.toNat r2 l2 = (bs, r3, l3) := ⟨_, _, _, rfl⟩
    rw [e3] at h
    simp only [Prod.mk.injEq] at h
    obtain ⟨rfl, h2⟩ := h
    obtain ⟨rfl, _⟩ := num_ok (n := 2) (rb := r3) (lack := l3) (v := (numP 2 r3 l3).1) (r := r) (Prod.ext rfl h2)
    obtain ⟨rfl, _⟩ := tk_ok e3
    rw [num_join (b := b) e2]
    simp only
    rw [tk_join (b := b) e3]
    simp only
    rw [num_join (b := b) (Prod.ext rfl h2)]
  rw [if_neg h6] at h ⊢
  simp only [Prod.mk.injEq] at h
  obtain ⟨rfl, rfl, _⟩ := h
  rfl
theorem two_again {v : Int} {rb r : List Int} {lack : Bool} (hB : Bys rb) (h : numP 2 rb lack = (v, r, false)) : lack = false ∧ rb = twoB v ++ r ∧ 0 ≤ v ∧ v ≤ 65535 := by
  obtain ⟨h1, h2, h3, h4⟩ := num_ok h
  obtain ⟨a, b, s, rfl⟩ := list2 h2
  simp only [List.drop_succ_cons, List.drop_zero, List.take_succ_cons, List.take_zero] at h3 h4
  have ha := hB a List.mem_cons_self
  have hb := hB b (List.mem_cons_of_mem _ List.mem_cons_self)
  rw [numB2 ha] at h3
  subst h3 h4
  refine ⟨h1, ?_, by omega, by omega⟩
  unfold twoB
  show a :: b :: r = (a * 256 + b) / 256 % 256 :: (a * 256 + b) % 256 :: r
  congr 1
  · omega
  · congr 1
    omega
theorem four_again {v : Int} {rb r : List Int} {lack : Bool} (hB : Bys rb) (h : numP 4 rb lack = (v, r, false)) : lack = false ∧ rb = (twoB (v / 65536) ++ twoB (v % 65536)) ++ r := by
  obtain ⟨h1, h2, h3, h4⟩ := num_ok h
  obtain ⟨a, b, c, d, s, rfl⟩ := list4 h2
  simp only [List.drop_succ_cons, List.drop_zero, List.take_succ_cons, List.take_zero] at h3 h4
  have ha := hB a List.mem_cons_self
  have hb := hB b (List.mem_cons_of_mem _ List.mem_cons_self)
  have hc := hB c (List.mem_cons_of_mem _ (List.mem_cons_of_mem _ List.mem_cons_self))
  have hd := hB d (List.mem_cons_of_mem _ (List.mem_cons_of_mem _ (List.mem_cons_of_mem _ List.mem_cons_self)))
  rw [numB4 ha hb hc] at h3
  subst h3 h4
  refine ⟨h1, ?_⟩
  unfold twoB
  show a :: b :: c :: d :: r = (((a * 256 + b) * 256 + c) * 256 + d) / 65536 / 256 % 256 :: (((a * 256 + b) * 256 + c) * 256 + d) / 65536 % 256 :: (((a * 256 + b) * 256 + c) * 256 + d) % 65536 / 256 % 256 :: (((a * 256 + b) * 256 + c) * 256 + d) % 65536 % 256 :: r
  congr 1
  · omega
  congr 1
  · omega
  congr 1
  · omega
  congr 1
  omega
theorem one_again {v : Int} {rb r : List Int} {lack : Bool} (hB : Bys rb) (h : numP 1 rb lack = (v, r, false)) : lack = false ∧ rb = v :: r ∧ 0 ≤ v ∧ v ≤ 255 := by
  obtain ⟨h1, h2, h3, h4⟩ := num_ok h
  obtain ⟨a, s, rfl⟩ := list1 h2
  simp only [List.drop_succ_cons, List.drop_zero, List.take_succ_cons, List.take_zero] at h3 h4
  rw [numB1] at h3
  subst h3 h4
  exact ⟨h1, rfl, hB v List.mem_cons_self⟩
theorem bytes_str {bs : List Int} (h : Bys bs) : bytesOf (strOfNums bs) = bs ∧ (strOfNums bs).size = bs.length := by
  have e : bytesOf (strOfNums bs) = bs := by
    unfold bytesOf
    rw [strOfNums_data, List.map_map]
    conv => rhs; rw [← List.map_id bs]
    apply List.map_congr_left
    intro x hx
    have := h x hx
    simp
    omega
  refine ⟨e, ?_⟩
  have := bytesOf_length (strOfNums bs)
  rw [e] at this
  exact this.symm
theorem text_again {n : Int} {rb r2 r3 bs : List Int} {lack : Bool} (hB : Bys rb) (h : numP 1 rb lack = (n, r2, false)) (h2 : tkP n.toNat r2 false = (bs, r3, false)) : lack = false ∧ rb = textB (strOfNums bs) ++ r3 := by
  obtain ⟨e1, e2, e3, e4⟩ := one_again hB h
  obtain ⟨_, e5, e6, e7⟩ := tk_ok h2
  subst e2
  have hB2 : Bys bs := by rw [e6]; exact Bys.take (fun x hx => hB x (List.mem_cons_of_mem _ hx)) _
  obtain ⟨e8, e9⟩ := bytes_str hB2
  refine ⟨e1, ?_⟩
  unfold textB
  rw [e8, e9]
  have e10 : bs.length = n.toNat := by rw [e6, List.length_take]; omega
  have e11 : r2 = bs ++ r3 := by rw [e6, e7, List.take_append_drop]
  rw [e10, e11]
  show n :: (bs ++ r3) = (((n.toNat : Nat) : Int) % 256 :: bs) ++ r3
  rw [List.cons_append]
  congr 1
  omega
theorem i16_back {v : Int} (h0 : 0 ≤ v) (h1 : v ≤ 65535) : wrap64 (IntKind.i16.wrap v) = if v < 32768 then v else v - 65536 := by
  have e : IntKind.i16.wrap v = (v + 32768) % 65536 - 32768 := by
    simp [IntKind.wrap, IntKind.bits, IntKind.signed]
    split <;> omega
  rw [e]
  unfold wrap64
  split <;> omega
theorem i8_back {v : Int} (h0 : 0 ≤ v) (h1 : v ≤ 255) : wrap64 (IntKind.i8.wrap v) = if v < 128 then v else v - 256 := by
  have e : IntKind.i8.wrap v = (v + 128) % 256 - 128 := by
    simp [IntKind.wrap, IntKind.bits, IntKind.signed]
    split <;> omega
  rw [e]
  unfold wrap64
  split <;> omega
end Go.Proofs.Ytfaebbmngplilaa.V
