/- The plain law of ScreenRound. No condition. -/
import Derived.Test.YtngfijkageapgaaV3
import Derived.Test.YtngfijkageapgaaPx15
namespace Go.Proofs.Ytngfijkageapgaa.Pure
open Go.RowKit Go.Proofs.Ytngfijkageapgaa.P Go.Proofs.Ytngfijkageapgaa.V Go.Proofs.YtngfijkageapgaaW.PrintWords Go.Proofs.YtngfijkageapgaaW.PrintLast Go.Proofs.YtngfijkageapgaaW.PrintMore

theorem ScreenRound (w h : Int) (l : List Int) (a b : Int) (_ : ∀ n ∈ l, (Lit.int .u8 n).wf = true) (_ : l.length ≤ 140737488351232) (ha : (Lit.int .i8 a).wf = true) (hb : (Lit.int .i8 b).wf = true) :
    ∃ k, tinderlaw22_ScreenRound.f k w h l a b = some true := by
  have ra : -128 ≤ a ∧ a ≤ 127 := by
    have hmin : IntKind.i8.min = -128 := rfl
    have hmax : IntKind.i8.max = 127 := rfl
    simp only [Lit.wf, Bool.and_eq_true, decide_eq_true_eq, hmin, hmax] at ha
    exact ha
  have rb : -128 ≤ b ∧ b ≤ 127 := by
    have hmin : IntKind.i8.min = -128 := rfl
    have hmax : IntKind.i8.max = 127 := rfl
    simp only [Lit.wf, Bool.and_eq_true, decide_eq_true_eq, hmin, hmax] at hb
    exact hb
  have wa : wrap64 a = a := w64s (by omega) (by omega)
  have wb : wrap64 b = b := w64s (by omega) (by omega)
  have wab : wrap64 (a + b) = a + b := w64s (by omega) (by omega)
  have w3 : wrap64 (3 * a) = 3 * a := w64s (by omega) (by omega)
  unfold tinderlaw22_ScreenRound.f
  by_cases k : okP w h l
  · refine ⟨l.length + 1, ?_⟩
    have hn : (a % 4).toNat < 4 := by omega
    have hm : (b % 4).toNat < 4 := by omega
    have h3 : ((3 * a) % 4).toNat < 4 := by omega
    have kt := okP_turned _ hn k
    have lt : (turned (a % 4).toNat w h l).length = l.length := by rw [turned, turnTo_len]
    have e1 : ((a + b) % 4).toNat = ((a % 4).toNat + (b % 4).toNat) % 4 := by omega
    have e2 : ((a % 4).toNat + ((3 * a) % 4).toNat) % 4 = 0 := by omega
    have hlen := (okP_r k).2.2.2.2.2
    have s1 : tinderref22_Same.f (dims4 (b % 4).toNat (dims4 (a % 4).toNat w h).1 (dims4 (a % 4).toNat w h).2).1 (dims4 (b % 4).toNat (dims4 (a % 4).toNat w h).1 (dims4 (a % 4).toNat w h).2).2 (turned (b % 4).toNat (dims4 (a % 4).toNat w h).1 (dims4 (a % 4).toNat w h).2 (turned (a % 4).toNat w h l))
        (dims4 ((a + b) % 4).toNat w h).1 (dims4 ((a + b) % 4).toNat w h).2 (turned ((a + b) % 4).toNat w h l) = some true := by
      rw [turned_comp _ _ hn hm k, dims_comp _ _ hn hm, e1]
      exact same_refl _ _ _
    have s2 : tinderref22_Same.f (dims4 ((3 * a) % 4).toNat (dims4 (a % 4).toNat w h).1 (dims4 (a % 4).toNat w h).2).1 (dims4 ((3 * a) % 4).toNat (dims4 (a % 4).toNat w h).1 (dims4 (a % 4).toNat w h).2).2 (turned ((3 * a) % 4).toNat (dims4 (a % 4).toNat w h).1 (dims4 (a % 4).toNat w h).2 (turned (a % 4).toNat w h l))
        w h l = some true := by
      rw [turned_comp _ _ hn h3 k, dims_comp _ _ hn h3, e2, turned_zero k]
      exact same_refl _ _ _
    simp only [alive_eq, Option.bind_some, if_true, wa, wb, wab, w3, turn_ok _ _ _ _ k, turn_ok _ _ _ _ kt, s1, s2, light_eq (l.length + 1) w h l (by omega) (by omega), light_eq (l.length + 1) _ _ (turned (a % 4).toNat w h l) (by omega) (by omega), turned_cnt _ hn k, beq_self_eq_true]
  · refine ⟨0, ?_⟩
    simp only [alive_eq, Option.bind_some, if_true, wa, turn_no _ _ _ _ k, rformed_eq, decide_eq_false k]
    simp
end Go.Proofs.Ytngfijkageapgaa.Pure
