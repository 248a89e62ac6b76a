/- The plain law of ScreenMirrors. No condition. -/
import Derived.Test.YtngfijkageapgaaV4
import Derived.Test.YtngfijkageapgaaPx17
namespace Go.Proofs.Ytngfijkageapgaa.Pure
open Go.RowKit Go.Proofs.Ytngfijkageapgaa.P Go.Proofs.Ytngfijkageapgaa.V Go.Proofs.YtngfijkageapgaaW.PrintWords Go.Proofs.YtngfijkageapgaaW.PrintLast Go.Proofs.YtngfijkageapgaaW.PrintMore

theorem ScreenMirrors (w h : Int) (l : List Int) (q : Int) (_ : ∀ n ∈ l, (Lit.int .u8 n).wf = true) (_ : l.length ≤ 140737488351232) (hq : (Lit.int .i16 q).wf = true) :
    tinderlaw22_ScreenMirrors.f w h l q = some true := by
  have rq : -32768 ≤ q ∧ q ≤ 32767 := by
    have hmin : IntKind.i16.min = -32768 := rfl
    have hmax : IntKind.i16.max = 32767 := rfl
    simp only [Lit.wf, Bool.and_eq_true, decide_eq_true_eq, hmin, hmax] at hq
    exact hq
  have wq : wrap64 q = q := w64s (by omega) (by omega)
  have wn : wrap64 (-q) = -q := w64s (by omega) (by omega)
  unfold tinderlaw22_ScreenMirrors.f
  by_cases k : okP w h l
  · have km := okP_mir k
    have hn : (q % 4).toNat < 4 := by omega
    have e1 : ((-q) % 4).toNat = (4 - (q % 4).toNat) % 4 := by omega
    have kt := okP_turned ((-q) % 4).toNat (by omega) k
    have s1 : tinderref22_Same.f w h (mir w h (mir w h l)) w h l = some true := by rw [mir_mir k]; exact same_refl _ _ _
    have s2 : tinderref22_Same.f (dims4 (q % 4).toNat w h).1 (dims4 (q % 4).toNat w h).2 (turned (q % 4).toNat w h (mir w h l)) (dims4 ((-q) % 4).toNat w h).1 (dims4 ((-q) % 4).toNat w h).2 (mir (dims4 ((-q) % 4).toNat w h).1 (dims4 ((-q) % 4).toNat w h).2 (turned ((-q) % 4).toNat w h l)) = some true := by
      rw [e1, dims_neg _ hn, turned_mir _ hn k]
      exact same_refl _ _ _
    simp only [alive_eq, Option.bind_some, if_true, wq, wn, mirror_ok _ _ _ k, mirror_ok _ _ _ km, turn_ok _ _ _ _ km, turn_ok _ _ _ _ k, mirror_ok _ _ _ kt, s1, s2]
  · simp only [alive_eq, Option.bind_some, if_true, mirror_no _ _ _ k]
    simp
end Go.Proofs.Ytngfijkageapgaa.Pure
