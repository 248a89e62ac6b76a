/- The body of a program that Make made is had again by Check, whatever stands behind it. No condition. -/
import Derived.Test.YtpfpckjdflcgeaaV4
namespace Go.Proofs.Ytpfpckjdflcgeaa.Pure
open Go.RowKit Go.Proofs.Ytpfpckjdflcgeaa.P Go.Proofs.Ytpfpckjdflcgeaa.G Go.Proofs.Ytpfpckjdflcgeaa.V Go.Proofs.YtpfpckjdflcgeaaW.PrintWords Go.Proofs.YtpfpckjdflcgeaaW.PrintLast Go.Proofs.YtpfpckjdflcgeaaW.PrintMore

theorem HeadBack : tinderlaw14_HeadBack.Pure := by
  intro l m w hm hl hw hm2 hl2 hw2
  have hb := By.of hw
  have hb2 := By.of hw2
  refine ⟨l.length + 9000 + 2, ?_⟩
  unfold tinderlaw14_HeadBack.f tinderref04_Same.f
  rw [alive_eq (by omega), Option.bind_some, if_pos rfl, make_eq hb (by omega) w (by omega), Option.bind_some]
  by_cases h : 8184 < l.length
  · rw [if_pos h, if_neg (by decide), if_pos (by rfl), decide_eq_true (by omega)]
  · rw [if_neg h, if_pos rfl]
    have hk : (mk w l).length = 8 + l.length := by unfold mk hdr; simp only [List.length_append, List.length_cons, List.length_nil]
    show (if (m.length : Int) > wrap64 (8192 - ((mk w l).length : Int)) then _ else _) = _
    rw [hk, w64 (by omega) (by omega)]
    by_cases h2 : (m.length : Int) > 8192 - ((8 + l.length : Nat) : Int)
    · rw [if_pos h2]
    · rw [if_neg h2, if_pos (show 8 + l.length + m.length < 140737488355328 by omega)]
      have e : head_Check.f (l.length + 9000 + 2) (mk w l ++ m) = some (l, w, 0) := by
        rw [check_eq ((mk_by hb w (by omega)).append hb2) (by omega), chk_mk w (by omega)]
      rw [e, Option.bind_some, if_pos rfl, if_pos (by rw [beq_self_eq_true]), Option.bind_some, beq_self_eq_true]

end Go.Proofs.Ytpfpckjdflcgeaa.Pure
