/- Each word that turns the stack answers as the document says, and leaves what it is handed. No condition. -/
import Derived.Test.YtpfpjdeaocbnfaaV4
namespace Go.Proofs.Ytpfpjdeaocbnfaa.Pure
open Go.RowKit Go.Proofs.Ytpfpjdeaocbnfaa.P Go.Proofs.Ytpfpjdeaocbnfaa.G Go.Proofs.Ytpfpjdeaocbnfaa.V Go.Proofs.YtpfpjdeaocbnfaaW.PrintWords Go.Proofs.YtpfpjdeaocbnfaaW.PrintLast Go.Proofs.YtpfpjdeaocbnfaaW.PrintMore

theorem StackDoes : tinderlaw03_StackDoes.Pure := by
  intro op l hop hm hl hw
  have hs : Sh l := by unfold Sh; omega
  have hc := Cells.of hw
  refine ⟨l.length + 100, ?_⟩
  unfold tinderlaw03_StackDoes.f
  rw [alive_eq (by omega), Option.bind_some, if_pos rfl, copy_eq hs, Option.bind_some, do_eq hc (by omega), Option.bind_some, rdo_eq hc (by omega), Option.bind_some, if_pos rfl, same_refl (dox_sh op l) (by have := dox_len op l; omega), Option.bind_some, if_pos rfl, same_refl hs (by omega), Option.bind_some]

end Go.Proofs.Ytpfpjdeaocbnfaa.Pure
