/-
  No cell of these rows narrows 'for every input' (looked for: loops, veiled, ifaces, maps, wideKeys, modest, calm, conditions, laid).
  DERIVED. THE GIVEN ROWS OF THIS SEAT. 5 by the template 'for every input the law returns true; each argument reads behind the call as it read before'; 0 by the template 'total and deterministic' (their statements: YtpfpjdeaocbnfaaTotals.lean).
  GIVEN WITH THE SEED: the statements are not yours to turn. If you find one false, say at which input.
  Laid BY PROGRAM, IN A SANDBOX (cutbox-rows.mjs): the forced cells as the released guide's own fill.sh prints them over the translation 1901d7be17be0e3e… (all of the seat's roots in one cut). By AI agents, Wed Nov 11 2026. No macro, syntax, notation, axiom, sorry.
-/
import Derived.Test.YtpfpjdeaocbnfaaChecked
import GoSem.Claim
import GoSem.ClaimJoined
import GoSem.ClaimMapViews
import Derived.JoinedTies
import Derived.KernelRfl
namespace Go.Proofs.Ytpfpjdeaocbnfaa
/- THE CELL 'sum', in the pinned program and in every row, IS THE sha256 OF THE DUMP (.gsa) THAT YtpfpjdeaocbnfaaProg.lean LOADS. Nothing in Lean hashes anything: it is a label: what it is worth is what the hold of that sum in a sandbox is worth. -/
noncomputable def Try.pinned : Pinned := { name := "ytpfpjdeaocbnfaa", sum := "1901d7be17be0e3eaf2c48f401e1b8498469ac8d09b8aba613191cd8df537c3a", checked := Try.checked }
namespace Rows
def none {H : Type} : Left H := { results := [], args := [] }

/-- 'tinderlaw03.StackDoes': WHATEVER THE INPUT: true; the input reads as it did. -/
def stackDoesSpec : ChangeSpec := { name := "stackDoes", fn := fun _ => fun
  | [d1, d2] => { results := [.lit (.bool true)], args := [d1, d2] }
  | _ => none }
def stackDoesRow : OpenClaim := { program := "ytpfpjdeaocbnfaa", sum := "1901d7be17be0e3eaf2c48f401e1b8498469ac8d09b8aba613191cd8df537c3a", func := "tinder/tinderlaw03.StackDoes", spec := "stackDoes", apart := false }
def StackDoesSaid : Prop := stackDoesRow.holds Try.pinned (OpenSpec.ofChange stackDoesSpec)

/-- ITS FALSE NEIGHBOUR: 'it returns false'. Refute it at one input. -/
def stackDoesWrong : ChangeSpec := { name := "stackDoes", fn := fun _ => fun
  | [d1, d2] => { results := [.lit (.bool false)], args := [d1, d2] }
  | _ => none }
def StackDoesWrongFalsely : Prop := stackDoesRow.holds Try.pinned (OpenSpec.ofChange stackDoesWrong)

/-- 'tinderlaw03.StackPushes': WHATEVER THE INPUT: true; the input reads as it did. -/
def stackPushesSpec : ChangeSpec := { name := "stackPushes", fn := fun _ => fun
  | [d1, d2] => { results := [.lit (.bool true)], args := [d1, d2] }
  | _ => none }
def stackPushesRow : OpenClaim := { program := "ytpfpjdeaocbnfaa", sum := "1901d7be17be0e3eaf2c48f401e1b8498469ac8d09b8aba613191cd8df537c3a", func := "tinder/tinderlaw03.StackPushes", spec := "stackPushes", apart := false }
def StackPushesSaid : Prop := stackPushesRow.holds Try.pinned (OpenSpec.ofChange stackPushesSpec)

/-- ITS FALSE NEIGHBOUR: 'it returns false'. Refute it at one input. -/
def stackPushesWrong : ChangeSpec := { name := "stackPushes", fn := fun _ => fun
  | [d1, d2] => { results := [.lit (.bool false)], args := [d1, d2] }
  | _ => none }
def StackPushesWrongFalsely : Prop := stackPushesRow.holds Try.pinned (OpenSpec.ofChange stackPushesWrong)

/-- 'tinderlaw03.StackPops': WHATEVER THE INPUT: true; the input reads as it did. -/
def stackPopsSpec : ChangeSpec := { name := "stackPops", fn := fun _ => fun
  | [d1, d2] => { results := [.lit (.bool true)], args := [d1, d2] }
  | _ => none }
def stackPopsRow : OpenClaim := { program := "ytpfpjdeaocbnfaa", sum := "1901d7be17be0e3eaf2c48f401e1b8498469ac8d09b8aba613191cd8df537c3a", func := "tinder/tinderlaw03.StackPops", spec := "stackPops", apart := false }
def StackPopsSaid : Prop := stackPopsRow.holds Try.pinned (OpenSpec.ofChange stackPopsSpec)

/-- ITS FALSE NEIGHBOUR: 'it returns false'. Refute it at one input. -/
def stackPopsWrong : ChangeSpec := { name := "stackPops", fn := fun _ => fun
  | [d1, d2] => { results := [.lit (.bool false)], args := [d1, d2] }
  | _ => none }
def StackPopsWrongFalsely : Prop := stackPopsRow.holds Try.pinned (OpenSpec.ofChange stackPopsWrong)

/-- 'tinderlaw03.StackTurns': WHATEVER THE INPUT: true; the input reads as it did. -/
def stackTurnsSpec : ChangeSpec := { name := "stackTurns", fn := fun _ => fun
  | [d1, d2] => { results := [.lit (.bool true)], args := [d1, d2] }
  | _ => none }
def stackTurnsRow : OpenClaim := { program := "ytpfpjdeaocbnfaa", sum := "1901d7be17be0e3eaf2c48f401e1b8498469ac8d09b8aba613191cd8df537c3a", func := "tinder/tinderlaw03.StackTurns", spec := "stackTurns", apart := false }
def StackTurnsSaid : Prop := stackTurnsRow.holds Try.pinned (OpenSpec.ofChange stackTurnsSpec)

/-- ITS FALSE NEIGHBOUR: 'it returns false'. Refute it at one input. -/
def stackTurnsWrong : ChangeSpec := { name := "stackTurns", fn := fun _ => fun
  | [d1, d2] => { results := [.lit (.bool false)], args := [d1, d2] }
  | _ => none }
def StackTurnsWrongFalsely : Prop := stackTurnsRow.holds Try.pinned (OpenSpec.ofChange stackTurnsWrong)

/-- 'tinderlaw03.StackBelow': WHATEVER THE INPUT: true; the input reads as it did. -/
def stackBelowSpec : ChangeSpec := { name := "stackBelow", fn := fun _ => fun
  | [d1, d2, d3] => { results := [.lit (.bool true)], args := [d1, d2, d3] }
  | _ => none }
def stackBelowRow : OpenClaim := { program := "ytpfpjdeaocbnfaa", sum := "1901d7be17be0e3eaf2c48f401e1b8498469ac8d09b8aba613191cd8df537c3a", func := "tinder/tinderlaw03.StackBelow", spec := "stackBelow", apart := false }
def StackBelowSaid : Prop := stackBelowRow.holds Try.pinned (OpenSpec.ofChange stackBelowSpec)

/-- ITS FALSE NEIGHBOUR: 'it returns false'. Refute it at one input. -/
def stackBelowWrong : ChangeSpec := { name := "stackBelow", fn := fun _ => fun
  | [d1, d2, d3] => { results := [.lit (.bool false)], args := [d1, d2, d3] }
  | _ => none }
def StackBelowWrongFalsely : Prop := stackBelowRow.holds Try.pinned (OpenSpec.ofChange stackBelowWrong)

/- THE SECOND FORM. 'bulk': how many values and letters a reading holds, each counted each time it is reached (what is shared counts as often as it is met; a slice's spare places count too). A statement '..UptoSaid' is the law's where the arguments, and the package variables that the reading takes, are together of bulk at most 1048576: NARROWER than '..Said'. Prove '..Said' where nothing that the law and all that it calls make is longer than what came in: it says more and counts as full. Else prove '..UptoSaid'. A law counts once. -/
mutual
def uptoBulk {H : Type} : DataW H → Nat
  | .lit (.string bytes) => bytes.length + 1
  | .lit _ => 1
  | .nil => 1
  | .ptr d => uptoBulk d + 1
  | .slice elems spare => uptoBulkAll elems + uptoBulkAll spare + 1
  | .agg parts => uptoBulkAll parts + 1
  | .iface _ d => uptoBulk d + 1
  | .map entries => uptoBulkEntries entries + 1
  | .held _ => 1
def uptoBulkAll {H : Type} : List (DataW H) → Nat
  | [] => 0
  | d :: r => uptoBulk d + uptoBulkAll r
def uptoBulkEntries {H : Type} : List (Lit × DataW H) → Nat
  | [] => 0
  | x :: r => uptoBulkEntry x + uptoBulkEntries r
def uptoBulkEntry {H : Type} : Lit × DataW H → Nat
  | (.string bytes, d) => bytes.length + uptoBulk d + 1
  | (_, d) => uptoBulk d + 1
 end
def uptoSmall : (H : Type) → List (DataW H) → Bool := fun _ ds => decide (uptoBulkAll ds ≤ 1048576)
def OpenSpec.upto (s : _root_.Go.ChangeSpec) : _root_.Go.OpenSpec := { _root_.Go.OpenSpec.ofChange s with cond := some uptoSmall }

/-- 'tinderlaw03.StackDoes', WHERE WHAT IT READS IS OF BULK AT MOST 1048576: true; the input reads as it did. -/
def stackDoesUptoRow : OpenClaim := { program := "ytpfpjdeaocbnfaa", sum := "1901d7be17be0e3eaf2c48f401e1b8498469ac8d09b8aba613191cd8df537c3a", func := "tinder/tinderlaw03.StackDoes", spec := "stackDoes", apart := false, narrowed := true }
def StackDoesUptoSaid : Prop := stackDoesUptoRow.holds Try.pinned (OpenSpec.upto stackDoesSpec)

/-- 'tinderlaw03.StackPushes', WHERE WHAT IT READS IS OF BULK AT MOST 1048576: true; the input reads as it did. -/
def stackPushesUptoRow : OpenClaim := { program := "ytpfpjdeaocbnfaa", sum := "1901d7be17be0e3eaf2c48f401e1b8498469ac8d09b8aba613191cd8df537c3a", func := "tinder/tinderlaw03.StackPushes", spec := "stackPushes", apart := false, narrowed := true }
def StackPushesUptoSaid : Prop := stackPushesUptoRow.holds Try.pinned (OpenSpec.upto stackPushesSpec)

/-- 'tinderlaw03.StackPops', WHERE WHAT IT READS IS OF BULK AT MOST 1048576: true; the input reads as it did. -/
def stackPopsUptoRow : OpenClaim := { program := "ytpfpjdeaocbnfaa", sum := "1901d7be17be0e3eaf2c48f401e1b8498469ac8d09b8aba613191cd8df537c3a", func := "tinder/tinderlaw03.StackPops", spec := "stackPops", apart := false, narrowed := true }
def StackPopsUptoSaid : Prop := stackPopsUptoRow.holds Try.pinned (OpenSpec.upto stackPopsSpec)

/-- 'tinderlaw03.StackTurns', WHERE WHAT IT READS IS OF BULK AT MOST 1048576: true; the input reads as it did. -/
def stackTurnsUptoRow : OpenClaim := { program := "ytpfpjdeaocbnfaa", sum := "1901d7be17be0e3eaf2c48f401e1b8498469ac8d09b8aba613191cd8df537c3a", func := "tinder/tinderlaw03.StackTurns", spec := "stackTurns", apart := false, narrowed := true }
def StackTurnsUptoSaid : Prop := stackTurnsUptoRow.holds Try.pinned (OpenSpec.upto stackTurnsSpec)

/-- 'tinderlaw03.StackBelow', WHERE WHAT IT READS IS OF BULK AT MOST 1048576: true; the input reads as it did. -/
def stackBelowUptoRow : OpenClaim := { program := "ytpfpjdeaocbnfaa", sum := "1901d7be17be0e3eaf2c48f401e1b8498469ac8d09b8aba613191cd8df537c3a", func := "tinder/tinderlaw03.StackBelow", spec := "stackBelow", apart := false, narrowed := true }
def StackBelowUptoSaid : Prop := stackBelowUptoRow.holds Try.pinned (OpenSpec.upto stackBelowSpec)

end Rows
end Go.Proofs.Ytpfpjdeaocbnfaa
