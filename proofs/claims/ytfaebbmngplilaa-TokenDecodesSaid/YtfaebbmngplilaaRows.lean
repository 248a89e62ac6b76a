/-
  No cell of these rows narrows 'for every input' (looked for: loops, veiled, ifaces, maps, wideKeys, modest, calm, conditions, laid).
  DERIVED. THE GIVEN ROWS OF THIS SEAT. 6 by the template 'for every input the law returns true; each argument reads behind the call as it read before'; 0 by the template 'total and deterministic' (their statements: YtfaebbmngplilaaTotals.lean).
  GIVEN WITH THE SEED: the statements are not yours to turn. If you find one false, say at which input.
  Laid BY PROGRAM, IN A SANDBOX (cutbox-rows.mjs): the forced cells as the released guide's own fill.sh prints them over the translation 26728fcc1dfd23eb… (all of the seat's roots in one cut). By AI agents, Wed Nov 11 2026. No macro, syntax, notation, axiom, sorry.
-/
import Derived.Test.YtfaebbmngplilaaChecked
import GoSem.Claim
import GoSem.ClaimJoined
import GoSem.ClaimMapViews
import Derived.JoinedTies
import Derived.KernelRfl
namespace Go.Proofs.Ytfaebbmngplilaa
/- THE CELL 'sum', in the pinned program and in every row, IS THE sha256 OF THE DUMP (.gsa) THAT YtfaebbmngplilaaProg.lean LOADS. Nothing in Lean hashes anything: it is a label: what it is worth is what the hold of that sum in a sandbox is worth. -/
noncomputable def Try.pinned : Pinned := { name := "ytfaebbmngplilaa", sum := "26728fcc1dfd23eba1267f49f5922f13675d54f0ef6b661bb342676751540f6c", checked := Try.checked }
namespace Rows
def none {H : Type} : Left H := { results := [], args := [] }

/-- 'tinderlaw13.TokenDecodes': WHATEVER THE INPUT: true; the input reads as it did. -/
def tokenDecodesSpec : ChangeSpec := { name := "tokenDecodes", fn := fun _ => fun
  | [d1, d2] => { results := [.lit (.bool true)], args := [d1, d2] }
  | _ => none }
def tokenDecodesRow : OpenClaim := { program := "ytfaebbmngplilaa", sum := "26728fcc1dfd23eba1267f49f5922f13675d54f0ef6b661bb342676751540f6c", func := "tinder/tinderlaw13.TokenDecodes", spec := "tokenDecodes", apart := false }
def TokenDecodesSaid : Prop := tokenDecodesRow.holds Try.pinned (OpenSpec.ofChange tokenDecodesSpec)

/-- ITS FALSE NEIGHBOUR: 'it returns false'. Refute it at one input. -/
def tokenDecodesWrong : ChangeSpec := { name := "tokenDecodes", fn := fun _ => fun
  | [d1, d2] => { results := [.lit (.bool false)], args := [d1, d2] }
  | _ => none }
def TokenDecodesWrongFalsely : Prop := tokenDecodesRow.holds Try.pinned (OpenSpec.ofChange tokenDecodesWrong)

/-- 'tinderlaw13.TokenJoins': WHATEVER THE INPUT: true; the input reads as it did. -/
def tokenJoinsSpec : ChangeSpec := { name := "tokenJoins", fn := fun _ => fun
  | [d1, d2, d3] => { results := [.lit (.bool true)], args := [d1, d2, d3] }
  | _ => none }
def tokenJoinsRow : OpenClaim := { program := "ytfaebbmngplilaa", sum := "26728fcc1dfd23eba1267f49f5922f13675d54f0ef6b661bb342676751540f6c", func := "tinder/tinderlaw13.TokenJoins", spec := "tokenJoins", apart := false }
def TokenJoinsSaid : Prop := tokenJoinsRow.holds Try.pinned (OpenSpec.ofChange tokenJoinsSpec)

/-- ITS FALSE NEIGHBOUR: 'it returns false'. Refute it at one input. -/
def tokenJoinsWrong : ChangeSpec := { name := "tokenJoins", fn := fun _ => fun
  | [d1, d2, d3] => { results := [.lit (.bool false)], args := [d1, d2, d3] }
  | _ => none }
def TokenJoinsWrongFalsely : Prop := tokenJoinsRow.holds Try.pinned (OpenSpec.ofChange tokenJoinsWrong)

/-- 'tinderlaw13.TokenEncodes': WHATEVER THE INPUT: true; the input reads as it did. -/
def tokenEncodesSpec : ChangeSpec := { name := "tokenEncodes", fn := fun _ => fun
  | [d1, d2] => { results := [.lit (.bool true)], args := [d1, d2] }
  | _ => none }
def tokenEncodesRow : OpenClaim := { program := "ytfaebbmngplilaa", sum := "26728fcc1dfd23eba1267f49f5922f13675d54f0ef6b661bb342676751540f6c", func := "tinder/tinderlaw13.TokenEncodes", spec := "tokenEncodes", apart := false }
def TokenEncodesSaid : Prop := tokenEncodesRow.holds Try.pinned (OpenSpec.ofChange tokenEncodesSpec)

/-- ITS FALSE NEIGHBOUR: 'it returns false'. Refute it at one input. -/
def tokenEncodesWrong : ChangeSpec := { name := "tokenEncodes", fn := fun _ => fun
  | [d1, d2] => { results := [.lit (.bool false)], args := [d1, d2] }
  | _ => none }
def TokenEncodesWrongFalsely : Prop := tokenEncodesRow.holds Try.pinned (OpenSpec.ofChange tokenEncodesWrong)

/-- 'tinderlaw13.TokenSizes': WHATEVER THE INPUT: true; the input reads as it did. -/
def tokenSizesSpec : ChangeSpec := { name := "tokenSizes", fn := fun _ => fun
  | [d1, d2] => { results := [.lit (.bool true)], args := [d1, d2] }
  | _ => none }
def tokenSizesRow : OpenClaim := { program := "ytfaebbmngplilaa", sum := "26728fcc1dfd23eba1267f49f5922f13675d54f0ef6b661bb342676751540f6c", func := "tinder/tinderlaw13.TokenSizes", spec := "tokenSizes", apart := false }
def TokenSizesSaid : Prop := tokenSizesRow.holds Try.pinned (OpenSpec.ofChange tokenSizesSpec)

/-- ITS FALSE NEIGHBOUR: 'it returns false'. Refute it at one input. -/
def tokenSizesWrong : ChangeSpec := { name := "tokenSizes", fn := fun _ => fun
  | [d1, d2] => { results := [.lit (.bool false)], args := [d1, d2] }
  | _ => none }
def TokenSizesWrongFalsely : Prop := tokenSizesRow.holds Try.pinned (OpenSpec.ofChange tokenSizesWrong)

/-- 'tinderlaw13.TokenBack': WHATEVER THE INPUT: true; the input reads as it did. -/
def tokenBackSpec : ChangeSpec := { name := "tokenBack", fn := fun _ => fun
  | [d1, d2] => { results := [.lit (.bool true)], args := [d1, d2] }
  | _ => none }
def tokenBackRow : OpenClaim := { program := "ytfaebbmngplilaa", sum := "26728fcc1dfd23eba1267f49f5922f13675d54f0ef6b661bb342676751540f6c", func := "tinder/tinderlaw13.TokenBack", spec := "tokenBack", apart := false }
def TokenBackSaid : Prop := tokenBackRow.holds Try.pinned (OpenSpec.ofChange tokenBackSpec)

/-- ITS FALSE NEIGHBOUR: 'it returns false'. Refute it at one input. -/
def tokenBackWrong : ChangeSpec := { name := "tokenBack", fn := fun _ => fun
  | [d1, d2] => { results := [.lit (.bool false)], args := [d1, d2] }
  | _ => none }
def TokenBackWrongFalsely : Prop := tokenBackRow.holds Try.pinned (OpenSpec.ofChange tokenBackWrong)

/-- 'tinderlaw13.TokenAgain': WHATEVER THE INPUT: true; the input reads as it did. -/
def tokenAgainSpec : ChangeSpec := { name := "tokenAgain", fn := fun _ => fun
  | [d1, d2] => { results := [.lit (.bool true)], args := [d1, d2] }
  | _ => none }
def tokenAgainRow : OpenClaim := { program := "ytfaebbmngplilaa", sum := "26728fcc1dfd23eba1267f49f5922f13675d54f0ef6b661bb342676751540f6c", func := "tinder/tinderlaw13.TokenAgain", spec := "tokenAgain", apart := false }
def TokenAgainSaid : Prop := tokenAgainRow.holds Try.pinned (OpenSpec.ofChange tokenAgainSpec)

/-- ITS FALSE NEIGHBOUR: 'it returns false'. Refute it at one input. -/
def tokenAgainWrong : ChangeSpec := { name := "tokenAgain", fn := fun _ => fun
  | [d1, d2] => { results := [.lit (.bool false)], args := [d1, d2] }
  | _ => none }
def TokenAgainWrongFalsely : Prop := tokenAgainRow.holds Try.pinned (OpenSpec.ofChange tokenAgainWrong)

/- THE SECOND FORM. 'bulk': how many values and letters a reading holds, each counted each time it is reached (what is shared counts as often as it is met; a slice's spare places count too). A statement '..UptoSaid' is the law's where the arguments, and the package variables that the reading takes, are together of bulk at most 1048576: NARROWER than '..Said'. Prove '..Said' where nothing that the law and all that it calls make is longer than what came in: it says more and counts as full. Else prove '..UptoSaid'. A law counts once. -/
mutual
def uptoBulk {H : Type} : DataW H → Nat
  | .lit (.string bytes) => bytes.length + 1
  | .lit _ => 1
  | .nil => 1
  | .ptr d => uptoBulk d + 1
  | .slice elems spare => uptoBulkAll elems + uptoBulkAll spare + 1
  | .agg parts => uptoBulkAll parts + 1
  | .iface _ d => uptoBulk d + 1
  | .map entries => uptoBulkEntries entries + 1
  | .held _ => 1
def uptoBulkAll {H : Type} : List (DataW H) → Nat
  | [] => 0
  | d :: r => uptoBulk d + uptoBulkAll r
def uptoBulkEntries {H : Type} : List (Lit × DataW H) → Nat
  | [] => 0
  | x :: r => uptoBulkEntry x + uptoBulkEntries r
def uptoBulkEntry {H : Type} : Lit × DataW H → Nat
  | (.string bytes, d) => bytes.length + uptoBulk d + 1
  | (_, d) => uptoBulk d + 1
 end
def uptoSmall : (H : Type) → List (DataW H) → Bool := fun _ ds => decide (uptoBulkAll ds ≤ 1048576)
def OpenSpec.upto (s : _root_.Go.ChangeSpec) : _root_.Go.OpenSpec := { _root_.Go.OpenSpec.ofChange s with cond := some uptoSmall }

/-- 'tinderlaw13.TokenDecodes', WHERE WHAT IT READS IS OF BULK AT MOST 1048576: true; the input reads as it did. -/
def tokenDecodesUptoRow : OpenClaim := { program := "ytfaebbmngplilaa", sum := "26728fcc1dfd23eba1267f49f5922f13675d54f0ef6b661bb342676751540f6c", func := "tinder/tinderlaw13.TokenDecodes", spec := "tokenDecodes", apart := false, narrowed := true }
def TokenDecodesUptoSaid : Prop := tokenDecodesUptoRow.holds Try.pinned (OpenSpec.upto tokenDecodesSpec)

/-- 'tinderlaw13.TokenJoins', WHERE WHAT IT READS IS OF BULK AT MOST 1048576: true; the input reads as it did. -/
def tokenJoinsUptoRow : OpenClaim := { program := "ytfaebbmngplilaa", sum := "26728fcc1dfd23eba1267f49f5922f13675d54f0ef6b661bb342676751540f6c", func := "tinder/tinderlaw13.TokenJoins", spec := "tokenJoins", apart := false, narrowed := true }
def TokenJoinsUptoSaid : Prop := tokenJoinsUptoRow.holds Try.pinned (OpenSpec.upto tokenJoinsSpec)

/-- 'tinderlaw13.TokenEncodes', WHERE WHAT IT READS IS OF BULK AT MOST 1048576: true; the input reads as it did. -/
def tokenEncodesUptoRow : OpenClaim := { program := "ytfaebbmngplilaa", sum := "26728fcc1dfd23eba1267f49f5922f13675d54f0ef6b661bb342676751540f6c", func := "tinder/tinderlaw13.TokenEncodes", spec := "tokenEncodes", apart := false, narrowed := true }
def TokenEncodesUptoSaid : Prop := tokenEncodesUptoRow.holds Try.pinned (OpenSpec.upto tokenEncodesSpec)

/-- 'tinderlaw13.TokenSizes', WHERE WHAT IT READS IS OF BULK AT MOST 1048576: true; the input reads as it did. -/
def tokenSizesUptoRow : OpenClaim := { program := "ytfaebbmngplilaa", sum := "26728fcc1dfd23eba1267f49f5922f13675d54f0ef6b661bb342676751540f6c", func := "tinder/tinderlaw13.TokenSizes", spec := "tokenSizes", apart := false, narrowed := true }
def TokenSizesUptoSaid : Prop := tokenSizesUptoRow.holds Try.pinned (OpenSpec.upto tokenSizesSpec)

/-- 'tinderlaw13.TokenBack', WHERE WHAT IT READS IS OF BULK AT MOST 1048576: true; the input reads as it did. -/
def tokenBackUptoRow : OpenClaim := { program := "ytfaebbmngplilaa", sum := "26728fcc1dfd23eba1267f49f5922f13675d54f0ef6b661bb342676751540f6c", func := "tinder/tinderlaw13.TokenBack", spec := "tokenBack", apart := false, narrowed := true }
def TokenBackUptoSaid : Prop := tokenBackUptoRow.holds Try.pinned (OpenSpec.upto tokenBackSpec)

/-- 'tinderlaw13.TokenAgain', WHERE WHAT IT READS IS OF BULK AT MOST 1048576: true; the input reads as it did. -/
def tokenAgainUptoRow : OpenClaim := { program := "ytfaebbmngplilaa", sum := "26728fcc1dfd23eba1267f49f5922f13675d54f0ef6b661bb342676751540f6c", func := "tinder/tinderlaw13.TokenAgain", spec := "tokenAgain", apart := false, narrowed := true }
def TokenAgainUptoSaid : Prop := tokenAgainUptoRow.holds Try.pinned (OpenSpec.upto tokenAgainSpec)

end Rows
end Go.Proofs.Ytfaebbmngplilaa
