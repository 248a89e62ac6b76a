/-
  No cell of these rows narrows 'for every input' (looked for: loops, veiled, ifaces, maps, wideKeys, modest, calm, conditions, laid).
  DERIVED. THE GIVEN ROWS OF THIS SEAT. 6 by the template 'for every input the law returns true; each argument reads behind the call as it read before'; 0 by the template 'total and deterministic' (their statements: YtngfijkageapgaaTotals.lean).
  GIVEN WITH THE SEED: the statements are not yours to turn. If you find one false, say at which input.
  Laid BY PROGRAM, IN A SANDBOX (cutbox-rows.mjs): the forced cells as the released guide's own fill.sh prints them over the translation fdb59639519aae59… (all of the seat's roots in one cut). By AI agents, Wed Nov 11 2026. No macro, syntax, notation, axiom, sorry.
-/
import Derived.Test.YtngfijkageapgaaChecked
import GoSem.Claim
import GoSem.ClaimJoined
import GoSem.ClaimMapViews
import Derived.JoinedTies
import Derived.KernelRfl
namespace Go.Proofs.Ytngfijkageapgaa
/- THE CELL 'sum', in the pinned program and in every row, IS THE sha256 OF THE DUMP (.gsa) THAT YtngfijkageapgaaProg.lean LOADS. Nothing in Lean hashes anything: it is a label: what it is worth is what the hold of that sum in a sandbox is worth. -/
noncomputable def Try.pinned : Pinned := { name := "ytngfijkageapgaa", sum := "fdb59639519aae59328ee78158268bbab41cbf7ba80c817870b959640020f43c", checked := Try.checked }
namespace Rows
def none {H : Type} : Left H := { results := [], args := [] }

/-- 'tinderlaw22.ScreenPlaces': WHATEVER THE INPUT: true; the input reads as it did. -/
def screenPlacesSpec : ChangeSpec := { name := "screenPlaces", fn := fun _ => fun
  | [d1, d2, d3] => { results := [.lit (.bool true)], args := [d1, d2, d3] }
  | _ => none }
def screenPlacesRow : OpenClaim := { program := "ytngfijkageapgaa", sum := "fdb59639519aae59328ee78158268bbab41cbf7ba80c817870b959640020f43c", func := "tinder/tinderlaw22.ScreenPlaces", spec := "screenPlaces", unfollowed := true, recurses := true, apart := false }
def ScreenPlacesSaid : Prop := screenPlacesRow.holds Try.pinned (OpenSpec.ofChange screenPlacesSpec)

/-- ITS FALSE NEIGHBOUR: 'it returns false'. Refute it at one input. -/
def screenPlacesWrong : ChangeSpec := { name := "screenPlaces", fn := fun _ => fun
  | [d1, d2, d3] => { results := [.lit (.bool false)], args := [d1, d2, d3] }
  | _ => none }
def ScreenPlacesWrongFalsely : Prop := screenPlacesRow.holds Try.pinned (OpenSpec.ofChange screenPlacesWrong)

/-- 'tinderlaw22.ScreenRound': WHATEVER THE INPUT: true; the input reads as it did. -/
def screenRoundSpec : ChangeSpec := { name := "screenRound", fn := fun _ => fun
  | [d1, d2, d3] => { results := [.lit (.bool true)], args := [d1, d2, d3] }
  | _ => none }
def screenRoundRow : OpenClaim := { program := "ytngfijkageapgaa", sum := "fdb59639519aae59328ee78158268bbab41cbf7ba80c817870b959640020f43c", func := "tinder/tinderlaw22.ScreenRound", spec := "screenRound", unfollowed := true, recurses := true, apart := false }
def ScreenRoundSaid : Prop := screenRoundRow.holds Try.pinned (OpenSpec.ofChange screenRoundSpec)

/-- ITS FALSE NEIGHBOUR: 'it returns false'. Refute it at one input. -/
def screenRoundWrong : ChangeSpec := { name := "screenRound", fn := fun _ => fun
  | [d1, d2, d3] => { results := [.lit (.bool false)], args := [d1, d2, d3] }
  | _ => none }
def ScreenRoundWrongFalsely : Prop := screenRoundRow.holds Try.pinned (OpenSpec.ofChange screenRoundWrong)

/-- 'tinderlaw22.ScreenDraws': WHATEVER THE INPUT: true; the input reads as it did. -/
def screenDrawsSpec : ChangeSpec := { name := "screenDraws", fn := fun _ => fun
  | [d1, d2, d3] => { results := [.lit (.bool true)], args := [d1, d2, d3] }
  | _ => none }
def screenDrawsRow : OpenClaim := { program := "ytngfijkageapgaa", sum := "fdb59639519aae59328ee78158268bbab41cbf7ba80c817870b959640020f43c", func := "tinder/tinderlaw22.ScreenDraws", spec := "screenDraws", unfollowed := true, recurses := true, apart := false }
def ScreenDrawsSaid : Prop := screenDrawsRow.holds Try.pinned (OpenSpec.ofChange screenDrawsSpec)

/-- ITS FALSE NEIGHBOUR: 'it returns false'. Refute it at one input. -/
def screenDrawsWrong : ChangeSpec := { name := "screenDraws", fn := fun _ => fun
  | [d1, d2, d3] => { results := [.lit (.bool false)], args := [d1, d2, d3] }
  | _ => none }
def ScreenDrawsWrongFalsely : Prop := screenDrawsRow.holds Try.pinned (OpenSpec.ofChange screenDrawsWrong)

/-- 'tinderlaw22.ScreenMirrors': WHATEVER THE INPUT: true; the input reads as it did. -/
def screenMirrorsSpec : ChangeSpec := { name := "screenMirrors", fn := fun _ => fun
  | [d1, d2] => { results := [.lit (.bool true)], args := [d1, d2] }
  | _ => none }
def screenMirrorsRow : OpenClaim := { program := "ytngfijkageapgaa", sum := "fdb59639519aae59328ee78158268bbab41cbf7ba80c817870b959640020f43c", func := "tinder/tinderlaw22.ScreenMirrors", spec := "screenMirrors", unfollowed := true, recurses := true, apart := false }
def ScreenMirrorsSaid : Prop := screenMirrorsRow.holds Try.pinned (OpenSpec.ofChange screenMirrorsSpec)

/-- ITS FALSE NEIGHBOUR: 'it returns false'. Refute it at one input. -/
def screenMirrorsWrong : ChangeSpec := { name := "screenMirrors", fn := fun _ => fun
  | [d1, d2] => { results := [.lit (.bool false)], args := [d1, d2] }
  | _ => none }
def ScreenMirrorsWrongFalsely : Prop := screenMirrorsRow.holds Try.pinned (OpenSpec.ofChange screenMirrorsWrong)

/-- 'tinderlaw22.ScreenTurns': WHATEVER THE INPUT: true; the input reads as it did. -/
def screenTurnsSpec : ChangeSpec := { name := "screenTurns", fn := fun _ => fun
  | [d1, d2] => { results := [.lit (.bool true)], args := [d1, d2] }
  | _ => none }
def screenTurnsRow : OpenClaim := { program := "ytngfijkageapgaa", sum := "fdb59639519aae59328ee78158268bbab41cbf7ba80c817870b959640020f43c", func := "tinder/tinderlaw22.ScreenTurns", spec := "screenTurns", unfollowed := true, recurses := true, apart := false }
def ScreenTurnsSaid : Prop := screenTurnsRow.holds Try.pinned (OpenSpec.ofChange screenTurnsSpec)

/-- ITS FALSE NEIGHBOUR: 'it returns false'. Refute it at one input. -/
def screenTurnsWrong : ChangeSpec := { name := "screenTurns", fn := fun _ => fun
  | [d1, d2] => { results := [.lit (.bool false)], args := [d1, d2] }
  | _ => none }
def ScreenTurnsWrongFalsely : Prop := screenTurnsRow.holds Try.pinned (OpenSpec.ofChange screenTurnsWrong)

/-- 'tinderlaw22.ScreenDrawn': WHATEVER THE INPUT: true; the input reads as it did. -/
def screenDrawnSpec : ChangeSpec := { name := "screenDrawn", fn := fun _ => fun
  | [d1, d2, d3] => { results := [.lit (.bool true)], args := [d1, d2, d3] }
  | _ => none }
def screenDrawnRow : OpenClaim := { program := "ytngfijkageapgaa", sum := "fdb59639519aae59328ee78158268bbab41cbf7ba80c817870b959640020f43c", func := "tinder/tinderlaw22.ScreenDrawn", spec := "screenDrawn", unfollowed := true, recurses := true, apart := false }
def ScreenDrawnSaid : Prop := screenDrawnRow.holds Try.pinned (OpenSpec.ofChange screenDrawnSpec)

/-- ITS FALSE NEIGHBOUR: 'it returns false'. Refute it at one input. -/
def screenDrawnWrong : ChangeSpec := { name := "screenDrawn", fn := fun _ => fun
  | [d1, d2, d3] => { results := [.lit (.bool false)], args := [d1, d2, d3] }
  | _ => none }
def ScreenDrawnWrongFalsely : Prop := screenDrawnRow.holds Try.pinned (OpenSpec.ofChange screenDrawnWrong)

/- THE SECOND FORM. 'bulk': how many values and letters a reading holds, each counted each time it is reached (what is shared counts as often as it is met; a slice's spare places count too). A statement '..UptoSaid' is the law's where the arguments, and the package variables that the reading takes, are together of bulk at most 1048576: NARROWER than '..Said'. Prove '..Said' where nothing that the law and all that it calls make is longer than what came in: it says more and counts as full. Else prove '..UptoSaid'. A law counts once. -/
mutual
def uptoBulk {H : Type} : DataW H → Nat
  | .lit (.string bytes) => bytes.length + 1
  | .lit _ => 1
  | .nil => 1
  | .ptr d => uptoBulk d + 1
  | .slice elems spare => uptoBulkAll elems + uptoBulkAll spare + 1
  | .agg parts => uptoBulkAll parts + 1
  | .iface _ d => uptoBulk d + 1
  | .map entries => uptoBulkEntries entries + 1
  | .held _ => 1
def uptoBulkAll {H : Type} : List (DataW H) → Nat
  | [] => 0
  | d :: r => uptoBulk d + uptoBulkAll r
def uptoBulkEntries {H : Type} : List (Lit × DataW H) → Nat
  | [] => 0
  | x :: r => uptoBulkEntry x + uptoBulkEntries r
def uptoBulkEntry {H : Type} : Lit × DataW H → Nat
  | (.string bytes, d) => bytes.length + uptoBulk d + 1
  | (_, d) => uptoBulk d + 1
 end
def uptoSmall : (H : Type) → List (DataW H) → Bool := fun _ ds => decide (uptoBulkAll ds ≤ 1048576)
def OpenSpec.upto (s : _root_.Go.ChangeSpec) : _root_.Go.OpenSpec := { _root_.Go.OpenSpec.ofChange s with cond := some uptoSmall }

/-- 'tinderlaw22.ScreenPlaces', WHERE WHAT IT READS IS OF BULK AT MOST 1048576: true; the input reads as it did. -/
def screenPlacesUptoRow : OpenClaim := { program := "ytngfijkageapgaa", sum := "fdb59639519aae59328ee78158268bbab41cbf7ba80c817870b959640020f43c", func := "tinder/tinderlaw22.ScreenPlaces", spec := "screenPlaces", unfollowed := true, recurses := true, apart := false, narrowed := true }
def ScreenPlacesUptoSaid : Prop := screenPlacesUptoRow.holds Try.pinned (OpenSpec.upto screenPlacesSpec)

/-- 'tinderlaw22.ScreenRound', WHERE WHAT IT READS IS OF BULK AT MOST 1048576: true; the input reads as it did. -/
def screenRoundUptoRow : OpenClaim := { program := "ytngfijkageapgaa", sum := "fdb59639519aae59328ee78158268bbab41cbf7ba80c817870b959640020f43c", func := "tinder/tinderlaw22.ScreenRound", spec := "screenRound", unfollowed := true, recurses := true, apart := false, narrowed := true }
def ScreenRoundUptoSaid : Prop := screenRoundUptoRow.holds Try.pinned (OpenSpec.upto screenRoundSpec)

/-- 'tinderlaw22.ScreenDraws', WHERE WHAT IT READS IS OF BULK AT MOST 1048576: true; the input reads as it did. -/
def screenDrawsUptoRow : OpenClaim := { program := "ytngfijkageapgaa", sum := "fdb59639519aae59328ee78158268bbab41cbf7ba80c817870b959640020f43c", func := "tinder/tinderlaw22.ScreenDraws", spec := "screenDraws", unfollowed := true, recurses := true, apart := false, narrowed := true }
def ScreenDrawsUptoSaid : Prop := screenDrawsUptoRow.holds Try.pinned (OpenSpec.upto screenDrawsSpec)

/-- 'tinderlaw22.ScreenMirrors', WHERE WHAT IT READS IS OF BULK AT MOST 1048576: true; the input reads as it did. -/
def screenMirrorsUptoRow : OpenClaim := { program := "ytngfijkageapgaa", sum := "fdb59639519aae59328ee78158268bbab41cbf7ba80c817870b959640020f43c", func := "tinder/tinderlaw22.ScreenMirrors", spec := "screenMirrors", unfollowed := true, recurses := true, apart := false, narrowed := true }
def ScreenMirrorsUptoSaid : Prop := screenMirrorsUptoRow.holds Try.pinned (OpenSpec.upto screenMirrorsSpec)

/-- 'tinderlaw22.ScreenTurns', WHERE WHAT IT READS IS OF BULK AT MOST 1048576: true; the input reads as it did. -/
def screenTurnsUptoRow : OpenClaim := { program := "ytngfijkageapgaa", sum := "fdb59639519aae59328ee78158268bbab41cbf7ba80c817870b959640020f43c", func := "tinder/tinderlaw22.ScreenTurns", spec := "screenTurns", unfollowed := true, recurses := true, apart := false, narrowed := true }
def ScreenTurnsUptoSaid : Prop := screenTurnsUptoRow.holds Try.pinned (OpenSpec.upto screenTurnsSpec)

/-- 'tinderlaw22.ScreenDrawn', WHERE WHAT IT READS IS OF BULK AT MOST 1048576: true; the input reads as it did. -/
def screenDrawnUptoRow : OpenClaim := { program := "ytngfijkageapgaa", sum := "fdb59639519aae59328ee78158268bbab41cbf7ba80c817870b959640020f43c", func := "tinder/tinderlaw22.ScreenDrawn", spec := "screenDrawn", unfollowed := true, recurses := true, apart := false, narrowed := true }
def ScreenDrawnUptoSaid : Prop := screenDrawnUptoRow.holds Try.pinned (OpenSpec.upto screenDrawnSpec)

end Rows
end Go.Proofs.Ytngfijkageapgaa
