/-
  No cell of these rows narrows 'for every input' (looked for: loops, veiled, ifaces, maps, wideKeys, modest, calm, conditions, laid).
  DERIVED. THE GIVEN ROWS OF THIS SEAT. 7 by the template 'for every input the law returns true; each argument reads behind the call as it read before'; 0 by the template 'total and deterministic' (their statements: YtlpohjpiipkpiaaTotals.lean).
  GIVEN WITH THE SEED: the statements are not yours to turn. If you find one false, say at which input.
  Laid BY PROGRAM, IN A SANDBOX (cutbox-rows.mjs): the forced cells as the released guide's own fill.sh prints them over the translation 67c58bad2b00b7b0… (all of the seat's roots in one cut). By AI agents, Wed Nov 11 2026. No macro, syntax, notation, axiom, sorry.
-/
import Derived.Test.YtlpohjpiipkpiaaChecked
import GoSem.Claim
import GoSem.ClaimJoined
import GoSem.ClaimMapViews
import Derived.JoinedTies
import Derived.KernelRfl
namespace Go.Proofs.Ytlpohjpiipkpiaa
/- THE CELL 'sum', in the pinned program and in every row, IS THE sha256 OF THE DUMP (.gsa) THAT YtlpohjpiipkpiaaProg.lean LOADS. Nothing in Lean hashes anything: it is a label: what it is worth is what the hold of that sum in a sandbox is worth. -/
noncomputable def Try.pinned : Pinned := { name := "ytlpohjpiipkpiaa", sum := "67c58bad2b00b7b06202e806c50d8b381fe9e481d0f65aff66d1b460c6ba13cd", checked := Try.checked }
namespace Rows
def none {H : Type} : Left H := { results := [], args := [] }

/-- 'tinderlaw04.MemAllots': WHATEVER THE INPUT: true; the input reads as it did. -/
def memAllotsSpec : ChangeSpec := { name := "memAllots", fn := fun _ => fun
  | [d1, d2] => { results := [.lit (.bool true)], args := [d1, d2] }
  | _ => none }
def memAllotsRow : OpenClaim := { program := "ytlpohjpiipkpiaa", sum := "67c58bad2b00b7b06202e806c50d8b381fe9e481d0f65aff66d1b460c6ba13cd", func := "tinder/tinderlaw04.MemAllots", spec := "memAllots", apart := false }
def MemAllotsSaid : Prop := memAllotsRow.holds Try.pinned (OpenSpec.ofChange memAllotsSpec)

/-- ITS FALSE NEIGHBOUR: 'it returns false'. Refute it at one input. -/
def memAllotsWrong : ChangeSpec := { name := "memAllots", fn := fun _ => fun
  | [d1, d2] => { results := [.lit (.bool false)], args := [d1, d2] }
  | _ => none }
def MemAllotsWrongFalsely : Prop := memAllotsRow.holds Try.pinned (OpenSpec.ofChange memAllotsWrong)

/-- 'tinderlaw04.MemCompares': WHATEVER THE INPUT: true; the input reads as it did. -/
def memComparesSpec : ChangeSpec := { name := "memCompares", fn := fun _ => fun
  | [d1, d2] => { results := [.lit (.bool true)], args := [d1, d2] }
  | _ => none }
def memComparesRow : OpenClaim := { program := "ytlpohjpiipkpiaa", sum := "67c58bad2b00b7b06202e806c50d8b381fe9e481d0f65aff66d1b460c6ba13cd", func := "tinder/tinderlaw04.MemCompares", spec := "memCompares", inPlace := ["internal/bytealg.Compare"], apart := false }
def MemComparesSaid : Prop := memComparesRow.holds Try.pinned (OpenSpec.ofChange memComparesSpec)

/-- ITS FALSE NEIGHBOUR: 'it returns false'. Refute it at one input. -/
def memComparesWrong : ChangeSpec := { name := "memCompares", fn := fun _ => fun
  | [d1, d2] => { results := [.lit (.bool false)], args := [d1, d2] }
  | _ => none }
def MemComparesWrongFalsely : Prop := memComparesRow.holds Try.pinned (OpenSpec.ofChange memComparesWrong)

/-- 'tinderlaw04.MemNumbers': WHATEVER THE INPUT: true; the input reads as it did. -/
def memNumbersSpec : ChangeSpec := { name := "memNumbers", fn := fun _ => fun
  | [d1, d2, d3] => { results := [.lit (.bool true)], args := [d1, d2, d3] }
  | _ => none }
def memNumbersRow : OpenClaim := { program := "ytlpohjpiipkpiaa", sum := "67c58bad2b00b7b06202e806c50d8b381fe9e481d0f65aff66d1b460c6ba13cd", func := "tinder/tinderlaw04.MemNumbers", spec := "memNumbers", apart := false }
def MemNumbersSaid : Prop := memNumbersRow.holds Try.pinned (OpenSpec.ofChange memNumbersSpec)

/-- ITS FALSE NEIGHBOUR: 'it returns false'. Refute it at one input. -/
def memNumbersWrong : ChangeSpec := { name := "memNumbers", fn := fun _ => fun
  | [d1, d2, d3] => { results := [.lit (.bool false)], args := [d1, d2, d3] }
  | _ => none }
def MemNumbersWrongFalsely : Prop := memNumbersRow.holds Try.pinned (OpenSpec.ofChange memNumbersWrong)

/-- 'tinderlaw04.MemTexts': WHATEVER THE INPUT: true; the input reads as it did. -/
def memTextsSpec : ChangeSpec := { name := "memTexts", fn := fun _ => fun
  | [d1, d2, d3] => { results := [.lit (.bool true)], args := [d1, d2, d3] }
  | _ => none }
def memTextsRow : OpenClaim := { program := "ytlpohjpiipkpiaa", sum := "67c58bad2b00b7b06202e806c50d8b381fe9e481d0f65aff66d1b460c6ba13cd", func := "tinder/tinderlaw04.MemTexts", spec := "memTexts", apart := false }
def MemTextsSaid : Prop := memTextsRow.holds Try.pinned (OpenSpec.ofChange memTextsSpec)

/-- ITS FALSE NEIGHBOUR: 'it returns false'. Refute it at one input. -/
def memTextsWrong : ChangeSpec := { name := "memTexts", fn := fun _ => fun
  | [d1, d2, d3] => { results := [.lit (.bool false)], args := [d1, d2, d3] }
  | _ => none }
def MemTextsWrongFalsely : Prop := memTextsRow.holds Try.pinned (OpenSpec.ofChange memTextsWrong)

/-- 'tinderlaw04.MemKeeps': WHATEVER THE INPUT: true; the input reads as it did. -/
def memKeepsSpec : ChangeSpec := { name := "memKeeps", fn := fun _ => fun
  | [d1, d2, d3] => { results := [.lit (.bool true)], args := [d1, d2, d3] }
  | _ => none }
def memKeepsRow : OpenClaim := { program := "ytlpohjpiipkpiaa", sum := "67c58bad2b00b7b06202e806c50d8b381fe9e481d0f65aff66d1b460c6ba13cd", func := "tinder/tinderlaw04.MemKeeps", spec := "memKeeps", apart := false }
def MemKeepsSaid : Prop := memKeepsRow.holds Try.pinned (OpenSpec.ofChange memKeepsSpec)

/-- ITS FALSE NEIGHBOUR: 'it returns false'. Refute it at one input. -/
def memKeepsWrong : ChangeSpec := { name := "memKeeps", fn := fun _ => fun
  | [d1, d2, d3] => { results := [.lit (.bool false)], args := [d1, d2, d3] }
  | _ => none }
def MemKeepsWrongFalsely : Prop := memKeepsRow.holds Try.pinned (OpenSpec.ofChange memKeepsWrong)

/-- 'tinderlaw04.MemCarries': WHATEVER THE INPUT: true; the input reads as it did. -/
def memCarriesSpec : ChangeSpec := { name := "memCarries", fn := fun _ => fun
  | [d1, d2] => { results := [.lit (.bool true)], args := [d1, d2] }
  | _ => none }
def memCarriesRow : OpenClaim := { program := "ytlpohjpiipkpiaa", sum := "67c58bad2b00b7b06202e806c50d8b381fe9e481d0f65aff66d1b460c6ba13cd", func := "tinder/tinderlaw04.MemCarries", spec := "memCarries", apart := false }
def MemCarriesSaid : Prop := memCarriesRow.holds Try.pinned (OpenSpec.ofChange memCarriesSpec)

/-- ITS FALSE NEIGHBOUR: 'it returns false'. Refute it at one input. -/
def memCarriesWrong : ChangeSpec := { name := "memCarries", fn := fun _ => fun
  | [d1, d2] => { results := [.lit (.bool false)], args := [d1, d2] }
  | _ => none }
def MemCarriesWrongFalsely : Prop := memCarriesRow.holds Try.pinned (OpenSpec.ofChange memCarriesWrong)

/-- 'tinderlaw04.MemMoves': WHATEVER THE INPUT: true; the input reads as it did. -/
def memMovesSpec : ChangeSpec := { name := "memMoves", fn := fun _ => fun
  | [d1, d2, d3] => { results := [.lit (.bool true)], args := [d1, d2, d3] }
  | _ => none }
def memMovesRow : OpenClaim := { program := "ytlpohjpiipkpiaa", sum := "67c58bad2b00b7b06202e806c50d8b381fe9e481d0f65aff66d1b460c6ba13cd", func := "tinder/tinderlaw04.MemMoves", spec := "memMoves", inPlace := ["internal/bytealg.MakeNoZero"], apart := false }
def MemMovesSaid : Prop := memMovesRow.holds Try.pinned (OpenSpec.ofChange memMovesSpec)

/-- ITS FALSE NEIGHBOUR: 'it returns false'. Refute it at one input. -/
def memMovesWrong : ChangeSpec := { name := "memMoves", fn := fun _ => fun
  | [d1, d2, d3] => { results := [.lit (.bool false)], args := [d1, d2, d3] }
  | _ => none }
def MemMovesWrongFalsely : Prop := memMovesRow.holds Try.pinned (OpenSpec.ofChange memMovesWrong)

/- THE SECOND FORM. 'bulk': how many values and letters a reading holds, each counted each time it is reached (what is shared counts as often as it is met; a slice's spare places count too). A statement '..UptoSaid' is the law's where the arguments, and the package variables that the reading takes, are together of bulk at most 1048576: NARROWER than '..Said'. Prove '..Said' where nothing that the law and all that it calls make is longer than what came in: it says more and counts as full. Else prove '..UptoSaid'. A law counts once. -/
mutual
def uptoBulk {H : Type} : DataW H → Nat
  | .lit (.string bytes) => bytes.length + 1
  | .lit _ => 1
  | .nil => 1
  | .ptr d => uptoBulk d + 1
  | .slice elems spare => uptoBulkAll elems + uptoBulkAll spare + 1
  | .agg parts => uptoBulkAll parts + 1
  | .iface _ d => uptoBulk d + 1
  | .map entries => uptoBulkEntries entries + 1
  | .held _ => 1
def uptoBulkAll {H : Type} : List (DataW H) → Nat
  | [] => 0
  | d :: r => uptoBulk d + uptoBulkAll r
def uptoBulkEntries {H : Type} : List (Lit × DataW H) → Nat
  | [] => 0
  | x :: r => uptoBulkEntry x + uptoBulkEntries r
def uptoBulkEntry {H : Type} : Lit × DataW H → Nat
  | (.string bytes, d) => bytes.length + uptoBulk d + 1
  | (_, d) => uptoBulk d + 1
 end
def uptoSmall : (H : Type) → List (DataW H) → Bool := fun _ ds => decide (uptoBulkAll ds ≤ 1048576)
def OpenSpec.upto (s : _root_.Go.ChangeSpec) : _root_.Go.OpenSpec := { _root_.Go.OpenSpec.ofChange s with cond := some uptoSmall }

/-- 'tinderlaw04.MemAllots', WHERE WHAT IT READS IS OF BULK AT MOST 1048576: true; the input reads as it did. -/
def memAllotsUptoRow : OpenClaim := { program := "ytlpohjpiipkpiaa", sum := "67c58bad2b00b7b06202e806c50d8b381fe9e481d0f65aff66d1b460c6ba13cd", func := "tinder/tinderlaw04.MemAllots", spec := "memAllots", apart := false, narrowed := true }
def MemAllotsUptoSaid : Prop := memAllotsUptoRow.holds Try.pinned (OpenSpec.upto memAllotsSpec)

/-- 'tinderlaw04.MemCompares', WHERE WHAT IT READS IS OF BULK AT MOST 1048576: true; the input reads as it did. -/
def memComparesUptoRow : OpenClaim := { program := "ytlpohjpiipkpiaa", sum := "67c58bad2b00b7b06202e806c50d8b381fe9e481d0f65aff66d1b460c6ba13cd", func := "tinder/tinderlaw04.MemCompares", spec := "memCompares", inPlace := ["internal/bytealg.Compare"], apart := false, narrowed := true }
def MemComparesUptoSaid : Prop := memComparesUptoRow.holds Try.pinned (OpenSpec.upto memComparesSpec)

/-- 'tinderlaw04.MemNumbers', WHERE WHAT IT READS IS OF BULK AT MOST 1048576: true; the input reads as it did. -/
def memNumbersUptoRow : OpenClaim := { program := "ytlpohjpiipkpiaa", sum := "67c58bad2b00b7b06202e806c50d8b381fe9e481d0f65aff66d1b460c6ba13cd", func := "tinder/tinderlaw04.MemNumbers", spec := "memNumbers", apart := false, narrowed := true }
def MemNumbersUptoSaid : Prop := memNumbersUptoRow.holds Try.pinned (OpenSpec.upto memNumbersSpec)

/-- 'tinderlaw04.MemTexts', WHERE WHAT IT READS IS OF BULK AT MOST 1048576: true; the input reads as it did. -/
def memTextsUptoRow : OpenClaim := { program := "ytlpohjpiipkpiaa", sum := "67c58bad2b00b7b06202e806c50d8b381fe9e481d0f65aff66d1b460c6ba13cd", func := "tinder/tinderlaw04.MemTexts", spec := "memTexts", apart := false, narrowed := true }
def MemTextsUptoSaid : Prop := memTextsUptoRow.holds Try.pinned (OpenSpec.upto memTextsSpec)

/-- 'tinderlaw04.MemKeeps', WHERE WHAT IT READS IS OF BULK AT MOST 1048576: true; the input reads as it did. -/
def memKeepsUptoRow : OpenClaim := { program := "ytlpohjpiipkpiaa", sum := "67c58bad2b00b7b06202e806c50d8b381fe9e481d0f65aff66d1b460c6ba13cd", func := "tinder/tinderlaw04.MemKeeps", spec := "memKeeps", apart := false, narrowed := true }
def MemKeepsUptoSaid : Prop := memKeepsUptoRow.holds Try.pinned (OpenSpec.upto memKeepsSpec)

/-- 'tinderlaw04.MemCarries', WHERE WHAT IT READS IS OF BULK AT MOST 1048576: true; the input reads as it did. -/
def memCarriesUptoRow : OpenClaim := { program := "ytlpohjpiipkpiaa", sum := "67c58bad2b00b7b06202e806c50d8b381fe9e481d0f65aff66d1b460c6ba13cd", func := "tinder/tinderlaw04.MemCarries", spec := "memCarries", apart := false, narrowed := true }
def MemCarriesUptoSaid : Prop := memCarriesUptoRow.holds Try.pinned (OpenSpec.upto memCarriesSpec)

/-- 'tinderlaw04.MemMoves', WHERE WHAT IT READS IS OF BULK AT MOST 1048576: true; the input reads as it did. -/
def memMovesUptoRow : OpenClaim := { program := "ytlpohjpiipkpiaa", sum := "67c58bad2b00b7b06202e806c50d8b381fe9e481d0f65aff66d1b460c6ba13cd", func := "tinder/tinderlaw04.MemMoves", spec := "memMoves", inPlace := ["internal/bytealg.MakeNoZero"], apart := false, narrowed := true }
def MemMovesUptoSaid : Prop := memMovesUptoRow.holds Try.pinned (OpenSpec.upto memMovesSpec)

end Rows
end Go.Proofs.Ytlpohjpiipkpiaa
