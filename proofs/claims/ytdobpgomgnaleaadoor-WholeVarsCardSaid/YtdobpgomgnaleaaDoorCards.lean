/-
  DERIVED. GIVEN WITH THE SEED: THE CARDS: each row of YtdobpgomgnaleaaDoorRows.lean that lists a variable, with what it lists TIED to the program's text (the seventh form; the later family's looks); each row that meets fmt, with fmt's text TOLD by the authors' own Lean function (tested against real Go, not proved from fmt's source: count such statements apart). THE CARD IS WHAT COUNTS. Prove the row's statement (the work); the ties are given (YtdobpgomgnaleaaDoorTie.lean); close each card by the builder's one call (the guide's Derived/Test/ToyasCard.lean, 'card_holds'). Laid BY PROGRAM, IN A SANDBOX (cutbox-door.mjs). By AI agents, Wed Nov 11 2026. No macro, syntax, notation, axiom, sorry.
-/
import Derived.Test.YtdobpgomgnaleaaDoorRows
import GoSem.ClaimSeven
namespace Go.Proofs.YtdobpgomgnaleaaDoor
namespace Rows

/-- THE TIED CARD OF 'tindertop.WholeVars'. -/
def wholeVarsCard : Claim7 := { stood := { row := wholeVarsRow, standIns := [], harness := (true, "7849588d6c9c0e026bcd3e011b847f2fa0e865109a54f5d60e6eedc1d31a9940"), looks := false }, kinds := [], alts := [], laidByText := true, laidKinds := [.data, .data, .data], laidTests := true, laidLooks := .later }
def WholeVarsCardSaid : Prop := Claim7.holds Tryd.pinned (.plain (OpenSpec.ofChange wholeVarsSpec)) wholeVarsCard

/-- THE TIED CARD OF 'tindertop.WholeBanks'. -/
def wholeBanksCard : Claim7 := { stood := { row := wholeBanksRow, standIns := [], harness := (true, "7849588d6c9c0e026bcd3e011b847f2fa0e865109a54f5d60e6eedc1d31a9940"), looks := false }, kinds := [], alts := [], laidByText := true, laidKinds := [.data, .data, .data], laidTests := true, laidLooks := .later }
def WholeBanksCardSaid : Prop := Claim7.holds Tryd.pinned (.plain (OpenSpec.ofChange wholeBanksSpec)) wholeBanksCard

/-- THE SECOND FORM's CARD OF 'tindertop.WholeVars'. -/
def wholeVarsUptoCard : Claim7 := { stood := { row := wholeVarsUptoRow, standIns := [], harness := (true, "7849588d6c9c0e026bcd3e011b847f2fa0e865109a54f5d60e6eedc1d31a9940"), looks := false }, kinds := [], alts := [], laidByText := true, laidKinds := [.data, .data, .data], laidTests := true, laidLooks := .later }
def WholeVarsUptoCardSaid : Prop := Claim7.holds Tryd.pinned (.plain (OpenSpec.upto wholeVarsSpec)) wholeVarsUptoCard

/-- THE SECOND FORM's CARD OF 'tindertop.WholeBanks'. -/
def wholeBanksUptoCard : Claim7 := { stood := { row := wholeBanksUptoRow, standIns := [], harness := (true, "7849588d6c9c0e026bcd3e011b847f2fa0e865109a54f5d60e6eedc1d31a9940"), looks := false }, kinds := [], alts := [], laidByText := true, laidKinds := [.data, .data, .data], laidTests := true, laidLooks := .later }
def WholeBanksUptoCardSaid : Prop := Claim7.holds Tryd.pinned (.plain (OpenSpec.upto wholeBanksSpec)) wholeBanksUptoCard
end Rows
end Go.Proofs.YtdobpgomgnaleaaDoor
