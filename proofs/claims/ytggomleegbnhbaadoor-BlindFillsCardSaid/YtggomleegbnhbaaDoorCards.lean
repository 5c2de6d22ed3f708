/-
  DERIVED. GIVEN WITH THE SEED: THE CARDS: each row of YtggomleegbnhbaaDoorRows.lean that lists a variable, with what it lists TIED to the program's text (the seventh form; the later family's looks); each row that meets fmt, with fmt's text TOLD by the authors' own Lean function (tested against real Go, not proved from fmt's source: count such statements apart). THE CARD IS WHAT COUNTS. Prove the row's statement (the work); the ties are given (YtggomleegbnhbaaDoorTie.lean); close each card by the builder's one call (the guide's Derived/Test/ToyasCard.lean, 'card_holds'). Laid BY PROGRAM, IN A SANDBOX (cutbox-door.mjs). By AI agents, Wed Nov 11 2026. No macro, syntax, notation, axiom, sorry.
-/
import Derived.Test.YtggomleegbnhbaaDoorRows
import GoSem.ClaimSeven
namespace Go.Proofs.YtggomleegbnhbaaDoor
namespace Rows

/-- THE TIED CARD OF 'shroudlaw06.BlindFills'. -/
def blindFillsCard : Claim7 := { stood := { row := blindFillsRow, standIns := [], harness := (true, "a38374f81c15c7011809d2d3e50c1ab1750950f7442183e9331eab83109108e0"), looks := false }, kinds := [], alts := [], laidByText := true, laidKinds := [.data, .pinned], laidTests := true, laidLooks := .later }
def BlindFillsCardSaid : Prop := Claim7.holds Tryd.pinned (.plain (OpenSpec.ofChange blindFillsSpec)) blindFillsCard

/-- THE SECOND FORM's CARD OF 'shroudlaw06.BlindFills'. -/
def blindFillsUptoCard : Claim7 := { stood := { row := blindFillsUptoRow, standIns := [], harness := (true, "a38374f81c15c7011809d2d3e50c1ab1750950f7442183e9331eab83109108e0"), looks := false }, kinds := [], alts := [], laidByText := true, laidKinds := [.data, .pinned], laidTests := true, laidLooks := .later }
def BlindFillsUptoCardSaid : Prop := Claim7.holds Tryd.pinned (.plain (OpenSpec.upto blindFillsSpec)) blindFillsUptoCard
end Rows
end Go.Proofs.YtggomleegbnhbaaDoor
