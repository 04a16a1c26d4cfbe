/-
  DERIVED. GIVEN WITH THE SEED: THE CARDS: each row of YtbnldlojlbbgbaaGreatDoorRows.lean that lists a variable, with what it lists TIED to the program's text (the seventh form; the later family's looks); each row that meets fmt, with fmt's text TOLD by the authors' own Lean function (tested against real Go, not proved from fmt's source: count such statements apart). THE CARD IS WHAT COUNTS. Prove the row's statement (the work); the ties are given (YtbnldlojlbbgbaaGreatDoorTie.lean); close each card by the builder's one call (the guide's Derived/Test/ToyasCard.lean, 'card_holds'). Laid BY PROGRAM, IN A SANDBOX (cutbox-door.mjs). By AI agents, Wed Nov 11 2026. No macro, syntax, notation, axiom, sorry.
-/
import Derived.Test.YtbnldlojlbbgbaaGreatDoorRows
import GoSem.ClaimSeven
namespace Go.Proofs.YtbnldlojlbbgbaaGreatDoor
namespace Rows

/-- THE TIED CARD OF 'palimpsestlaw21.ArrayNone'. -/
def arrayNoneCard : Claim7 := { stood := { row := arrayNoneRow, standIns := [], harness := (true, "291aad06e3341f257dee0b3699a703cf5ded0476ab2246d3220319107e140432"), looks := true }, kinds := [], alts := [], laidByText := true, laidKinds := [.data, .data, .data, .sentinel, .sentinel], laidTests := true, laidLooks := .later }
def ArrayNoneCardSaid : Prop := Claim7.holds Tryz.pinned (.plain (OpenSpec.ofChange arrayNoneSpec)) arrayNoneCard

/-- THE SECOND FORM's CARD OF 'palimpsestlaw21.ArrayNone'. -/
def arrayNoneUptoCard : Claim7 := { stood := { row := arrayNoneUptoRow, standIns := [], harness := (true, "291aad06e3341f257dee0b3699a703cf5ded0476ab2246d3220319107e140432"), looks := true }, kinds := [], alts := [], laidByText := true, laidKinds := [.data, .data, .data, .sentinel, .sentinel], laidTests := true, laidLooks := .later }
def ArrayNoneUptoCardSaid : Prop := Claim7.holds Tryz.pinned (.plain (OpenSpec.upto arrayNoneSpec)) arrayNoneUptoCard
end Rows
end Go.Proofs.YtbnldlojlbbgbaaGreatDoor
