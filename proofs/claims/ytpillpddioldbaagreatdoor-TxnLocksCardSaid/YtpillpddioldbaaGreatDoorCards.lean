/-
  DERIVED. GIVEN WITH THE SEED: THE CARDS: each row of YtpillpddioldbaaGreatDoorRows.lean that lists a variable, with what it lists TIED to the program's text (the seventh form; the later family's looks); each row that meets fmt, with fmt's text TOLD by the authors' own Lean function (tested against real Go, not proved from fmt's source: count such statements apart). THE CARD IS WHAT COUNTS. Prove the row's statement (the work); the ties are given (YtpillpddioldbaaGreatDoorTie.lean); close each card by the builder's one call (the guide's Derived/Test/ToyasCard.lean, 'card_holds'). Laid BY PROGRAM, IN A SANDBOX (cutbox-door.mjs). By AI agents, Wed Nov 11 2026. No macro, syntax, notation, axiom, sorry.
-/
import Derived.Test.YtpillpddioldbaaGreatDoorRows
import GoSem.ClaimSeven
namespace Go.Proofs.YtpillpddioldbaaGreatDoor
namespace Rows

/-- THE TIED CARD OF 'palimpsestlaw17.TxnLocks'. -/
def txnLocksCard : Claim7 := { stood := { row := txnLocksRow, standIns := [], harness := (true, "e8dc2976ebbc5c7e5c2c8641b706a4c0861a2905910314a3bb988ce130924a0d"), looks := true }, kinds := [], alts := [], laidByText := true, laidKinds := [.data, .data, .data, .sentinel, .sentinel], laidTests := true, laidLooks := .later }
def TxnLocksCardSaid : Prop := Claim7.holds Tryz.pinned (.plain (OpenSpec.ofChange txnLocksSpec)) txnLocksCard

/-- THE SECOND FORM's CARD OF 'palimpsestlaw17.TxnLocks'. -/
def txnLocksUptoCard : Claim7 := { stood := { row := txnLocksUptoRow, standIns := [], harness := (true, "e8dc2976ebbc5c7e5c2c8641b706a4c0861a2905910314a3bb988ce130924a0d"), looks := true }, kinds := [], alts := [], laidByText := true, laidKinds := [.data, .data, .data, .sentinel, .sentinel], laidTests := true, laidLooks := .later }
def TxnLocksUptoCardSaid : Prop := Claim7.holds Tryz.pinned (.plain (OpenSpec.upto txnLocksSpec)) txnLocksUptoCard
end Rows
end Go.Proofs.YtpillpddioldbaaGreatDoor
