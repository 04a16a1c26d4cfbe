/-
  No cell of these rows narrows 'for every input' (looked for: loops, veiled, ifaces, maps, wideKeys, modest, calm, conditions, laid).
  DERIVED. THE GIVEN ROWS OF THIS SEAT. 7 by the template 'for every input the law returns true; each argument reads behind the call as it read before'; 0 by the template 'total and deterministic' (their statements: YtcplblpmgajmnaaTotals.lean).
  GIVEN WITH THE SEED: the statements are not yours to turn. If you find one false, say at which input.
  Laid BY PROGRAM, IN A SANDBOX (cutbox-rows.mjs): the forced cells as the released guide's own fill.sh prints them over the translation ed8e0f8d0d585dd4… (all of the seat's roots in one cut). By AI agents, Wed Nov 11 2026. No macro, syntax, notation, axiom, sorry.
-/
import Derived.Test.YtcplblpmgajmnaaChecked
import GoSem.Claim
import GoSem.ClaimJoined
import GoSem.ClaimMapViews
import Derived.JoinedTies
import Derived.KernelRfl
namespace Go.Proofs.Ytcplblpmgajmnaa
/- THE CELL 'sum', in the pinned program and in every row, IS THE sha256 OF THE DUMP (.gsa) THAT YtcplblpmgajmnaaProg.lean LOADS. Nothing in Lean hashes anything: it is a label: what it is worth is what the hold of that sum in a sandbox is worth. -/
noncomputable def Try.pinned : Pinned := { name := "ytcplblpmgajmnaa", sum := "ed8e0f8d0d585dd4dac38c6b6f01f7255924c223cd83c4e8f7ee3f8a5f1e68cd", checked := Try.checked }
namespace Rows
def none {H : Type} : Left H := { results := [], args := [] }

/-- 'palimpsestlaw16.RecordReads': WHATEVER THE INPUT: true; the input reads as it did. -/
def recordReadsSpec : ChangeSpec := { name := "recordReads", fn := fun _ => fun
  | [d] => { results := [.lit (.bool true)], args := [d] }
  | _ => none }
def recordReadsRow : OpenClaim := { program := "ytcplblpmgajmnaa", sum := "ed8e0f8d0d585dd4dac38c6b6f01f7255924c223cd83c4e8f7ee3f8a5f1e68cd", func := "palimpsest/palimpsestlaw16.RecordReads", spec := "recordReads", unfollowed := true, recurses := true, apart := false }
def RecordReadsSaid : Prop := recordReadsRow.holds Try.pinned (OpenSpec.ofChange recordReadsSpec)

/-- ITS FALSE NEIGHBOUR: 'it returns false'. Refute it at one input. -/
def recordReadsWrong : ChangeSpec := { name := "recordReads", fn := fun _ => fun
  | [d] => { results := [.lit (.bool false)], args := [d] }
  | _ => none }
def RecordReadsWrongFalsely : Prop := recordReadsRow.holds Try.pinned (OpenSpec.ofChange recordReadsWrong)

/-- 'palimpsestlaw16.RecordBack': WHATEVER THE INPUT: true; the input reads as it did. -/
def recordBackSpec : ChangeSpec := { name := "recordBack", fn := fun _ => fun
  | [d1, d2] => { results := [.lit (.bool true)], args := [d1, d2] }
  | _ => none }
def recordBackRow : OpenClaim := { program := "ytcplblpmgajmnaa", sum := "ed8e0f8d0d585dd4dac38c6b6f01f7255924c223cd83c4e8f7ee3f8a5f1e68cd", func := "palimpsest/palimpsestlaw16.RecordBack", spec := "recordBack", unfollowed := true, recurses := true, apart := false }
def RecordBackSaid : Prop := recordBackRow.holds Try.pinned (OpenSpec.ofChange recordBackSpec)

/-- ITS FALSE NEIGHBOUR: 'it returns false'. Refute it at one input. -/
def recordBackWrong : ChangeSpec := { name := "recordBack", fn := fun _ => fun
  | [d1, d2] => { results := [.lit (.bool false)], args := [d1, d2] }
  | _ => none }
def RecordBackWrongFalsely : Prop := recordBackRow.holds Try.pinned (OpenSpec.ofChange recordBackWrong)

/-- 'palimpsestlaw16.RecordSames': WHATEVER THE INPUT: true; the input reads as it did. -/
def recordSamesSpec : ChangeSpec := { name := "recordSames", fn := fun _ => fun
  | [d1, d2] => { results := [.lit (.bool true)], args := [d1, d2] }
  | _ => none }
def recordSamesRow : OpenClaim := { program := "ytcplblpmgajmnaa", sum := "ed8e0f8d0d585dd4dac38c6b6f01f7255924c223cd83c4e8f7ee3f8a5f1e68cd", func := "palimpsest/palimpsestlaw16.RecordSames", spec := "recordSames", unfollowed := true, recurses := true, apart := false }
def RecordSamesSaid : Prop := recordSamesRow.holds Try.pinned (OpenSpec.ofChange recordSamesSpec)

/-- ITS FALSE NEIGHBOUR: 'it returns false'. Refute it at one input. -/
def recordSamesWrong : ChangeSpec := { name := "recordSames", fn := fun _ => fun
  | [d1, d2] => { results := [.lit (.bool false)], args := [d1, d2] }
  | _ => none }
def RecordSamesWrongFalsely : Prop := recordSamesRow.holds Try.pinned (OpenSpec.ofChange recordSamesWrong)

/-- 'palimpsestlaw16.RecordSlips': WHATEVER THE INPUT: true; the input reads as it did. -/
def recordSlipsSpec : ChangeSpec := { name := "recordSlips", fn := fun _ => fun
  | [d1, d2, d3] => { results := [.lit (.bool true)], args := [d1, d2, d3] }
  | _ => none }
def recordSlipsRow : OpenClaim := { program := "ytcplblpmgajmnaa", sum := "ed8e0f8d0d585dd4dac38c6b6f01f7255924c223cd83c4e8f7ee3f8a5f1e68cd", func := "palimpsest/palimpsestlaw16.RecordSlips", spec := "recordSlips", unfollowed := true, recurses := true, apart := false }
def RecordSlipsSaid : Prop := recordSlipsRow.holds Try.pinned (OpenSpec.ofChange recordSlipsSpec)

/-- ITS FALSE NEIGHBOUR: 'it returns false'. Refute it at one input. -/
def recordSlipsWrong : ChangeSpec := { name := "recordSlips", fn := fun _ => fun
  | [d1, d2, d3] => { results := [.lit (.bool false)], args := [d1, d2, d3] }
  | _ => none }
def RecordSlipsWrongFalsely : Prop := recordSlipsRow.holds Try.pinned (OpenSpec.ofChange recordSlipsWrong)

/-- 'palimpsestlaw16.RecordKinds': WHATEVER THE INPUT: true; the input reads as it did. -/
def recordKindsSpec : ChangeSpec := { name := "recordKinds", fn := fun _ => fun
  | [d1, d2] => { results := [.lit (.bool true)], args := [d1, d2] }
  | _ => none }
def recordKindsRow : OpenClaim := { program := "ytcplblpmgajmnaa", sum := "ed8e0f8d0d585dd4dac38c6b6f01f7255924c223cd83c4e8f7ee3f8a5f1e68cd", func := "palimpsest/palimpsestlaw16.RecordKinds", spec := "recordKinds", unfollowed := true, recurses := true, apart := false }
def RecordKindsSaid : Prop := recordKindsRow.holds Try.pinned (OpenSpec.ofChange recordKindsSpec)

/-- ITS FALSE NEIGHBOUR: 'it returns false'. Refute it at one input. -/
def recordKindsWrong : ChangeSpec := { name := "recordKinds", fn := fun _ => fun
  | [d1, d2] => { results := [.lit (.bool false)], args := [d1, d2] }
  | _ => none }
def RecordKindsWrongFalsely : Prop := recordKindsRow.holds Try.pinned (OpenSpec.ofChange recordKindsWrong)

/-- 'palimpsestlaw16.RecordForms': WHATEVER THE INPUT: true; the input reads as it did. -/
def recordFormsSpec : ChangeSpec := { name := "recordForms", fn := fun _ => fun
  | [d] => { results := [.lit (.bool true)], args := [d] }
  | _ => none }
def recordFormsRow : OpenClaim := { program := "ytcplblpmgajmnaa", sum := "ed8e0f8d0d585dd4dac38c6b6f01f7255924c223cd83c4e8f7ee3f8a5f1e68cd", func := "palimpsest/palimpsestlaw16.RecordForms", spec := "recordForms", unfollowed := true, recurses := true, apart := false }
def RecordFormsSaid : Prop := recordFormsRow.holds Try.pinned (OpenSpec.ofChange recordFormsSpec)

/-- ITS FALSE NEIGHBOUR: 'it returns false'. Refute it at one input. -/
def recordFormsWrong : ChangeSpec := { name := "recordForms", fn := fun _ => fun
  | [d] => { results := [.lit (.bool false)], args := [d] }
  | _ => none }
def RecordFormsWrongFalsely : Prop := recordFormsRow.holds Try.pinned (OpenSpec.ofChange recordFormsWrong)

/-- 'palimpsestlaw16.RecordRooms': WHATEVER THE INPUT: true; the input reads as it did. -/
def recordRoomsSpec : ChangeSpec := { name := "recordRooms", fn := fun _ => fun
  | [d1, d2, d3] => { results := [.lit (.bool true)], args := [d1, d2, d3] }
  | _ => none }
def recordRoomsRow : OpenClaim := { program := "ytcplblpmgajmnaa", sum := "ed8e0f8d0d585dd4dac38c6b6f01f7255924c223cd83c4e8f7ee3f8a5f1e68cd", func := "palimpsest/palimpsestlaw16.RecordRooms", spec := "recordRooms", unfollowed := true, recurses := true, apart := false }
def RecordRoomsSaid : Prop := recordRoomsRow.holds Try.pinned (OpenSpec.ofChange recordRoomsSpec)

/-- ITS FALSE NEIGHBOUR: 'it returns false'. Refute it at one input. -/
def recordRoomsWrong : ChangeSpec := { name := "recordRooms", fn := fun _ => fun
  | [d1, d2, d3] => { results := [.lit (.bool false)], args := [d1, d2, d3] }
  | _ => none }
def RecordRoomsWrongFalsely : Prop := recordRoomsRow.holds Try.pinned (OpenSpec.ofChange recordRoomsWrong)

/- THE SECOND FORM. 'bulk': how many values and letters a reading holds, each counted each time it is reached (what is shared counts as often as it is met; a slice's spare places count too). A statement '..UptoSaid' is the law's where the arguments, and the package variables that the reading takes, are together of bulk at most 1048576: NARROWER than '..Said'. Prove '..Said' where nothing that the law and all that it calls make is longer than what came in: it says more and counts as full. Else prove '..UptoSaid'. A law counts once. -/
mutual
def uptoBulk {H : Type} : DataW H → Nat
  | .lit (.string bytes) => bytes.length + 1
  | .lit _ => 1
  | .nil => 1
  | .ptr d => uptoBulk d + 1
  | .slice elems spare => uptoBulkAll elems + uptoBulkAll spare + 1
  | .agg parts => uptoBulkAll parts + 1
  | .iface _ d => uptoBulk d + 1
  | .map entries => uptoBulkEntries entries + 1
  | .held _ => 1
def uptoBulkAll {H : Type} : List (DataW H) → Nat
  | [] => 0
  | d :: r => uptoBulk d + uptoBulkAll r
def uptoBulkEntries {H : Type} : List (Lit × DataW H) → Nat
  | [] => 0
  | x :: r => uptoBulkEntry x + uptoBulkEntries r
def uptoBulkEntry {H : Type} : Lit × DataW H → Nat
  | (.string bytes, d) => bytes.length + uptoBulk d + 1
  | (_, d) => uptoBulk d + 1
 end
def uptoSmall : (H : Type) → List (DataW H) → Bool := fun _ ds => decide (uptoBulkAll ds ≤ 1048576)
def OpenSpec.upto (s : _root_.Go.ChangeSpec) : _root_.Go.OpenSpec := { _root_.Go.OpenSpec.ofChange s with cond := some uptoSmall }

/-- 'palimpsestlaw16.RecordReads', WHERE WHAT IT READS IS OF BULK AT MOST 1048576: true; the input reads as it did. -/
def recordReadsUptoRow : OpenClaim := { program := "ytcplblpmgajmnaa", sum := "ed8e0f8d0d585dd4dac38c6b6f01f7255924c223cd83c4e8f7ee3f8a5f1e68cd", func := "palimpsest/palimpsestlaw16.RecordReads", spec := "recordReads", unfollowed := true, recurses := true, apart := false, narrowed := true }
def RecordReadsUptoSaid : Prop := recordReadsUptoRow.holds Try.pinned (OpenSpec.upto recordReadsSpec)

/-- 'palimpsestlaw16.RecordBack', WHERE WHAT IT READS IS OF BULK AT MOST 1048576: true; the input reads as it did. -/
def recordBackUptoRow : OpenClaim := { program := "ytcplblpmgajmnaa", sum := "ed8e0f8d0d585dd4dac38c6b6f01f7255924c223cd83c4e8f7ee3f8a5f1e68cd", func := "palimpsest/palimpsestlaw16.RecordBack", spec := "recordBack", unfollowed := true, recurses := true, apart := false, narrowed := true }
def RecordBackUptoSaid : Prop := recordBackUptoRow.holds Try.pinned (OpenSpec.upto recordBackSpec)

/-- 'palimpsestlaw16.RecordSames', WHERE WHAT IT READS IS OF BULK AT MOST 1048576: true; the input reads as it did. -/
def recordSamesUptoRow : OpenClaim := { program := "ytcplblpmgajmnaa", sum := "ed8e0f8d0d585dd4dac38c6b6f01f7255924c223cd83c4e8f7ee3f8a5f1e68cd", func := "palimpsest/palimpsestlaw16.RecordSames", spec := "recordSames", unfollowed := true, recurses := true, apart := false, narrowed := true }
def RecordSamesUptoSaid : Prop := recordSamesUptoRow.holds Try.pinned (OpenSpec.upto recordSamesSpec)

/-- 'palimpsestlaw16.RecordSlips', WHERE WHAT IT READS IS OF BULK AT MOST 1048576: true; the input reads as it did. -/
def recordSlipsUptoRow : OpenClaim := { program := "ytcplblpmgajmnaa", sum := "ed8e0f8d0d585dd4dac38c6b6f01f7255924c223cd83c4e8f7ee3f8a5f1e68cd", func := "palimpsest/palimpsestlaw16.RecordSlips", spec := "recordSlips", unfollowed := true, recurses := true, apart := false, narrowed := true }
def RecordSlipsUptoSaid : Prop := recordSlipsUptoRow.holds Try.pinned (OpenSpec.upto recordSlipsSpec)

/-- 'palimpsestlaw16.RecordKinds', WHERE WHAT IT READS IS OF BULK AT MOST 1048576: true; the input reads as it did. -/
def recordKindsUptoRow : OpenClaim := { program := "ytcplblpmgajmnaa", sum := "ed8e0f8d0d585dd4dac38c6b6f01f7255924c223cd83c4e8f7ee3f8a5f1e68cd", func := "palimpsest/palimpsestlaw16.RecordKinds", spec := "recordKinds", unfollowed := true, recurses := true, apart := false, narrowed := true }
def RecordKindsUptoSaid : Prop := recordKindsUptoRow.holds Try.pinned (OpenSpec.upto recordKindsSpec)

/-- 'palimpsestlaw16.RecordForms', WHERE WHAT IT READS IS OF BULK AT MOST 1048576: true; the input reads as it did. -/
def recordFormsUptoRow : OpenClaim := { program := "ytcplblpmgajmnaa", sum := "ed8e0f8d0d585dd4dac38c6b6f01f7255924c223cd83c4e8f7ee3f8a5f1e68cd", func := "palimpsest/palimpsestlaw16.RecordForms", spec := "recordForms", unfollowed := true, recurses := true, apart := false, narrowed := true }
def RecordFormsUptoSaid : Prop := recordFormsUptoRow.holds Try.pinned (OpenSpec.upto recordFormsSpec)

/-- 'palimpsestlaw16.RecordRooms', WHERE WHAT IT READS IS OF BULK AT MOST 1048576: true; the input reads as it did. -/
def recordRoomsUptoRow : OpenClaim := { program := "ytcplblpmgajmnaa", sum := "ed8e0f8d0d585dd4dac38c6b6f01f7255924c223cd83c4e8f7ee3f8a5f1e68cd", func := "palimpsest/palimpsestlaw16.RecordRooms", spec := "recordRooms", unfollowed := true, recurses := true, apart := false, narrowed := true }
def RecordRoomsUptoSaid : Prop := recordRoomsUptoRow.holds Try.pinned (OpenSpec.upto recordRoomsSpec)

end Rows
end Go.Proofs.Ytcplblpmgajmnaa
