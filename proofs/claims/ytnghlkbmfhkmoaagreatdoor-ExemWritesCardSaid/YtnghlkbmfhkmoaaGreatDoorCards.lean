/-
  DERIVED. GIVEN WITH THE SEED: THE CARDS: each row of YtnghlkbmfhkmoaaGreatDoorRows.lean that lists a variable, with what it lists TIED to the program's text (the seventh form; the later family's looks); each row that meets fmt, with fmt's text TOLD by the authors' own Lean function (tested against real Go, not proved from fmt's source: count such statements apart). THE CARD IS WHAT COUNTS. Prove the row's statement (the work); the ties are given (YtnghlkbmfhkmoaaGreatDoorTie.lean); close each card by the builder's one call (the guide's Derived/Test/ToyasCard.lean, 'card_holds'). Laid BY PROGRAM, IN A SANDBOX (cutbox-door.mjs). By AI agents, Wed Nov 11 2026. No macro, syntax, notation, axiom, sorry.
-/
import Derived.Test.YtnghlkbmfhkmoaaGreatDoorRows
import GoSem.ClaimSeven
namespace Go.Proofs.YtnghlkbmfhkmoaaGreatDoor
namespace Rows

/-- THE TIED CARD OF 'hyglaw11.ExemSame'. -/
def exemSameCard : Claim7 := { stood := { row := exemSameRow, standIns := [], harness := (true, "463856dffa98aec07395268660781b99f117b1e786cd5862c8aaec79ac8a09bd"), looks := true }, kinds := [], alts := [], laidByText := true, laidKinds := [.handle], laidTests := true, laidLooks := .later }
def ExemSameCardSaid : Prop := Claim7.holds Tryz.pinned (.plain (OpenSpec.ofChange exemSameSpec)) exemSameCard

/-- THE TIED CARD OF 'hyglaw11.ExemWrites'. -/
def exemWritesCard : Claim7 := { stood := { row := exemWritesRow, standIns := [], harness := (true, "463856dffa98aec07395268660781b99f117b1e786cd5862c8aaec79ac8a09bd"), looks := true }, kinds := [], alts := [], laidByText := true, laidKinds := [.handle], laidTests := true, laidLooks := .later }
def ExemWritesCardSaid : Prop := Claim7.holds Tryz.pinned (.plain (OpenSpec.ofChange exemWritesSpec)) exemWritesCard

/-- THE SECOND FORM's CARD OF 'hyglaw11.ExemSame'. -/
def exemSameUptoCard : Claim7 := { stood := { row := exemSameUptoRow, standIns := [], harness := (true, "463856dffa98aec07395268660781b99f117b1e786cd5862c8aaec79ac8a09bd"), looks := true }, kinds := [], alts := [], laidByText := true, laidKinds := [.handle], laidTests := true, laidLooks := .later }
def ExemSameUptoCardSaid : Prop := Claim7.holds Tryz.pinned (.plain (OpenSpec.upto exemSameSpec)) exemSameUptoCard

/-- THE SECOND FORM's CARD OF 'hyglaw11.ExemWrites'. -/
def exemWritesUptoCard : Claim7 := { stood := { row := exemWritesUptoRow, standIns := [], harness := (true, "463856dffa98aec07395268660781b99f117b1e786cd5862c8aaec79ac8a09bd"), looks := true }, kinds := [], alts := [], laidByText := true, laidKinds := [.handle], laidTests := true, laidLooks := .later }
def ExemWritesUptoCardSaid : Prop := Claim7.holds Tryz.pinned (.plain (OpenSpec.upto exemWritesSpec)) exemWritesUptoCard
end Rows
end Go.Proofs.YtnghlkbmfhkmoaaGreatDoor
