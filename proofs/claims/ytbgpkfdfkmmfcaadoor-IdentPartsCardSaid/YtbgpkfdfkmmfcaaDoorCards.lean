/-
  DERIVED. GIVEN WITH THE SEED: THE CARDS: each row of YtbgpkfdfkmmfcaaDoorRows.lean that lists a variable, with what it lists TIED to the program's text (the seventh form; the later family's looks); each row that meets fmt, with fmt's text TOLD by the authors' own Lean function (tested against real Go, not proved from fmt's source: count such statements apart). THE CARD IS WHAT COUNTS. Prove the row's statement (the work); the ties are given (YtbgpkfdfkmmfcaaDoorTie.lean); close each card by the builder's one call (the guide's Derived/Test/ToyasCard.lean, 'card_holds'). Laid BY PROGRAM, IN A SANDBOX (cutbox-door.mjs). By AI agents, Wed Nov 11 2026. No macro, syntax, notation, axiom, sorry.
-/
import Derived.Test.YtbgpkfdfkmmfcaaDoorRows
import GoSem.ClaimSeven
namespace Go.Proofs.YtbgpkfdfkmmfcaaDoor
namespace Rows

/-- THE TIED CARD OF 'hyglaw19.IdentParts'. -/
def identPartsCard : Claim7 := { stood := { row := identPartsRow, standIns := [], harness := (true, "d84109b01a09490b8e8f14e01bdb3c7e6e41bd996e1ed9b6a78f524994148680"), looks := true }, kinds := [], alts := [], laidByText := true, laidKinds := [.handle], laidTests := true, laidLooks := .later }
def IdentPartsCardSaid : Prop := Claim7.holds Tryd.pinned (.plain (OpenSpec.ofChange identPartsSpec)) identPartsCard

/-- THE TIED CARD OF 'hyglaw19.IdentBack'. -/
def identBackCard : Claim7 := { stood := { row := identBackRow, standIns := [], harness := (true, "d84109b01a09490b8e8f14e01bdb3c7e6e41bd996e1ed9b6a78f524994148680"), looks := true }, kinds := [], alts := [], laidByText := true, laidKinds := [.handle], laidTests := true, laidLooks := .later }
def IdentBackCardSaid : Prop := Claim7.holds Tryd.pinned (.plain (OpenSpec.ofChange identBackSpec)) identBackCard

/-- THE SECOND FORM's CARD OF 'hyglaw19.IdentParts'. -/
def identPartsUptoCard : Claim7 := { stood := { row := identPartsUptoRow, standIns := [], harness := (true, "d84109b01a09490b8e8f14e01bdb3c7e6e41bd996e1ed9b6a78f524994148680"), looks := true }, kinds := [], alts := [], laidByText := true, laidKinds := [.handle], laidTests := true, laidLooks := .later }
def IdentPartsUptoCardSaid : Prop := Claim7.holds Tryd.pinned (.plain (OpenSpec.upto identPartsSpec)) identPartsUptoCard

/-- THE SECOND FORM's CARD OF 'hyglaw19.IdentBack'. -/
def identBackUptoCard : Claim7 := { stood := { row := identBackUptoRow, standIns := [], harness := (true, "d84109b01a09490b8e8f14e01bdb3c7e6e41bd996e1ed9b6a78f524994148680"), looks := true }, kinds := [], alts := [], laidByText := true, laidKinds := [.handle], laidTests := true, laidLooks := .later }
def IdentBackUptoCardSaid : Prop := Claim7.holds Tryd.pinned (.plain (OpenSpec.upto identBackSpec)) identBackUptoCard
end Rows
end Go.Proofs.YtbgpkfdfkmmfcaaDoor
