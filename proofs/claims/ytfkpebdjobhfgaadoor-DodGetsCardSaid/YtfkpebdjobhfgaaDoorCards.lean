/-
  DERIVED. GIVEN WITH THE SEED: THE CARDS: each row of YtfkpebdjobhfgaaDoorRows.lean that lists a variable, with what it lists TIED to the program's text (the seventh form; the later family's looks); each row that meets fmt, with fmt's text TOLD by the authors' own Lean function (tested against real Go, not proved from fmt's source: count such statements apart). THE CARD IS WHAT COUNTS. Prove the row's statement (the work); the ties are given (YtfkpebdjobhfgaaDoorTie.lean); close each card by the builder's one call (the guide's Derived/Test/ToyasCard.lean, 'card_holds'). Laid BY PROGRAM, IN A SANDBOX (cutbox-door.mjs). By AI agents, Wed Nov 11 2026. No macro, syntax, notation, axiom, sorry.
-/
import Derived.Test.YtfkpebdjobhfgaaDoorRows
import GoSem.ClaimSeven
namespace Go.Proofs.YtfkpebdjobhfgaaDoor
namespace Rows

/-- THE TIED CARD OF 'hyglaw2.VarintLong'. -/
def varintLongCard : Claim7 := { stood := { row := varintLongRow, standIns := [], harness := (true, "346391e87168b8fc4f8e88c39074e446004d9f83f8386aff4e445b81573dfeb8"), looks := true }, kinds := [], alts := [], laidByText := true, laidKinds := [.handle], laidTests := true, laidLooks := .later }
def VarintLongCardSaid : Prop := Claim7.holds Tryd.pinned (.plain (OpenSpec.ofChange varintLongSpec)) varintLongCard

/-- THE TIED CARD OF 'hyglaw2.VarintGets'. -/
def varintGetsCard : Claim7 := { stood := { row := varintGetsRow, standIns := [], harness := (true, "346391e87168b8fc4f8e88c39074e446004d9f83f8386aff4e445b81573dfeb8"), looks := true }, kinds := [], alts := [], laidByText := true, laidKinds := [.handle], laidTests := true, laidLooks := .later }
def VarintGetsCardSaid : Prop := Claim7.holds Tryd.pinned (.plain (OpenSpec.ofChange varintGetsSpec)) varintGetsCard

/-- THE TIED CARD OF 'hyglaw20.DodPuts'. -/
def dodPutsCard : Claim7 := { stood := { row := dodPutsRow, standIns := [], harness := (true, "346391e87168b8fc4f8e88c39074e446004d9f83f8386aff4e445b81573dfeb8"), looks := true }, kinds := [], alts := [], laidByText := true, laidKinds := [.handle], laidTests := true, laidLooks := .later }
def DodPutsCardSaid : Prop := Claim7.holds Tryd.pinned (.plain (OpenSpec.ofChange dodPutsSpec)) dodPutsCard

/-- THE TIED CARD OF 'hyglaw20.DodGets'. -/
def dodGetsCard : Claim7 := { stood := { row := dodGetsRow, standIns := [], harness := (true, "346391e87168b8fc4f8e88c39074e446004d9f83f8386aff4e445b81573dfeb8"), looks := true }, kinds := [], alts := [], laidByText := true, laidKinds := [.handle], laidTests := true, laidLooks := .later }
def DodGetsCardSaid : Prop := Claim7.holds Tryd.pinned (.plain (OpenSpec.ofChange dodGetsSpec)) dodGetsCard

/-- THE TIED CARD OF 'hyglaw20.DodMany'. -/
def dodManyCard : Claim7 := { stood := { row := dodManyRow, standIns := [], harness := (true, "346391e87168b8fc4f8e88c39074e446004d9f83f8386aff4e445b81573dfeb8"), looks := true }, kinds := [], alts := [], laidByText := true, laidKinds := [.handle], laidTests := true, laidLooks := .later }
def DodManyCardSaid : Prop := Claim7.holds Tryd.pinned (.plain (OpenSpec.ofChange dodManySpec)) dodManyCard

/-- THE SECOND FORM's CARD OF 'hyglaw2.VarintLong'. -/
def varintLongUptoCard : Claim7 := { stood := { row := varintLongUptoRow, standIns := [], harness := (true, "346391e87168b8fc4f8e88c39074e446004d9f83f8386aff4e445b81573dfeb8"), looks := true }, kinds := [], alts := [], laidByText := true, laidKinds := [.handle], laidTests := true, laidLooks := .later }
def VarintLongUptoCardSaid : Prop := Claim7.holds Tryd.pinned (.plain (OpenSpec.upto varintLongSpec)) varintLongUptoCard

/-- THE SECOND FORM's CARD OF 'hyglaw2.VarintGets'. -/
def varintGetsUptoCard : Claim7 := { stood := { row := varintGetsUptoRow, standIns := [], harness := (true, "346391e87168b8fc4f8e88c39074e446004d9f83f8386aff4e445b81573dfeb8"), looks := true }, kinds := [], alts := [], laidByText := true, laidKinds := [.handle], laidTests := true, laidLooks := .later }
def VarintGetsUptoCardSaid : Prop := Claim7.holds Tryd.pinned (.plain (OpenSpec.upto varintGetsSpec)) varintGetsUptoCard

/-- THE SECOND FORM's CARD OF 'hyglaw20.DodPuts'. -/
def dodPutsUptoCard : Claim7 := { stood := { row := dodPutsUptoRow, standIns := [], harness := (true, "346391e87168b8fc4f8e88c39074e446004d9f83f8386aff4e445b81573dfeb8"), looks := true }, kinds := [], alts := [], laidByText := true, laidKinds := [.handle], laidTests := true, laidLooks := .later }
def DodPutsUptoCardSaid : Prop := Claim7.holds Tryd.pinned (.plain (OpenSpec.upto dodPutsSpec)) dodPutsUptoCard

/-- THE SECOND FORM's CARD OF 'hyglaw20.DodGets'. -/
def dodGetsUptoCard : Claim7 := { stood := { row := dodGetsUptoRow, standIns := [], harness := (true, "346391e87168b8fc4f8e88c39074e446004d9f83f8386aff4e445b81573dfeb8"), looks := true }, kinds := [], alts := [], laidByText := true, laidKinds := [.handle], laidTests := true, laidLooks := .later }
def DodGetsUptoCardSaid : Prop := Claim7.holds Tryd.pinned (.plain (OpenSpec.upto dodGetsSpec)) dodGetsUptoCard

/-- THE SECOND FORM's CARD OF 'hyglaw20.DodMany'. -/
def dodManyUptoCard : Claim7 := { stood := { row := dodManyUptoRow, standIns := [], harness := (true, "346391e87168b8fc4f8e88c39074e446004d9f83f8386aff4e445b81573dfeb8"), looks := true }, kinds := [], alts := [], laidByText := true, laidKinds := [.handle], laidTests := true, laidLooks := .later }
def DodManyUptoCardSaid : Prop := Claim7.holds Tryd.pinned (.plain (OpenSpec.upto dodManySpec)) dodManyUptoCard
end Rows
end Go.Proofs.YtfkpebdjobhfgaaDoor
