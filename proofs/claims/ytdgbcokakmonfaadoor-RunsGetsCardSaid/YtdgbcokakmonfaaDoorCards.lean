/-
  DERIVED. GIVEN WITH THE SEED: THE CARDS: each row of YtdgbcokakmonfaaDoorRows.lean that lists a variable, with what it lists TIED to the program's text (the seventh form; the later family's looks); each row that meets fmt, with fmt's text TOLD by the authors' own Lean function (tested against real Go, not proved from fmt's source: count such statements apart). THE CARD IS WHAT COUNTS. Prove the row's statement (the work); the ties are given (YtdgbcokakmonfaaDoorTie.lean); close each card by the builder's one call (the guide's Derived/Test/ToyasCard.lean, 'card_holds'). Laid BY PROGRAM, IN A SANDBOX (cutbox-door.mjs). By AI agents, Wed Nov 11 2026. No macro, syntax, notation, axiom, sorry.
-/
import Derived.Test.YtdgbcokakmonfaaDoorRows
import GoSem.ClaimSeven
namespace Go.Proofs.YtdgbcokakmonfaaDoor
namespace Rows

/-- THE TIED CARD OF 'hyglaw22.RunsPuts'. -/
def runsPutsCard : Claim7 := { stood := { row := runsPutsRow, standIns := [], harness := (true, "4f3c250c6ca55d5e05a986c9d082806b96130ff3e1744a300af634e8f7f1c86e"), looks := true }, kinds := [], alts := [], laidByText := true, laidKinds := [.handle], laidTests := true, laidLooks := .later }
def RunsPutsCardSaid : Prop := Claim7.holds Tryd.pinned (.plain (OpenSpec.ofChange runsPutsSpec)) runsPutsCard

/-- THE TIED CARD OF 'hyglaw22.RunsGets'. -/
def runsGetsCard : Claim7 := { stood := { row := runsGetsRow, standIns := [], harness := (true, "4f3c250c6ca55d5e05a986c9d082806b96130ff3e1744a300af634e8f7f1c86e"), looks := true }, kinds := [], alts := [], laidByText := true, laidKinds := [.handle], laidTests := true, laidLooks := .later }
def RunsGetsCardSaid : Prop := Claim7.holds Tryd.pinned (.plain (OpenSpec.ofChange runsGetsSpec)) runsGetsCard

/-- THE TIED CARD OF 'hyglaw22.RunsMany'. -/
def runsManyCard : Claim7 := { stood := { row := runsManyRow, standIns := [], harness := (true, "4f3c250c6ca55d5e05a986c9d082806b96130ff3e1744a300af634e8f7f1c86e"), looks := true }, kinds := [], alts := [], laidByText := true, laidKinds := [.handle], laidTests := true, laidLooks := .later }
def RunsManyCardSaid : Prop := Claim7.holds Tryd.pinned (.plain (OpenSpec.ofChange runsManySpec)) runsManyCard

/-- THE SECOND FORM's CARD OF 'hyglaw22.RunsPuts'. -/
def runsPutsUptoCard : Claim7 := { stood := { row := runsPutsUptoRow, standIns := [], harness := (true, "4f3c250c6ca55d5e05a986c9d082806b96130ff3e1744a300af634e8f7f1c86e"), looks := true }, kinds := [], alts := [], laidByText := true, laidKinds := [.handle], laidTests := true, laidLooks := .later }
def RunsPutsUptoCardSaid : Prop := Claim7.holds Tryd.pinned (.plain (OpenSpec.upto runsPutsSpec)) runsPutsUptoCard

/-- THE SECOND FORM's CARD OF 'hyglaw22.RunsGets'. -/
def runsGetsUptoCard : Claim7 := { stood := { row := runsGetsUptoRow, standIns := [], harness := (true, "4f3c250c6ca55d5e05a986c9d082806b96130ff3e1744a300af634e8f7f1c86e"), looks := true }, kinds := [], alts := [], laidByText := true, laidKinds := [.handle], laidTests := true, laidLooks := .later }
def RunsGetsUptoCardSaid : Prop := Claim7.holds Tryd.pinned (.plain (OpenSpec.upto runsGetsSpec)) runsGetsUptoCard

/-- THE SECOND FORM's CARD OF 'hyglaw22.RunsMany'. -/
def runsManyUptoCard : Claim7 := { stood := { row := runsManyUptoRow, standIns := [], harness := (true, "4f3c250c6ca55d5e05a986c9d082806b96130ff3e1744a300af634e8f7f1c86e"), looks := true }, kinds := [], alts := [], laidByText := true, laidKinds := [.handle], laidTests := true, laidLooks := .later }
def RunsManyUptoCardSaid : Prop := Claim7.holds Tryd.pinned (.plain (OpenSpec.upto runsManySpec)) runsManyUptoCard
end Rows
end Go.Proofs.YtdgbcokakmonfaaDoor
