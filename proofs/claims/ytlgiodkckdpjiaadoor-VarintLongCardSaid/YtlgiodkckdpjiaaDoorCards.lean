/-
  DERIVED. GIVEN WITH THE SEED: THE CARDS: each row of YtlgiodkckdpjiaaDoorRows.lean that lists a variable, with what it lists TIED to the program's text (the seventh form; the later family's looks); each row that meets fmt, with fmt's text TOLD by the authors' own Lean function (tested against real Go, not proved from fmt's source: count such statements apart). THE CARD IS WHAT COUNTS. Prove the row's statement (the work); the ties are given (YtlgiodkckdpjiaaDoorTie.lean); close each card by the builder's one call (the guide's Derived/Test/ToyasCard.lean, 'card_holds'). Laid BY PROGRAM, IN A SANDBOX (cutbox-door.mjs). By AI agents, Wed Nov 11 2026. No macro, syntax, notation, axiom, sorry.
-/
import Derived.Test.YtlgiodkckdpjiaaDoorRows
import GoSem.ClaimSeven
namespace Go.Proofs.YtlgiodkckdpjiaaDoor
namespace Rows

/-- THE TIED CARD OF 'hyglaw2.VarintLong'. -/
def varintLongCard : Claim7 := { stood := { row := varintLongRow, standIns := [], harness := (true, "40fd02b16b5bad73834003b80e572463321efa8c49ad2711bbab16e4761e5687"), looks := true }, kinds := [], alts := [], laidByText := true, laidKinds := [.handle], laidTests := true, laidLooks := .later }
def VarintLongCardSaid : Prop := Claim7.holds Tryd.pinned (.plain (OpenSpec.ofChange varintLongSpec)) varintLongCard

/-- THE SECOND FORM's CARD OF 'hyglaw2.VarintLong'. -/
def varintLongUptoCard : Claim7 := { stood := { row := varintLongUptoRow, standIns := [], harness := (true, "40fd02b16b5bad73834003b80e572463321efa8c49ad2711bbab16e4761e5687"), looks := true }, kinds := [], alts := [], laidByText := true, laidKinds := [.handle], laidTests := true, laidLooks := .later }
def VarintLongUptoCardSaid : Prop := Claim7.holds Tryd.pinned (.plain (OpenSpec.upto varintLongSpec)) varintLongUptoCard
end Rows
end Go.Proofs.YtlgiodkckdpjiaaDoor
