/-
  DERIVED. GIVEN WITH THE SEED: THE CARDS: each row of YtehfgemoccjomaaDoorRows.lean that lists a variable, with what it lists TIED to the program's text (the seventh form; the later family's looks); each row that meets fmt, with fmt's text TOLD by the authors' own Lean function (tested against real Go, not proved from fmt's source: count such statements apart). THE CARD IS WHAT COUNTS. Prove the row's statement (the work); the ties are given (YtehfgemoccjomaaDoorTie.lean); close each card by the builder's one call (the guide's Derived/Test/ToyasCard.lean, 'card_holds'). Laid BY PROGRAM, IN A SANDBOX (cutbox-door.mjs). By AI agents, Wed Nov 11 2026. No macro, syntax, notation, axiom, sorry.
-/
import Derived.Test.YtehfgemoccjomaaDoorRows
import GoSem.ClaimSeven
namespace Go.Proofs.YtehfgemoccjomaaDoor
namespace Rows

/-- THE TIED CARD OF 'hyglaw23.DictAdds'. -/
def dictAddsCard : Claim7 := { stood := { row := dictAddsRow, standIns := [], harness := (true, "6ef983691c3baa701fad0f05d218c9a7679bbdbb094c55550c705fec9c42a86c"), looks := true }, kinds := [], alts := [], laidByText := true, laidKinds := [.handle], laidTests := true, laidLooks := .later }
def DictAddsCardSaid : Prop := Claim7.holds Tryd.pinned (.plain (OpenSpec.ofChange dictAddsSpec)) dictAddsCard

/-- THE SECOND FORM's CARD OF 'hyglaw23.DictAdds'. -/
def dictAddsUptoCard : Claim7 := { stood := { row := dictAddsUptoRow, standIns := [], harness := (true, "6ef983691c3baa701fad0f05d218c9a7679bbdbb094c55550c705fec9c42a86c"), looks := true }, kinds := [], alts := [], laidByText := true, laidKinds := [.handle], laidTests := true, laidLooks := .later }
def DictAddsUptoCardSaid : Prop := Claim7.holds Tryd.pinned (.plain (OpenSpec.upto dictAddsSpec)) dictAddsUptoCard
end Rows
end Go.Proofs.YtehfgemoccjomaaDoor
