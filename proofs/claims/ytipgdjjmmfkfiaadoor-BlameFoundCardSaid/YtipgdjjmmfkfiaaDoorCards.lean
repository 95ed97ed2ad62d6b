/-
  DERIVED. GIVEN WITH THE SEED: THE CARDS: each row of YtipgdjjmmfkfiaaDoorRows.lean that lists a variable, with what it lists TIED to the program's text (the seventh form; the later family's looks); each row that meets fmt, with fmt's text TOLD by the authors' own Lean function (tested against real Go, not proved from fmt's source: count such statements apart). THE CARD IS WHAT COUNTS. Prove the row's statement (the work); the ties are given (YtipgdjjmmfkfiaaDoorTie.lean); close each card by the builder's one call (the guide's Derived/Test/ToyasCard.lean, 'card_holds'). Laid BY PROGRAM, IN A SANDBOX (cutbox-door.mjs). By AI agents, Wed Nov 11 2026. No macro, syntax, notation, axiom, sorry.
-/
import Derived.Test.YtipgdjjmmfkfiaaDoorRows
import GoSem.ClaimSeven
namespace Go.Proofs.YtipgdjjmmfkfiaaDoor
namespace Rows

/-- THE TIED CARD OF 'hyglaw1.BlameMade'. -/
def blameMadeCard : Claim7 := { stood := { row := blameMadeRow, standIns := [], harness := (true, "d3bceef7abffdf1e40a3b9763004f3debbc55ff8dfb0a25babbfa5e28b49ed93"), looks := true }, kinds := [], alts := [], laidByText := true, laidKinds := [.handle], laidTests := true, laidLooks := .later }
def BlameMadeCardSaid : Prop := Claim7.holds Tryd.pinned (.plain (OpenSpec.ofChange blameMadeSpec)) blameMadeCard

/-- THE TIED CARD OF 'hyglaw1.BlameOther'. -/
def blameOtherCard : Claim7 := { stood := { row := blameOtherRow, standIns := [], harness := (true, "d3bceef7abffdf1e40a3b9763004f3debbc55ff8dfb0a25babbfa5e28b49ed93"), looks := true }, kinds := [], alts := [], laidByText := true, laidKinds := [.handle], laidTests := true, laidLooks := .later }
def BlameOtherCardSaid : Prop := Claim7.holds Tryd.pinned (.plain (OpenSpec.ofChange blameOtherSpec)) blameOtherCard

/-- THE TIED CARD OF 'hyglaw1.BlameFound'. -/
def blameFoundCard : Claim7 := { stood := { row := blameFoundRow, standIns := [], harness := (true, "d3bceef7abffdf1e40a3b9763004f3debbc55ff8dfb0a25babbfa5e28b49ed93"), looks := true }, kinds := [], alts := [], laidByText := true, laidKinds := [.handle], laidTests := true, laidLooks := .later }
def BlameFoundCardSaid : Prop := Claim7.holds Tryd.pinned (.plain (OpenSpec.ofChange blameFoundSpec)) blameFoundCard

/-- THE TIED CARD OF 'hyglaw3.UtfReads'. -/
def utfReadsCard : Claim7 := { stood := { row := utfReadsRow, standIns := [], harness := (true, "d3bceef7abffdf1e40a3b9763004f3debbc55ff8dfb0a25babbfa5e28b49ed93"), looks := true }, kinds := [], alts := [], laidByText := true, laidKinds := [.handle], laidTests := true, laidLooks := .later }
def UtfReadsCardSaid : Prop := Claim7.holds Tryd.pinned (.plain (OpenSpec.ofChange utfReadsSpec)) utfReadsCard

/-- THE SECOND FORM's CARD OF 'hyglaw1.BlameMade'. -/
def blameMadeUptoCard : Claim7 := { stood := { row := blameMadeUptoRow, standIns := [], harness := (true, "d3bceef7abffdf1e40a3b9763004f3debbc55ff8dfb0a25babbfa5e28b49ed93"), looks := true }, kinds := [], alts := [], laidByText := true, laidKinds := [.handle], laidTests := true, laidLooks := .later }
def BlameMadeUptoCardSaid : Prop := Claim7.holds Tryd.pinned (.plain (OpenSpec.upto blameMadeSpec)) blameMadeUptoCard

/-- THE SECOND FORM's CARD OF 'hyglaw1.BlameOther'. -/
def blameOtherUptoCard : Claim7 := { stood := { row := blameOtherUptoRow, standIns := [], harness := (true, "d3bceef7abffdf1e40a3b9763004f3debbc55ff8dfb0a25babbfa5e28b49ed93"), looks := true }, kinds := [], alts := [], laidByText := true, laidKinds := [.handle], laidTests := true, laidLooks := .later }
def BlameOtherUptoCardSaid : Prop := Claim7.holds Tryd.pinned (.plain (OpenSpec.upto blameOtherSpec)) blameOtherUptoCard

/-- THE SECOND FORM's CARD OF 'hyglaw1.BlameFound'. -/
def blameFoundUptoCard : Claim7 := { stood := { row := blameFoundUptoRow, standIns := [], harness := (true, "d3bceef7abffdf1e40a3b9763004f3debbc55ff8dfb0a25babbfa5e28b49ed93"), looks := true }, kinds := [], alts := [], laidByText := true, laidKinds := [.handle], laidTests := true, laidLooks := .later }
def BlameFoundUptoCardSaid : Prop := Claim7.holds Tryd.pinned (.plain (OpenSpec.upto blameFoundSpec)) blameFoundUptoCard

/-- THE SECOND FORM's CARD OF 'hyglaw3.UtfReads'. -/
def utfReadsUptoCard : Claim7 := { stood := { row := utfReadsUptoRow, standIns := [], harness := (true, "d3bceef7abffdf1e40a3b9763004f3debbc55ff8dfb0a25babbfa5e28b49ed93"), looks := true }, kinds := [], alts := [], laidByText := true, laidKinds := [.handle], laidTests := true, laidLooks := .later }
def UtfReadsUptoCardSaid : Prop := Claim7.holds Tryd.pinned (.plain (OpenSpec.upto utfReadsSpec)) utfReadsUptoCard
end Rows
end Go.Proofs.YtipgdjjmmfkfiaaDoor
