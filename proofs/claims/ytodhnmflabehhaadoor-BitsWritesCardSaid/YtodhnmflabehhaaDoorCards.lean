/-
  DERIVED. GIVEN WITH THE SEED: THE CARDS: each row of YtodhnmflabehhaaDoorRows.lean that lists a variable, with what it lists TIED to the program's text (the seventh form; the later family's looks); each row that meets fmt, with fmt's text TOLD by the authors' own Lean function (tested against real Go, not proved from fmt's source: count such statements apart). THE CARD IS WHAT COUNTS. Prove the row's statement (the work); the ties are given (YtodhnmflabehhaaDoorTie.lean); close each card by the builder's one call (the guide's Derived/Test/ToyasCard.lean, 'card_holds'). Laid BY PROGRAM, IN A SANDBOX (cutbox-door.mjs). By AI agents, Wed Nov 11 2026. No macro, syntax, notation, axiom, sorry.
-/
import Derived.Test.YtodhnmflabehhaaDoorRows
import GoSem.ClaimSeven
namespace Go.Proofs.YtodhnmflabehhaaDoor
namespace Rows

/-- THE TIED CARD OF 'hyglaw5.BitsWrites'. -/
def bitsWritesCard : Claim7 := { stood := { row := bitsWritesRow, standIns := [], harness := (true, "c806de4020516c4a613e1f187beee25858d03420e0abb2313aa083543483e805"), looks := true }, kinds := [], alts := [], laidByText := true, laidKinds := [.handle], laidTests := true, laidLooks := .later }
def BitsWritesCardSaid : Prop := Claim7.holds Tryd.pinned (.plain (OpenSpec.ofChange bitsWritesSpec)) bitsWritesCard

/-- THE TIED CARD OF 'hyglaw5.BitsBack'. -/
def bitsBackCard : Claim7 := { stood := { row := bitsBackRow, standIns := [], harness := (true, "c806de4020516c4a613e1f187beee25858d03420e0abb2313aa083543483e805"), looks := true }, kinds := [], alts := [], laidByText := true, laidKinds := [.handle], laidTests := true, laidLooks := .later }
def BitsBackCardSaid : Prop := Claim7.holds Tryd.pinned (.plain (OpenSpec.ofChange bitsBackSpec)) bitsBackCard

/-- THE TIED CARD OF 'hyglaw5.BitsReads'. -/
def bitsReadsCard : Claim7 := { stood := { row := bitsReadsRow, standIns := [], harness := (true, "c806de4020516c4a613e1f187beee25858d03420e0abb2313aa083543483e805"), looks := true }, kinds := [], alts := [], laidByText := true, laidKinds := [.handle], laidTests := true, laidLooks := .later }
def BitsReadsCardSaid : Prop := Claim7.holds Tryd.pinned (.plain (OpenSpec.ofChange bitsReadsSpec)) bitsReadsCard

/-- THE TIED CARD OF 'hyglaw21.XorPuts'. -/
def xorPutsCard : Claim7 := { stood := { row := xorPutsRow, standIns := [], harness := (true, "c806de4020516c4a613e1f187beee25858d03420e0abb2313aa083543483e805"), looks := true }, kinds := [], alts := [], laidByText := true, laidKinds := [.handle], laidTests := true, laidLooks := .later }
def XorPutsCardSaid : Prop := Claim7.holds Tryd.pinned (.plain (OpenSpec.ofChange xorPutsSpec)) xorPutsCard

/-- THE TIED CARD OF 'hyglaw21.XorGets'. -/
def xorGetsCard : Claim7 := { stood := { row := xorGetsRow, standIns := [], harness := (true, "c806de4020516c4a613e1f187beee25858d03420e0abb2313aa083543483e805"), looks := true }, kinds := [], alts := [], laidByText := true, laidKinds := [.handle], laidTests := true, laidLooks := .later }
def XorGetsCardSaid : Prop := Claim7.holds Tryd.pinned (.plain (OpenSpec.ofChange xorGetsSpec)) xorGetsCard

/-- THE TIED CARD OF 'hyglaw21.XorMany'. -/
def xorManyCard : Claim7 := { stood := { row := xorManyRow, standIns := [], harness := (true, "c806de4020516c4a613e1f187beee25858d03420e0abb2313aa083543483e805"), looks := true }, kinds := [], alts := [], laidByText := true, laidKinds := [.handle], laidTests := true, laidLooks := .later }
def XorManyCardSaid : Prop := Claim7.holds Tryd.pinned (.plain (OpenSpec.ofChange xorManySpec)) xorManyCard

/-- THE SECOND FORM's CARD OF 'hyglaw5.BitsWrites'. -/
def bitsWritesUptoCard : Claim7 := { stood := { row := bitsWritesUptoRow, standIns := [], harness := (true, "c806de4020516c4a613e1f187beee25858d03420e0abb2313aa083543483e805"), looks := true }, kinds := [], alts := [], laidByText := true, laidKinds := [.handle], laidTests := true, laidLooks := .later }
def BitsWritesUptoCardSaid : Prop := Claim7.holds Tryd.pinned (.plain (OpenSpec.upto bitsWritesSpec)) bitsWritesUptoCard

/-- THE SECOND FORM's CARD OF 'hyglaw5.BitsBack'. -/
def bitsBackUptoCard : Claim7 := { stood := { row := bitsBackUptoRow, standIns := [], harness := (true, "c806de4020516c4a613e1f187beee25858d03420e0abb2313aa083543483e805"), looks := true }, kinds := [], alts := [], laidByText := true, laidKinds := [.handle], laidTests := true, laidLooks := .later }
def BitsBackUptoCardSaid : Prop := Claim7.holds Tryd.pinned (.plain (OpenSpec.upto bitsBackSpec)) bitsBackUptoCard

/-- THE SECOND FORM's CARD OF 'hyglaw5.BitsReads'. -/
def bitsReadsUptoCard : Claim7 := { stood := { row := bitsReadsUptoRow, standIns := [], harness := (true, "c806de4020516c4a613e1f187beee25858d03420e0abb2313aa083543483e805"), looks := true }, kinds := [], alts := [], laidByText := true, laidKinds := [.handle], laidTests := true, laidLooks := .later }
def BitsReadsUptoCardSaid : Prop := Claim7.holds Tryd.pinned (.plain (OpenSpec.upto bitsReadsSpec)) bitsReadsUptoCard

/-- THE SECOND FORM's CARD OF 'hyglaw21.XorPuts'. -/
def xorPutsUptoCard : Claim7 := { stood := { row := xorPutsUptoRow, standIns := [], harness := (true, "c806de4020516c4a613e1f187beee25858d03420e0abb2313aa083543483e805"), looks := true }, kinds := [], alts := [], laidByText := true, laidKinds := [.handle], laidTests := true, laidLooks := .later }
def XorPutsUptoCardSaid : Prop := Claim7.holds Tryd.pinned (.plain (OpenSpec.upto xorPutsSpec)) xorPutsUptoCard

/-- THE SECOND FORM's CARD OF 'hyglaw21.XorGets'. -/
def xorGetsUptoCard : Claim7 := { stood := { row := xorGetsUptoRow, standIns := [], harness := (true, "c806de4020516c4a613e1f187beee25858d03420e0abb2313aa083543483e805"), looks := true }, kinds := [], alts := [], laidByText := true, laidKinds := [.handle], laidTests := true, laidLooks := .later }
def XorGetsUptoCardSaid : Prop := Claim7.holds Tryd.pinned (.plain (OpenSpec.upto xorGetsSpec)) xorGetsUptoCard

/-- THE SECOND FORM's CARD OF 'hyglaw21.XorMany'. -/
def xorManyUptoCard : Claim7 := { stood := { row := xorManyUptoRow, standIns := [], harness := (true, "c806de4020516c4a613e1f187beee25858d03420e0abb2313aa083543483e805"), looks := true }, kinds := [], alts := [], laidByText := true, laidKinds := [.handle], laidTests := true, laidLooks := .later }
def XorManyUptoCardSaid : Prop := Claim7.holds Tryd.pinned (.plain (OpenSpec.upto xorManySpec)) xorManyUptoCard
end Rows
end Go.Proofs.YtodhnmflabehhaaDoor
