/-
  No cell of these rows narrows 'for every input' (looked for: loops, veiled, ifaces, maps, wideKeys, modest, calm, conditions, laid).
  DERIVED. THE GIVEN ROWS OF THIS SEAT. 3 by the template 'for every input the law returns true; each argument reads behind the call as it read before'; 0 by the template 'total and deterministic' (their statements: YtodhnmflabehhaaTotals.lean).
  GIVEN WITH THE SEED: the statements are not yours to turn. If you find one false, say at which input.
  Laid BY PROGRAM, IN A SANDBOX (cutbox-rows.mjs): the forced cells as the released guide's own fill.sh prints them over the translation 4a46e31464e6b63e… (all of the seat's roots in one cut). By AI agents, Wed Nov 11 2026. No macro, syntax, notation, axiom, sorry.
-/
import Derived.Test.YtodhnmflabehhaaChecked
import GoSem.Claim
import GoSem.ClaimJoined
import GoSem.ClaimMapViews
import Derived.JoinedTies
import Derived.KernelRfl
namespace Go.Proofs.Ytodhnmflabehhaa
/- THE CELL 'sum', in the pinned program and in every row, IS THE sha256 OF THE DUMP (.gsa) THAT YtodhnmflabehhaaProg.lean LOADS. Nothing in Lean hashes anything: it is a label: what it is worth is what the hold of that sum in a sandbox is worth. -/
noncomputable def Try.pinned : Pinned := { name := "ytodhnmflabehhaa", sum := "4a46e31464e6b63e301f9fcbee84d929681745de3785491373f26e8142ba43d4", checked := Try.checked }
namespace Rows
def none {H : Type} : Left H := { results := [], args := [] }

/-- 'hyglaw5.BitsEnds': WHATEVER THE INPUT: true; the input reads as it did. -/
def bitsEndsSpec : ChangeSpec := { name := "bitsEnds", fn := fun _ => fun
  | [d] => { results := [.lit (.bool true)], args := [d] }
  | _ => none }
def bitsEndsRow : OpenClaim := { program := "ytodhnmflabehhaa", sum := "4a46e31464e6b63e301f9fcbee84d929681745de3785491373f26e8142ba43d4", func := "hygrometer/hyglaw5.BitsEnds", spec := "bitsEnds", apart := false }
def BitsEndsSaid : Prop := bitsEndsRow.holds Try.pinned (OpenSpec.ofChange bitsEndsSpec)

/-- ITS FALSE NEIGHBOUR: 'it returns false'. Refute it at one input. -/
def bitsEndsWrong : ChangeSpec := { name := "bitsEnds", fn := fun _ => fun
  | [d] => { results := [.lit (.bool false)], args := [d] }
  | _ => none }
def BitsEndsWrongFalsely : Prop := bitsEndsRow.holds Try.pinned (OpenSpec.ofChange bitsEndsWrong)

/-- 'hyglaw21.XorBack': WHATEVER THE INPUT: true; the input reads as it did. -/
def xorBackSpec : ChangeSpec := { name := "xorBack", fn := fun _ => fun
  | [d1, d2, d3] => { results := [.lit (.bool true)], args := [d1, d2, d3] }
  | _ => none }
def xorBackRow : OpenClaim := { program := "ytodhnmflabehhaa", sum := "4a46e31464e6b63e301f9fcbee84d929681745de3785491373f26e8142ba43d4", func := "hygrometer/hyglaw21.XorBack", spec := "xorBack", apart := false }
def XorBackSaid : Prop := xorBackRow.holds Try.pinned (OpenSpec.ofChange xorBackSpec)

/-- ITS FALSE NEIGHBOUR: 'it returns false'. Refute it at one input. -/
def xorBackWrong : ChangeSpec := { name := "xorBack", fn := fun _ => fun
  | [d1, d2, d3] => { results := [.lit (.bool false)], args := [d1, d2, d3] }
  | _ => none }
def XorBackWrongFalsely : Prop := xorBackRow.holds Try.pinned (OpenSpec.ofChange xorBackWrong)

/-- 'hyglaw21.XorOne': WHATEVER THE INPUT: true; the input reads as it did. -/
def xorOneSpec : ChangeSpec := { name := "xorOne", fn := fun _ => fun
  | [d1, d2] => { results := [.lit (.bool true)], args := [d1, d2] }
  | _ => none }
def xorOneRow : OpenClaim := { program := "ytodhnmflabehhaa", sum := "4a46e31464e6b63e301f9fcbee84d929681745de3785491373f26e8142ba43d4", func := "hygrometer/hyglaw21.XorOne", spec := "xorOne", apart := false }
def XorOneSaid : Prop := xorOneRow.holds Try.pinned (OpenSpec.ofChange xorOneSpec)

/-- ITS FALSE NEIGHBOUR: 'it returns false'. Refute it at one input. -/
def xorOneWrong : ChangeSpec := { name := "xorOne", fn := fun _ => fun
  | [d1, d2] => { results := [.lit (.bool false)], args := [d1, d2] }
  | _ => none }
def XorOneWrongFalsely : Prop := xorOneRow.holds Try.pinned (OpenSpec.ofChange xorOneWrong)

/- THE SECOND FORM. 'bulk': how many values and letters a reading holds, each counted each time it is reached (what is shared counts as often as it is met; a slice's spare places count too). A statement '..UptoSaid' is the law's where the arguments, and the package variables that the reading takes, are together of bulk at most 1048576: NARROWER than '..Said'. Prove '..Said' where nothing that the law and all that it calls make is longer than what came in: it says more and counts as full. Else prove '..UptoSaid'. A law counts once. -/
mutual
def uptoBulk {H : Type} : DataW H → Nat
  | .lit (.string bytes) => bytes.length + 1
  | .lit _ => 1
  | .nil => 1
  | .ptr d => uptoBulk d + 1
  | .slice elems spare => uptoBulkAll elems + uptoBulkAll spare + 1
  | .agg parts => uptoBulkAll parts + 1
  | .iface _ d => uptoBulk d + 1
  | .map entries => uptoBulkEntries entries + 1
  | .held _ => 1
def uptoBulkAll {H : Type} : List (DataW H) → Nat
  | [] => 0
  | d :: r => uptoBulk d + uptoBulkAll r
def uptoBulkEntries {H : Type} : List (Lit × DataW H) → Nat
  | [] => 0
  | x :: r => uptoBulkEntry x + uptoBulkEntries r
def uptoBulkEntry {H : Type} : Lit × DataW H → Nat
  | (.string bytes, d) => bytes.length + uptoBulk d + 1
  | (_, d) => uptoBulk d + 1
 end
def uptoSmall : (H : Type) → List (DataW H) → Bool := fun _ ds => decide (uptoBulkAll ds ≤ 1048576)
def OpenSpec.upto (s : _root_.Go.ChangeSpec) : _root_.Go.OpenSpec := { _root_.Go.OpenSpec.ofChange s with cond := some uptoSmall }

/-- 'hyglaw5.BitsEnds', WHERE WHAT IT READS IS OF BULK AT MOST 1048576: true; the input reads as it did. -/
def bitsEndsUptoRow : OpenClaim := { program := "ytodhnmflabehhaa", sum := "4a46e31464e6b63e301f9fcbee84d929681745de3785491373f26e8142ba43d4", func := "hygrometer/hyglaw5.BitsEnds", spec := "bitsEnds", apart := false, narrowed := true }
def BitsEndsUptoSaid : Prop := bitsEndsUptoRow.holds Try.pinned (OpenSpec.upto bitsEndsSpec)

/-- 'hyglaw21.XorBack', WHERE WHAT IT READS IS OF BULK AT MOST 1048576: true; the input reads as it did. -/
def xorBackUptoRow : OpenClaim := { program := "ytodhnmflabehhaa", sum := "4a46e31464e6b63e301f9fcbee84d929681745de3785491373f26e8142ba43d4", func := "hygrometer/hyglaw21.XorBack", spec := "xorBack", apart := false, narrowed := true }
def XorBackUptoSaid : Prop := xorBackUptoRow.holds Try.pinned (OpenSpec.upto xorBackSpec)

/-- 'hyglaw21.XorOne', WHERE WHAT IT READS IS OF BULK AT MOST 1048576: true; the input reads as it did. -/
def xorOneUptoRow : OpenClaim := { program := "ytodhnmflabehhaa", sum := "4a46e31464e6b63e301f9fcbee84d929681745de3785491373f26e8142ba43d4", func := "hygrometer/hyglaw21.XorOne", spec := "xorOne", apart := false, narrowed := true }
def XorOneUptoSaid : Prop := xorOneUptoRow.holds Try.pinned (OpenSpec.upto xorOneSpec)

end Rows
end Go.Proofs.Ytodhnmflabehhaa
