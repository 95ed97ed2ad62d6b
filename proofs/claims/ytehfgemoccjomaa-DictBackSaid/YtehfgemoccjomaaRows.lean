/-
  No cell of these rows narrows 'for every input' (looked for: loops, veiled, ifaces, maps, wideKeys, modest, calm, conditions, laid).
  DERIVED. THE GIVEN ROWS OF THIS SEAT. 3 by the template 'for every input the law returns true; each argument reads behind the call as it read before'; 0 by the template 'total and deterministic' (their statements: YtehfgemoccjomaaTotals.lean).
  GIVEN WITH THE SEED: the statements are not yours to turn. If you find one false, say at which input.
  Laid BY PROGRAM, IN A SANDBOX (cutbox-rows.mjs): the forced cells as the released guide's own fill.sh prints them over the translation e1cd76b34dab7cf6… (all of the seat's roots in one cut). By AI agents, Wed Nov 11 2026. No macro, syntax, notation, axiom, sorry.
-/
import Derived.Test.YtehfgemoccjomaaChecked
import GoSem.Claim
import GoSem.ClaimJoined
import GoSem.ClaimMapViews
import Derived.JoinedTies
import Derived.KernelRfl
namespace Go.Proofs.Ytehfgemoccjomaa
/- THE CELL 'sum', in the pinned program and in every row, IS THE sha256 OF THE DUMP (.gsa) THAT YtehfgemoccjomaaProg.lean LOADS. Nothing in Lean hashes anything: it is a label: what it is worth is what the hold of that sum in a sandbox is worth. -/
noncomputable def Try.pinned : Pinned := { name := "ytehfgemoccjomaa", sum := "e1cd76b34dab7cf6737a2db867fb5b2827e0d815cd3db19bff890c3c33d78017", checked := Try.checked }
namespace Rows
def none {H : Type} : Left H := { results := [], args := [] }

/-- 'hyglaw23.DictReads': WHATEVER THE INPUT: true; the input reads as it did. -/
def dictReadsSpec : ChangeSpec := { name := "dictReads", fn := fun _ => fun
  | [d] => { results := [.lit (.bool true)], args := [d] }
  | _ => none }
def dictReadsRow : OpenClaim := { program := "ytehfgemoccjomaa", sum := "e1cd76b34dab7cf6737a2db867fb5b2827e0d815cd3db19bff890c3c33d78017", func := "hygrometer/hyglaw23.DictReads", spec := "dictReads", inPlace := ["internal/abi.NoEscape"], apart := false }
def DictReadsSaid : Prop := dictReadsRow.holds Try.pinned (OpenSpec.ofChange dictReadsSpec)

/-- ITS FALSE NEIGHBOUR: 'it returns false'. Refute it at one input. -/
def dictReadsWrong : ChangeSpec := { name := "dictReads", fn := fun _ => fun
  | [d] => { results := [.lit (.bool false)], args := [d] }
  | _ => none }
def DictReadsWrongFalsely : Prop := dictReadsRow.holds Try.pinned (OpenSpec.ofChange dictReadsWrong)

/-- 'hyglaw23.DictBack': WHATEVER THE INPUT: true; the input reads as it did. -/
def dictBackSpec : ChangeSpec := { name := "dictBack", fn := fun _ => fun
  | [d1, d2] => { results := [.lit (.bool true)], args := [d1, d2] }
  | _ => none }
def dictBackRow : OpenClaim := { program := "ytehfgemoccjomaa", sum := "e1cd76b34dab7cf6737a2db867fb5b2827e0d815cd3db19bff890c3c33d78017", func := "hygrometer/hyglaw23.DictBack", spec := "dictBack", inPlace := ["internal/abi.NoEscape"], apart := false }
def DictBackSaid : Prop := dictBackRow.holds Try.pinned (OpenSpec.ofChange dictBackSpec)

/-- ITS FALSE NEIGHBOUR: 'it returns false'. Refute it at one input. -/
def dictBackWrong : ChangeSpec := { name := "dictBack", fn := fun _ => fun
  | [d1, d2] => { results := [.lit (.bool false)], args := [d1, d2] }
  | _ => none }
def DictBackWrongFalsely : Prop := dictBackRow.holds Try.pinned (OpenSpec.ofChange dictBackWrong)

/-- 'hyglaw23.DictOne': WHATEVER THE INPUT: true; the input reads as it did. -/
def dictOneSpec : ChangeSpec := { name := "dictOne", fn := fun _ => fun
  | [d] => { results := [.lit (.bool true)], args := [d] }
  | _ => none }
def dictOneRow : OpenClaim := { program := "ytehfgemoccjomaa", sum := "e1cd76b34dab7cf6737a2db867fb5b2827e0d815cd3db19bff890c3c33d78017", func := "hygrometer/hyglaw23.DictOne", spec := "dictOne", inPlace := ["internal/abi.NoEscape"], apart := false }
def DictOneSaid : Prop := dictOneRow.holds Try.pinned (OpenSpec.ofChange dictOneSpec)

/-- ITS FALSE NEIGHBOUR: 'it returns false'. Refute it at one input. -/
def dictOneWrong : ChangeSpec := { name := "dictOne", fn := fun _ => fun
  | [d] => { results := [.lit (.bool false)], args := [d] }
  | _ => none }
def DictOneWrongFalsely : Prop := dictOneRow.holds Try.pinned (OpenSpec.ofChange dictOneWrong)

/- THE SECOND FORM. 'bulk': how many values and letters a reading holds, each counted each time it is reached (what is shared counts as often as it is met; a slice's spare places count too). A statement '..UptoSaid' is the law's where the arguments, and the package variables that the reading takes, are together of bulk at most 1048576: NARROWER than '..Said'. Prove '..Said' where nothing that the law and all that it calls make is longer than what came in: it says more and counts as full. Else prove '..UptoSaid'. A law counts once. -/
mutual
def uptoBulk {H : Type} : DataW H → Nat
  | .lit (.string bytes) => bytes.length + 1
  | .lit _ => 1
  | .nil => 1
  | .ptr d => uptoBulk d + 1
  | .slice elems spare => uptoBulkAll elems + uptoBulkAll spare + 1
  | .agg parts => uptoBulkAll parts + 1
  | .iface _ d => uptoBulk d + 1
  | .map entries => uptoBulkEntries entries + 1
  | .held _ => 1
def uptoBulkAll {H : Type} : List (DataW H) → Nat
  | [] => 0
  | d :: r => uptoBulk d + uptoBulkAll r
def uptoBulkEntries {H : Type} : List (Lit × DataW H) → Nat
  | [] => 0
  | x :: r => uptoBulkEntry x + uptoBulkEntries r
def uptoBulkEntry {H : Type} : Lit × DataW H → Nat
  | (.string bytes, d) => bytes.length + uptoBulk d + 1
  | (_, d) => uptoBulk d + 1
 end
def uptoSmall : (H : Type) → List (DataW H) → Bool := fun _ ds => decide (uptoBulkAll ds ≤ 1048576)
def OpenSpec.upto (s : _root_.Go.ChangeSpec) : _root_.Go.OpenSpec := { _root_.Go.OpenSpec.ofChange s with cond := some uptoSmall }

/-- 'hyglaw23.DictReads', WHERE WHAT IT READS IS OF BULK AT MOST 1048576: true; the input reads as it did. -/
def dictReadsUptoRow : OpenClaim := { program := "ytehfgemoccjomaa", sum := "e1cd76b34dab7cf6737a2db867fb5b2827e0d815cd3db19bff890c3c33d78017", func := "hygrometer/hyglaw23.DictReads", spec := "dictReads", inPlace := ["internal/abi.NoEscape"], apart := false, narrowed := true }
def DictReadsUptoSaid : Prop := dictReadsUptoRow.holds Try.pinned (OpenSpec.upto dictReadsSpec)

/-- 'hyglaw23.DictBack', WHERE WHAT IT READS IS OF BULK AT MOST 1048576: true; the input reads as it did. -/
def dictBackUptoRow : OpenClaim := { program := "ytehfgemoccjomaa", sum := "e1cd76b34dab7cf6737a2db867fb5b2827e0d815cd3db19bff890c3c33d78017", func := "hygrometer/hyglaw23.DictBack", spec := "dictBack", inPlace := ["internal/abi.NoEscape"], apart := false, narrowed := true }
def DictBackUptoSaid : Prop := dictBackUptoRow.holds Try.pinned (OpenSpec.upto dictBackSpec)

/-- 'hyglaw23.DictOne', WHERE WHAT IT READS IS OF BULK AT MOST 1048576: true; the input reads as it did. -/
def dictOneUptoRow : OpenClaim := { program := "ytehfgemoccjomaa", sum := "e1cd76b34dab7cf6737a2db867fb5b2827e0d815cd3db19bff890c3c33d78017", func := "hygrometer/hyglaw23.DictOne", spec := "dictOne", inPlace := ["internal/abi.NoEscape"], apart := false, narrowed := true }
def DictOneUptoSaid : Prop := dictOneUptoRow.holds Try.pinned (OpenSpec.upto dictOneSpec)

end Rows
end Go.Proofs.Ytehfgemoccjomaa
