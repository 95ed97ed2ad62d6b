/-
  NARROWER THAN 'FOR EVERY INPUT', by the rows' own cells (each row's printed sentence says how): VarintLong: laid · VarintGets: laid · DodPuts: laid · DodGets: laid · DodMany: laid.
  DERIVED. THE GIVEN ROWS OF THIS SEAT. 5 by the template 'for every input the law returns true; each argument reads behind the call as it read before'; 0 by the template 'total and deterministic' (their statements: YtfkpebdjobhfgaaDoorTotals.lean).
  GIVEN WITH THE SEED: the statements are not yours to turn. If you find one false, say at which input.
  Laid BY PROGRAM, IN A SANDBOX (cutbox-rows.mjs): the forced cells as the released guide's own fill.sh prints them over the translation af4192f46735f903… (all of the seat's roots in one cut). By AI agents, Wed Nov 11 2026. No macro, syntax, notation, axiom, sorry.
-/
import Derived.Test.YtfkpebdjobhfgaaDoorChecked
import GoSem.Claim
import GoSem.ClaimJoined
import GoSem.ClaimMapViews
import Derived.JoinedTies
import Derived.KernelRfl
namespace Go.Proofs.YtfkpebdjobhfgaaDoor
/- THE CELL 'sum', in the pinned program and in every row, IS THE sha256 OF THE DUMP (.gsa) THAT YtfkpebdjobhfgaaDoorProg.lean LOADS. Nothing in Lean hashes anything: it is a label: what it is worth is what the hold of that sum in a sandbox is worth. -/
noncomputable def Tryd.pinned : Pinned := { name := "ytfkpebdjobhfgaadoor", sum := "af4192f46735f903490daedf5fa2738d140ad6905eb8d6d1ac8f439c2be5ad5c", checked := Tryd.checked }
namespace Rows
def none {H : Type} : Left H := { results := [], args := [] }

/- WHAT THE LISTED PACKAGE-LEVEL VARIABLES READ AS WHEN THE CALL BEGINS. Each datum BY PROGRAM (the guide's laid-datum.mjs) off the statement by which the dump's own 'gosem.cut.vars' lays the variable. In a bare row this is a premise. The card (YtfkpebdjobhfgaaDoorCards.lean) ties it to the program's text. -/
def laid_errors_errorType {H : Type} : DataW H := .iface "internal/reflectlite.rtype" (.agg [.ptr (.lit (.string [101, 114, 114, 111, 114]))])

/-- 'hyglaw2.VarintLong': WHATEVER THE INPUT: true; the input reads as it did. -/
def varintLongSpec : ChangeSpec := { name := "varintLong", fn := fun _ => fun
  | [d1, d2, d3] => { results := [.lit (.bool true)], args := [d1, d2, d3] }
  | _ => none }
def varintLongRow : OpenClaim := { program := "ytfkpebdjobhfgaadoor", sum := "af4192f46735f903490daedf5fa2738d140ad6905eb8d6d1ac8f439c2be5ad5c", func := "hygrometer/hyglaw2.VarintLong", spec := "varintLong", inPlace := ["internal/reflectlite.ValueOf", "(internal/reflectlite.Value).Type", "(internal/reflectlite.Value).IsNil", "internal/reflectlite.TypeOf", "(internal/reflectlite.Value).Elem", "(internal/reflectlite.Value).Set"], unfollowed := true, recurses := true, named := ["errors.errorType"], apart := false, laid := [("errors.errorType", laid_errors_errorType)] }
def VarintLongSaid : Prop := varintLongRow.holds Tryd.pinned (OpenSpec.ofChange varintLongSpec)

/-- ITS FALSE NEIGHBOUR: 'it returns false'. Refute it at one input. -/
def varintLongWrong : ChangeSpec := { name := "varintLong", fn := fun _ => fun
  | [d1, d2, d3] => { results := [.lit (.bool false)], args := [d1, d2, d3] }
  | _ => none }
def VarintLongWrongFalsely : Prop := varintLongRow.holds Tryd.pinned (OpenSpec.ofChange varintLongWrong)

/-- 'hyglaw2.VarintGets': WHATEVER THE INPUT: true; the input reads as it did. -/
def varintGetsSpec : ChangeSpec := { name := "varintGets", fn := fun _ => fun
  | [d1, d2] => { results := [.lit (.bool true)], args := [d1, d2] }
  | _ => none }
def varintGetsRow : OpenClaim := { program := "ytfkpebdjobhfgaadoor", sum := "af4192f46735f903490daedf5fa2738d140ad6905eb8d6d1ac8f439c2be5ad5c", func := "hygrometer/hyglaw2.VarintGets", spec := "varintGets", inPlace := ["internal/reflectlite.ValueOf", "(internal/reflectlite.Value).Type", "(internal/reflectlite.Value).IsNil", "internal/reflectlite.TypeOf", "(internal/reflectlite.Value).Elem", "(internal/reflectlite.Value).Set"], unfollowed := true, recurses := true, named := ["errors.errorType"], apart := false, laid := [("errors.errorType", laid_errors_errorType)] }
def VarintGetsSaid : Prop := varintGetsRow.holds Tryd.pinned (OpenSpec.ofChange varintGetsSpec)

/-- ITS FALSE NEIGHBOUR: 'it returns false'. Refute it at one input. -/
def varintGetsWrong : ChangeSpec := { name := "varintGets", fn := fun _ => fun
  | [d1, d2] => { results := [.lit (.bool false)], args := [d1, d2] }
  | _ => none }
def VarintGetsWrongFalsely : Prop := varintGetsRow.holds Tryd.pinned (OpenSpec.ofChange varintGetsWrong)

/-- 'hyglaw20.DodPuts': WHATEVER THE INPUT: true; the input reads as it did. -/
def dodPutsSpec : ChangeSpec := { name := "dodPuts", fn := fun _ => fun
  | [d] => { results := [.lit (.bool true)], args := [d] }
  | _ => none }
def dodPutsRow : OpenClaim := { program := "ytfkpebdjobhfgaadoor", sum := "af4192f46735f903490daedf5fa2738d140ad6905eb8d6d1ac8f439c2be5ad5c", func := "hygrometer/hyglaw20.DodPuts", spec := "dodPuts", inPlace := ["internal/abi.NoEscape", "internal/reflectlite.ValueOf", "(internal/reflectlite.Value).Type", "(internal/reflectlite.Value).IsNil", "internal/reflectlite.TypeOf", "(internal/reflectlite.Value).Elem", "(internal/reflectlite.Value).Set"], unfollowed := true, recurses := true, named := ["errors.errorType"], apart := false, laid := [("errors.errorType", laid_errors_errorType)] }
def DodPutsSaid : Prop := dodPutsRow.holds Tryd.pinned (OpenSpec.ofChange dodPutsSpec)

/-- ITS FALSE NEIGHBOUR: 'it returns false'. Refute it at one input. -/
def dodPutsWrong : ChangeSpec := { name := "dodPuts", fn := fun _ => fun
  | [d] => { results := [.lit (.bool false)], args := [d] }
  | _ => none }
def DodPutsWrongFalsely : Prop := dodPutsRow.holds Tryd.pinned (OpenSpec.ofChange dodPutsWrong)

/-- 'hyglaw20.DodGets': WHATEVER THE INPUT: true; the input reads as it did. -/
def dodGetsSpec : ChangeSpec := { name := "dodGets", fn := fun _ => fun
  | [d1, d2] => { results := [.lit (.bool true)], args := [d1, d2] }
  | _ => none }
def dodGetsRow : OpenClaim := { program := "ytfkpebdjobhfgaadoor", sum := "af4192f46735f903490daedf5fa2738d140ad6905eb8d6d1ac8f439c2be5ad5c", func := "hygrometer/hyglaw20.DodGets", spec := "dodGets", inPlace := ["internal/abi.NoEscape", "internal/reflectlite.ValueOf", "(internal/reflectlite.Value).Type", "(internal/reflectlite.Value).IsNil", "internal/reflectlite.TypeOf", "(internal/reflectlite.Value).Elem", "(internal/reflectlite.Value).Set"], unfollowed := true, recurses := true, named := ["errors.errorType"], apart := false, laid := [("errors.errorType", laid_errors_errorType)] }
def DodGetsSaid : Prop := dodGetsRow.holds Tryd.pinned (OpenSpec.ofChange dodGetsSpec)

/-- ITS FALSE NEIGHBOUR: 'it returns false'. Refute it at one input. -/
def dodGetsWrong : ChangeSpec := { name := "dodGets", fn := fun _ => fun
  | [d1, d2] => { results := [.lit (.bool false)], args := [d1, d2] }
  | _ => none }
def DodGetsWrongFalsely : Prop := dodGetsRow.holds Tryd.pinned (OpenSpec.ofChange dodGetsWrong)

/-- 'hyglaw20.DodMany': WHATEVER THE INPUT: true; the input reads as it did. -/
def dodManySpec : ChangeSpec := { name := "dodMany", fn := fun _ => fun
  | [d1, d2] => { results := [.lit (.bool true)], args := [d1, d2] }
  | _ => none }
def dodManyRow : OpenClaim := { program := "ytfkpebdjobhfgaadoor", sum := "af4192f46735f903490daedf5fa2738d140ad6905eb8d6d1ac8f439c2be5ad5c", func := "hygrometer/hyglaw20.DodMany", spec := "dodMany", inPlace := ["internal/abi.NoEscape", "internal/reflectlite.ValueOf", "(internal/reflectlite.Value).Type", "(internal/reflectlite.Value).IsNil", "internal/reflectlite.TypeOf", "(internal/reflectlite.Value).Elem", "(internal/reflectlite.Value).Set"], unfollowed := true, recurses := true, named := ["errors.errorType"], apart := false, laid := [("errors.errorType", laid_errors_errorType)] }
def DodManySaid : Prop := dodManyRow.holds Tryd.pinned (OpenSpec.ofChange dodManySpec)

/-- ITS FALSE NEIGHBOUR: 'it returns false'. Refute it at one input. -/
def dodManyWrong : ChangeSpec := { name := "dodMany", fn := fun _ => fun
  | [d1, d2] => { results := [.lit (.bool false)], args := [d1, d2] }
  | _ => none }
def DodManyWrongFalsely : Prop := dodManyRow.holds Tryd.pinned (OpenSpec.ofChange dodManyWrong)

/- THE SECOND FORM. 'bulk': how many values and letters a reading holds, each counted each time it is reached (what is shared counts as often as it is met; a slice's spare places count too). A statement '..UptoSaid' is the law's where the arguments, and the package variables that the reading takes, are together of bulk at most 1048576: NARROWER than '..Said'. Prove '..Said' where nothing that the law and all that it calls make is longer than what came in: it says more and counts as full. Else prove '..UptoSaid'. A law counts once. -/
mutual
def uptoBulk {H : Type} : DataW H → Nat
  | .lit (.string bytes) => bytes.length + 1
  | .lit _ => 1
  | .nil => 1
  | .ptr d => uptoBulk d + 1
  | .slice elems spare => uptoBulkAll elems + uptoBulkAll spare + 1
  | .agg parts => uptoBulkAll parts + 1
  | .iface _ d => uptoBulk d + 1
  | .map entries => uptoBulkEntries entries + 1
  | .held _ => 1
def uptoBulkAll {H : Type} : List (DataW H) → Nat
  | [] => 0
  | d :: r => uptoBulk d + uptoBulkAll r
def uptoBulkEntries {H : Type} : List (Lit × DataW H) → Nat
  | [] => 0
  | x :: r => uptoBulkEntry x + uptoBulkEntries r
def uptoBulkEntry {H : Type} : Lit × DataW H → Nat
  | (.string bytes, d) => bytes.length + uptoBulk d + 1
  | (_, d) => uptoBulk d + 1
 end
def uptoSmall : (H : Type) → List (DataW H) → Bool := fun _ ds => decide (uptoBulkAll ds ≤ 1048576)
def OpenSpec.upto (s : _root_.Go.ChangeSpec) : _root_.Go.OpenSpec := { _root_.Go.OpenSpec.ofChange s with cond := some uptoSmall }

/-- 'hyglaw2.VarintLong', WHERE WHAT IT READS IS OF BULK AT MOST 1048576: true; the input reads as it did. -/
def varintLongUptoRow : OpenClaim := { program := "ytfkpebdjobhfgaadoor", sum := "af4192f46735f903490daedf5fa2738d140ad6905eb8d6d1ac8f439c2be5ad5c", func := "hygrometer/hyglaw2.VarintLong", spec := "varintLong", inPlace := ["internal/reflectlite.ValueOf", "(internal/reflectlite.Value).Type", "(internal/reflectlite.Value).IsNil", "internal/reflectlite.TypeOf", "(internal/reflectlite.Value).Elem", "(internal/reflectlite.Value).Set"], unfollowed := true, recurses := true, named := ["errors.errorType"], apart := false, laid := [("errors.errorType", laid_errors_errorType)], narrowed := true }
def VarintLongUptoSaid : Prop := varintLongUptoRow.holds Tryd.pinned (OpenSpec.upto varintLongSpec)

/-- 'hyglaw2.VarintGets', WHERE WHAT IT READS IS OF BULK AT MOST 1048576: true; the input reads as it did. -/
def varintGetsUptoRow : OpenClaim := { program := "ytfkpebdjobhfgaadoor", sum := "af4192f46735f903490daedf5fa2738d140ad6905eb8d6d1ac8f439c2be5ad5c", func := "hygrometer/hyglaw2.VarintGets", spec := "varintGets", inPlace := ["internal/reflectlite.ValueOf", "(internal/reflectlite.Value).Type", "(internal/reflectlite.Value).IsNil", "internal/reflectlite.TypeOf", "(internal/reflectlite.Value).Elem", "(internal/reflectlite.Value).Set"], unfollowed := true, recurses := true, named := ["errors.errorType"], apart := false, laid := [("errors.errorType", laid_errors_errorType)], narrowed := true }
def VarintGetsUptoSaid : Prop := varintGetsUptoRow.holds Tryd.pinned (OpenSpec.upto varintGetsSpec)

/-- 'hyglaw20.DodPuts', WHERE WHAT IT READS IS OF BULK AT MOST 1048576: true; the input reads as it did. -/
def dodPutsUptoRow : OpenClaim := { program := "ytfkpebdjobhfgaadoor", sum := "af4192f46735f903490daedf5fa2738d140ad6905eb8d6d1ac8f439c2be5ad5c", func := "hygrometer/hyglaw20.DodPuts", spec := "dodPuts", inPlace := ["internal/abi.NoEscape", "internal/reflectlite.ValueOf", "(internal/reflectlite.Value).Type", "(internal/reflectlite.Value).IsNil", "internal/reflectlite.TypeOf", "(internal/reflectlite.Value).Elem", "(internal/reflectlite.Value).Set"], unfollowed := true, recurses := true, named := ["errors.errorType"], apart := false, laid := [("errors.errorType", laid_errors_errorType)], narrowed := true }
def DodPutsUptoSaid : Prop := dodPutsUptoRow.holds Tryd.pinned (OpenSpec.upto dodPutsSpec)

/-- 'hyglaw20.DodGets', WHERE WHAT IT READS IS OF BULK AT MOST 1048576: true; the input reads as it did. -/
def dodGetsUptoRow : OpenClaim := { program := "ytfkpebdjobhfgaadoor", sum := "af4192f46735f903490daedf5fa2738d140ad6905eb8d6d1ac8f439c2be5ad5c", func := "hygrometer/hyglaw20.DodGets", spec := "dodGets", inPlace := ["internal/abi.NoEscape", "internal/reflectlite.ValueOf", "(internal/reflectlite.Value).Type", "(internal/reflectlite.Value).IsNil", "internal/reflectlite.TypeOf", "(internal/reflectlite.Value).Elem", "(internal/reflectlite.Value).Set"], unfollowed := true, recurses := true, named := ["errors.errorType"], apart := false, laid := [("errors.errorType", laid_errors_errorType)], narrowed := true }
def DodGetsUptoSaid : Prop := dodGetsUptoRow.holds Tryd.pinned (OpenSpec.upto dodGetsSpec)

/-- 'hyglaw20.DodMany', WHERE WHAT IT READS IS OF BULK AT MOST 1048576: true; the input reads as it did. -/
def dodManyUptoRow : OpenClaim := { program := "ytfkpebdjobhfgaadoor", sum := "af4192f46735f903490daedf5fa2738d140ad6905eb8d6d1ac8f439c2be5ad5c", func := "hygrometer/hyglaw20.DodMany", spec := "dodMany", inPlace := ["internal/abi.NoEscape", "internal/reflectlite.ValueOf", "(internal/reflectlite.Value).Type", "(internal/reflectlite.Value).IsNil", "internal/reflectlite.TypeOf", "(internal/reflectlite.Value).Elem", "(internal/reflectlite.Value).Set"], unfollowed := true, recurses := true, named := ["errors.errorType"], apart := false, laid := [("errors.errorType", laid_errors_errorType)], narrowed := true }
def DodManyUptoSaid : Prop := dodManyUptoRow.holds Tryd.pinned (OpenSpec.upto dodManySpec)

end Rows
end Go.Proofs.YtfkpebdjobhfgaaDoor
