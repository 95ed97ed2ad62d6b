/-
  NARROWER THAN 'FOR EVERY INPUT', by the rows' own cells (each row's printed sentence says how): RunsPuts: laid · RunsGets: laid · RunsMany: laid.
  DERIVED. THE GIVEN ROWS OF THIS SEAT. 3 by the template 'for every input the law returns true; each argument reads behind the call as it read before'; 0 by the template 'total and deterministic' (their statements: YtdgbcokakmonfaaDoorTotals.lean).
  GIVEN WITH THE SEED: the statements are not yours to turn. If you find one false, say at which input.
  Laid BY PROGRAM, IN A SANDBOX (cutbox-rows.mjs): the forced cells as the released guide's own fill.sh prints them over the translation cf15931c3f6dc043… (all of the seat's roots in one cut). By AI agents, Wed Nov 11 2026. No macro, syntax, notation, axiom, sorry.
-/
import Derived.Test.YtdgbcokakmonfaaDoorChecked
import GoSem.Claim
import GoSem.ClaimJoined
import GoSem.ClaimMapViews
import Derived.JoinedTies
import Derived.KernelRfl
namespace Go.Proofs.YtdgbcokakmonfaaDoor
/- THE CELL 'sum', in the pinned program and in every row, IS THE sha256 OF THE DUMP (.gsa) THAT YtdgbcokakmonfaaDoorProg.lean LOADS. Nothing in Lean hashes anything: it is a label: what it is worth is what the hold of that sum in a sandbox is worth. -/
noncomputable def Tryd.pinned : Pinned := { name := "ytdgbcokakmonfaadoor", sum := "cf15931c3f6dc043353e2522d9aeba5aefa5ad26feb4117e97d595c3abed2280", checked := Tryd.checked }
namespace Rows
def none {H : Type} : Left H := { results := [], args := [] }

/- WHAT THE LISTED PACKAGE-LEVEL VARIABLES READ AS WHEN THE CALL BEGINS. Each datum BY PROGRAM (the guide's laid-datum.mjs) off the statement by which the dump's own 'gosem.cut.vars' lays the variable. In a bare row this is a premise. The card (YtdgbcokakmonfaaDoorCards.lean) ties it to the program's text. -/
def laid_errors_errorType {H : Type} : DataW H := .iface "internal/reflectlite.rtype" (.agg [.ptr (.lit (.string [101, 114, 114, 111, 114]))])

/-- 'hyglaw22.RunsPuts': WHATEVER THE INPUT: true; the input reads as it did. -/
def runsPutsSpec : ChangeSpec := { name := "runsPuts", fn := fun _ => fun
  | [d] => { results := [.lit (.bool true)], args := [d] }
  | _ => none }
def runsPutsRow : OpenClaim := { program := "ytdgbcokakmonfaadoor", sum := "cf15931c3f6dc043353e2522d9aeba5aefa5ad26feb4117e97d595c3abed2280", func := "hygrometer/hyglaw22.RunsPuts", spec := "runsPuts", inPlace := ["internal/abi.NoEscape", "internal/reflectlite.ValueOf", "(internal/reflectlite.Value).Type", "(internal/reflectlite.Value).IsNil", "internal/reflectlite.TypeOf", "(internal/reflectlite.Value).Elem", "(internal/reflectlite.Value).Set"], unfollowed := true, recurses := true, named := ["errors.errorType"], apart := false, laid := [("errors.errorType", laid_errors_errorType)] }
def RunsPutsSaid : Prop := runsPutsRow.holds Tryd.pinned (OpenSpec.ofChange runsPutsSpec)

/-- ITS FALSE NEIGHBOUR: 'it returns false'. Refute it at one input. -/
def runsPutsWrong : ChangeSpec := { name := "runsPuts", fn := fun _ => fun
  | [d] => { results := [.lit (.bool false)], args := [d] }
  | _ => none }
def RunsPutsWrongFalsely : Prop := runsPutsRow.holds Tryd.pinned (OpenSpec.ofChange runsPutsWrong)

/-- 'hyglaw22.RunsGets': WHATEVER THE INPUT: true; the input reads as it did. -/
def runsGetsSpec : ChangeSpec := { name := "runsGets", fn := fun _ => fun
  | [d1, d2] => { results := [.lit (.bool true)], args := [d1, d2] }
  | _ => none }
def runsGetsRow : OpenClaim := { program := "ytdgbcokakmonfaadoor", sum := "cf15931c3f6dc043353e2522d9aeba5aefa5ad26feb4117e97d595c3abed2280", func := "hygrometer/hyglaw22.RunsGets", spec := "runsGets", inPlace := ["internal/abi.NoEscape", "internal/reflectlite.ValueOf", "(internal/reflectlite.Value).Type", "(internal/reflectlite.Value).IsNil", "internal/reflectlite.TypeOf", "(internal/reflectlite.Value).Elem", "(internal/reflectlite.Value).Set"], unfollowed := true, recurses := true, named := ["errors.errorType"], apart := false, laid := [("errors.errorType", laid_errors_errorType)] }
def RunsGetsSaid : Prop := runsGetsRow.holds Tryd.pinned (OpenSpec.ofChange runsGetsSpec)

/-- ITS FALSE NEIGHBOUR: 'it returns false'. Refute it at one input. -/
def runsGetsWrong : ChangeSpec := { name := "runsGets", fn := fun _ => fun
  | [d1, d2] => { results := [.lit (.bool false)], args := [d1, d2] }
  | _ => none }
def RunsGetsWrongFalsely : Prop := runsGetsRow.holds Tryd.pinned (OpenSpec.ofChange runsGetsWrong)

/-- 'hyglaw22.RunsMany': WHATEVER THE INPUT: true; the input reads as it did. -/
def runsManySpec : ChangeSpec := { name := "runsMany", fn := fun _ => fun
  | [d1, d2] => { results := [.lit (.bool true)], args := [d1, d2] }
  | _ => none }
def runsManyRow : OpenClaim := { program := "ytdgbcokakmonfaadoor", sum := "cf15931c3f6dc043353e2522d9aeba5aefa5ad26feb4117e97d595c3abed2280", func := "hygrometer/hyglaw22.RunsMany", spec := "runsMany", inPlace := ["internal/abi.NoEscape", "internal/reflectlite.ValueOf", "(internal/reflectlite.Value).Type", "(internal/reflectlite.Value).IsNil", "internal/reflectlite.TypeOf", "(internal/reflectlite.Value).Elem", "(internal/reflectlite.Value).Set"], unfollowed := true, recurses := true, named := ["errors.errorType"], apart := false, laid := [("errors.errorType", laid_errors_errorType)] }
def RunsManySaid : Prop := runsManyRow.holds Tryd.pinned (OpenSpec.ofChange runsManySpec)

/-- ITS FALSE NEIGHBOUR: 'it returns false'. Refute it at one input. -/
def runsManyWrong : ChangeSpec := { name := "runsMany", fn := fun _ => fun
  | [d1, d2] => { results := [.lit (.bool false)], args := [d1, d2] }
  | _ => none }
def RunsManyWrongFalsely : Prop := runsManyRow.holds Tryd.pinned (OpenSpec.ofChange runsManyWrong)

/- THE SECOND FORM. 'bulk': how many values and letters a reading holds, each counted each time it is reached (what is shared counts as often as it is met; a slice's spare places count too). A statement '..UptoSaid' is the law's where the arguments, and the package variables that the reading takes, are together of bulk at most 1048576: NARROWER than '..Said'. Prove '..Said' where nothing that the law and all that it calls make is longer than what came in: it says more and counts as full. Else prove '..UptoSaid'. A law counts once. -/
mutual
def uptoBulk {H : Type} : DataW H → Nat
  | .lit (.string bytes) => bytes.length + 1
  | .lit _ => 1
  | .nil => 1
  | .ptr d => uptoBulk d + 1
  | .slice elems spare => uptoBulkAll elems + uptoBulkAll spare + 1
  | .agg parts => uptoBulkAll parts + 1
  | .iface _ d => uptoBulk d + 1
  | .map entries => uptoBulkEntries entries + 1
  | .held _ => 1
def uptoBulkAll {H : Type} : List (DataW H) → Nat
  | [] => 0
  | d :: r => uptoBulk d + uptoBulkAll r
def uptoBulkEntries {H : Type} : List (Lit × DataW H) → Nat
  | [] => 0
  | x :: r => uptoBulkEntry x + uptoBulkEntries r
def uptoBulkEntry {H : Type} : Lit × DataW H → Nat
  | (.string bytes, d) => bytes.length + uptoBulk d + 1
  | (_, d) => uptoBulk d + 1
 end
def uptoSmall : (H : Type) → List (DataW H) → Bool := fun _ ds => decide (uptoBulkAll ds ≤ 1048576)
def OpenSpec.upto (s : _root_.Go.ChangeSpec) : _root_.Go.OpenSpec := { _root_.Go.OpenSpec.ofChange s with cond := some uptoSmall }

/-- 'hyglaw22.RunsPuts', WHERE WHAT IT READS IS OF BULK AT MOST 1048576: true; the input reads as it did. -/
def runsPutsUptoRow : OpenClaim := { program := "ytdgbcokakmonfaadoor", sum := "cf15931c3f6dc043353e2522d9aeba5aefa5ad26feb4117e97d595c3abed2280", func := "hygrometer/hyglaw22.RunsPuts", spec := "runsPuts", inPlace := ["internal/abi.NoEscape", "internal/reflectlite.ValueOf", "(internal/reflectlite.Value).Type", "(internal/reflectlite.Value).IsNil", "internal/reflectlite.TypeOf", "(internal/reflectlite.Value).Elem", "(internal/reflectlite.Value).Set"], unfollowed := true, recurses := true, named := ["errors.errorType"], apart := false, laid := [("errors.errorType", laid_errors_errorType)], narrowed := true }
def RunsPutsUptoSaid : Prop := runsPutsUptoRow.holds Tryd.pinned (OpenSpec.upto runsPutsSpec)

/-- 'hyglaw22.RunsGets', WHERE WHAT IT READS IS OF BULK AT MOST 1048576: true; the input reads as it did. -/
def runsGetsUptoRow : OpenClaim := { program := "ytdgbcokakmonfaadoor", sum := "cf15931c3f6dc043353e2522d9aeba5aefa5ad26feb4117e97d595c3abed2280", func := "hygrometer/hyglaw22.RunsGets", spec := "runsGets", inPlace := ["internal/abi.NoEscape", "internal/reflectlite.ValueOf", "(internal/reflectlite.Value).Type", "(internal/reflectlite.Value).IsNil", "internal/reflectlite.TypeOf", "(internal/reflectlite.Value).Elem", "(internal/reflectlite.Value).Set"], unfollowed := true, recurses := true, named := ["errors.errorType"], apart := false, laid := [("errors.errorType", laid_errors_errorType)], narrowed := true }
def RunsGetsUptoSaid : Prop := runsGetsUptoRow.holds Tryd.pinned (OpenSpec.upto runsGetsSpec)

/-- 'hyglaw22.RunsMany', WHERE WHAT IT READS IS OF BULK AT MOST 1048576: true; the input reads as it did. -/
def runsManyUptoRow : OpenClaim := { program := "ytdgbcokakmonfaadoor", sum := "cf15931c3f6dc043353e2522d9aeba5aefa5ad26feb4117e97d595c3abed2280", func := "hygrometer/hyglaw22.RunsMany", spec := "runsMany", inPlace := ["internal/abi.NoEscape", "internal/reflectlite.ValueOf", "(internal/reflectlite.Value).Type", "(internal/reflectlite.Value).IsNil", "internal/reflectlite.TypeOf", "(internal/reflectlite.Value).Elem", "(internal/reflectlite.Value).Set"], unfollowed := true, recurses := true, named := ["errors.errorType"], apart := false, laid := [("errors.errorType", laid_errors_errorType)], narrowed := true }
def RunsManyUptoSaid : Prop := runsManyUptoRow.holds Tryd.pinned (OpenSpec.upto runsManySpec)

end Rows
end Go.Proofs.YtdgbcokakmonfaaDoor
