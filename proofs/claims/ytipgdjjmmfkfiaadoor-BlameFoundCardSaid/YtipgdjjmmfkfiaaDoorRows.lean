/-
  NARROWER THAN 'FOR EVERY INPUT', by the rows' own cells (each row's printed sentence says how): BlameMade: laid · BlameOther: laid · BlameFound: laid · UtfReads: laid.
  DERIVED. THE GIVEN ROWS OF THIS SEAT. 4 by the template 'for every input the law returns true; each argument reads behind the call as it read before'; 0 by the template 'total and deterministic' (their statements: YtipgdjjmmfkfiaaDoorTotals.lean).
  GIVEN WITH THE SEED: the statements are not yours to turn. If you find one false, say at which input.
  Laid BY PROGRAM, IN A SANDBOX (cutbox-rows.mjs): the forced cells as the released guide's own fill.sh prints them over the translation d49e0e0e5f5d1997… (all of the seat's roots in one cut). By AI agents, Wed Nov 11 2026. No macro, syntax, notation, axiom, sorry.
-/
import Derived.Test.YtipgdjjmmfkfiaaDoorChecked
import GoSem.Claim
import GoSem.ClaimJoined
import GoSem.ClaimMapViews
import Derived.JoinedTies
import Derived.KernelRfl
namespace Go.Proofs.YtipgdjjmmfkfiaaDoor
/- THE CELL 'sum', in the pinned program and in every row, IS THE sha256 OF THE DUMP (.gsa) THAT YtipgdjjmmfkfiaaDoorProg.lean LOADS. Nothing in Lean hashes anything: it is a label: what it is worth is what the hold of that sum in a sandbox is worth. -/
noncomputable def Tryd.pinned : Pinned := { name := "ytipgdjjmmfkfiaadoor", sum := "d49e0e0e5f5d1997e1cfa1a56ced418894cc2c2ef7d2c4717c57f8ebc0b45325", checked := Tryd.checked }
namespace Rows
def none {H : Type} : Left H := { results := [], args := [] }

/- WHAT THE LISTED PACKAGE-LEVEL VARIABLES READ AS WHEN THE CALL BEGINS. Each datum BY PROGRAM (the guide's laid-datum.mjs) off the statement by which the dump's own 'gosem.cut.vars' lays the variable. In a bare row this is a premise. The card (YtipgdjjmmfkfiaaDoorCards.lean) ties it to the program's text. -/
def laid_errors_errorType {H : Type} : DataW H := .iface "internal/reflectlite.rtype" (.agg [.ptr (.lit (.string [101, 114, 114, 111, 114]))])

/-- 'hyglaw1.BlameMade': WHATEVER THE INPUT: true; the input reads as it did. -/
def blameMadeSpec : ChangeSpec := { name := "blameMade", fn := fun _ => fun
  | [d1, d2] => { results := [.lit (.bool true)], args := [d1, d2] }
  | _ => none }
def blameMadeRow : OpenClaim := { program := "ytipgdjjmmfkfiaadoor", sum := "d49e0e0e5f5d1997e1cfa1a56ced418894cc2c2ef7d2c4717c57f8ebc0b45325", func := "hygrometer/hyglaw1.BlameMade", spec := "blameMade", inPlace := ["internal/reflectlite.ValueOf", "(internal/reflectlite.Value).Type", "(internal/reflectlite.Value).IsNil", "internal/reflectlite.TypeOf", "(internal/reflectlite.Value).Elem", "(internal/reflectlite.Value).Set"], unfollowed := true, recurses := true, named := ["errors.errorType"], apart := false, laid := [("errors.errorType", laid_errors_errorType)] }
def BlameMadeSaid : Prop := blameMadeRow.holds Tryd.pinned (OpenSpec.ofChange blameMadeSpec)

/-- ITS FALSE NEIGHBOUR: 'it returns false'. Refute it at one input. -/
def blameMadeWrong : ChangeSpec := { name := "blameMade", fn := fun _ => fun
  | [d1, d2] => { results := [.lit (.bool false)], args := [d1, d2] }
  | _ => none }
def BlameMadeWrongFalsely : Prop := blameMadeRow.holds Tryd.pinned (OpenSpec.ofChange blameMadeWrong)

/-- 'hyglaw1.BlameOther': WHATEVER THE INPUT: true; the input reads as it did. -/
def blameOtherSpec : ChangeSpec := { name := "blameOther", fn := fun _ => fun
  | [d1, d2, d3] => { results := [.lit (.bool true)], args := [d1, d2, d3] }
  | _ => none }
def blameOtherRow : OpenClaim := { program := "ytipgdjjmmfkfiaadoor", sum := "d49e0e0e5f5d1997e1cfa1a56ced418894cc2c2ef7d2c4717c57f8ebc0b45325", func := "hygrometer/hyglaw1.BlameOther", spec := "blameOther", inPlace := ["internal/reflectlite.ValueOf", "(internal/reflectlite.Value).Type", "(internal/reflectlite.Value).IsNil", "internal/reflectlite.TypeOf", "(internal/reflectlite.Value).Elem", "(internal/reflectlite.Value).Set"], unfollowed := true, recurses := true, named := ["errors.errorType"], apart := false, laid := [("errors.errorType", laid_errors_errorType)] }
def BlameOtherSaid : Prop := blameOtherRow.holds Tryd.pinned (OpenSpec.ofChange blameOtherSpec)

/-- ITS FALSE NEIGHBOUR: 'it returns false'. Refute it at one input. -/
def blameOtherWrong : ChangeSpec := { name := "blameOther", fn := fun _ => fun
  | [d1, d2, d3] => { results := [.lit (.bool false)], args := [d1, d2, d3] }
  | _ => none }
def BlameOtherWrongFalsely : Prop := blameOtherRow.holds Tryd.pinned (OpenSpec.ofChange blameOtherWrong)

/-- 'hyglaw1.BlameFound': WHATEVER THE INPUT: true; the input reads as it did. -/
def blameFoundSpec : ChangeSpec := { name := "blameFound", fn := fun _ => fun
  | [d1, d2, d3] => { results := [.lit (.bool true)], args := [d1, d2, d3] }
  | _ => none }
def blameFoundRow : OpenClaim := { program := "ytipgdjjmmfkfiaadoor", sum := "d49e0e0e5f5d1997e1cfa1a56ced418894cc2c2ef7d2c4717c57f8ebc0b45325", func := "hygrometer/hyglaw1.BlameFound", spec := "blameFound", inPlace := ["internal/reflectlite.ValueOf", "(internal/reflectlite.Value).Type", "(internal/reflectlite.Value).IsNil", "internal/reflectlite.TypeOf", "(internal/reflectlite.Value).Elem", "(internal/reflectlite.Value).Set"], unfollowed := true, recurses := true, named := ["errors.errorType"], apart := false, laid := [("errors.errorType", laid_errors_errorType)] }
def BlameFoundSaid : Prop := blameFoundRow.holds Tryd.pinned (OpenSpec.ofChange blameFoundSpec)

/-- ITS FALSE NEIGHBOUR: 'it returns false'. Refute it at one input. -/
def blameFoundWrong : ChangeSpec := { name := "blameFound", fn := fun _ => fun
  | [d1, d2, d3] => { results := [.lit (.bool false)], args := [d1, d2, d3] }
  | _ => none }
def BlameFoundWrongFalsely : Prop := blameFoundRow.holds Tryd.pinned (OpenSpec.ofChange blameFoundWrong)

/-- 'hyglaw3.UtfReads': WHATEVER THE INPUT: true; the input reads as it did. -/
def utfReadsSpec : ChangeSpec := { name := "utfReads", fn := fun _ => fun
  | [d1, d2] => { results := [.lit (.bool true)], args := [d1, d2] }
  | _ => none }
def utfReadsRow : OpenClaim := { program := "ytipgdjjmmfkfiaadoor", sum := "d49e0e0e5f5d1997e1cfa1a56ced418894cc2c2ef7d2c4717c57f8ebc0b45325", func := "hygrometer/hyglaw3.UtfReads", spec := "utfReads", inPlace := ["internal/reflectlite.ValueOf", "(internal/reflectlite.Value).Type", "(internal/reflectlite.Value).IsNil", "internal/reflectlite.TypeOf", "(internal/reflectlite.Value).Elem", "(internal/reflectlite.Value).Set"], unfollowed := true, recurses := true, named := ["errors.errorType"], apart := false, laid := [("errors.errorType", laid_errors_errorType)] }
def UtfReadsSaid : Prop := utfReadsRow.holds Tryd.pinned (OpenSpec.ofChange utfReadsSpec)

/-- ITS FALSE NEIGHBOUR: 'it returns false'. Refute it at one input. -/
def utfReadsWrong : ChangeSpec := { name := "utfReads", fn := fun _ => fun
  | [d1, d2] => { results := [.lit (.bool false)], args := [d1, d2] }
  | _ => none }
def UtfReadsWrongFalsely : Prop := utfReadsRow.holds Tryd.pinned (OpenSpec.ofChange utfReadsWrong)

/- THE SECOND FORM. 'bulk': how many values and letters a reading holds, each counted each time it is reached (what is shared counts as often as it is met; a slice's spare places count too). A statement '..UptoSaid' is the law's where the arguments, and the package variables that the reading takes, are together of bulk at most 1048576: NARROWER than '..Said'. Prove '..Said' where nothing that the law and all that it calls make is longer than what came in: it says more and counts as full. Else prove '..UptoSaid'. A law counts once. -/
mutual
def uptoBulk {H : Type} : DataW H → Nat
  | .lit (.string bytes) => bytes.length + 1
  | .lit _ => 1
  | .nil => 1
  | .ptr d => uptoBulk d + 1
  | .slice elems spare => uptoBulkAll elems + uptoBulkAll spare + 1
  | .agg parts => uptoBulkAll parts + 1
  | .iface _ d => uptoBulk d + 1
  | .map entries => uptoBulkEntries entries + 1
  | .held _ => 1
def uptoBulkAll {H : Type} : List (DataW H) → Nat
  | [] => 0
  | d :: r => uptoBulk d + uptoBulkAll r
def uptoBulkEntries {H : Type} : List (Lit × DataW H) → Nat
  | [] => 0
  | x :: r => uptoBulkEntry x + uptoBulkEntries r
def uptoBulkEntry {H : Type} : Lit × DataW H → Nat
  | (.string bytes, d) => bytes.length + uptoBulk d + 1
  | (_, d) => uptoBulk d + 1
 end
def uptoSmall : (H : Type) → List (DataW H) → Bool := fun _ ds => decide (uptoBulkAll ds ≤ 1048576)
def OpenSpec.upto (s : _root_.Go.ChangeSpec) : _root_.Go.OpenSpec := { _root_.Go.OpenSpec.ofChange s with cond := some uptoSmall }

/-- 'hyglaw1.BlameMade', WHERE WHAT IT READS IS OF BULK AT MOST 1048576: true; the input reads as it did. -/
def blameMadeUptoRow : OpenClaim := { program := "ytipgdjjmmfkfiaadoor", sum := "d49e0e0e5f5d1997e1cfa1a56ced418894cc2c2ef7d2c4717c57f8ebc0b45325", func := "hygrometer/hyglaw1.BlameMade", spec := "blameMade", inPlace := ["internal/reflectlite.ValueOf", "(internal/reflectlite.Value).Type", "(internal/reflectlite.Value).IsNil", "internal/reflectlite.TypeOf", "(internal/reflectlite.Value).Elem", "(internal/reflectlite.Value).Set"], unfollowed := true, recurses := true, named := ["errors.errorType"], apart := false, laid := [("errors.errorType", laid_errors_errorType)], narrowed := true }
def BlameMadeUptoSaid : Prop := blameMadeUptoRow.holds Tryd.pinned (OpenSpec.upto blameMadeSpec)

/-- 'hyglaw1.BlameOther', WHERE WHAT IT READS IS OF BULK AT MOST 1048576: true; the input reads as it did. -/
def blameOtherUptoRow : OpenClaim := { program := "ytipgdjjmmfkfiaadoor", sum := "d49e0e0e5f5d1997e1cfa1a56ced418894cc2c2ef7d2c4717c57f8ebc0b45325", func := "hygrometer/hyglaw1.BlameOther", spec := "blameOther", inPlace := ["internal/reflectlite.ValueOf", "(internal/reflectlite.Value).Type", "(internal/reflectlite.Value).IsNil", "internal/reflectlite.TypeOf", "(internal/reflectlite.Value).Elem", "(internal/reflectlite.Value).Set"], unfollowed := true, recurses := true, named := ["errors.errorType"], apart := false, laid := [("errors.errorType", laid_errors_errorType)], narrowed := true }
def BlameOtherUptoSaid : Prop := blameOtherUptoRow.holds Tryd.pinned (OpenSpec.upto blameOtherSpec)

/-- 'hyglaw1.BlameFound', WHERE WHAT IT READS IS OF BULK AT MOST 1048576: true; the input reads as it did. -/
def blameFoundUptoRow : OpenClaim := { program := "ytipgdjjmmfkfiaadoor", sum := "d49e0e0e5f5d1997e1cfa1a56ced418894cc2c2ef7d2c4717c57f8ebc0b45325", func := "hygrometer/hyglaw1.BlameFound", spec := "blameFound", inPlace := ["internal/reflectlite.ValueOf", "(internal/reflectlite.Value).Type", "(internal/reflectlite.Value).IsNil", "internal/reflectlite.TypeOf", "(internal/reflectlite.Value).Elem", "(internal/reflectlite.Value).Set"], unfollowed := true, recurses := true, named := ["errors.errorType"], apart := false, laid := [("errors.errorType", laid_errors_errorType)], narrowed := true }
def BlameFoundUptoSaid : Prop := blameFoundUptoRow.holds Tryd.pinned (OpenSpec.upto blameFoundSpec)

/-- 'hyglaw3.UtfReads', WHERE WHAT IT READS IS OF BULK AT MOST 1048576: true; the input reads as it did. -/
def utfReadsUptoRow : OpenClaim := { program := "ytipgdjjmmfkfiaadoor", sum := "d49e0e0e5f5d1997e1cfa1a56ced418894cc2c2ef7d2c4717c57f8ebc0b45325", func := "hygrometer/hyglaw3.UtfReads", spec := "utfReads", inPlace := ["internal/reflectlite.ValueOf", "(internal/reflectlite.Value).Type", "(internal/reflectlite.Value).IsNil", "internal/reflectlite.TypeOf", "(internal/reflectlite.Value).Elem", "(internal/reflectlite.Value).Set"], unfollowed := true, recurses := true, named := ["errors.errorType"], apart := false, laid := [("errors.errorType", laid_errors_errorType)], narrowed := true }
def UtfReadsUptoSaid : Prop := utfReadsUptoRow.holds Tryd.pinned (OpenSpec.upto utfReadsSpec)

end Rows
end Go.Proofs.YtipgdjjmmfkfiaaDoor
