/-
  No cell of these rows narrows 'for every input' (looked for: loops, veiled, ifaces, maps, wideKeys, modest, calm, conditions, laid).
  DERIVED. THE GIVEN ROWS OF THIS SEAT. 4 by the template 'for every input the law returns true; each argument reads behind the call as it read before'; 0 by the template 'total and deterministic' (their statements: YtfkpebdjobhfgaaTotals.lean).
  GIVEN WITH THE SEED: the statements are not yours to turn. If you find one false, say at which input.
  Laid BY PROGRAM, IN A SANDBOX (cutbox-rows.mjs): the forced cells as the released guide's own fill.sh prints them over the translation 4b8b9b1589725cea… (all of the seat's roots in one cut). By AI agents, Wed Nov 11 2026. No macro, syntax, notation, axiom, sorry.
-/
import Derived.Test.YtfkpebdjobhfgaaChecked
import GoSem.Claim
import GoSem.ClaimJoined
import GoSem.ClaimMapViews
import Derived.JoinedTies
import Derived.KernelRfl
namespace Go.Proofs.Ytfkpebdjobhfgaa
/- THE CELL 'sum', in the pinned program and in every row, IS THE sha256 OF THE DUMP (.gsa) THAT YtfkpebdjobhfgaaProg.lean LOADS. Nothing in Lean hashes anything: it is a label: what it is worth is what the hold of that sum in a sandbox is worth. -/
noncomputable def Try.pinned : Pinned := { name := "ytfkpebdjobhfgaa", sum := "4b8b9b1589725cead19ba161be09216447ab10dafbd221d4b22c2978007f004b", checked := Try.checked }
namespace Rows
def none {H : Type} : Left H := { results := [], args := [] }

/-- 'hyglaw2.VarintPuts': WHATEVER THE INPUT: true; the input reads as it did. -/
def varintPutsSpec : ChangeSpec := { name := "varintPuts", fn := fun _ => fun
  | [d1, d2, d3] => { results := [.lit (.bool true)], args := [d1, d2, d3] }
  | _ => none }
def varintPutsRow : OpenClaim := { program := "ytfkpebdjobhfgaa", sum := "4b8b9b1589725cead19ba161be09216447ab10dafbd221d4b22c2978007f004b", func := "hygrometer/hyglaw2.VarintPuts", spec := "varintPuts", apart := false }
def VarintPutsSaid : Prop := varintPutsRow.holds Try.pinned (OpenSpec.ofChange varintPutsSpec)

/-- ITS FALSE NEIGHBOUR: 'it returns false'. Refute it at one input. -/
def varintPutsWrong : ChangeSpec := { name := "varintPuts", fn := fun _ => fun
  | [d1, d2, d3] => { results := [.lit (.bool false)], args := [d1, d2, d3] }
  | _ => none }
def VarintPutsWrongFalsely : Prop := varintPutsRow.holds Try.pinned (OpenSpec.ofChange varintPutsWrong)

/-- 'hyglaw2.VarintBack': WHATEVER THE INPUT: true; the input reads as it did. -/
def varintBackSpec : ChangeSpec := { name := "varintBack", fn := fun _ => fun
  | [d1, d2, d3] => { results := [.lit (.bool true)], args := [d1, d2, d3] }
  | _ => none }
def varintBackRow : OpenClaim := { program := "ytfkpebdjobhfgaa", sum := "4b8b9b1589725cead19ba161be09216447ab10dafbd221d4b22c2978007f004b", func := "hygrometer/hyglaw2.VarintBack", spec := "varintBack", apart := false }
def VarintBackSaid : Prop := varintBackRow.holds Try.pinned (OpenSpec.ofChange varintBackSpec)

/-- ITS FALSE NEIGHBOUR: 'it returns false'. Refute it at one input. -/
def varintBackWrong : ChangeSpec := { name := "varintBack", fn := fun _ => fun
  | [d1, d2, d3] => { results := [.lit (.bool false)], args := [d1, d2, d3] }
  | _ => none }
def VarintBackWrongFalsely : Prop := varintBackRow.holds Try.pinned (OpenSpec.ofChange varintBackWrong)

/-- 'hyglaw20.DodBack': WHATEVER THE INPUT: true; the input reads as it did. -/
def dodBackSpec : ChangeSpec := { name := "dodBack", fn := fun _ => fun
  | [d1, d2, d3] => { results := [.lit (.bool true)], args := [d1, d2, d3] }
  | _ => none }
def dodBackRow : OpenClaim := { program := "ytfkpebdjobhfgaa", sum := "4b8b9b1589725cead19ba161be09216447ab10dafbd221d4b22c2978007f004b", func := "hygrometer/hyglaw20.DodBack", spec := "dodBack", inPlace := ["internal/abi.NoEscape"], apart := false }
def DodBackSaid : Prop := dodBackRow.holds Try.pinned (OpenSpec.ofChange dodBackSpec)

/-- ITS FALSE NEIGHBOUR: 'it returns false'. Refute it at one input. -/
def dodBackWrong : ChangeSpec := { name := "dodBack", fn := fun _ => fun
  | [d1, d2, d3] => { results := [.lit (.bool false)], args := [d1, d2, d3] }
  | _ => none }
def DodBackWrongFalsely : Prop := dodBackRow.holds Try.pinned (OpenSpec.ofChange dodBackWrong)

/-- 'hyglaw20.DodOne': WHATEVER THE INPUT: true; the input reads as it did. -/
def dodOneSpec : ChangeSpec := { name := "dodOne", fn := fun _ => fun
  | [d1, d2] => { results := [.lit (.bool true)], args := [d1, d2] }
  | _ => none }
def dodOneRow : OpenClaim := { program := "ytfkpebdjobhfgaa", sum := "4b8b9b1589725cead19ba161be09216447ab10dafbd221d4b22c2978007f004b", func := "hygrometer/hyglaw20.DodOne", spec := "dodOne", inPlace := ["internal/abi.NoEscape"], apart := false }
def DodOneSaid : Prop := dodOneRow.holds Try.pinned (OpenSpec.ofChange dodOneSpec)

/-- ITS FALSE NEIGHBOUR: 'it returns false'. Refute it at one input. -/
def dodOneWrong : ChangeSpec := { name := "dodOne", fn := fun _ => fun
  | [d1, d2] => { results := [.lit (.bool false)], args := [d1, d2] }
  | _ => none }
def DodOneWrongFalsely : Prop := dodOneRow.holds Try.pinned (OpenSpec.ofChange dodOneWrong)

/- THE SECOND FORM. 'bulk': how many values and letters a reading holds, each counted each time it is reached (what is shared counts as often as it is met; a slice's spare places count too). A statement '..UptoSaid' is the law's where the arguments, and the package variables that the reading takes, are together of bulk at most 1048576: NARROWER than '..Said'. Prove '..Said' where nothing that the law and all that it calls make is longer than what came in: it says more and counts as full. Else prove '..UptoSaid'. A law counts once. -/
mutual
def uptoBulk {H : Type} : DataW H → Nat
  | .lit (.string bytes) => bytes.length + 1
  | .lit _ => 1
  | .nil => 1
  | .ptr d => uptoBulk d + 1
  | .slice elems spare => uptoBulkAll elems + uptoBulkAll spare + 1
  | .agg parts => uptoBulkAll parts + 1
  | .iface _ d => uptoBulk d + 1
  | .map entries => uptoBulkEntries entries + 1
  | .held _ => 1
def uptoBulkAll {H : Type} : List (DataW H) → Nat
  | [] => 0
  | d :: r => uptoBulk d + uptoBulkAll r
def uptoBulkEntries {H : Type} : List (Lit × DataW H) → Nat
  | [] => 0
  | x :: r => uptoBulkEntry x + uptoBulkEntries r
def uptoBulkEntry {H : Type} : Lit × DataW H → Nat
  | (.string bytes, d) => bytes.length + uptoBulk d + 1
  | (_, d) => uptoBulk d + 1
 end
def uptoSmall : (H : Type) → List (DataW H) → Bool := fun _ ds => decide (uptoBulkAll ds ≤ 1048576)
def OpenSpec.upto (s : _root_.Go.ChangeSpec) : _root_.Go.OpenSpec := { _root_.Go.OpenSpec.ofChange s with cond := some uptoSmall }

/-- 'hyglaw2.VarintPuts', WHERE WHAT IT READS IS OF BULK AT MOST 1048576: true; the input reads as it did. -/
def varintPutsUptoRow : OpenClaim := { program := "ytfkpebdjobhfgaa", sum := "4b8b9b1589725cead19ba161be09216447ab10dafbd221d4b22c2978007f004b", func := "hygrometer/hyglaw2.VarintPuts", spec := "varintPuts", apart := false, narrowed := true }
def VarintPutsUptoSaid : Prop := varintPutsUptoRow.holds Try.pinned (OpenSpec.upto varintPutsSpec)

/-- 'hyglaw2.VarintBack', WHERE WHAT IT READS IS OF BULK AT MOST 1048576: true; the input reads as it did. -/
def varintBackUptoRow : OpenClaim := { program := "ytfkpebdjobhfgaa", sum := "4b8b9b1589725cead19ba161be09216447ab10dafbd221d4b22c2978007f004b", func := "hygrometer/hyglaw2.VarintBack", spec := "varintBack", apart := false, narrowed := true }
def VarintBackUptoSaid : Prop := varintBackUptoRow.holds Try.pinned (OpenSpec.upto varintBackSpec)

/-- 'hyglaw20.DodBack', WHERE WHAT IT READS IS OF BULK AT MOST 1048576: true; the input reads as it did. -/
def dodBackUptoRow : OpenClaim := { program := "ytfkpebdjobhfgaa", sum := "4b8b9b1589725cead19ba161be09216447ab10dafbd221d4b22c2978007f004b", func := "hygrometer/hyglaw20.DodBack", spec := "dodBack", inPlace := ["internal/abi.NoEscape"], apart := false, narrowed := true }
def DodBackUptoSaid : Prop := dodBackUptoRow.holds Try.pinned (OpenSpec.upto dodBackSpec)

/-- 'hyglaw20.DodOne', WHERE WHAT IT READS IS OF BULK AT MOST 1048576: true; the input reads as it did. -/
def dodOneUptoRow : OpenClaim := { program := "ytfkpebdjobhfgaa", sum := "4b8b9b1589725cead19ba161be09216447ab10dafbd221d4b22c2978007f004b", func := "hygrometer/hyglaw20.DodOne", spec := "dodOne", inPlace := ["internal/abi.NoEscape"], apart := false, narrowed := true }
def DodOneUptoSaid : Prop := dodOneUptoRow.holds Try.pinned (OpenSpec.upto dodOneSpec)

end Rows
end Go.Proofs.Ytfkpebdjobhfgaa
