/- Package hyglaw18's statement CheckOne holds: one thing that is wrong in a point that was fine is told as it, for every histogram and every exponential histogram; no condition is laid on them. -/
import Derived.Test.YtdogokcoobpgdaaRows
import Derived.Test.YtdogokcoobpgdaaMduunuerc
import Derived.WalkKit
import Derived.ProofKit
import Derived.OpenShut
import Derived.ShutString
import Derived.ChangeOld
import Derived.Below
import Derived.SizedLaws
import Derived.Test.YtdogokcoobpgdaaWSized
import Derived.Test.YtdogokcoobpgdaaMelkrconm
namespace Go.Proofs.Ytdogokcoobpgdaa.checkOne
open Go.ChangeShapes Go.WideShapes Go.ChangeAt Go.RowKit Go.Proofs.YtdogokcoobpgdaaW.PrintWords
open Go.ChangeMaps (open_string shut_string)
theorem own : ownKnob Try.prog.godebug = none := by kernel_rfl
theorem laidOut : laidOutB Try.prog = true := by kernel_rfl
set_option maxRecDepth 100000 in
theorem lifted (os : Os) (started : os.Started) (H : Type) (enc : TypeId × Value → H) :
    ReturnsInHanded {} Try.checked os 3 .any (Rows.checkOneSpec.pre6 enc Try.prog Try.f3 Rows.checkOneRow.domain false) (Rows.checkOneSpec.post enc Try.prog Try.f3 false true false false) := by
  refine returnsInHanded_of_change_sized (C := Try.checked) own started (by kernel_rfl) Try.func3
    (ChangeSpec.witness6 (enc := enc) (C := Try.checked) false ⟨#[], #[(hstA default), (exqA default)], []⟩ 8 (by kernel_rfl) (by kernel_rfl) (by kernel_rfl) (by kernel_rfl)) ?_
  intro W base args ds gs before hval0 hW _ hsz0 _
  have hsz : (DataW.weightsEach Try.prog (Try.f3.params.toList ++ Rows.checkOneSpec.plain.varTypes Try.prog) (ds ++ gs)).all (· ≤ reachBytes) = true := hsz0
  have hval : ∀ (j : Nat) t v, Try.f3.params[j]? = some t → args[j]? = some v → Value.okWide Try.prog W .any base t v := hval0
  have hW' := hW
  obtain ⟨p, q, hA0, hV, rfl, _, _⟩ := hW
  have hA : DataW.TrodAll enc Try.prog W 0 (fun _ => true) true Try.f3.params.toList args.toList ds p := hA0
  rw [Try.params3] at hA hval hsz
  obtain ⟨v0, vs0, d0, ds0, p0, q0, hargs, rfl, rfl, h0, r0⟩ := trodAll_cons hA
  obtain ⟨v1, vs1, d1, ds1, p1, q1, rfl, rfl, rfl, h1, r1⟩ := trodAll_cons r0
  obtain ⟨rfl, rfl, rfl⟩ := trodAll_nil r1
  obtain rfl : args = #[v0, v1] := by cases args; simp_all
  obtain ⟨rfl, rfl⟩ := trodVars_none hV
  obtain ⟨cs0, rfl, _⟩ := okWide_struct Try.underlying30 (hval 0 30 v0 rfl rfl)
  have k0 := h0
  have lt0 : ∀ x ∈ p0, x.block < W.heap.size := by obtain ⟨m, hm⟩ := k0; exact DataW.trod_lt m _ _ _ hm
  obtain ⟨x0, ex0, hx0⟩ : ∃ x, cs0.toList = hstC x ∧ HstOk W x := by obtain ⟨m, hm⟩ := h0; exact rd_hst ⟨H, enc, _, _, m, _, hm⟩
  obtain rfl : cs0 = (hstC x0).toArray := by rw [← ex0]
  have sp0 : ∀ a, x0.attrs.a = some a → a.spot = none := spot_at 0 Try.underlying30 22 (by kernel_rfl) Try.underlying22 (hval 0 30 (.agg (hstC x0).toArray) rfl rfl) rfl
  obtain ⟨cs1, rfl, _⟩ := okWide_struct Try.underlying34 (hval 1 34 v1 rfl rfl)
  have k1 := h1
  have lt1 : ∀ x ∈ p1, x.block < W.heap.size := by obtain ⟨m, hm⟩ := k1; exact DataW.trod_lt m _ _ _ hm
  obtain ⟨x1, ex1, hx1⟩ : ∃ x, cs1.toList = exqC x ∧ ExqOk W x := by obtain ⟨m, hm⟩ := h1; exact rd_exq ⟨H, enc, _, _, m, _, hm⟩
  obtain rfl : cs1 = (exqC x1).toArray := by rw [← ex1]
  have sp1 : ∀ a, x1.attrs.a = some a → a.spot = none := spot_at 0 Try.underlying34 22 (by kernel_rfl) Try.underlying22 (hval 1 34 (.agg (exqC x1).toArray) rfl rfl) rfl
  clear hA0 hval0 hsz0 hsz
  refine (checkOne_walk x0 x1 W hx0 sp0 hx1 sp1).mono fun e W' ⟨he, bel⟩ => ?_
  subst he
  exact ⟨_, rfl, _, _, _, [], _, [], hW', trodAll_mk1 (shut_bool Try.underlying4 _), (trodAll_cons_mk (Below.trod laidOut (by kernel_rfl) (of_decide_eq_true (by kernel_rfl)) k0 bel lt0) (trodAll_cons_mk (Below.trod laidOut (by kernel_rfl) (of_decide_eq_true (by kernel_rfl)) k1 bel lt1) trodAll_mk0)), rfl, bel.frame _, fun h => by cases h⟩
theorem over : Rows.checkOneRow.holds Try.pinned (OpenSpec.ofChange Rows.checkOneSpec) :=
  OpenClaim.holds_of_wide 3 Try.f3 rfl rfl rfl rfl rfl rfl rfl ⟨rfl, rfl, rfl, rfl, rfl⟩ rfl rfl rfl rfl rfl (by kernel_rfl) Try.func3 (by kernel_rfl)
    (of_decide_eq_true (by kernel_rfl)) (by unfold Func.isWrapper; first | (rw [if_pos (by decide +kernel)]; kernel_rfl) | (rw [if_neg (by decide +kernel)]; exact ⟨rfl, rfl⟩))
    (fun os started H enc _ => lifted os started H enc)
end Go.Proofs.Ytdogokcoobpgdaa.checkOne
namespace Go.Proofs.Ytdogokcoobpgdaa
theorem checkOne_holds : Rows.CheckOneSaid := checkOne.over
#print axioms checkOne_holds
end Go.Proofs.Ytdogokcoobpgdaa
