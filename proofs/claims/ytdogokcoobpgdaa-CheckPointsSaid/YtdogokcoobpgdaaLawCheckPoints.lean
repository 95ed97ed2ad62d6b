/- Package hyglaw18's statement CheckPoints holds: the reason that the checks tell of any number, histogram, exponential histogram and summary is the document's, for every four points; no condition is laid on them. -/
import Derived.Test.YtdogokcoobpgdaaRows
import Derived.Test.YtdogokcoobpgdaaMytspzhtg
import Derived.WalkKit
import Derived.ProofKit
import Derived.OpenShut
import Derived.ShutString
import Derived.ChangeOld
import Derived.Below
import Derived.SizedLaws
import Derived.Test.YtdogokcoobpgdaaWSized
import Derived.Test.YtdogokcoobpgdaaMtxfbzfli
namespace Go.Proofs.Ytdogokcoobpgdaa.checkPoints
open Go.ChangeShapes Go.WideShapes Go.ChangeAt Go.RowKit Go.Proofs.YtdogokcoobpgdaaW.PrintWords
open Go.ChangeMaps (open_string shut_string)
theorem own : ownKnob Try.prog.godebug = none := by kernel_rfl
theorem laidOut : laidOutB Try.prog = true := by kernel_rfl
set_option maxRecDepth 100000 in
theorem lifted (os : Os) (started : os.Started) (H : Type) (enc : TypeId × Value → H) :
    ReturnsInHanded {} Try.checked os 4 .any (Rows.checkPointsSpec.pre6 enc Try.prog Try.f4 Rows.checkPointsRow.domain false) (Rows.checkPointsSpec.post enc Try.prog Try.f4 false true false false) := by
  refine returnsInHanded_of_change_sized (C := Try.checked) own started (by kernel_rfl) Try.func4
    (ChangeSpec.witness6 (enc := enc) (C := Try.checked) false ⟨#[], #[(nmbA default), (hstA default), (exqA default), (smmA default)], []⟩ 8 (by kernel_rfl) (by kernel_rfl) (by kernel_rfl) (by kernel_rfl)) ?_
  intro W base args ds gs before hval0 hW _ hsz0 _
  have hsz : (DataW.weightsEach Try.prog (Try.f4.params.toList ++ Rows.checkPointsSpec.plain.varTypes Try.prog) (ds ++ gs)).all (· ≤ reachBytes) = true := hsz0
  have hval : ∀ (j : Nat) t v, Try.f4.params[j]? = some t → args[j]? = some v → Value.okWide Try.prog W .any base t v := hval0
  have hW' := hW
  obtain ⟨p, q, hA0, hV, rfl, _, _⟩ := hW
  have hA : DataW.TrodAll enc Try.prog W 0 (fun _ => true) true Try.f4.params.toList args.toList ds p := hA0
  rw [Try.params4] at hA hval hsz
  obtain ⟨v0, vs0, d0, ds0, p0, q0, hargs, rfl, rfl, h0, r0⟩ := trodAll_cons hA
  obtain ⟨v1, vs1, d1, ds1, p1, q1, rfl, rfl, rfl, h1, r1⟩ := trodAll_cons r0
  obtain ⟨v2, vs2, d2, ds2, p2, q2, rfl, rfl, rfl, h2, r2⟩ := trodAll_cons r1
  obtain ⟨v3, vs3, d3, ds3, p3, q3, rfl, rfl, rfl, h3, r3⟩ := trodAll_cons r2
  obtain ⟨rfl, rfl, rfl⟩ := trodAll_nil r3
  obtain rfl : args = #[v0, v1, v2, v3] := by cases args; simp_all
  obtain ⟨rfl, rfl⟩ := trodVars_none hV
  obtain ⟨cs0, rfl, _⟩ := okWide_struct Try.underlying47 (hval 0 47 v0 rfl rfl)
  have k0 := h0
  have lt0 : ∀ x ∈ p0, x.block < W.heap.size := by obtain ⟨m, hm⟩ := k0; exact DataW.trod_lt m _ _ _ hm
  obtain ⟨x0, ex0, hx0⟩ : ∃ x, cs0.toList = nmbC x ∧ NmbOk W x := by obtain ⟨m, hm⟩ := h0; exact rd_nmb ⟨H, enc, _, _, m, _, hm⟩
  obtain rfl : cs0 = (nmbC x0).toArray := by rw [← ex0]
  have sp0 : ∀ a, x0.attrs.a = some a → a.spot = none := spot_at 0 Try.underlying47 22 (by kernel_rfl) Try.underlying22 (hval 0 47 (.agg (nmbC x0).toArray) rfl rfl) rfl
  obtain ⟨cs1, rfl, _⟩ := okWide_struct Try.underlying30 (hval 1 30 v1 rfl rfl)
  have k1 := h1
  have lt1 : ∀ x ∈ p1, x.block < W.heap.size := by obtain ⟨m, hm⟩ := k1; exact DataW.trod_lt m _ _ _ hm
  obtain ⟨x1, ex1, hx1⟩ : ∃ x, cs1.toList = hstC x ∧ HstOk W x := by obtain ⟨m, hm⟩ := h1; exact rd_hst ⟨H, enc, _, _, m, _, hm⟩
  obtain rfl : cs1 = (hstC x1).toArray := by rw [← ex1]
  have sp1 : ∀ a, x1.attrs.a = some a → a.spot = none := spot_at 0 Try.underlying30 22 (by kernel_rfl) Try.underlying22 (hval 1 30 (.agg (hstC x1).toArray) rfl rfl) rfl
  obtain ⟨cs2, rfl, _⟩ := okWide_struct Try.underlying34 (hval 2 34 v2 rfl rfl)
  have k2 := h2
  have lt2 : ∀ x ∈ p2, x.block < W.heap.size := by obtain ⟨m, hm⟩ := k2; exact DataW.trod_lt m _ _ _ hm
  obtain ⟨x2, ex2, hx2⟩ : ∃ x, cs2.toList = exqC x ∧ ExqOk W x := by obtain ⟨m, hm⟩ := h2; exact rd_exq ⟨H, enc, _, _, m, _, hm⟩
  obtain rfl : cs2 = (exqC x2).toArray := by rw [← ex2]
  have sp2 : ∀ a, x2.attrs.a = some a → a.spot = none := spot_at 0 Try.underlying34 22 (by kernel_rfl) Try.underlying22 (hval 2 34 (.agg (exqC x2).toArray) rfl rfl) rfl
  obtain ⟨cs3, rfl, _⟩ := okWide_struct Try.underlying50 (hval 3 50 v3 rfl rfl)
  have k3 := h3
  have lt3 : ∀ x ∈ p3, x.block < W.heap.size := by obtain ⟨m, hm⟩ := k3; exact DataW.trod_lt m _ _ _ hm
  obtain ⟨x3, ex3, hx3⟩ : ∃ x, cs3.toList = smmC x ∧ SmmOk W x := by obtain ⟨m, hm⟩ := h3; exact rd_smm ⟨H, enc, _, _, m, _, hm⟩
  obtain rfl : cs3 = (smmC x3).toArray := by rw [← ex3]
  have sp3 : ∀ a, x3.attrs.a = some a → a.spot = none := spot_at 0 Try.underlying50 22 (by kernel_rfl) Try.underlying22 (hval 3 50 (.agg (smmC x3).toArray) rfl rfl) rfl
  clear hA0 hval0 hsz0 hsz
  refine (checkPoints_walk x0 x1 x2 x3 W hx0 sp0 hx1 sp1 hx2 sp2 hx3 sp3).mono fun e W' ⟨he, bel⟩ => ?_
  subst he
  exact ⟨_, rfl, _, _, _, [], _, [], hW', trodAll_mk1 (shut_bool Try.underlying4 _), (trodAll_cons_mk (Below.trod laidOut (by kernel_rfl) (of_decide_eq_true (by kernel_rfl)) k0 bel lt0) (trodAll_cons_mk (Below.trod laidOut (by kernel_rfl) (of_decide_eq_true (by kernel_rfl)) k1 bel lt1) (trodAll_cons_mk (Below.trod laidOut (by kernel_rfl) (of_decide_eq_true (by kernel_rfl)) k2 bel lt2) (trodAll_cons_mk (Below.trod laidOut (by kernel_rfl) (of_decide_eq_true (by kernel_rfl)) k3 bel lt3) trodAll_mk0)))), rfl, bel.frame _, fun h => by cases h⟩
theorem over : Rows.checkPointsRow.holds Try.pinned (OpenSpec.ofChange Rows.checkPointsSpec) :=
  OpenClaim.holds_of_wide 4 Try.f4 rfl rfl rfl rfl rfl rfl rfl ⟨rfl, rfl, rfl, rfl, rfl⟩ rfl rfl rfl rfl rfl (by kernel_rfl) Try.func4 (by kernel_rfl)
    (of_decide_eq_true (by kernel_rfl)) (by unfold Func.isWrapper; first | (rw [if_pos (by decide +kernel)]; kernel_rfl) | (rw [if_neg (by decide +kernel)]; exact ⟨rfl, rfl⟩))
    (fun os started H enc _ => lifted os started H enc)
end Go.Proofs.Ytdogokcoobpgdaa.checkPoints
namespace Go.Proofs.Ytdogokcoobpgdaa
theorem checkPoints_holds : Rows.CheckPointsSaid := checkPoints.over
#print axioms checkPoints_holds
end Go.Proofs.Ytdogokcoobpgdaa
