/- Whatever the code, another one, and the wraps (two hundred at most): errors.Is, errors.As and errors.Unwrap find what is within, so that BlameFound answers true. Condition: the listed variable errors.errorType is as it is laid. -/
import Derived.Test.YtipgdjjmmfkfiaaDoorRows
import Derived.Test.YtipgdjjmmfkfiaaDoorMvvayhrtc
import Derived.WalkKit
import Derived.ProofKit
import Derived.OpenShut
import Derived.ShutString
import Derived.ChangeOld
import Derived.Below
import Derived.SizedLaws
import Derived.Test.YtipgdjjmmfkfiaaDoorMryiqqddq
import Derived.Test.YtipgdjjmmfkfiaaDoorCards
import Derived.Test.YtipgdjjmmfkfiaaDoorTie
import Derived.ChangeSame
import Derived.ChangeVars
import Derived.JoinedOf
import Derived.RowKit
import Derived.RowKitTokens
import Derived.LaidLaws
import Derived.LaidHandle
import Derived.Stop.Joined
import Derived.Handed
import Derived.SevenTiedAt
import Derived.Test.YtipgdjjmmfkfiaaDoorWSized
import Derived.Test.YtipgdjjmmfkfiaaDoorMspgtmdic
namespace Go.Proofs.YtipgdjjmmfkfiaaDoor.blameFound
open Go.ChangeShapes Go.WideShapes Go.ChangeAt Go.RowKit Go.Proofs.YtipgdjjmmfkfiaaDoorW.PrintWords
open Go.ChangeMaps (open_string shut_string)
theorem own : ownKnob Tryd.prog.godebug = none := by kernel_rfl
theorem laidOut : laidOutB Tryd.prog = true := by kernel_rfl
set_option maxRecDepth 100000 in
theorem lifted (os : Os) (started : os.Started) (H : Type) (enc : TypeId × Value → H) :
    ReturnsInHanded {} Tryd.checked os 5 .any (fun w args => ((Rows.blameFoundSpec.pre enc Tryd.prog Tryd.f5 [] false w args ∧ laidMetH Tryd.prog Rows.blameFoundRow.laid w) ∧ sizedMet enc Tryd.prog Tryd.f5 (OpenSpec.ofChange Rows.blameFoundSpec) false w args)) (Rows.blameFoundSpec.post enc Tryd.prog Tryd.f5 false true false false) := by
  refine returnsInHanded_of_change_and (C := Tryd.checked) (X := fun w _ => laidMetH Tryd.prog Rows.blameFoundRow.laid w) (fun _ _ _ hh h => h.of_heap hh) own started (by kernel_rfl) Tryd.func5
    (ChangeSpec.witness_at (enc := enc) (C := Tryd.checked) (os := os) (X := fun w _ => laidMetH Tryd.prog Rows.blameFoundRow.laid w) false (laidWorld os) #[.int .i64 0, .int .i64 0, .slice none 0 0] 8 rfl (by kernel_rfl) (by kernel_rfl) (by kernel_rfl) (by kernel_rfl) (by kernel_rfl) (laidWorld_met os _)) ?_
  intro W base args ds gs before hval0 hW _ hsz0 hL _
  have hg := laid_of hL
  have hsz : (DataW.weightsEach Tryd.prog (Tryd.f5.params.toList ++ Rows.blameFoundSpec.plain.varTypes Tryd.prog) (ds ++ gs)).all (· ≤ reachBytes) = true := hsz0
  have hval : ∀ (j : Nat) t v, Tryd.f5.params[j]? = some t → args[j]? = some v → Value.okWide Tryd.prog W .any base t v := hval0
  have hW' := hW
  obtain ⟨p, q, hA0, hV, rfl, _, _⟩ := hW
  have hA : DataW.TrodAll enc Tryd.prog W 0 (fun _ => true) true Tryd.f5.params.toList args.toList ds p := hA0
  rw [Tryd.params5] at hA hval hsz
  obtain ⟨v0, vs0, d0, ds0, p0, q0, hargs, rfl, rfl, h0, r0⟩ := trodAll_cons hA
  obtain ⟨v1, vs1, d1, ds1, p1, q1, rfl, rfl, rfl, h1, r1⟩ := trodAll_cons r0
  obtain ⟨v2, vs2, d2, ds2, p2, q2, rfl, rfl, rfl, h2, r2⟩ := trodAll_cons r1
  obtain ⟨rfl, rfl, rfl⟩ := trodAll_nil r2
  obtain rfl : args = #[v0, v1, v2] := by cases args; simp_all
  obtain ⟨rfl, rfl⟩ := trodVars_none hV
  obtain ⟨a0, rfl, rfl, rfl, w0⟩ := open_int Tryd.underlying22 (hval 0 22 v0 rfl rfl) h0
  obtain ⟨a1, rfl, rfl, rfl, w1⟩ := open_int Tryd.underlying22 (hval 1 22 v1 rfl rfl) h1
  obtain ⟨a2, len2, cap2, rfl⟩ := okWide_slice Tryd.underlying23 (hval 2 23 v2 rfl rfl)
  have k2 := h2
  have lt2 : ∀ x ∈ p2, x.block < W.heap.size := by obtain ⟨m, hm⟩ := k2; exact DataW.trod_lt m _ _ _ hm
  obtain ⟨l2, rfl, hr2, hc2, hm2, hx2⟩ := pairs_row (f := fun x : Bool × Int => Value.bool x.1) (g := fun x : Bool × Int => Value.int .i64 x.2) (ok := fun x => (-9223372036854775808 ≤ x.2 ∧ x.2 < 9223372036854775808)) Tryd.underlying23 Tryd.underlying56 (by kernel_rfl) rfl rfl (by kernel_rfl) (by kernel_rfl) (by
    intro n v0 v1 x0 x1 q0 q1
    obtain ⟨m0, e0, _⟩ := DataW.trod_bool Tryd.underlying4 q0
    obtain ⟨m1, e1, _, w1_⟩ := DataW.trod_int Tryd.underlying3 q1
    exact ⟨(m0, m1), by simpa using e0, by simpa using e1, ⟨(bounds_i64 w1_).1, by have h_ := (bounds_i64 w1_).2; omega⟩⟩) h2
  clear hA0 hval0 hsz0 hsz
  refine (blameFound_walk a0 a1 a2 cap2 l2 W (bounds_i64 w0).1 (by have h_ := (bounds_i64 w0).2; omega) (bounds_i64 w1).1 (by have h_ := (bounds_i64 w1).2; omega) hr2 hc2 (by have h_ := hm2; unfold maxLen at h_; omega) hx2 hg).mono fun e W' ⟨he, bel⟩ => ?_
  subst he
  exact ⟨_, rfl, _, _, _, [], _, [], hW', trodAll_mk1 (shut_bool Tryd.underlying4 _), (trodAll_cons_mk (shut_int Tryd.underlying22 w0) (trodAll_cons_mk (shut_int Tryd.underlying22 w1) (trodAll_cons_mk (Below.trod laidOut (by kernel_rfl) (of_decide_eq_true (by kernel_rfl)) k2 bel lt2) trodAll_mk0))), rfl, bel.frame _, fun h => by cases h⟩
theorem over : Rows.blameFoundRow.holds Tryd.pinned (OpenSpec.ofChange Rows.blameFoundSpec) :=
  OpenClaim.holds_of_wide 5 Tryd.f5 rfl rfl rfl rfl rfl rfl rfl ⟨rfl, rfl, rfl, rfl, rfl⟩ rfl rfl rfl rfl rfl (by kernel_rfl) Tryd.func5 (by kernel_rfl)
    (of_decide_eq_true (by kernel_rfl)) (by unfold Func.isWrapper; first | (rw [if_pos (by decide +kernel)]; kernel_rfl) | (rw [if_neg (by decide +kernel)]; exact ⟨rfl, rfl⟩))
    (fun os started H enc _ => lifted os started H enc)
end Go.Proofs.YtipgdjjmmfkfiaaDoor.blameFound
namespace Go.Proofs.YtipgdjjmmfkfiaaDoor
theorem blameFound_holds : Rows.BlameFoundCardSaid :=
  Claim7.holds_tied_plain_at .later [] [.handle] true (true, "d3bceef7abffdf1e40a3b9763004f3debbc55ff8dfb0a25babbfa5e28b49ed93") true
    blameFound.over (fun _ h => by cases h) (by kernel_rfl) (fun _ h => by cases h) blameFound_row_tie rfl ⟨rfl, rfl⟩ (by kernel_rfl) rfl
    (fun f fn hf hfn => by
      obtain rfl : f = 5 := Option.some.inj ((show Tryd.prog.funcNamed "hygrometer/hyglaw1.BlameFound" = some 5 by kernel_rfl).symm.trans hf) |>.symm
      obtain rfl : fn = Tryd.f5 := (Option.some.inj (Tryd.func5.symm.trans hfn)).symm
      exact ⟨by kernel_rfl, fun j t ht => by
        rw [Tryd.params5] at ht
        rcases j with _ | _ | _ | j <;> simp at ht <;> subst ht
        · exact (show Tryd.prog.wantsStandIn 22 = false by kernel_rfl)
        · exact (show Tryd.prog.wantsStandIn 22 = false by kernel_rfl)
        · exact (show Tryd.prog.wantsStandIn 23 = false by kernel_rfl)
        ⟩)
    (by kernel_rfl)
#print axioms blameFound_holds
end Go.Proofs.YtipgdjjmmfkfiaaDoor
