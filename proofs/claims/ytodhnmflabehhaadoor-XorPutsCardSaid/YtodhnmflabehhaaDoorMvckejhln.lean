import Derived.Test.YtodhnmflabehhaaDoorMgncyubjz
import Derived.Test.YtodhnmflabehhaaDoorMjwcbvwnx
import Derived.Test.YtodhnmflabehhaaDoorMsvpcawkb
import Derived.Test.YtodhnmflabehhaaDoorPXorPutsx
namespace Go.Proofs.YtodhnmflabehhaaDoor
open Go.RowKit Go.Proofs.YtodhnmflabehhaaDoorW.PrintWords Go.Proofs.YtodhnmflabehhaaDoorW.PrintLast Go.Proofs.YtodhnmflabehhaaDoorW.PrintMore Hy

theorem copy_any (A : Option Addr) (c : Nat) (l : List Int) (w : World) (hr : Kd.C (Kd.int .u64) w A l.length l) (hc : l.length ≤ c) (hl : l.length ≤ 1000000) :
    Calls Tryd.prog 28 #[.slice A l.length c] w fun e w' => ∃ A' c', e = .returned (.slice A' l.length c') ∧ Kd.C (Kd.int .u64) w' A' l.length l ∧ l.length ≤ c' ∧ Below w.heap.size w w' := by
  refine (PXorPuts.hygref_CopyNums.calls A c l l w hr hc (by unfold PXorPuts.hygref_CopyNums.f; rw [Option.bind_some, if_pos (by simp; omega), List.nil_append])).mono ?_
  rintro e w' ⟨v, rfl, hR, hb⟩
  obtain ⟨A', c', rfl, h1, h2⟩ := Kd.R_reads hR
  exact ⟨A', c', rfl, h2, h1, hb⟩
theorem codeNil (w : World) (hg : Laid w) : Calls Tryd.prog 12 #[.nilIface] w fun e w' => e = .returned (.int .i64 0) ∧ Below w.heap.size w w' := code_any .nil _ w hg rfl
set_option maxHeartbeats 2000000 in
theorem xorPuts_walk (A : Option Addr) (c : Nat) (l : List Int) (w : World) (hr : Kd.C (Kd.int .u64) w A l.length l) (hc : l.length ≤ c) (_hl : l.length * 8 ≤ 140737488351232) (hx : ∀ x ∈ l, 0 ≤ x ∧ x < 18446744073709551616) (hg : Laid w) :
    Calls Tryd.prog 6 #[.slice A l.length c] w fun e w' => e = .returned (.bool true) ∧ Below w.heap.size w w' := by
  have HB := Aside0.mk (Below.refl w.heap.size w)
  have HR := Aside0.mk hr
  have HX := Aside0.mk hx
  have HC := Aside0.mk hc
  have HG := Aside0.mk hg
  clear hr hc _hl hx hg
  by_cases hlen : 2000 < l.length
  · go_enter Tryd.func6, Tryd.ntmps6
    go_wp2_with (first
      | (go_at_call 27; refine (xor_first _).mono ?_; rintro e wb ⟨rfl, hb⟩; have HBn : Aside0 (Below w.heap.size w wb) := ⟨below_next (by repeat (first | (with_reducible exact HB.out) | apply below_alloc | apply pw_below_drewN | apply below_drew1)) hb⟩; clear HB hb; have HB := HBn; clear HBn))
    go_ret
    exact ⟨rfl, (by repeat (first | (with_reducible exact HB.out) | apply below_alloc | apply pw_below_drewN | apply below_drew1))⟩
  · go_enter Tryd.func6, Tryd.ntmps6
    go_wp2_with (first
      | (go_at_call 27; refine (xor_first _).mono ?_; rintro e wb ⟨rfl, hb⟩; have HBn : Aside0 (Below w.heap.size w wb) := ⟨below_next (by repeat (first | (with_reducible exact HB.out) | apply below_alloc | apply pw_below_drewN | apply below_drew1)) hb⟩; clear HB hb; have HB := HBn; clear HBn))
    refine (copy_any A c l _ (Kd.C_below HR.out (by repeat (first | (with_reducible exact HB.out) | apply below_alloc | apply pw_below_drewN | apply below_drew1))) HC.out (by omega)).mono ?_
    rintro e wc ⟨A2, c2, rfl, hC2, hc2, hb⟩
    have HC2 := Aside0.mk hC2
    have HBn : Aside0 (Below w.heap.size w wc) := ⟨below_next HB.out hb⟩
    clear HB hb hC2
    have HB := HBn
    clear HBn
    have HC3 := Aside0.mk hc2
    clear hc2
    go_wp2_with (first
      | (go_at_call 29; refine (xorPut_ok A2 c2 l _ HC2.out HC3.out (by omega) HX.out).mono ?_; rintro e wb ⟨rfl, hb⟩; have HC4 := Aside0.mk (Kd.C_below HC2.out hb); have HBn : Aside0 (Below w.heap.size w wb) := ⟨below_next (by repeat (first | (with_reducible exact HB.out) | apply below_alloc | apply pw_below_drewN | apply below_drew1)) hb⟩; clear HB hb; have HB := HBn; clear HBn)
      | (go_at_call 30; refine (rputxor_any A c l _ (Kd.C_below HR.out (by repeat (first | (with_reducible exact HB.out) | apply below_alloc | apply pw_below_drewN | apply below_drew1))) HC.out (by omega) HX.out).mono ?_; rintro e wb ⟨rfl, hb⟩; have HC5 := Aside0.mk (Kd.C_below HC4.out hb); have HBn : Aside0 (Below w.heap.size w wb) := ⟨below_next (by repeat (first | (with_reducible exact HB.out) | apply below_alloc | apply pw_below_drewN | apply below_drew1)) hb⟩; clear HB hb; have HB := HBn; clear HBn)
      | (go_at_call 27; refine (xor_first _).mono ?_; rintro e wb ⟨rfl, hb⟩; have HC6 := Aside0.mk (Kd.C_below HC5.out hb); have HBn : Aside0 (Below w.heap.size w wb) := ⟨below_next (by repeat (first | (with_reducible exact HB.out) | apply below_alloc | apply pw_below_drewN | apply below_drew1)) hb⟩; clear HB hb; have HB := HBn; clear HBn)
      | (go_at_call 12; refine (codeNil _ (HG.out.below (by repeat (first | (with_reducible exact HB.out) | apply below_alloc | apply pw_below_drewN | apply below_drew1)))).mono ?_; rintro e wb ⟨rfl, hb⟩; have HC7 := Aside0.mk (Kd.C_below HC6.out hb); have HBn : Aside0 (Below w.heap.size w wb) := ⟨below_next (by repeat (first | (with_reducible exact HB.out) | apply below_alloc | apply pw_below_drewN | apply below_drew1)) hb⟩; clear HB hb; have HB := HBn; clear HBn))
    have HN := fun w' (h1 : Kd.C (Kd.int .u64) w' A2 l.length l) (h2 : Kd.C (Kd.int .u64) w' A l.length l) => nums_any A2 c2 l A c l w' h1 HC3.out h2 HC.out (by omega)
    rw [decide_eq_true rfl] at HN
    go_wp2_with (first
      | (go_at_call 31; refine (HN _ HC7.out (Kd.C_below HR.out (by repeat (first | (with_reducible exact HB.out) | apply below_alloc | apply pw_below_drewN | apply below_drew1)))).mono ?_; rintro e wd ⟨rfl, ⟨nd, rfl⟩⟩))
    go_ret
    exact ⟨rfl, (by repeat (first | (with_reducible exact HB.out) | apply below_alloc | apply pw_below_drewN | apply below_drew1))⟩
end Go.Proofs.YtodhnmflabehhaaDoor
