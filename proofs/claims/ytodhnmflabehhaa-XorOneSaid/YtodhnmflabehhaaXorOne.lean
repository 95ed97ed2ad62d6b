import Derived.Test.YtodhnmflabehhaaXorFirst
namespace Go.Proofs.Ytodhnmflabehhaa
open Go.RowKit Go.Proofs.YtodhnmflabehhaaW.PrintWords Go.Proofs.YtodhnmflabehhaaW.PrintLast Go.Proofs.YtodhnmflabehhaaW.PrintMore Hy

set_option maxHeartbeats 2000000 in
theorem xorOne_walk (s : ByteArray) (count : Int) (w : World) (hs : s.size ≤ 140737488351232) (hm0 : -9223372036854775808 ≤ count) (hm1 : count < 9223372036854775808) :
    Calls Try.prog 5 #[.string s, .int .i64 count] w fun e w' => e = .returned (.bool true) ∧ Below w.heap.size w w' := by
  have HB := Aside0.mk (Below.refl w.heap.size w)
  by_cases hg : 4000 < s.size
  · go_enter Try.func5, Try.ntmps5
    go_wp2_with (first
      | (go_at_call 9; refine (xor_first _).mono ?_; rintro e wb ⟨rfl, hb⟩; have HBn : Aside0 (Below w.heap.size w wb) := ⟨below_next (by repeat (first | (with_reducible exact HB.out) | apply below_alloc | apply pw_below_drewN | apply below_drew1)) hb⟩; clear HB hb; have HB := HBn; clear HBn))
    go_ret
    exact ⟨rfl, (by repeat (first | (with_reducible exact HB.out) | apply below_alloc | apply pw_below_drewN | apply below_drew1))⟩
  · go_enter Try.func5, Try.ntmps5
    go_wp2_with (first
      | (go_at_call 9; refine (xor_first _).mono ?_; rintro e wb ⟨rfl, hb⟩; have HBn : Aside0 (Below w.heap.size w wb) := ⟨below_next (by repeat (first | (with_reducible exact HB.out) | apply below_alloc | apply pw_below_drewN | apply below_drew1)) hb⟩; clear HB hb; have HB := HBn; clear HBn))
    by_cases hr : count < 0 ∨ 20000 < count
    · refine (xorGet_range s count _ hr).mono ?_
      rintro e w' ⟨rfl, hw⟩
      subst w'
      go_wp2_with (first
        | (go_at_call 9; refine (xor_first _).mono ?_; rintro e wb ⟨rfl, hb⟩; have HBn : Aside0 (Below w.heap.size w wb) := ⟨below_next (by repeat (first | (with_reducible exact HB.out) | apply below_alloc | apply pw_below_drewN | apply below_drew1)) hb⟩; clear HB hb; have HB := HBn; clear HBn))
      go_ret
      exact ⟨rfl, (by repeat (first | (with_reducible exact HB.out) | apply below_alloc | apply pw_below_drewN | apply below_drew1))⟩
    · refine (xorGet_any s count wb hs (by omega) (by omega)).mono ?_
      rintro e wc (⟨l, A, c, rfl, hm, hu, hC, hc, hb⟩ | ⟨_, T, x, rfl, hb⟩)
      · have hlen : (l.length : Int) = count := by have := hm.1; rw [nat_length] at this; omega
        have hl2 : l.length ≤ 20000 := by omega
        have HBn : Aside0 (Below w.heap.size w wc) := ⟨below_next HB.out hb⟩
        have HP := xorPut_ok A c l wc hC hc hl2 hu
        rw [col_text _ _ _ hm] at HP
        have HL := Aside0.mk hlen
        clear HB hb hm hu hC hc hlen
        have HB := HBn
        clear HBn
        rw [← HL.out]
        go_wp2_with (first
          | (go_at_call 10; refine (HP).mono ?_; rintro e wb ⟨rfl, hb⟩; have HBn : Aside0 (Below w.heap.size w wb) := ⟨below_next (by repeat (first | (with_reducible exact HB.out) | apply below_alloc | apply pw_below_drewN | apply below_drew1)) hb⟩; clear HB hb; have HB := HBn; clear HBn)
          | (go_at_call 9; refine (xor_first _).mono ?_; rintro e wb ⟨rfl, hb⟩; have HBn : Aside0 (Below w.heap.size w wb) := ⟨below_next (by repeat (first | (with_reducible exact HB.out) | apply below_alloc | apply pw_below_drewN | apply below_drew1)) hb⟩; clear HB hb; have HB := HBn; clear HBn))
        go_ret
        exact ⟨rfl, (by repeat (first | (with_reducible exact HB.out) | apply below_alloc | apply pw_below_drewN | apply below_drew1))⟩
      · have HBn : Aside0 (Below w.heap.size w wc) := ⟨below_next HB.out hb⟩
        clear HB hb
        have HB := HBn
        clear HBn
        go_wp2_with (first
          | (go_at_call 9; refine (xor_first _).mono ?_; rintro e wb ⟨rfl, hb⟩; have HBn : Aside0 (Below w.heap.size w wb) := ⟨below_next (by repeat (first | (with_reducible exact HB.out) | apply below_alloc | apply pw_below_drewN | apply below_drew1)) hb⟩; clear HB hb; have HB := HBn; clear HBn))
        go_ret
        exact ⟨rfl, (by repeat (first | (with_reducible exact HB.out) | apply below_alloc | apply pw_below_drewN | apply below_drew1))⟩
end Go.Proofs.Ytodhnmflabehhaa
