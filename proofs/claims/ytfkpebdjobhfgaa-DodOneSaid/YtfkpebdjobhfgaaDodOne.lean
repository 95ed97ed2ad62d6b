import Derived.Test.YtfkpebdjobhfgaaDodFirst
namespace Go.Proofs.Ytfkpebdjobhfgaa
open Go.RowKit Go.Proofs.YtfkpebdjobhfgaaW.PrintWords Go.Proofs.YtfkpebdjobhfgaaW.PrintLast Go.Proofs.YtfkpebdjobhfgaaW.PrintMore Hy

set_option maxHeartbeats 2000000 in
theorem dodOne_walk (s : ByteArray) (count : Int) (w : World) (hs : s.size ≤ 140737488351232) (hm0 : -9223372036854775808 ≤ count) (hm1 : count < 9223372036854775808) :
    Calls Try.prog 6 #[.string s, .int .i64 count] w fun e w' => e = .returned (.bool true) ∧ Below w.heap.size w w' := by
  have HB := Aside0.mk (Below.refl w.heap.size w)
  by_cases hg : 4000 < s.size
  · go_enter Try.func6, Try.ntmps6
    go_wp2_with (first
      | (go_at_call 20; refine (dod_first _).mono ?_; rintro e wb ⟨rfl, hb⟩; have HBn : Aside0 (Below w.heap.size w wb) := ⟨below_next (by repeat (first | (with_reducible exact HB.out) | apply below_alloc | apply pw_below_drewN | apply below_drew1)) hb⟩; clear HB hb; have HB := HBn; clear HBn))
    go_ret
    exact ⟨rfl, (by repeat (first | (with_reducible exact HB.out) | apply below_alloc | apply pw_below_drewN | apply below_drew1))⟩
  · go_enter Try.func6, Try.ntmps6
    go_wp2_with (first
      | (go_at_call 20; refine (dod_first _).mono ?_; rintro e wb ⟨rfl, hb⟩; have HBn : Aside0 (Below w.heap.size w wb) := ⟨below_next (by repeat (first | (with_reducible exact HB.out) | apply below_alloc | apply pw_below_drewN | apply below_drew1)) hb⟩; clear HB hb; have HB := HBn; clear HBn))
    by_cases hr : count < 0 ∨ 20000 < count
    · refine (dodGet_range s count _ hr).mono ?_
      rintro e wb ⟨rfl, hb⟩
      have HBn : Aside0 (Below w.heap.size w wb) := ⟨below_next HB.out hb⟩
      clear HB hb
      have HB := HBn
      clear HBn
      go_wp2_with (first
        | (go_at_call 20; refine (dod_first _).mono ?_; rintro e wb ⟨rfl, hb⟩; have HBn : Aside0 (Below w.heap.size w wb) := ⟨below_next (by repeat (first | (with_reducible exact HB.out) | apply below_alloc | apply pw_below_drewN | apply below_drew1)) hb⟩; clear HB hb; have HB := HBn; clear HBn))
      go_ret
      exact ⟨rfl, (by repeat (first | (with_reducible exact HB.out) | apply below_alloc | apply pw_below_drewN | apply below_drew1))⟩
    · by_cases hok : ∃ vs, getN count.toNat (bs s) = some (vs, [])
      · obtain ⟨vs, hvs⟩ := hok
        obtain ⟨h1, h2, h3⟩ := getN_some _ _ _ _ (bs_ok s) hvs
        obtain ⟨l, e1, e2, e3, e4⟩ := unoffs_split [] vs
        have h4 := dodGet_ok s count vs wb (by omega) (by omega) hs hvs
        rw [List.append_nil] at h1
        rw [e1, List.nil_append] at h4
        have hst : st (putsL (offs [] l)) = s := by rw [e4 h3, ← h1, st_bs]
        have hlen : (l.length : Int) = count := by omega
        have hl2 : l.length ≤ 20000 := by omega
        refine h4.mono ?_
        rintro e wc ⟨A, c, rfl, hC, hc, hb⟩
        have HBn : Aside0 (Below w.heap.size w wc) := ⟨below_next HB.out hb⟩
        have HP := dodPut_ok A c l wc hC hc hl2 e3
        rw [hst] at HP
        have HL := Aside0.mk hlen
        clear HB hb hst hvs h1 h2 h3 e1 e2 e4 h4 hC hc hlen
        have HB := HBn
        clear HBn
        rw [← HL.out]
        go_wp2_with (first
          | (go_at_call 21; refine (HP).mono ?_; rintro e wb ⟨rfl, hb⟩; have HBn : Aside0 (Below w.heap.size w wb) := ⟨below_next (by repeat (first | (with_reducible exact HB.out) | apply below_alloc | apply pw_below_drewN | apply below_drew1)) hb⟩; clear HB hb; have HB := HBn; clear HBn)
          | (go_at_call 20; refine (dod_first _).mono ?_; rintro e wb ⟨rfl, hb⟩; have HBn : Aside0 (Below w.heap.size w wb) := ⟨below_next (by repeat (first | (with_reducible exact HB.out) | apply below_alloc | apply pw_below_drewN | apply below_drew1)) hb⟩; clear HB hb; have HB := HBn; clear HBn))
        go_ret
        exact ⟨rfl, (by repeat (first | (with_reducible exact HB.out) | apply below_alloc | apply pw_below_drewN | apply below_drew1))⟩
      · refine (dodGet_err s count wb (by omega) (by omega) hs (fun vs e => hok ⟨vs, e⟩)).mono ?_
        rintro e wb ⟨u, E, rfl, hu, hne, hb⟩; have HBn : Aside0 (Below w.heap.size w wb) := ⟨below_next (by repeat (first | (with_reducible exact HB.out) | apply below_alloc | apply pw_below_drewN | apply below_drew1)) hb⟩; clear HB hb; have HB := HBn; clear HBn; obtain ⟨uT, ux, rfl⟩ := hu.iface hne; clear hu hne
        go_wp2_with (first
          | (go_at_call 20; refine (dod_first _).mono ?_; rintro e wb ⟨rfl, hb⟩; have HBn : Aside0 (Below w.heap.size w wb) := ⟨below_next (by repeat (first | (with_reducible exact HB.out) | apply below_alloc | apply pw_below_drewN | apply below_drew1)) hb⟩; clear HB hb; have HB := HBn; clear HBn))
        go_ret
        exact ⟨rfl, (by repeat (first | (with_reducible exact HB.out) | apply below_alloc | apply pw_below_drewN | apply below_drew1))⟩
end Go.Proofs.Ytfkpebdjobhfgaa
