import Derived.Test.YtdgbcokakmonfaaRunsFirst
namespace Go.Proofs.Ytdgbcokakmonfaa
open Go.RowKit Go.Proofs.YtdgbcokakmonfaaW.PrintWords Go.Proofs.YtdgbcokakmonfaaW.PrintLast Go.Proofs.YtdgbcokakmonfaaW.PrintMore Hy

set_option maxHeartbeats 2000000 in
theorem runsOne_walk (s : ByteArray) (count : Int) (w : World) (hs : s.size ≤ 140737488351232) (hm0 : -9223372036854775808 ≤ count) (hm1 : count < 9223372036854775808) :
    Calls Try.prog 4 #[.string s, .int .i64 count] w fun e w' => e = .returned (.bool true) ∧ Below w.heap.size w w' := by
  have HB := Aside0.mk (Below.refl w.heap.size w)
  by_cases hg : 4000 < s.size
  · go_enter Try.func4, Try.ntmps4
    go_wp2_with (first
      | (go_at_call 6; refine (runs_first _).mono ?_; rintro e wb ⟨rfl, hb⟩; have HBn : Aside0 (Below w.heap.size w wb) := ⟨below_next (by repeat (first | (with_reducible exact HB.out) | apply below_alloc | apply pw_below_drewN | apply below_drew1)) hb⟩; clear HB hb; have HB := HBn; clear HBn))
    go_ret
    exact ⟨rfl, (by repeat (first | (with_reducible exact HB.out) | apply below_alloc | apply pw_below_drewN | apply below_drew1))⟩
  · go_enter Try.func4, Try.ntmps4
    go_wp2_with (first
      | (go_at_call 6; refine (runs_first _).mono ?_; rintro e wb ⟨rfl, hb⟩; have HBn : Aside0 (Below w.heap.size w wb) := ⟨below_next (by repeat (first | (with_reducible exact HB.out) | apply below_alloc | apply pw_below_drewN | apply below_drew1)) hb⟩; clear HB hb; have HB := HBn; clear HBn))
    by_cases hr : count < 0 ∨ 20000 < count
    · refine (runsGet_range s count _ hr).mono ?_
      rintro e wb ⟨rfl, hb⟩
      have HBn : Aside0 (Below w.heap.size w wb) := ⟨below_next HB.out hb⟩
      clear HB hb
      have HB := HBn
      clear HBn
      go_wp2_with (first
        | (go_at_call 6; refine (runs_first _).mono ?_; rintro e wb ⟨rfl, hb⟩; have HBn : Aside0 (Below w.heap.size w wb) := ⟨below_next (by repeat (first | (with_reducible exact HB.out) | apply below_alloc | apply pw_below_drewN | apply below_drew1)) hb⟩; clear HB hb; have HB := HBn; clear HBn))
      go_ret
      exact ⟨rfl, (by repeat (first | (with_reducible exact HB.out) | apply below_alloc | apply pw_below_drewN | apply below_drew1))⟩
    · by_cases hok : ∃ l : List Int, isRuns (bs s) l ∧ (l.length : Int) = count
      · obtain ⟨l, hvs, hlen⟩ := hok
        have h4 := runsGet_ok s count l wb (by omega) hs hvs hlen
        have hst : st (putsL (grp l)) = s := by rw [← hvs.1, st_bs]
        have hl2 : l.length ≤ 20000 := by omega
        refine h4.mono ?_
        rintro e wc ⟨A, c, rfl, hC, hc, hb⟩
        have HBn : Aside0 (Below w.heap.size w wc) := ⟨below_next HB.out hb⟩
        have HP := runsPut_ok A c l wc hC hc hl2 hvs.2
        rw [hst] at HP
        have HL := Aside0.mk hlen
        clear HB hb hst hvs h4 hC hc hlen
        have HB := HBn
        clear HBn
        rw [← HL.out]
        go_wp2_with (first
          | (go_at_call 7; refine (HP).mono ?_; rintro e wb ⟨rfl, hb⟩; have HBn : Aside0 (Below w.heap.size w wb) := ⟨below_next (by repeat (first | (with_reducible exact HB.out) | apply below_alloc | apply pw_below_drewN | apply below_drew1)) hb⟩; clear HB hb; have HB := HBn; clear HBn)
          | (go_at_call 6; refine (runs_first _).mono ?_; rintro e wb ⟨rfl, hb⟩; have HBn : Aside0 (Below w.heap.size w wb) := ⟨below_next (by repeat (first | (with_reducible exact HB.out) | apply below_alloc | apply pw_below_drewN | apply below_drew1)) hb⟩; clear HB hb; have HB := HBn; clear HBn))
        go_ret
        exact ⟨rfl, (by repeat (first | (with_reducible exact HB.out) | apply below_alloc | apply pw_below_drewN | apply below_drew1))⟩
      · refine (runsGet_err s count wb (by omega) (by omega) hs (fun l h e => hok ⟨l, h, e⟩)).mono ?_
        rintro e wb ⟨u, E, rfl, hu, hne, hb⟩; have HBn : Aside0 (Below w.heap.size w wb) := ⟨below_next (by repeat (first | (with_reducible exact HB.out) | apply below_alloc | apply pw_below_drewN | apply below_drew1)) hb⟩; clear HB hb; have HB := HBn; clear HBn; obtain ⟨uT, ux, rfl⟩ := hu.iface hne; clear hu hne
        go_wp2_with (first
          | (go_at_call 6; refine (runs_first _).mono ?_; rintro e wb ⟨rfl, hb⟩; have HBn : Aside0 (Below w.heap.size w wb) := ⟨below_next (by repeat (first | (with_reducible exact HB.out) | apply below_alloc | apply pw_below_drewN | apply below_drew1)) hb⟩; clear HB hb; have HB := HBn; clear HBn))
        go_ret
        exact ⟨rfl, (by repeat (first | (with_reducible exact HB.out) | apply below_alloc | apply pw_below_drewN | apply below_drew1))⟩
end Go.Proofs.Ytdgbcokakmonfaa
