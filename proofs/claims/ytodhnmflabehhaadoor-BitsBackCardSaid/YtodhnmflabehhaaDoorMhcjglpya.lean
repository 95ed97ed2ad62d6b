import Derived.Test.YtodhnmflabehhaaDoorMaugpcuyv
namespace Go.Proofs.YtodhnmflabehhaaDoor
open Go.RowKit Go.Proofs.YtodhnmflabehhaaDoorW.PrintWords Go.Proofs.YtodhnmflabehhaaDoorW.PrintLast Go.Proofs.YtodhnmflabehhaaDoorW.PrintMore Hy

set_option maxHeartbeats 2000000 in
set_option maxRecDepth 100000 in
theorem bitsBack_walk (A : Option Addr) (cp : Nat) (l : List (Int × Int)) (w : World)
    (hr : Prs (fun x : Int × Int => Value.int .u64 x.1) (fun x : Int × Int => Value.int .i64 x.2) w A l) (_hcp : l.length ≤ cp) (_hl : l.length ≤ 9223372036854775807) (hx : ∀ x ∈ l, (0 ≤ x.1 ∧ x.1 < 18446744073709551616) ∧ (-9223372036854775808 ≤ x.2 ∧ x.2 < 9223372036854775808)) (hg : Laid w) :
    Calls Tryd.prog 4 #[.slice A l.length cp] w fun e w' => e = .returned (.bool true) ∧ Below w.heap.size w w' := by
  have HB := Aside0.mk (Below.refl w.heap.size w)
  have HR : Aside0 (Ops w A l) := ⟨hr⟩
  have HX := Aside0.mk hx
  have HG := Aside0.mk hg
  clear hr _hcp _hl hx hg
  by_cases hlen : 300 < l.length
  · go_enter Tryd.func4, Tryd.ntmps4
    go_wp2_with (first
      | (go_at_call 9; refine (bits_first _).mono ?_; rintro e wb ⟨rfl, hb⟩; have HBn : Aside0 (Below w.heap.size w wb) := ⟨below_next (by repeat (first | (with_reducible exact HB.out) | apply below_alloc | apply pw_below_drewN | apply below_drew1)) hb⟩; clear HB hb; have HB := HBn; clear HBn))
    go_ret
    exact ⟨rfl, (by repeat (first | (with_reducible exact HB.out) | apply below_alloc | apply pw_below_drewN | apply below_drew1))⟩
  · go_enter Tryd.func4, Tryd.ntmps4
    go_wp2_with fail
    refine (bits_first _).mono ?_
    rintro e w1 ⟨rfl, hb⟩
    have HB1 := Aside0.mk (below_next HB.out hb)
    clear HB hb
    go_wp2_with fail
    obtain ⟨g, hg⟩ : ∃ g, w1.heap.size = g := ⟨_, rfl⟩
    have HI0 : Aside0 (IsW 27 w1.heap.size g [] (w1.alloc (.cells #[.slice none 0 0, .int .i64 0] 27))) := ⟨by rw [← hg]; exact IsW.new _ w1⟩
    have HB0 : Aside0 (Below w1.heap.size w1 (w1.alloc (.cells #[.slice none 0 0, .int .i64 0] 27))) := ⟨below_alloc (Below.refl _ _) _⟩
    rw [hg]
    clear hg
    go_loopw [4, 5] (fun v4 v5 w' => ∃ k : Nat, k ≤ l.length ∧ v4 = .int .i64 ((opsL (l.take k)).length : Int) ∧ v5 = .int .i64 (k : Int) ∧ Aside0 (∀ x ∈ l.take k, opG x) ∧ Aside0 (IsW 27 w1.heap.size g (opsL (l.take k)) w') ∧ Aside0 (Below w1.heap.size w1 w')) (fun _ v5 _ => l.length - (intOf v5).toNat)
    case atStart => exact ⟨0, Nat.zero_le _, rfl, rfl, ⟨by simp⟩, HI0, HB0⟩
    case round =>
      clear HI0 HB0
      obtain ⟨k, hk, rfl, rfl, HO, HI, HB⟩ := hrel
      have hbl := opsL_len _ HO.out
      rw [List.length_take, Nat.min_eq_left hk] at hbl
      have HBW : Aside0 (Below w.heap.size w wr) := ⟨below_next HB1.out HB.out⟩
      by_cases hlt : k < l.length
      · obtain ⟨ad, rfl, q0, q1⟩ := (HR.out.below HBW.out).at_ k hlt
        obtain ⟨⟨x, y⟩, hxy⟩ : ∃ p, l[k] = p := ⟨_, rfl⟩
        have hxb := HX.out _ (List.getElem_mem hlt)
        have HS := opsL_take l k hlt
        have HGd := fun h => good_take hlt HO.out h
        rw [hxy] at q0 q1 hxb HS HGd
        have hLk := Aside0.mk hxy
        clear hxy
        by_cases c1 : y < 0
        · clear HS HGd
          go_wp2_with fail
          go_quiet (fail)
          go_wp2_with (first
            | (go_at_call 9; refine (bits_first _).mono ?_; rintro e wb ⟨rfl, hb⟩; have HBn : Aside0 (Below w1.heap.size w1 wb) := ⟨below_next (by repeat (first | (with_reducible exact HB.out) | apply below_alloc | apply pw_below_drewN | apply below_drew1)) hb⟩; clear HB hb; have HB := HBn; clear HBn))
          go_ret
          exact ⟨rfl, below_next HB1.out HB.out⟩
        · by_cases c2 : 64 < y
          · have d1 : decide (y < 0) = false := decide_eq_false c1
            have d2 : decide (64 < y) = true := decide_eq_true c2
            clear HS HGd c1 c2
            go_wp2_with fail
            go_quiet (fail)
            go_wp2_with (first
              | (go_at_call 9; refine (bits_first _).mono ?_; rintro e wb ⟨rfl, hb⟩; have HBn : Aside0 (Below w1.heap.size w1 wb) := ⟨below_next (by repeat (first | (with_reducible exact HB.out) | apply below_alloc | apply pw_below_drewN | apply below_drew1)) hb⟩; clear HB hb; have HB := HBn; clear HBn))
            go_ret
            exact ⟨rfl, below_next HB1.out HB.out⟩
          · obtain ⟨n, rfl⟩ := Int.eq_ofNat_of_zero_le (show 0 ≤ y by omega)
            obtain ⟨N, rfl⟩ := Int.eq_ofNat_of_zero_le (show 0 ≤ x by omega)
            have hn64 : n ≤ 64 := by omega
            have hN64 : N < 18446744073709551616 := by omega
            have d1 : decide ((n : Int) < 0) = false := decide_eq_false c1
            have d2 : decide (64 < (n : Int)) = false := decide_eq_false c2
            have hc0 : ∀ w', Below w.heap.size w w' → w'.cell? (ad.add (k * 2)) = some (.int .u64 (N : Int)) := by
              intro w' hb
              obtain ⟨ad', e', h, _⟩ := (HR.out.below hb).at_ k hlt
              injection e' with e'
              subst e'
              rw [hLk.out] at h
              exact h
            have hc1 : ∀ w', Below w.heap.size w w' → w'.cell? ⟨(ad.add (k * 2)).block, (ad.add (k * 2)).off + 1, none⟩ = some (.int .i64 (n : Int)) := by
              intro w' hb
              obtain ⟨ad', e', _, h⟩ := (HR.out.below hb).at_ k hlt
              injection e' with e'
              subst e'
              rw [hLk.out] at h
              exact h
            by_cases c3 : n = 64
            · have HN : Aside0 (N < 2 ^ n) := ⟨by rw [c3]; exact hN64⟩
              have d3 : decide ((n : Int) < 64) = false := decide_eq_false (by omega)
              clear c3
              have HS2 := Aside0.mk HS
              have HGd2 := Aside0.mk (HGd ⟨by omega, by omega, by rw [Int.toNat_natCast, Int.toNat_natCast]; exact HN.out⟩)
              have GP := fun w' (h1 : w1.heap.size ≤ w'.heap.size) (h2 : IsW 27 w1.heap.size g (opsL (l.take k)) w') => wput_ok 27 (by decide) w1.heap.size g (opsL (l.take k)) N n w' HN.out hn64 (by omega) h1 h2
              clear HS HGd
              go_wp2_with fail
              go_quiet (fail)
              go_wp2_with fail
              have HI0 : Aside0 (IsW 27 w1.heap.size g (opsL (l.take k)) (wr.drewN nq)) := ⟨HI.out.drewN nq⟩
              have HB0 : Aside0 (Below w1.heap.size w1 (wr.drewN nq)) := ⟨drewN_below HB.out nq⟩
              have q0 := hc0 _ (below_next HB1.out HB0.out)
              have q1 := hc1 _ (below_next HB1.out HB0.out)
              clear HI HB HBW
              generalize wr.drewN nq = wq at *
              refine start_ (n := 13) (S := fun w' => w'.cell? (ad.add (k * 2)) = some (.int .u64 (N : Int)) ∧ w'.cell? ⟨(ad.add (k * 2)).block, (ad.add (k * 2)).off + 1, none⟩ = some (.int .i64 (n : Int))) (ds := []) #[false, false, false, false, false, false, false, false, false, false, false, false, false] (by kernel_rfl) rfl rfl ⟨q0, q1⟩ (fun hHeld => ?_)
              refine pure_ (i := 0) (N := some 65) (v := ?_) (a' := ?_) #[true, false, false, false, false, false, false, false, false, false, false, false, false] rfl rfl (by kernel_rfl) (fun _ _ _ h => h) (Or.inl ⟨by rfl, ?_⟩) ?_ ?_
              rotate_left
              · intro w'
                go_simp
                with_reducible rfl
              rotate_left
              · simp only [Act.put, List.setIfInBounds_toArray, List.set_cons_zero, List.set_cons_succ]
                rfl
              refine pure_ (i := 1) (N := some 66) (v := ?_) (a' := ?_) #[true, true, false, false, false, false, false, false, false, false, false, false, false] rfl rfl (by kernel_rfl) (fun _ _ _ h => h) (Or.inl ⟨by rfl, ?_⟩) ?_ ?_
              rotate_left
              · intro w'
                go_simp
                with_reducible rfl
              rotate_left
              · simp only [Act.put, List.setIfInBounds_toArray, List.set_cons_zero, List.set_cons_succ]
                rfl
              refine pure_ (i := 2) (N := some 67) (v := ?_) (a' := ?_) #[true, true, true, false, false, false, false, false, false, false, false, false, false] rfl rfl (by kernel_rfl) (fun _ _ _ h => h) (Or.inl ⟨by rfl, ?_⟩) ?_ ?_
              rotate_left
              · intro w'
                go_simp
                with_reducible rfl
              rotate_left
              · simp only [Act.put, List.setIfInBounds_toArray, List.set_cons_zero, List.set_cons_succ]
                rfl
              refine pure_ (i := 3) (N := some 68) (v := ?_) (a' := ?_) #[true, true, true, true, false, false, false, false, false, false, false, false, false] rfl rfl (by kernel_rfl) (fun _ _ _ h => h) (Or.inl ⟨by rfl, ?_⟩) ?_ ?_
              rotate_left
              · intro w'
                go_simp
                with_reducible rfl
              rotate_left
              · simp only [Act.put, List.setIfInBounds_toArray, List.set_cons_zero, List.set_cons_succ]
                rfl
              refine pure_ (i := 4) (N := some 69) (v := ?_) (a' := ?_) #[true, true, true, true, true, false, false, false, false, false, false, false, false] rfl rfl (by kernel_rfl) (fun _ _ _ h => h) (Or.inl ⟨by rfl, ?_⟩) ?_ ?_
              rotate_left
              · intro w'
                go_simp
                with_reducible rfl
              rotate_left
              · simp only [Act.put, List.setIfInBounds_toArray, List.set_cons_zero, List.set_cons_succ]
                rfl
              refine pure_ (i := 6) (N := some 71) (v := ?_) (a' := ?_) #[true, true, true, true, true, false, true, false, false, false, false, false, false] rfl rfl (by kernel_rfl) (fun _ _ _ h => h) (Or.inl ⟨by rfl, ?_⟩) ?_ ?_
              rotate_left
              · intro w'
                go_simp
                with_reducible rfl
              rotate_left
              · simp only [Act.put, List.setIfInBounds_toArray, List.set_cons_zero, List.set_cons_succ]
                rfl
              refine pure_ (i := 7) (N := some 72) (v := ?_) (a' := ?_) #[true, true, true, true, true, false, true, true, false, false, false, false, false] rfl rfl (by kernel_rfl) (fun _ _ _ h => h) (Or.inl ⟨by rfl, ?_⟩) ?_ ?_
              rotate_left
              · intro w'
                go_simp
                with_reducible rfl
              rotate_left
              · simp only [Act.put, List.setIfInBounds_toArray, List.set_cons_zero, List.set_cons_succ]
                rfl
              refine pure_ (i := 8) (N := some 73) (v := ?_) (a' := ?_) #[true, true, true, true, true, false, true, true, true, false, false, false, false] rfl rfl (by kernel_rfl) (fun _ _ _ h => h) (Or.inl ⟨by rfl, ?_⟩) ?_ ?_
              rotate_left
              · intro w'
                go_simp
                with_reducible rfl
              rotate_left
              · simp only [Act.put, List.setIfInBounds_toArray, List.set_cons_zero, List.set_cons_succ]
                rfl
              refine pure_ (i := 9) (N := some 74) (v := ?_) (a' := ?_) #[true, true, true, true, true, false, true, true, true, true, false, false, false] rfl rfl (by kernel_rfl) (fun _ _ _ h => h) (Or.inl ⟨by rfl, ?_⟩) ?_ ?_
              rotate_left
              · intro w'
                go_simp
                with_reducible rfl
              rotate_left
              · simp only [Act.put, List.setIfInBounds_toArray, List.set_cons_zero, List.set_cons_succ]
                rfl
              refine take_ (i := 5) (N := some 70) (v := ?_) (a' := ?_) #[true, true, true, true, true, true, true, true, true, true, false, false, false] rfl rfl (by kernel_rfl) (fun _ _ _ h => h) (Or.inl ⟨by rfl, ?_⟩) hHeld ?_ ?_
              rotate_left
              · rintro w' ⟨s0, s1⟩
                go_simp
                with_reducible rfl
              rotate_left
              · simp only [Act.put, List.setIfInBounds_toArray, List.set_cons_zero, List.set_cons_succ]
                rfl
              refine take_ (i := 10) (N := some 75) (v := ?_) (a' := ?_) #[true, true, true, true, true, true, true, true, true, true, true, false, false] rfl rfl (by kernel_rfl) (fun _ _ _ h => h) (Or.inl ⟨by rfl, ?_⟩) hHeld ?_ ?_
              rotate_left
              · rintro w' ⟨s0, s1⟩
                go_simp
                with_reducible rfl
              rotate_left
              · simp only [Act.put, List.setIfInBounds_toArray, List.set_cons_zero, List.set_cons_succ]
                rfl
              refine one_ (i := 11) (N := some 76) #[true, true, true, true, true, true, true, true, true, true, true, true, false] rfl rfl (by kernel_rfl) (by decide) (fun K hK => ?_)
              refine goes_ Tryd.func10 (by kernel_rfl) rfl #[.pointer (some ⟨g, 0, none⟩), .int .u64 (N : Int), .int .i64 (n : Int)] (by rfl) rfl rfl (by simp only [List.map_toArray, List.map_cons, List.map_nil]; rfl) ?_
              with_reducible refine (GP _ HB0.out.drew.size HI0.out.drew).mono ?_
              rintro e w2 ⟨rfl, h2, b2⟩
              refine ⟨_, rfl, ?_⟩
              have HI2 := Aside0.mk h2
              have HB2 := Aside0.mk (HB0.out.drew.trans b2)
              have q02 := hc0 _ (below_next HB1.out HB2.out)
              have q12 := hc1 _ (below_next HB1.out HB2.out)
              clear h2 b2
              refine hK.out _ _ ⟨q02, q12⟩ (fun hHeld => ?_)
              clear hK K
              refine norm_ (a' := ?_) ?_ ?_
              rotate_left
              · show Act.put _ (some 76) _ = _
                simp only [Act.put, List.setIfInBounds_toArray, List.set_cons_zero, List.set_cons_succ]
                rfl
              refine pure_ (i := 12) (N := some 77) (v := ?_) (a' := ?_) #[true, true, true, true, true, true, true, true, true, true, true, true, true] rfl rfl (by kernel_rfl) (fun _ _ _ h => h) (Or.inl ⟨by rfl, ?_⟩) ?_ ?_
              rotate_left
              · intro w'
                go_simp
                with_reducible rfl
              rotate_left
              · simp only [Act.put, List.setIfInBounds_toArray, List.set_cons_zero, List.set_cons_succ]
                rfl
              refine done_ (by kernel_rfl) ?_
              go_wp2_with fail
              go_roundw
              case rel => exact ⟨k + 1, by omega, by rw [HS2.out, List.length_append, bitsOf_length, Int.toNat_natCast]; go_num, by go_num, HGd2, ⟨by rw [HS2.out, Int.toNat_natCast, Int.toNat_natCast]; exact HI2.out⟩, HB2⟩
              case measure => simp [intOf]; omega
            · have c4 : (n : Int) < 64 := by omega
              have d3 : decide ((n : Int) < 64) = true := decide_eq_true c4
              have hcd := cast_div N n
              by_cases c5 : N / 2 ^ n = 0
              · have hq : (N : Int) / 2 ^ n = 0 := by rw [hcd, c5]; rfl
                have HN : Aside0 (N < 2 ^ n) := ⟨Nat.lt_of_not_le fun h => absurd c5 (Nat.ne_of_gt (Nat.div_pos h (Nat.two_pow_pos n)))⟩
                have d4 : decide ((0 : Int) < 0) = false := by decide
                clear c5 hcd
                have HS2 := Aside0.mk HS
                have HGd2 := Aside0.mk (HGd ⟨by omega, by omega, by rw [Int.toNat_natCast, Int.toNat_natCast]; exact HN.out⟩)
                have GP := fun w' (h1 : w1.heap.size ≤ w'.heap.size) (h2 : IsW 27 w1.heap.size g (opsL (l.take k)) w') => wput_ok 27 (by decide) w1.heap.size g (opsL (l.take k)) N n w' HN.out hn64 (by omega) h1 h2
                clear HS HGd
                go_wp2_with fail
                go_quiet (fail)
                go_wp2_with fail
                have HI0 : Aside0 (IsW 27 w1.heap.size g (opsL (l.take k)) (wr.drewN nq)) := ⟨HI.out.drewN nq⟩
                have HB0 : Aside0 (Below w1.heap.size w1 (wr.drewN nq)) := ⟨drewN_below HB.out nq⟩
                have q0 := hc0 _ (below_next HB1.out HB0.out)
                have q1 := hc1 _ (below_next HB1.out HB0.out)
                clear HI HB HBW
                generalize wr.drewN nq = wq at *
                refine start_ (n := 13) (S := fun w' => w'.cell? (ad.add (k * 2)) = some (.int .u64 (N : Int)) ∧ w'.cell? ⟨(ad.add (k * 2)).block, (ad.add (k * 2)).off + 1, none⟩ = some (.int .i64 (n : Int))) (ds := []) #[false, false, false, false, false, false, false, false, false, false, false, false, false] (by kernel_rfl) rfl rfl ⟨q0, q1⟩ (fun hHeld => ?_)
                refine pure_ (i := 0) (N := some 65) (v := ?_) (a' := ?_) #[true, false, false, false, false, false, false, false, false, false, false, false, false] rfl rfl (by kernel_rfl) (fun _ _ _ h => h) (Or.inl ⟨by rfl, ?_⟩) ?_ ?_
                rotate_left
                · intro w'
                  go_simp
                  with_reducible rfl
                rotate_left
                · simp only [Act.put, List.setIfInBounds_toArray, List.set_cons_zero, List.set_cons_succ]
                  rfl
                refine pure_ (i := 1) (N := some 66) (v := ?_) (a' := ?_) #[true, true, false, false, false, false, false, false, false, false, false, false, false] rfl rfl (by kernel_rfl) (fun _ _ _ h => h) (Or.inl ⟨by rfl, ?_⟩) ?_ ?_
                rotate_left
                · intro w'
                  go_simp
                  with_reducible rfl
                rotate_left
                · simp only [Act.put, List.setIfInBounds_toArray, List.set_cons_zero, List.set_cons_succ]
                  rfl
                refine pure_ (i := 2) (N := some 67) (v := ?_) (a' := ?_) #[true, true, true, false, false, false, false, false, false, false, false, false, false] rfl rfl (by kernel_rfl) (fun _ _ _ h => h) (Or.inl ⟨by rfl, ?_⟩) ?_ ?_
                rotate_left
                · intro w'
                  go_simp
                  with_reducible rfl
                rotate_left
                · simp only [Act.put, List.setIfInBounds_toArray, List.set_cons_zero, List.set_cons_succ]
                  rfl
                refine pure_ (i := 3) (N := some 68) (v := ?_) (a' := ?_) #[true, true, true, true, false, false, false, false, false, false, false, false, false] rfl rfl (by kernel_rfl) (fun _ _ _ h => h) (Or.inl ⟨by rfl, ?_⟩) ?_ ?_
                rotate_left
                · intro w'
                  go_simp
                  with_reducible rfl
                rotate_left
                · simp only [Act.put, List.setIfInBounds_toArray, List.set_cons_zero, List.set_cons_succ]
                  rfl
                refine pure_ (i := 4) (N := some 69) (v := ?_) (a' := ?_) #[true, true, true, true, true, false, false, false, false, false, false, false, false] rfl rfl (by kernel_rfl) (fun _ _ _ h => h) (Or.inl ⟨by rfl, ?_⟩) ?_ ?_
                rotate_left
                · intro w'
                  go_simp
                  with_reducible rfl
                rotate_left
                · simp only [Act.put, List.setIfInBounds_toArray, List.set_cons_zero, List.set_cons_succ]
                  rfl
                refine pure_ (i := 6) (N := some 71) (v := ?_) (a' := ?_) #[true, true, true, true, true, false, true, false, false, false, false, false, false] rfl rfl (by kernel_rfl) (fun _ _ _ h => h) (Or.inl ⟨by rfl, ?_⟩) ?_ ?_
                rotate_left
                · intro w'
                  go_simp
                  with_reducible rfl
                rotate_left
                · simp only [Act.put, List.setIfInBounds_toArray, List.set_cons_zero, List.set_cons_succ]
                  rfl
                refine pure_ (i := 7) (N := some 72) (v := ?_) (a' := ?_) #[true, true, true, true, true, false, true, true, false, false, false, false, false] rfl rfl (by kernel_rfl) (fun _ _ _ h => h) (Or.inl ⟨by rfl, ?_⟩) ?_ ?_
                rotate_left
                · intro w'
                  go_simp
                  with_reducible rfl
                rotate_left
                · simp only [Act.put, List.setIfInBounds_toArray, List.set_cons_zero, List.set_cons_succ]
                  rfl
                refine pure_ (i := 8) (N := some 73) (v := ?_) (a' := ?_) #[true, true, true, true, true, false, true, true, true, false, false, false, false] rfl rfl (by kernel_rfl) (fun _ _ _ h => h) (Or.inl ⟨by rfl, ?_⟩) ?_ ?_
                rotate_left
                · intro w'
                  go_simp
                  with_reducible rfl
                rotate_left
                · simp only [Act.put, List.setIfInBounds_toArray, List.set_cons_zero, List.set_cons_succ]
                  rfl
                refine pure_ (i := 9) (N := some 74) (v := ?_) (a' := ?_) #[true, true, true, true, true, false, true, true, true, true, false, false, false] rfl rfl (by kernel_rfl) (fun _ _ _ h => h) (Or.inl ⟨by rfl, ?_⟩) ?_ ?_
                rotate_left
                · intro w'
                  go_simp
                  with_reducible rfl
                rotate_left
                · simp only [Act.put, List.setIfInBounds_toArray, List.set_cons_zero, List.set_cons_succ]
                  rfl
                refine take_ (i := 5) (N := some 70) (v := ?_) (a' := ?_) #[true, true, true, true, true, true, true, true, true, true, false, false, false] rfl rfl (by kernel_rfl) (fun _ _ _ h => h) (Or.inl ⟨by rfl, ?_⟩) hHeld ?_ ?_
                rotate_left
                · rintro w' ⟨s0, s1⟩
                  go_simp
                  with_reducible rfl
                rotate_left
                · simp only [Act.put, List.setIfInBounds_toArray, List.set_cons_zero, List.set_cons_succ]
                  rfl
                refine take_ (i := 10) (N := some 75) (v := ?_) (a' := ?_) #[true, true, true, true, true, true, true, true, true, true, true, false, false] rfl rfl (by kernel_rfl) (fun _ _ _ h => h) (Or.inl ⟨by rfl, ?_⟩) hHeld ?_ ?_
                rotate_left
                · rintro w' ⟨s0, s1⟩
                  go_simp
                  with_reducible rfl
                rotate_left
                · simp only [Act.put, List.setIfInBounds_toArray, List.set_cons_zero, List.set_cons_succ]
                  rfl
                refine one_ (i := 11) (N := some 76) #[true, true, true, true, true, true, true, true, true, true, true, true, false] rfl rfl (by kernel_rfl) (by decide) (fun K hK => ?_)
                refine goes_ Tryd.func10 (by kernel_rfl) rfl #[.pointer (some ⟨g, 0, none⟩), .int .u64 (N : Int), .int .i64 (n : Int)] (by rfl) rfl rfl (by simp only [List.map_toArray, List.map_cons, List.map_nil]; rfl) ?_
                with_reducible refine (GP _ HB0.out.drew.size HI0.out.drew).mono ?_
                rintro e w2 ⟨rfl, h2, b2⟩
                refine ⟨_, rfl, ?_⟩
                have HI2 := Aside0.mk h2
                have HB2 := Aside0.mk (HB0.out.drew.trans b2)
                have q02 := hc0 _ (below_next HB1.out HB2.out)
                have q12 := hc1 _ (below_next HB1.out HB2.out)
                clear h2 b2
                refine hK.out _ _ ⟨q02, q12⟩ (fun hHeld => ?_)
                clear hK K
                refine norm_ (a' := ?_) ?_ ?_
                rotate_left
                · show Act.put _ (some 76) _ = _
                  simp only [Act.put, List.setIfInBounds_toArray, List.set_cons_zero, List.set_cons_succ]
                  rfl
                refine pure_ (i := 12) (N := some 77) (v := ?_) (a' := ?_) #[true, true, true, true, true, true, true, true, true, true, true, true, true] rfl rfl (by kernel_rfl) (fun _ _ _ h => h) (Or.inl ⟨by rfl, ?_⟩) ?_ ?_
                rotate_left
                · intro w'
                  go_simp
                  with_reducible rfl
                rotate_left
                · simp only [Act.put, List.setIfInBounds_toArray, List.set_cons_zero, List.set_cons_succ]
                  rfl
                refine done_ (by kernel_rfl) ?_
                go_wp2_with fail
                go_roundw
                case rel => exact ⟨k + 1, by omega, by rw [HS2.out, List.length_append, bitsOf_length, Int.toNat_natCast]; go_num, by go_num, HGd2, ⟨by rw [HS2.out, Int.toNat_natCast, Int.toNat_natCast]; exact HI2.out⟩, HB2⟩
                case measure => simp [intOf]; omega
              · obtain ⟨q, hq0⟩ : ∃ q, N / 2 ^ n = q := ⟨_, rfl⟩
                have hq : (N : Int) / 2 ^ n = (q : Int) := by rw [hcd, hq0]
                have hqn : 0 < q := by omega
                have hqp : decide ((0 : Int) < (q : Int)) = true := decide_eq_true (by omega)
                clear c5 hcd hq0 hc0 hc1
                clear HS HGd
                go_wp2_with fail
                go_quiet (fail)
                go_wp2_with (first
                  | (go_at_call 9; refine (bits_first _).mono ?_; rintro e wb ⟨rfl, hb⟩; have HBn : Aside0 (Below w1.heap.size w1 wb) := ⟨below_next (by repeat (first | (with_reducible exact HB.out) | apply below_alloc | apply pw_below_drewN | apply below_drew1)) hb⟩; clear HB hb; have HB := HBn; clear HBn))
                go_ret
                exact ⟨rfl, below_next HB1.out HB.out⟩
      · obtain rfl : k = l.length := by omega
        rw [List.take_length] at HI HO hbl
        rw [List.take_length]
        obtain ⟨L, hL⟩ : ∃ L, opsL l = L := ⟨_, rfl⟩
        have HL := Aside0.mk hL
        rw [hL] at HI hbl ⊢
        obtain ⟨m, hm⟩ : ∃ m, L.length = m := ⟨_, rfl⟩
        obtain ⟨s, hs⟩ : ∃ s, st (pk L) = s := ⟨_, rfl⟩
        have hsz : s.size = (m + 7) / 8 := by rw [← hs, st_size, pk_length, hm]
        have hun : unp (bs s) = L ++ List.replicate (8 * s.size - m) false := by
          rw [hsz, ← hs, bs_st _ (pk_okB _), unp_pk _ L (Nat.le_refl _), hm]
        have HUn := Aside0.mk hun
        have HM := Aside0.mk hm
        have hss : s.size ≤ 140737488351232 := by omega
        have hmz : m ≤ 8 * s.size := by omega
        have hSt := fun w' (h : IsW 27 w1.heap.size g L w') => wstring_any _ _ _ _ w' h
        have hLn := fun w' (h : IsW 27 w1.heap.size g L w') => wlen_any _ _ _ _ w' h
        rw [hs] at hSt
        rw [hm] at hLn ⊢
        clear hs hL hun hm HBW
        go_wp2_with (go_at_call 18; refine (hSt _ HI.out).mono ?_; rintro e w2 ⟨rfl, hw2⟩; subst w2)
        refine (newReader_any _ _).mono ?_
        rintro e w2 ⟨g2, rfl, hr2, hb2⟩
        have HB2 := Aside0.mk (below_next HB.out hb2)
        have HI2 := Aside0.mk (IsW.below HI.out hb2)
        have HP2 : Aside0 (RAt w1.heap.size g2 s 0 w2) := ⟨hr2.low HB.out.size⟩
        clear HB HI hr2 hb2
        have hzs : ((s.size : Int) != ((m : Int) + 7) / 8) = false := by rw [bne_eq_false_iff_eq]; omega
        go_wp2_with (first
          | (go_at_call 13; refine (hLn _ HI2.out).mono ?_; rintro e w3 ⟨rfl, hw3⟩; subst w3))
        go_loopw [8] (fun v8 w' => ∃ i : Nat, i ≤ l.length ∧ v8 = .int .i64 (i : Int) ∧ Aside0 (RAt w1.heap.size g2 s (opsL (l.take i)).length w') ∧ Aside0 (Below w1.heap.size w1 w')) (fun v8 _ => l.length - (intOf v8).toNat)
        case atStart => exact ⟨0, Nat.zero_le _, rfl, HP2, HB2⟩
        case round =>
          clear HP2 HB2 HI2 hzs
          obtain ⟨i, hi, rfl, HP, HB⟩ := hrel
          have HBW : Aside0 (Below w.heap.size w wr) := ⟨below_next HB1.out HB.out⟩
          by_cases hlt : i < l.length
          · obtain ⟨ad, rfl, q0, q1⟩ := (HR.out.below HBW.out).at_ i hlt
            obtain ⟨⟨x, y⟩, hxy⟩ : ∃ p, l[i] = p := ⟨_, rfl⟩
            have hxb := HX.out _ (List.getElem_mem hlt)
            have hop := HO.out _ (List.getElem_mem hlt)
            have HS := opsL_take l i hlt
            have HD := opsL_split l i hlt
            rw [hxy] at q0 q1 hxb HS HD hop
            obtain ⟨o1, o2, o3⟩ := hop
            obtain ⟨n, rfl⟩ := Int.eq_ofNat_of_zero_le o1
            obtain ⟨N, rfl⟩ := Int.eq_ofNat_of_zero_le hxb.1.1
            rw [Int.toNat_natCast, Int.toNat_natCast] at HS HD
            replace o3 : N < 2 ^ n := o3
            have hlen := congrArg List.length HD
            rw [List.length_append, List.length_append, bitsOf_length, HL.out, HM.out] at hlen
            have hv : val (((unp (bs s)).drop (opsL (l.take i)).length).take n) = N := by
              rw [HUn.out, ← HL.out, HD, List.append_assoc, List.drop_left' rfl, List.append_assoc, List.take_left' (bitsOf_length _ _), val_small _ _ o3]
            have hc0 : ∀ w', Below w.heap.size w w' → w'.cell? (ad.add (i * 2)) = some (.int .u64 (N : Int)) := by
              intro w' hb
              obtain ⟨ad', e', h, _⟩ := (HR.out.below hb).at_ i hlt
              injection e' with e'
              subst e'
              rw [hxy] at h
              exact h
            have GP := rget_ok w1.heap.size g2 s (opsL (l.take i)).length n wr hss (by omega) (by omega) HB.out.size HP.out
            rw [hv] at GP
            have HS2 := Aside0.mk HS
            clear HS HD o3 hv hlen o1 hxy
            go_wp2_with fail
            refine GP.mono ?_
            rintro e w3 ⟨rfl, hp, hkp⟩
            have HP3 := Aside0.mk hp
            have HB3 : Aside0 (Below w1.heap.size w1 w3) := ⟨hkp.below HB.out (fun k e => e ▸ HP.out.1)⟩
            have q3 := hc0 _ (below_next HB1.out HB3.out)
            clear hp hkp HP HB HBW GP q0 q1
            go_wp2_with fail
            go_roundw
            case rel => exact ⟨i + 1, by omega, by go_num, ⟨by rw [HS2.out, List.length_append, bitsOf_length]; exact HP3.out⟩, HB3⟩
            case measure => simp [intOf]; omega
          · obtain rfl : i = l.length := by omega
            rw [List.take_length, HL.out, HM.out] at HP
            have hz : (unp (bs s)).drop m = List.replicate (8 * s.size - m) false := by rw [HUn.out, List.drop_left' HM.out]
            obtain ⟨f, hf⟩ : ∃ f, 8 * s.size - m = f := ⟨_, rfl⟩
            rw [hf] at hz
            have hmf : m + f = 8 * s.size := by omega
            have hf8 : f < 8 := by omega
            have GE := fun w' h => rend_ok w1.heap.size g2 s m f w' hss hmf hf8 hz h
            have GS := fun w' h => rget_short w1.heap.size g2 s m f 8 w' hss (by decide) (by decide) hmf (by omega) h
            clear hz hf
            go_wp2_with (first
              | (go_at_call 22; refine (rat_any _ _ _ _ _ HP.out).mono ?_; rintro e w3 ⟨rfl, hw3⟩; subst w3))
            refine (GE _ HP.out).mono ?_
            rintro e w3 ⟨rfl, nd, rfl⟩
            go_wp2_with fail
            refine (GS _ (HP.out.drewN _)).mono ?_
            rintro e w4 ⟨u, E, rfl, hu, rfl, hp, hb⟩
            obtain ⟨uT, ux, rfl⟩ := hu.iface (by simp)
            have HB4 : Aside0 (Below w1.heap.size w1 w4) := ⟨below_next (drewN_below HB.out _) hb⟩
            have HU4 := Aside0.mk hu
            have HP4 := Aside0.mk hp
            clear hu hp hb HB HP
            go_wp2_with fail
            refine (bits_first _).mono ?_
            rintro e w5 ⟨rfl, hb⟩
            have HB5 := Aside0.mk (below_next HB4.out hb)
            have HU5 := Aside0.mk (HU4.out.below hb)
            have HP5 := Aside0.mk (HP4.out.below hb)
            clear hb HB4 HU4 HP4
            go_wp2_with fail
            refine (code_any _ _ _ (HG.out.below (below_next HB1.out HB5.out)) HU5.out).mono ?_
            rintro e w6 ⟨rfl, hb⟩
            have HB6 := Aside0.mk (below_next HB5.out hb)
            have HP6 := Aside0.mk (HP5.out.below hb)
            have hco : codeOf (.at_ (m : Int) (.code 1)) = 1 := rfl
            rw [hco]
            clear hb HB5 HP5 HU5
            go_wp2_with (first
              | (go_at_call 22; refine (rat_any _ _ _ _ _ HP6.out).mono ?_; rintro e w7 ⟨rfl, hw7⟩; subst w7))
            go_ret
            exact ⟨rfl, below_next HB1.out HB6.out⟩
end Go.Proofs.YtodhnmflabehhaaDoor
