import Derived.Test.YtehfgemoccjomaaMmpsebjlr
import Derived.Test.YtehfgemoccjomaaMuimqbosy
namespace Go.Proofs.Ytehfgemoccjomaa
open Go.RowKit Go.Proofs.YtehfgemoccjomaaW.PrintWords Go.Proofs.YtehfgemoccjomaaW.PrintLast Go.Proofs.YtehfgemoccjomaaW.PrintMore Hy

theorem dict_front {b r : List Nat} {L M : List (List Nat)} (hb : (b ++ r).length < 18446744073709551616) (h : isDict (b ++ r) L) (h' : isDict b M) : r = [] := by
  have s1 := isDict_small hb h
  have s2 := isDict_small (by rw [List.length_append] at hb; omega) h'
  have e := h.1
  rw [h'.1] at e
  unfold dictL at e
  have l1 := h.2.2
  have l2 := h'.2.2
  rw [List.append_assoc] at e
  obtain ⟨e1, e2⟩ := putL_inj _ _ _ _ (by omega) (by omega) e
  obtain ⟨L', e3, e4⟩ := joinL_front M L r s2 s1 e2.symm
  obtain rfl : L' = [] := List.eq_nil_of_length_eq_zero (by
    have := congrArg List.length e3
    rw [List.length_append] at this; omega)
  exact e4.symm
theorem row_cell {w : World} {A : Option Addr} {l : List ByteArray} (h : Kd.C Kd.string w A l.length l) (i : Nat) (hi : i < l.length) : ∃ ad, A = some ad ∧ ∀ t, l[i]? = some t → w.cell? (ad.add i) = some (.string t) := by
  obtain ⟨ad, e, hx⟩ := Kd.at_string h (i : Int) (by omega) (by omega)
  refine ⟨ad, e, fun t ht => ?_⟩
  rw [Int.toNat_natCast] at hx
  rw [hx]
  have := (List.getElem?_eq_some_iff.1 ht).2
  simp [rdOf, List.getD_eq_getElem?_getD, hi, this]
set_option maxHeartbeats 8000000 in
set_option maxRecDepth 100000 in
theorem dictOne_walk (s : ByteArray) (w : World) (hs : s.size ≤ 140737488351232) :
    Calls Try.prog 5 #[.string s] w fun e w' => e = .returned (.bool true) ∧ Below w.heap.size w w' := by
  have HB := Aside0.mk (Below.refl w.heap.size w)
  by_cases hz : 4000 < s.size
  · go_enter Try.func5, Try.ntmps5
    go_wp2_with (first
      | (go_at_call 6; refine (dict_first _).mono ?_; rintro e wb ⟨rfl, hb⟩; have HBn : Aside0 (Below w.heap.size w wb) := ⟨below_next (by repeat (first | (with_reducible exact HB.out) | apply below_alloc | apply pw_below_drewN | apply below_drew1)) hb⟩; clear HB hb; have HB := HBn; clear HBn))
    go_ret
    exact ⟨rfl, (by repeat (first | (with_reducible exact HB.out) | apply below_alloc | apply pw_below_drewN | apply below_drew1))⟩
  · by_cases hok : ∃ L, isDictB s L
    · obtain ⟨L, hL⟩ := hok
      have hL2 : L.length ≤ 20000 := by have := hL.2.2; rwa [bsL_length] at this
      have A1 := fun w => dread_ok s L w hs hL
      have hsz : 0 < s.size := by
        have h1 := hL.1
        have := congrArg List.length h1
        rw [bs_length] at this
        unfold dictL at this
        rw [List.length_append] at this
        have := putL_pos (bsL L).length
        omega
      have hS : st (dictL (bsL L)) = s := by rw [← hL.1, st_bs]
      have hDl : (dictL (bsL L)).length ≤ 1000000000 := by rw [← st_size, hS]; omega
      have HDl := Aside0.mk hDl
      obtain ⟨c0, hc0⟩ : ∃ c0, s.extract 0 (s.size - 1) = c0 := ⟨_, rfl⟩
      have hcut : ∀ M, ¬ isDictB c0 M := by
        intro M hM
        have e1 : bs s = bs c0 ++ (bs s).drop (s.size - 1) := by rw [← hc0, bs_extract, List.drop_zero, List.take_append_drop]
        have h2 := hL
        unfold isDictB at h2 hM
        rw [e1] at h2
        have := congrArg List.length (dict_front (by rw [← e1, bs_length]; omega) h2 hM)
        rw [List.length_drop, bs_length, List.length_nil] at this
        omega
      have hmore : ∀ M, ¬ isDictB (s ++ ⟨#[0]⟩) M := by
        intro M hM
        unfold isDictB at hM
        rw [bs_append] at hM
        have := dict_front (by rw [List.length_append, bs_length]; have : (bs ⟨#[0]⟩).length = 1 := rfl; omega) hM hL
        exact absurd this (by decide)
      have hc0z : c0.size ≤ 4000 := by rw [← hc0, ByteArray.size_extract]; omega
      have A2 := fun w => dread_err c0 w (by omega) hcut
      have A3 := fun w => dread_err (s ++ ⟨#[0]⟩) w (by rw [ByteArray.size_append]; have : (ByteArray.mk #[0]).size = 1 := rfl; omega) hmore
      have HN : Aside0 L.Nodup := ⟨bsL_nodup.1 hL.2.1⟩
      have HS := Aside0.mk hS
      have HC := Aside0.mk hc0
      clear hL hS hDl hcut hmore hc0
      go_enter Try.func5, Try.ntmps5
      go_wp2_with (first
        | (go_at_call 6; refine (dict_first _).mono ?_; rintro e wb ⟨rfl, hb⟩; have HBn : Aside0 (Below w.heap.size w wb) := ⟨below_next (by repeat (first | (with_reducible exact HB.out) | apply below_alloc | apply pw_below_drewN | apply below_drew1)) hb⟩; clear HB hb; have HB := HBn; clear HBn))
      refine (A1 _).mono ?_
      rintro e w2 ⟨d, v, bm, rfl, hd2, hb2⟩
      have HB2 := Aside0.mk (below_next HB.out hb2)
      have HD2 := Aside0.mk hd2
      clear hb2 hd2 HB A1
      go_wp2_with fail
      refine (dall_any _ _ _ _ _ _ (by omega) HD2.out).mono ?_
      rintro e w3 ⟨A3a, c3, rfl, hC3, hc3, hb3⟩
      have HB3 := Aside0.mk (below_next HB2.out hb3)
      have HD3 := Aside0.mk (HD2.out.below hb3)
      have HC3 := Aside0.mk hC3
      clear hb3 hC3 HB2 HD2
      go_wp2_with fail
      go_loopw [6] (fun v6 w' => ∃ i : Nat, i ≤ L.length ∧ v6 = .int .i64 (i : Int) ∧ Aside0 (Drawn0 w3 w')) (fun v6 _ => L.length - (intOf v6).toNat)
      case atStart => exact ⟨0, Nat.zero_le _, rfl, ⟨Drawn0.refl _⟩⟩
      case round =>
        obtain ⟨i, hi, rfl, HDW⟩ := hrel
        by_cases hlt : i < L.length
        · have hlt2 : (i : Int) < (L.length : Int) := by omega
          obtain ⟨ad, rfl, hx⟩ := row_cell HC3.out i hlt
          obtain ⟨t, ht⟩ : ∃ t, L[i]? = some t := ⟨_, List.getElem?_eq_getElem hlt⟩
          have hx1 := hx t ht
          have hxk : ∀ k u, L[k]? = some u → w3.cell? (ad.add k) = some (.string u) := fun k u hu => by
            obtain ⟨ad', e, hx'⟩ := row_cell HC3.out k (List.getElem?_eq_some_iff.1 hu).1
            injection e with e
            rw [e]; exact hx' u hu
          have HXK := Aside0.mk hxk
          have HT := Aside0.mk ht
          clear hx ht hxk
          obtain ⟨wo, hwo⟩ : ∃ wo : World, wr = wo := ⟨_, rfl⟩
          rw [hwo] at HDW ⊢
          clear hwo
          go_wp2_with fail
          go_loopw [7] (fun v7 w' => ∃ k : Nat, k ≤ i ∧ v7 = .int .i64 (k : Int) ∧ Aside0 (Drawn0 w3 w')) (fun v7 _ => i - (intOf v7).toNat)
          case atStart => exact ⟨0, Nat.zero_le _, rfl, HDW⟩
          case round =>
            clear HDW
            obtain ⟨k, hk, rfl, HDW⟩ := hrel
            by_cases hki : k < i
            · have hki2 : (k : Int) < (i : Int) := by omega
              have hkl : (k : Int) < (L.length : Int) := by omega
              obtain ⟨u, hu⟩ : ∃ u, L[k]? = some u := ⟨_, List.getElem?_eq_getElem (by omega)⟩
              have hy1 := HXK.out k u hu
              have hne : ¬ t = u := fun e => by
                have h1 := (List.getElem?_eq_some_iff.1 HT.out)
                have h2 := (List.getElem?_eq_some_iff.1 hu)
                have : L[i] = L[k] := by rw [h1.2, h2.2, e]
                have := (List.getElem_inj HN.out).1 this
                omega
              have hn1 := str_ne hne
              have hn2 : (t.toList == u.toList) = false := by rw [beq_eq_false_iff_ne]; exact hn1
              have hx2 := pw_cell_below HDW.out.below hx1
              have hy2 := pw_cell_below HDW.out.below hy1
              have hi0 : (0 : Int) ≤ (i : Int) := by omega
              have hk0 : (0 : Int) ≤ (k : Int) := by omega
              clear hu hne hx1 hy1
              go_wp2_with fail
              go_quiet (fail)
              go_wp2_with fail
              go_roundw
              case rel => exact ⟨k + 1, by omega, by go_num, ⟨HDW.out.step _⟩⟩
              case measure => simp [intOf]; omega
            · obtain rfl : k = i := by omega
              have hki2 : ¬ ((k : Int) < (k : Int)) := by omega
              go_wp2_with fail
              go_roundw
              case rel => exact ⟨k + 1, by omega, by go_num, HDW⟩
              case measure => simp [intOf]; omega
        · obtain rfl : i = L.length := by omega
          have hlt2 : ¬ ((L.length : Int) < (L.length : Int)) := by omega
          have HB4 := Aside0.mk (below_next HB3.out HDW.out.below)
          have HD4 := Aside0.mk (HD3.out.below HDW.out.below)
          have hs0 : ((s.size : Int) == 0) = false := by rw [beq_eq_false_iff_ne]; omega
          have G1 : Calls Try.prog 15 #[.pointer (some ⟨d, 0, none⟩)] wr fun e w' => e = .returned (.tuple #[.string s, .nilIface]) ∧ Below wr.heap.size wr w' := by
            have := dput_ok wr wb.heap.size d v bm L hL2 HDl.out HD4.out
            rwa [HS.out] at this
          have h5 : (s.toList == s.toList) = true := beq_self_eq_true _
          have hs1 : ((s.size : Int) - 1).toNat = s.size - 1 := by omega
          have hs2 : (0 : Int) ≤ (s.size : Int) - 1 := by omega
          have hs3 : (s.size : Int) - 1 ≤ (s.size : Int) := by omega
          clear hlt hi HDW HB3 HD3
          go_wp2_with fail
          refine G1.mono ?_
          rintro e w5 ⟨rfl, hb5⟩
          have HB5 := Aside0.mk (below_next HB4.out hb5)
          clear hb5 HB4 HD4 G1
          have hc0 := HC.out
          go_wp2_with fail
          refine (A2 _).mono ?_
          rintro e w6 ⟨T6, x6, E6, rfl, _, _, hb6⟩
          have HB6 := Aside0.mk (below_next HB5.out hb6)
          clear hb6 HB5 A2 hc0
          go_wp2_with fail
          refine (A3 _).mono ?_
          rintro e w7 ⟨T7, x7, E7, rfl, _, _, hb7⟩
          have HB7 := Aside0.mk (below_next HB6.out hb7)
          clear hb7 HB6 A3
          go_wp2_with fail
          refine (dict_first _).mono ?_
          rintro e w8 ⟨rfl, hb8⟩
          have HB8 := Aside0.mk (below_next HB7.out hb8)
          clear hb8 HB7
          go_wp2_with fail
          go_ret
          exact ⟨rfl, HB8.out⟩
    · have A1 := fun w => dread_err s w hs (fun L h => hok ⟨L, h⟩)
      clear hok
      go_enter Try.func5, Try.ntmps5
      go_wp2_with (first
        | (go_at_call 6; refine (dict_first _).mono ?_; rintro e wb ⟨rfl, hb⟩; have HBn : Aside0 (Below w.heap.size w wb) := ⟨below_next (by repeat (first | (with_reducible exact HB.out) | apply below_alloc | apply pw_below_drewN | apply below_drew1)) hb⟩; clear HB hb; have HB := HBn; clear HBn))
      refine (A1 _).mono ?_
      rintro e w2 ⟨T, x, E, rfl, _, _, hb2⟩
      have HB2 := Aside0.mk (below_next HB.out hb2)
      clear hb2 HB A1
      go_wp2_with fail
      refine (dict_first _).mono ?_
      rintro e w3 ⟨rfl, hb3⟩
      have HB3 := Aside0.mk (below_next HB2.out hb3)
      clear hb3 HB2
      go_wp2_with fail
      go_ret
      exact ⟨rfl, HB3.out⟩
end Go.Proofs.Ytehfgemoccjomaa
