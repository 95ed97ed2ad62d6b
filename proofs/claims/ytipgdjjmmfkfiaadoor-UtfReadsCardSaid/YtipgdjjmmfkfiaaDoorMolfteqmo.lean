import Derived.Test.YtipgdjjmmfkfiaaDoorMhgauhgvc
import Derived.Test.YtipgdjjmmfkfiaaDoorMpbbfkqni
import Derived.Test.YtipgdjjmmfkfiaaDoorMgzssefzi
import Derived.Test.YtipgdjjmmfkfiaaDoorMaiifnlwv
import Derived.Below
namespace Go.Proofs.YtipgdjjmmfkfiaaDoor
open Go.RowKit Go.Proofs.YtipgdjjmmfkfiaaDoorW.PrintWords Hy

/-! ### utf.Check -/
theorem check_ok (s : ByteArray) (w : World) (hs : s.size ≤ 140737488351232) (hb : badI (bs s) = -1) :
    Calls Tryd.prog 22 #[.string s] w fun e w' => e = .returned .nilIface ∧ Drawn0 w w' := by
  have hA := fun w => bad_any s w hs
  unfold badV at hA
  rw [hb] at hA
  clear hb
  go_enter Tryd.func22, Tryd.ntmps22
  go_wp2_with (go_at_call 24; refine (hA _).mono ?_; rintro e w1 ⟨rfl, hw1⟩)
  go_ret
  exact ⟨rfl, hw1⟩
theorem check_err (s : ByteArray) (k : Nat) (w : World) (hs : s.size ≤ 140737488351232) (hb : badI (bs s) = (k : Int)) (_hk : (k : Int) < 9223372036854775808) :
    Calls Tryd.prog 22 #[.string s] w fun e w' => ∃ u, e = .returned u ∧ IsE w' (.at_ k (.code 5)) u ∧ Below w.heap.size w w' := by
  have hA := fun w => bad_any s w hs
  unfold badV at hA
  rw [hb] at hA
  clear hb
  have HB := Aside0.mk (Below.refl w.heap.size w)
  go_enter Tryd.func22, Tryd.ntmps22
  go_wp2_with (first
    | (go_at_call 24; refine (hA _).mono ?_; rintro e wd ⟨rfl, ⟨nd, rfl⟩⟩)
    | (go_at_call 14; refine (at_any _ _ _ ⟨_, _, rfl⟩).mono ?_; rintro e w1 ⟨rfl, rfl⟩))
  go_ret
  exact ⟨_, rfl, IsE.new rfl, (by repeat (first | (with_reducible exact HB.out) | apply below_alloc | apply pw_below_drewN | apply below_drew1))⟩
end Go.Proofs.YtipgdjjmmfkfiaaDoor
namespace Go.Proofs.YtipgdjjmmfkfiaaDoor
open Go.RowKit Go.Proofs.YtipgdjjmmfkfiaaDoorW.PrintWords Hy

/-! ### the document's own Bad and Clip -/
def rbadV (s : ByteArray) (w : World) (e : Ending) (w' : World) : Prop := e = .returned (.int .i64 (badI (bs s))) ∧ w' = w
set_option maxHeartbeats 4000000 in
theorem rbad_any (s : ByteArray) (w : World) (hs : s.size ≤ 100000) : Calls Tryd.prog 21 #[.string s] w (rbadV s w) := by
  go_enter Tryd.func21, Tryd.ntmps21
  go_wp2
  go_loop [3] (fun v3 => ∃ a : Nat, v3 = .int .i64 (a : Int) ∧ a ≤ s.size ∧ Aside0 (whl (bs s) s.size = a + whl ((bs s).drop a) ((s.size : Int) - a))) (fun v3 => s.size - (intOf v3).toNat)
  case atStart => exact ⟨0, rfl, by omega, ⟨by simp⟩⟩
  case round =>
    obtain ⟨a, rfl, ha, HE⟩ := hrel
    by_cases hlt : a < s.size
    · have hlt2 : (a : Int) < (s.size : Int) := by omega
      have hA := fun w => rsign_any s a w hs hlt
      unfold rsV at hA
      obtain ⟨n, hn⟩ : ∃ n, sgn ((bs s).drop a) = n := ⟨_, rfl⟩
      have hle := sgn_le ((bs s).drop a)
      rw [List.length_drop, bs_length] at hle
      rw [hn] at hA hle
      by_cases h0 : n = 0
      · have HZ : Aside0 (badI (bs s) = a) := ⟨by
          have := HE.out
          rw [whl_stop ((bs s).drop a) _ (.inl (by rw [hn]; exact h0))] at this
          unfold badI; rw [bs_length, this, if_neg (by omega)]; rfl⟩
        have hb : ((n : Int) == 0) = true := by simp; omega
        subst h0
        clear HE hn hle
        go_wp2_with (go_at_call 33; refine (hA _).mono ?_; rintro e w1 ⟨rfl, hw1⟩; subst w1)
        go_ret
        exact ⟨by rw [HZ.out]; rfl, rfl⟩
      · have hb : ((n : Int) == 0) = false := by simp; omega
        have HE2 : Aside0 (whl (bs s) s.size = (a + n : Nat) + whl ((bs s).drop (a + n)) ((s.size : Int) - (a + n : Nat))) := ⟨by
          rw [HE.out, whl_go _ _ (by rw [hn]; exact h0) (by rw [hn]; omega), hn, List.drop_drop]
          rw [show (s.size : Int) - (a : Int) - (n : Int) = (s.size : Int) - ((a + n : Nat) : Int) by omega]; omega⟩
        have han : a + n ≤ s.size := by omega
        clear HE hn hle
        go_wp2_with (go_at_call 33; refine (hA _).mono ?_; rintro e w1 ⟨rfl, hw1⟩; subst w1)
        go_round
        case rel => exact ⟨a + n, by go_num, han, HE2⟩
        case measure => simp [intOf]; omega
    · obtain rfl : a = s.size := by omega
      have HZ : Aside0 (badI (bs s) = -1) := ⟨by
        have := HE.out
        rw [show (bs s).drop s.size = [] by rw [← bs_length, List.drop_length], whl_stop [] _ (.inl rfl)] at this
        unfold badI; rw [bs_length, this, Nat.add_zero, if_pos rfl]⟩
      clear HE hlt ha
      go_wp2
      go_ret
      exact ⟨by rw [HZ.out]; rfl, rfl⟩
def rclipV (s : ByteArray) (n : Int) (w : World) (e : Ending) (w' : World) : Prop := e = .returned (.string (clip s n)) ∧ w' = w
set_option maxHeartbeats 4000000 in
theorem rclip_any (s : ByteArray) (m : Int) (w : World) (hs : s.size ≤ 100000) (hm1 : -9223372036854775808 ≤ m) (hm2 : m < 9223372036854775808) : Calls Tryd.prog 26 #[.string s, .int .i64 m] w (rclipV s m w) := by
  have hz : ∀ a : Nat, whl (bs s) (max m 0) = a → ∀ W e, e = .returned (.string (s.extract 0 a)) → W = w → rclipV s m w e W := by
    intro a h W e he hW; subst h; exact ⟨he, hW⟩
  have HZ := Aside0.mk hz
  clear hz
  go_enter Tryd.func26, Tryd.ntmps26
  go_wp2
  go_loop [5] (fun v5 => ∃ a : Nat, v5 = .int .i64 (a : Int) ∧ a ≤ s.size ∧ Aside0 (whl (bs s) (max m 0) = a + whl ((bs s).drop a) (max m 0 - a)) ∧ Aside0 ((a : Int) ≤ max m 0)) (fun v5 => s.size - (intOf v5).toNat)
  case atStart => exact ⟨0, rfl, by omega, ⟨by simp⟩, ⟨by omega⟩⟩
  case round =>
    obtain ⟨a, rfl, ha, HE, HM⟩ := hrel
    have hm0 := HM.out
    by_cases hlt : a < s.size
    · have hlt2 : (a : Int) < (s.size : Int) := by omega
      have hA := fun w => rsign_any s a w hs hlt
      unfold rsV at hA
      obtain ⟨n, hn⟩ : ∃ n, sgn ((bs s).drop a) = n := ⟨_, rfl⟩
      have hle := sgn_le ((bs s).drop a)
      rw [List.length_drop, bs_length] at hle
      rw [hn] at hA hle
      by_cases h0 : n = 0
      · have HZ2 := Aside0.mk (HZ.out a (by rw [HE.out, whl_stop _ _ (.inl (by rw [hn]; exact h0))]; rfl))
        have hb : ((n : Int) == 0) = true := by simp; omega
        subst h0
        clear HE HM hm0 HZ hn hle
        go_wp2_with (go_at_call 33; refine (hA _).mono ?_; rintro e w1 ⟨rfl, hw1⟩; subst w1)
        go_ret
        exact HZ2.out _ _ rfl rfl
      · have hb : ((n : Int) == 0) = false := by simp; omega
        by_cases h1 : m < (a : Int) + (n : Int)
        · have HZ2 := Aside0.mk (HZ.out a (by rw [HE.out, whl_stop _ _ (.inr (by rw [hn]; omega))]; rfl))
          clear HE HM hm0 HZ hn h0
          go_wp2_with (go_at_call 33; refine (hA _).mono ?_; rintro e w1 ⟨rfl, hw1⟩; subst w1)
          go_ret
          exact HZ2.out _ _ rfl rfl
        · have HE2 : Aside0 (whl (bs s) (max m 0) = (a + n : Nat) + whl ((bs s).drop (a + n)) (max m 0 - (a + n : Nat))) := ⟨by
            rw [HE.out, whl_go _ _ (by rw [hn]; exact h0) (by rw [hn]; omega), hn, List.drop_drop]
            rw [show max m 0 - (a : Int) - (n : Int) = max m 0 - ((a + n : Nat) : Int) by omega]; omega⟩
          have HM2 : Aside0 (((a + n : Nat) : Int) ≤ max m 0) := ⟨by omega⟩
          have han : a + n ≤ s.size := by omega
          have hnm : ¬ m < (a : Int) + (n : Int) := h1
          clear HE HM hm0 HZ hn h1
          go_wp2_with (go_at_call 33; refine (hA _).mono ?_; rintro e w1 ⟨rfl, hw1⟩; subst w1)
          go_round
          case rel => exact ⟨a + n, by go_num, han, HE2, HM2⟩
          case measure => simp [intOf]; omega
    · obtain rfl : a = s.size := by omega
      have HZ2 := Aside0.mk (HZ.out s.size (by rw [HE.out, show (bs s).drop s.size = [] by rw [← bs_length, List.drop_length], whl_stop [] _ (.inl rfl)]; rfl))
      clear HE HM hm0 HZ hlt ha
      go_wp2
      go_ret
      have hx : s.extract 0 s.size = s := by simp
      exact HZ2.out _ _ (by rw [hx]; rfl) rfl
end Go.Proofs.YtipgdjjmmfkfiaaDoor
namespace Go.Proofs.YtipgdjjmmfkfiaaDoor
open Go.RowKit Go.Proofs.YtipgdjjmmfkfiaaDoorW.PrintWords Hy

theorem IsE.drewN {w : World} {e : Err} {v : Value} (h : IsE w e v) (m : Nat) : IsE (w.drewN m) e v := h.below (pw_below_drewN (Below.refl _ _) m)
theorem codeAt (a c : Int) (u : Value) (w : World) (hg : Laid w) (hu : IsE w (.at_ a (.code c)) u) : Calls Tryd.prog 10 #[u] w fun e w' => e = .returned (.int .i64 c) ∧ Below w.heap.size w w' := code_any _ u w hg hu
theorem placeAt (a c : Int) (u : Value) (w : World) (hg : Laid w) (hu : IsE w (.at_ a (.code c)) u) : Calls Tryd.prog 9 #[u] w fun e w' => e = .returned (.tuple #[.int .i64 a, .bool true]) ∧ Below w.heap.size w w' := place_any _ u w hg hu
theorem placeNil (w : World) (hg : Laid w) : Calls Tryd.prog 9 #[.nilIface] w fun e w' => e = .returned (.tuple #[.int .i64 0, .bool false]) ∧ Below w.heap.size w w' := place_any .nil _ w hg rfl
set_option maxRecDepth 100000 in
set_option maxHeartbeats 4000000 in
theorem utfReads_walk (s : ByteArray) (n : Int) (w : World) (hs : s.size ≤ 140737488351232) (hn0 : -9223372036854775808 ≤ n) (hn : n < 9223372036854775808) (hg : Laid w) :
    Calls Tryd.prog 6 #[.string s, .int .i64 n] w fun e w' => e = .returned (.bool true) ∧ Below w.heap.size w w' := by
  have HB := Aside0.mk (Below.refl w.heap.size w)
  by_cases hbig : 4000 < s.size
  · clear hg
    go_enter Tryd.func6, Tryd.ntmps6
    go_wp2_with (first
      | (go_at_call 20; refine (utf_first _).mono ?_; rintro e wd ⟨rfl, ⟨nd, rfl⟩⟩))
    go_ret
    exact ⟨rfl, (by repeat (first | (with_reducible exact HB.out) | apply below_alloc | apply pw_below_drewN | apply below_drew1))⟩
  · have HG := Aside0.mk hg
    have C1 := fun w => clip_any s n w hs hn
    have C2 := fun w => rclip_any s n w (by omega) hn0 hn
    unfold clipV at C1
    unfold rclipV at C2
    obtain ⟨t, ht⟩ : ∃ t, clip s n = t := ⟨_, rfl⟩
    rw [ht] at C1 C2
    have V1 := fun w => valid_any s w hs
    unfold vldV at V1
    rw [← badI_neg] at V1
    have B1 := fun w => bad_any s w hs
    have B2 := fun w => rbad_any s w (by omega)
    unfold badV at B1
    unfold rbadV at B2
    have hle := (whl_says _ (bs s) s.size (Nat.le_refl _) (by omega)).2.1
    have K1 := fun w => check_ok s w hs
    have K2 := fun k w => check_err s k w hs
    have hbi : badI (bs s) = -1 ∨ ∃ k : Nat, badI (bs s) = (k : Int) ∧ k ≤ s.size := by
      unfold badI
      rw [bs_length] at hle ⊢
      by_cases h : whl (bs s) s.size = s.size
      · rw [if_pos h]; exact .inl rfl
      · rw [if_neg h]; exact .inr ⟨_, rfl, hle⟩
    clear hle ht hg
    rcases hbi with hb | ⟨k, hb, hk⟩
    · have K := fun w => K1 w hb
      rw [hb] at V1 B1 B2
      rw [show decide ((-1 : Int) < 0) = true from rfl] at V1
      clear K1 K2 hb
      go_enter Tryd.func6, Tryd.ntmps6
      go_wp2_with (first
        | (go_at_call 20; refine (utf_first _).mono ?_; rintro e wd ⟨rfl, ⟨nd, rfl⟩⟩)
        | (go_at_call 21; refine (B2 _).mono ?_; rintro e w1 ⟨rfl, hw1⟩; subst w1)
        | (go_at_call 26; refine (C2 _).mono ?_; rintro e w1 ⟨rfl, hw1⟩; subst w1)
        | (go_at_call 22; refine (K _).mono ?_; rintro e wd ⟨rfl, ⟨nd, rfl⟩⟩)
        | (go_at_call 24; refine (B1 _).mono ?_; rintro e wd ⟨rfl, ⟨nd, rfl⟩⟩)
        | (go_at_call 23; refine (V1 _).mono ?_; rintro e wd ⟨rfl, ⟨nd, rfl⟩⟩)
        | (go_at_call 25; refine (C1 _).mono ?_; rintro e wd ⟨rfl, ⟨nd, rfl⟩⟩)
        | (go_at_call 9; refine (placeNil _ (HG.out.below (by repeat (first | (with_reducible exact HB.out) | apply below_alloc | apply pw_below_drewN | apply below_drew1)))).mono ?_; rintro e wb ⟨rfl, hb⟩; have HBn : Aside0 (Below w.heap.size w wb) := ⟨below_next (by repeat (first | (with_reducible exact HB.out) | apply below_alloc | apply pw_below_drewN | apply below_drew1)) hb⟩; clear HB hb; have HB := HBn; clear HBn))
      go_ret
      exact ⟨rfl, (by repeat (first | (with_reducible exact HB.out) | apply below_alloc | apply pw_below_drewN | apply below_drew1))⟩
    · have K := fun w => K2 k w hb (by omega)
      rw [hb] at V1 B1 B2
      rw [show decide ((k : Int) < 0) = false from decide_eq_false (by omega)] at V1
      clear K1 K2 hb
      go_enter Tryd.func6, Tryd.ntmps6
      go_wp2_with (first
        | (go_at_call 20; refine (utf_first _).mono ?_; rintro e wd ⟨rfl, ⟨nd, rfl⟩⟩)
        | (go_at_call 21; refine (B2 _).mono ?_; rintro e w1 ⟨rfl, hw1⟩; subst w1)
        | (go_at_call 26; refine (C2 _).mono ?_; rintro e w1 ⟨rfl, hw1⟩; subst w1)
        | (go_at_call 22; refine (K _).mono ?_; rintro e wb ⟨u, rfl, hu, hb⟩; obtain ⟨uT, ux, rfl⟩ := hu.iface (by simp); have HBn : Aside0 (Below w.heap.size w wb) := ⟨below_next (by repeat (first | (with_reducible exact HB.out) | apply below_alloc | apply pw_below_drewN | apply below_drew1)) hb⟩; clear HB hb; have HB := HBn; clear HBn; have HU := Aside0.mk hu; clear hu)
        | (go_at_call 24; refine (B1 _).mono ?_; rintro e wd ⟨rfl, ⟨nd, rfl⟩⟩)
        | (go_at_call 23; refine (V1 _).mono ?_; rintro e wd ⟨rfl, ⟨nd, rfl⟩⟩)
        | (go_at_call 25; refine (C1 _).mono ?_; rintro e wd ⟨rfl, ⟨nd, rfl⟩⟩)
        | (go_at_call 9; refine (placeAt _ _ _ _ (HG.out.below (by repeat (first | (with_reducible exact HB.out) | apply below_alloc | apply pw_below_drewN | apply below_drew1))) (by repeat (first | exact HU.out | apply IsE.drewN))).mono ?_; rintro e wb ⟨rfl, hb⟩; have HV := Aside0.mk ((show IsE _ _ _ from (by repeat (first | exact HU.out | apply IsE.drewN))).below hb); have HBn : Aside0 (Below w.heap.size w wb) := ⟨below_next (by repeat (first | (with_reducible exact HB.out) | apply below_alloc | apply pw_below_drewN | apply below_drew1)) hb⟩; clear HB hb; have HB := HBn; clear HBn)
        | (go_at_call 10; refine (codeAt _ _ _ _ (HG.out.below (by repeat (first | (with_reducible exact HB.out) | apply below_alloc | apply pw_below_drewN | apply below_drew1))) (by repeat (first | exact HV.out | apply IsE.drewN))).mono ?_; rintro e wb ⟨rfl, hb⟩; have HBn : Aside0 (Below w.heap.size w wb) := ⟨below_next (by repeat (first | (with_reducible exact HB.out) | apply below_alloc | apply pw_below_drewN | apply below_drew1)) hb⟩; clear HB hb; have HB := HBn; clear HBn))
      go_ret
      exact ⟨rfl, (by repeat (first | (with_reducible exact HB.out) | apply below_alloc | apply pw_below_drewN | apply below_drew1))⟩
end Go.Proofs.YtipgdjjmmfkfiaaDoor
