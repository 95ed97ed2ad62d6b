import Derived.Test.YtipgdjjmmfkfiaaUtfFirst
import Derived.Below
namespace Go.Proofs.Ytipgdjjmmfkfiaa
open Go.RowKit Go.Proofs.YtipgdjjmmfkfiaaW.PrintWords Hy

theorem extract_self (s : ByteArray) : s.extract 0 s.size = s := by simp
set_option maxHeartbeats 4000000 in
theorem utfClips_walk (s : ByteArray) (n : Int) (w : World) (hs : s.size ≤ 140737488351232) (hn0 : -9223372036854775808 ≤ n) (hn : n < 9223372036854775808) :
    Calls Try.prog 4 #[.string s, .int .i64 n] w fun e w' => e = .returned (.bool true) ∧ Below w.heap.size w w' := by
  have HB := Aside0.mk (Below.refl w.heap.size w)
  by_cases hbig : 4000 < s.size
  · go_enter Try.func4, Try.ntmps4
    go_wp2_with (first
      | (go_at_call 5; refine (utf_first _).mono ?_; rintro e wd ⟨rfl, ⟨nd, rfl⟩⟩))
    go_ret
    exact ⟨rfl, (by repeat (first | (with_reducible exact HB.out) | apply below_alloc | apply pw_below_drewN | apply below_drew1))⟩
  · obtain ⟨k, hk⟩ : ∃ k, whl (bs s) (max n 0) = k := ⟨_, rfl⟩
    have hsay := whl_says _ (bs s) (max n 0) (Nat.le_refl _) (by omega)
    have hcl := vld_clip (bs s) (max n 0) (by omega)
    have hend := clip_end (bs s) (max n 0) (by omega)
    have C1 := fun w => clip_any s n w hs hn
    unfold clipV clip at C1
    rw [hk] at hsay hcl hend C1
    have hks : k ≤ s.size := by have := hsay.2.1; rw [bs_length] at this; exact this
    have hkm : (k : Int) ≤ max n 0 := hsay.1
    have hsz : (s.extract 0 k).size = k := by rw [ByteArray.size_extract]; omega
    have hbT : bs (s.extract 0 k) = (bs s).take k := by rw [bs_extract, List.drop_zero]
    have V1 := fun w => valid_any (s.extract 0 k) w (by omega)
    unfold vldV at V1
    rw [hbT, hcl.1] at V1
    have C2 := fun w => clip_any (s.extract 0 k) n w (by omega) hn
    unfold clipV clip at C2
    rw [hbT, hcl.2 (max n 0) hkm] at C2
    rw [show (s.extract 0 k).extract 0 k = s.extract 0 k by rw [ByteArray.extract_extract]; congr 1; omega] at C2
    have V2 : Aside0 (∀ j, k < j → j ≤ s.size → (j : Int) ≤ n → ∀ w, Calls Try.prog 6 #[.string (s.extract k j)] w fun e w' => e = .returned (.bool false) ∧ Drawn0 w w') := ⟨by
      intro j h1 h2 h3 w
      have := valid_any (s.extract k j) w (by rw [ByteArray.size_extract]; omega)
      unfold vldV at this
      rw [bs_extract, hend j h1 (by rw [bs_length]; exact h2) (by omega)] at this
      exact this⟩
    have hb0 : (s.size : Int) ≤ 4000 := by omega
    clear hsay hcl hend hbT hk
    have e1 : decide (s.size < k) = false := by simp; omega
    by_cases hneg : n < 0
    · have hkn : (k : Int) ≤ 0 := by omega
      have e2 : decide (0 < k) = false := by simp; omega
      have e3 : decide ((0 : Int) < (k : Int)) = false := by simp; omega
      go_enter Try.func4, Try.ntmps4
      go_wp2_with (first
        | (go_at_call 5; refine (utf_first _).mono ?_; rintro e wd ⟨rfl, ⟨nd, rfl⟩⟩)
        | (go_at_call 8; refine (C1 _).mono ?_; rintro e wd ⟨rfl, ⟨nd, rfl⟩⟩)
        | (go_at_call 6; refine (V1 _).mono ?_; rintro e wd ⟨rfl, ⟨nd, rfl⟩⟩))
      go_loopw [6] (fun v6 w' => ∃ j : Nat, v6 = .int .i64 (j : Int) ∧ k < j ∧ j ≤ s.size + 1 ∧ Aside0 (Below w.heap.size w w')) (fun v6 _ => s.size + 1 - (intOf v6).toNat)
      case atStart => exact ⟨k + 1, by go_num, by omega, by omega, ⟨(by repeat (first | (with_reducible exact HB.out) | apply below_alloc | apply pw_below_drewN | apply below_drew1))⟩⟩
      case round =>
        clear HB
        obtain ⟨j, rfl, hj, hj2, HB⟩ := hrel
        by_cases hc : (j : Int) ≤ s.size ∧ (j : Int) ≤ n ∧ (j : Int) ≤ k + 4
        · exfalso; omega
        · rcases (by omega : s.size < j ∨ (j ≤ s.size ∧ n < (j : Int)) ∨ (j ≤ s.size ∧ (j : Int) ≤ n ∧ k + 4 < j)) with h | ⟨h, h'⟩ | ⟨h, h', h''⟩
          · have d1 : decide ((j : Int) ≤ s.size) = false := by simp; omega
            have d2 : decide (j ≤ s.size) = false := by simp; omega
            clear hc
            go_wp2_with (first
              | (go_at_call 5; refine (utf_first _).mono ?_; rintro e wd ⟨rfl, ⟨nd, rfl⟩⟩)
              | (go_at_call 8; refine (C2 _).mono ?_; rintro e wd ⟨rfl, ⟨nd, rfl⟩⟩))
            go_ret
            exact ⟨rfl, (by repeat (first | (with_reducible exact HB.out) | apply below_alloc | apply pw_below_drewN | apply below_drew1))⟩
          · have d1 : decide ((j : Int) ≤ s.size) = true := by simp; omega
            have d2 : decide (j ≤ s.size) = true := by simp; omega
            have d3 : decide ((j : Int) ≤ n) = false := by simp; omega
            clear hc
            go_wp2_with (first
              | (go_at_call 5; refine (utf_first _).mono ?_; rintro e wd ⟨rfl, ⟨nd, rfl⟩⟩)
              | (go_at_call 8; refine (C2 _).mono ?_; rintro e wd ⟨rfl, ⟨nd, rfl⟩⟩))
            go_ret
            exact ⟨rfl, (by repeat (first | (with_reducible exact HB.out) | apply below_alloc | apply pw_below_drewN | apply below_drew1))⟩
          · have d1 : decide ((j : Int) ≤ s.size) = true := by simp; omega
            have d2 : decide (j ≤ s.size) = true := by simp; omega
            have d3 : decide ((j : Int) ≤ n) = true := by simp; omega
            have d4 : decide ((j : Int) ≤ (k : Int) + 4) = false := by simp; omega
            have d5 : ¬ (j : Int) ≤ (k : Int) + 4 := by omega
            clear hc
            go_wp2_with (first
              | (go_at_call 5; refine (utf_first _).mono ?_; rintro e wd ⟨rfl, ⟨nd, rfl⟩⟩)
              | (go_at_call 8; refine (C2 _).mono ?_; rintro e wd ⟨rfl, ⟨nd, rfl⟩⟩))
            go_ret
            exact ⟨rfl, (by repeat (first | (with_reducible exact HB.out) | apply below_alloc | apply pw_below_drewN | apply below_drew1))⟩
    · have hkn : (k : Int) ≤ n := by omega
      have e2 : decide (n < (k : Int)) = false := by simp; omega
      go_enter Try.func4, Try.ntmps4
      go_wp2_with (first
        | (go_at_call 5; refine (utf_first _).mono ?_; rintro e wd ⟨rfl, ⟨nd, rfl⟩⟩)
        | (go_at_call 8; refine (C1 _).mono ?_; rintro e wd ⟨rfl, ⟨nd, rfl⟩⟩)
        | (go_at_call 6; refine (V1 _).mono ?_; rintro e wd ⟨rfl, ⟨nd, rfl⟩⟩))
      go_loopw [6] (fun v6 w' => ∃ j : Nat, v6 = .int .i64 (j : Int) ∧ k < j ∧ j ≤ s.size + 1 ∧ Aside0 (Below w.heap.size w w')) (fun v6 _ => s.size + 1 - (intOf v6).toNat)
      case atStart => exact ⟨k + 1, by go_num, by omega, by omega, ⟨(by repeat (first | (with_reducible exact HB.out) | apply below_alloc | apply pw_below_drewN | apply below_drew1))⟩⟩
      case round =>
        clear HB
        obtain ⟨j, rfl, hj, hj2, HB⟩ := hrel
        by_cases hc : (j : Int) ≤ s.size ∧ (j : Int) ≤ n ∧ (j : Int) ≤ k + 4
        · have V3 := V2.out j hj (by omega) hc.2.1
          have c1 := hc.1
          have c2 := hc.2.1
          have c3 := hc.2.2
          have hkj : k ≤ j := by omega
          have hjs : j ≤ s.size := by omega
          have hkj2 : (k : Int) ≤ (j : Int) := by omega
          have d1 : decide ((j : Int) ≤ s.size) = true := decide_eq_true c1
          have d2 : decide ((j : Int) ≤ n) = true := decide_eq_true c2
          have d3 : decide ((j : Int) ≤ (k : Int) + 4) = true := decide_eq_true c3
          clear hc
          go_wp2_with (first
            | (go_at_call 6; refine (V3 _).mono ?_; rintro e wd ⟨rfl, ⟨nd, rfl⟩⟩))
          go_roundw
          case rel => exact ⟨j + 1, by go_num, by omega, by omega, ⟨(by repeat (first | (with_reducible exact HB.out) | apply below_alloc | apply pw_below_drewN | apply below_drew1))⟩⟩
          case measure => simp [intOf]; omega
        · rcases (by omega : s.size < j ∨ (j ≤ s.size ∧ n < (j : Int)) ∨ (j ≤ s.size ∧ (j : Int) ≤ n ∧ k + 4 < j)) with h | ⟨h, h'⟩ | ⟨h, h', h''⟩
          · have d1 : decide ((j : Int) ≤ s.size) = false := by simp; omega
            have d2 : decide (j ≤ s.size) = false := by simp; omega
            clear hc
            go_wp2_with (first
              | (go_at_call 5; refine (utf_first _).mono ?_; rintro e wd ⟨rfl, ⟨nd, rfl⟩⟩)
              | (go_at_call 8; refine (C2 _).mono ?_; rintro e wd ⟨rfl, ⟨nd, rfl⟩⟩))
            go_ret
            exact ⟨rfl, (by repeat (first | (with_reducible exact HB.out) | apply below_alloc | apply pw_below_drewN | apply below_drew1))⟩
          · have d1 : decide ((j : Int) ≤ s.size) = true := by simp; omega
            have d2 : decide (j ≤ s.size) = true := by simp; omega
            have d3 : decide ((j : Int) ≤ n) = false := by simp; omega
            clear hc
            go_wp2_with (first
              | (go_at_call 5; refine (utf_first _).mono ?_; rintro e wd ⟨rfl, ⟨nd, rfl⟩⟩)
              | (go_at_call 8; refine (C2 _).mono ?_; rintro e wd ⟨rfl, ⟨nd, rfl⟩⟩))
            go_ret
            exact ⟨rfl, (by repeat (first | (with_reducible exact HB.out) | apply below_alloc | apply pw_below_drewN | apply below_drew1))⟩
          · have d1 : decide ((j : Int) ≤ s.size) = true := by simp; omega
            have d2 : decide (j ≤ s.size) = true := by simp; omega
            have d3 : decide ((j : Int) ≤ n) = true := by simp; omega
            have d4 : decide ((j : Int) ≤ (k : Int) + 4) = false := by simp; omega
            have d5 : ¬ (j : Int) ≤ (k : Int) + 4 := by omega
            clear hc
            go_wp2_with (first
              | (go_at_call 5; refine (utf_first _).mono ?_; rintro e wd ⟨rfl, ⟨nd, rfl⟩⟩)
              | (go_at_call 8; refine (C2 _).mono ?_; rintro e wd ⟨rfl, ⟨nd, rfl⟩⟩))
            go_ret
            exact ⟨rfl, (by repeat (first | (with_reducible exact HB.out) | apply below_alloc | apply pw_below_drewN | apply below_drew1))⟩
end Go.Proofs.Ytipgdjjmmfkfiaa
