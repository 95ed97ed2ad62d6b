import Derived.Test.YtipgdjjmmfkfiaaUtf
namespace Go.Proofs.Ytipgdjjmmfkfiaa
open Go.RowKit Go.Proofs.YtipgdjjmmfkfiaaW.PrintWords Hy

def sgnV (s : ByteArray) (w : World) (e : Ending) (w' : World) : Prop := e = .returned (.int .i64 ((sgn (bs s) : Nat) : Int)) ∧ Drawn0 w w'
theorem drawnN {w : World} (n : Nat) : Drawn0 w (w.drewN n) := ⟨n, rfl⟩
set_option maxHeartbeats 4000000 in
theorem sign_any (s : ByteArray) (w : World) (h0 : 0 < s.size) (hs : s.size ≤ 140737488351232) :
    Calls Try.prog 10 #[.string s] w (sgnV s w) := by
  have hlen := bs_length s
  have hz : ∀ n, sgn (bs s) = n → ∀ W, Drawn0 w W → ∀ e, e = .returned (.int .i64 (n : Int)) → sgnV s w e W := by
    intro n hn W hW e he; subst hn; exact ⟨he, hW⟩
  have hg0 := get_bs s 0 h0
  have hA := usize_any s[0].toNat
  unfold szcV at hA
  rw [hg0] at hA
  by_cases h1 : szc ((bs s).getD 0 0) ≤ 1
  · have HZ := Aside0.mk (hz _ (sgn_small (bs s) (by omega) h1))
    rcases (by omega : szc ((bs s).getD 0 0) = 0 ∨ szc ((bs s).getD 0 0) = 1) with h2 | h2
    · rw [h2] at hA HZ
      rw [← hg0] at hA
      have hb1 : decide ((s.size : Int) < 0) = false := by simp
      clear hz hg0 h1 h2 hlen
      go_enter Try.func10, Try.ntmps10
      go_wp2_with (go_at_call 11; refine (hA _).mono ?_; rintro e w' ⟨rfl, hw'⟩; subst w')
      go_quiet (fail)
      go_wp2
      go_loopw [4] (fun v4 w' => v4 = .int .i64 2 ∧ Drawn0 w w') (fun _ _ => 0)
      case atStart => exact ⟨rfl, drawnN _⟩
      case round =>
        obtain ⟨rfl, HD⟩ := hrel
        go_wp2
        go_ret
        exact HZ.out _ HD _ rfl
    · rw [h2] at hA HZ
      rw [← hg0] at hA
      have hb1 : decide ((s.size : Int) < 1) = false := by simp; omega
      clear hz hg0 h1 h2 hlen
      go_enter Try.func10, Try.ntmps10
      go_wp2_with (go_at_call 11; refine (hA _).mono ?_; rintro e w' ⟨rfl, hw'⟩; subst w')
      go_quiet (fail)
      go_wp2
      go_loopw [4] (fun v4 w' => v4 = .int .i64 2 ∧ Drawn0 w w') (fun _ _ => 0)
      case atStart => exact ⟨rfl, drawnN _⟩
      case round =>
        obtain ⟨rfl, HD⟩ := hrel
        go_wp2
        go_ret
        exact HZ.out _ HD _ rfl
  · obtain ⟨n, hn⟩ : ∃ n, szc ((bs s).getD 0 0) = n := ⟨_, rfl⟩
    rw [hn] at hA
    rw [← hg0] at hA
    have hn2 : 2 ≤ n := by omega
    have hn4 : n ≤ 4 := by rw [← hn]; exact szc_le _
    have hb2 : decide ((1 : Int) < (n : Int)) = true := by simp; omega
    have hn1 : (1 : Int) < (n : Int) := by omega
    by_cases h3 : s.size < n
    · have HZ := Aside0.mk (hz 0 (sgn_short _ (by omega)))
      have hb1 : decide ((s.size : Int) < (n : Int)) = true := by simp; omega
      have hb3 : (s.size : Int) < (n : Int) := by omega
      clear hz hg0 h1 hlen hn
      go_enter Try.func10, Try.ntmps10
      go_wp2_with (go_at_call 11; refine (hA _).mono ?_; rintro e w' ⟨rfl, hw'⟩; subst w')
      go_quiet (fail)
      go_wp2
      go_ret
      exact HZ.out _ (drawnN _) _ rfl
    · have hb1 : decide ((s.size : Int) < (n : Int)) = false := by simp; omega
      have hb3 : ¬ (s.size : Int) < (n : Int) := by omega
      have hs1 : 1 < s.size := by omega
      have hS := second_any s[0].toNat s[1].toNat
      unfold secV at hS
      have hg1 := get_bs s 1 hs1
      have hq1 : ((1 : Int) < (s.size : Int)) = True := eq_true (by omega)
      have hq2 : (1 < s.size) = True := eq_true (by omega)
      by_cases h4 : sec s[0].toNat s[1].toNat = true
      · rw [h4] at hS
        have HN := Aside0.mk hn
        have HS := Aside0.mk (show sec ((bs s).getD 0 0) ((bs s).getD 1 0) = true by rw [← hg0, ← hg1]; exact h4)
        have HZ := Aside0.mk hz
        clear hz hg0 h1 hlen hn h4 hg1
        go_enter Try.func10, Try.ntmps10
        go_wp2_with (go_at_call 11; refine (hA _).mono ?_; rintro e w' ⟨rfl, hw'⟩; subst w')
        go_quiet (first | (go_at_call 12; refine Calls.quiet_of_same (hS _)))
        go_wp2
        go_loopw [4] (fun v4 w' => ∃ j : Nat, v4 = .int .i64 (j : Int) ∧ 2 ≤ j ∧ j ≤ n ∧ Aside0 (∀ i, 2 ≤ i → i < j → fol ((bs s).getD i 0) = true) ∧ Drawn0 w w') (fun v4 _ => n - (intOf v4).toNat)
        case atStart => exact ⟨2, rfl, by omega, by omega, ⟨fun i h1 h2 => by omega⟩, drawnN _⟩
        case round =>
          obtain ⟨j, rfl, hj, hjn, HF, HD⟩ := hrel
          by_cases hlt : j < n
          · have hjs : j < s.size := by omega
            have hF := follows_any s[j].toNat
            have hgj := get_bs s j hjs
            have hlt2 : (j : Int) < (n : Int) := by omega
            by_cases h5 : fol s[j].toNat = true
            · rw [h5] at hF
              have HF2 : Aside0 (∀ i, 2 ≤ i → i < j + 1 → fol ((bs s).getD i 0) = true) := ⟨by
                intro i hi hi2
                by_cases e : i = j
                · subst e; rw [← hgj]; exact h5
                · exact HF.out i hi (by omega)⟩
              clear h5 hgj
              go_wp2_with (go_at_call 13; refine (hF _).mono ?_; rintro e w' ⟨rfl, hw'⟩; subst w')
              go_roundw
              case rel => exact ⟨j + 1, by go_num, by omega, by omega, HF2, HD⟩
              case measure => simp [intOf]; omega
            · rw [Bool.not_eq_true] at h5
              rw [h5] at hF
              have HZ2 := Aside0.mk (HZ.out 0 (sgn_fol _ j hj (by rw [HN.out]; exact hlt) (by rw [← hgj]; exact h5)))
              clear h5 hgj
              go_wp2_with (go_at_call 13; refine (hF _).mono ?_; rintro e w' ⟨rfl, hw'⟩; subst w')
              go_ret
              exact HZ2.out _ HD _ rfl
          · have hge : ¬ (j : Int) < (n : Int) := by omega
            have HZ2 := Aside0.mk (HZ.out n (by rw [← HN.out]; exact sgn_all _ (by rw [HN.out]; exact hn2) (by rw [HN.out, bs_length]; omega) HS.out (fun i h1 h2 => HF.out i h1 (by rw [HN.out] at h2; omega))))
            go_wp2
            go_ret
            exact HZ2.out _ HD _ rfl
      · rw [Bool.not_eq_true] at h4
        rw [h4] at hS
        have HZ := Aside0.mk (hz 0 (sgn_sec _ (by omega) (by rw [← hg0, ← hg1]; exact h4)))
        clear hz hg0 h1 hlen hn h4 hg1
        go_enter Try.func10, Try.ntmps10
        go_wp2_with (go_at_call 11; refine (hA _).mono ?_; rintro e w' ⟨rfl, hw'⟩; subst w')
        go_quiet (first | (go_at_call 12; refine Calls.quiet_of_same (hS _)))
        go_wp2
        go_ret
        exact HZ.out _ (drawnN _) _ rfl
end Go.Proofs.Ytipgdjjmmfkfiaa
