import Derived.Test.YtipgdjjmmfkfiaaUtfS
namespace Go.Proofs.Ytipgdjjmmfkfiaa
open Go.RowKit Go.Proofs.YtipgdjjmmfkfiaaW.PrintWords Hy

theorem drawn_trans {w w1 w2 : World} (h : Drawn0 w w1) (h' : Drawn0 w1 w2) : Drawn0 w w2 := by
  obtain ⟨n, rfl⟩ := h; obtain ⟨m, rfl⟩ := h'; exact ⟨n + m, by rw [World.drewN_drewN]⟩
def whlV (s : ByteArray) (m : Int) (w : World) (e : Ending) (w' : World) : Prop := e = .returned (.int .i64 ((whl (bs s) m : Nat) : Int)) ∧ Drawn0 w w'
set_option maxHeartbeats 4000000 in
theorem whole_any (s : ByteArray) (m : Int) (w : World) (hs : s.size ≤ 140737488351232) (hm : 0 ≤ m) (hm2 : m < 9223372036854775808) :
    Calls Try.prog 9 #[.string s, .int .i64 m] w (whlV s m w) := by
  have hz : ∀ n, whl (bs s) m = n → ∀ W, Drawn0 w W → ∀ e, e = .returned (.int .i64 (n : Int)) → whlV s m w e W := by
    intro n hn W hW e he; subst hn; exact ⟨he, hW⟩
  have HZ := Aside0.mk hz
  clear hz
  go_enter Try.func9, Try.ntmps9
  go_wp2
  go_loopw [5] (fun v5 w' => ∃ a : Nat, v5 = .int .i64 (a : Int) ∧ a ≤ s.size ∧ Aside0 (whl (bs s) m = a + whl ((bs s).drop a) (m - a)) ∧ Drawn0 w w') (fun v5 _ => s.size - (intOf v5).toNat)
  case atStart => exact ⟨0, rfl, by omega, ⟨by simp⟩, Drawn0.refl _⟩
  case round =>
    obtain ⟨a, rfl, ha, HE, HD⟩ := hrel
    by_cases hlt : a < s.size
    · have hlt2 : (a : Int) < (s.size : Int) := by omega
      have hez : (s.extract a s.size).size = s.size - a := by rw [ByteArray.size_extract]; omega
      have hA := fun w => sign_any (s.extract a s.size) w (by omega) (by omega)
      unfold sgnV at hA
      rw [bs_extract, ← bs_length, List.take_length] at hA
      rw [bs_length] at hA
      obtain ⟨n, hn⟩ : ∃ n, sgn ((bs s).drop a) = n := ⟨_, rfl⟩
      have hle := sgn_le ((bs s).drop a)
      rw [List.length_drop, bs_length] at hle
      rw [hn] at hA hle
      have hwr : ∀ w1, Drawn0 wr w1 → Drawn0 w w1 := fun w1 h => drawn_trans HD h
      by_cases h0 : n = 0
      · have HZ2 := Aside0.mk (HZ.out a (by rw [HE.out, whl_stop _ _ (.inl (by rw [hn]; exact h0))]; rfl))
        have hb : ((n : Int) == 0) = true := by simp; omega
        subst h0
        clear HZ HE hn hle hez
        go_wp2_with (go_at_call 10; refine (hA _).mono ?_; rintro e w1 ⟨rfl, hw1⟩; have HD1 := hwr _ hw1; clear hw1 HD)
        go_ret
        exact HZ2.out _ HD1 _ rfl
      · have hb : ((n : Int) == 0) = false := by simp; omega
        by_cases h1 : m - a < n
        · have HZ2 := Aside0.mk (HZ.out a (by rw [HE.out, whl_stop _ _ (.inr (by rw [hn]; exact h1))]; rfl))
          have hb2 : decide (m - (a : Int) < (n : Int)) = true := decide_eq_true h1
          clear HZ HE hn hle hez h0
          go_wp2_with (go_at_call 10; refine (hA _).mono ?_; rintro e w1 ⟨rfl, hw1⟩; have HD1 := hwr _ hw1; clear hw1 HD)
          go_ret
          exact HZ2.out _ HD1 _ rfl
        · have HE2 : Aside0 (whl (bs s) m = (a + n : Nat) + whl ((bs s).drop (a + n)) (m - (a + n : Nat))) := ⟨by
            rw [HE.out, whl_go _ _ (by rw [hn]; exact h0) (by rw [hn]; omega), hn, List.drop_drop]
            rw [show m - (a : Int) - (n : Int) = m - ((a + n : Nat) : Int) by omega]; omega⟩
          have hb2 : decide (m - (a : Int) < (n : Int)) = false := decide_eq_false h1
          have han : a + n ≤ s.size := by omega
          clear HZ HE hn hle hez
          go_wp2_with (go_at_call 10; refine (hA _).mono ?_; rintro e w1 ⟨rfl, hw1⟩; have HD1 := hwr _ hw1; clear hw1 HD)
          go_roundw
          case rel => exact ⟨a + n, by go_num, han, HE2, HD1⟩
          case measure => simp [intOf]; omega
    · obtain rfl : a = s.size := by omega
      have HZ2 := Aside0.mk (HZ.out s.size (by rw [HE.out, ← bs_length, List.drop_length, whl_stop _ _ (.inl rfl)]; rfl))
      clear HZ HE hlt ha
      go_wp2
      go_ret
      exact HZ2.out _ HD _ rfl
/-- Where the first sign is none; -1: all are right. -/
def badI (s : List Nat) : Int := if whl s s.length = s.length then -1 else (whl s s.length : Int)
def badV (s : ByteArray) (w : World) (e : Ending) (w' : World) : Prop := e = .returned (.int .i64 (badI (bs s))) ∧ Drawn0 w w'
theorem bad_any (s : ByteArray) (w : World) (hs : s.size ≤ 140737488351232) : Calls Try.prog 7 #[.string s] w (badV s w) := by
  have hA := fun w => whole_any s s.size w hs (by omega) (by omega)
  unfold whlV at hA
  obtain ⟨n, hn⟩ : ∃ n, whl (bs s) s.size = n := ⟨_, rfl⟩
  rw [hn] at hA
  have hl := bs_length s
  have hle := (whl_says _ (bs s) s.size (Nat.le_refl _) (by omega)).2.1
  rw [hn, hl] at hle
  by_cases h : n = s.size
  · have HZ : Aside0 (badI (bs s) = -1) := ⟨by unfold badI; rw [hl, hn, if_pos h]⟩
    subst h
    clear hn hl hle
    go_enter Try.func7, Try.ntmps7
    go_wp2_with (go_at_call 9; refine (hA _).mono ?_; rintro e w1 ⟨rfl, hw1⟩)
    go_ret
    exact ⟨by rw [HZ.out]; rfl, hw1⟩
  · have HZ : Aside0 (badI (bs s) = n) := ⟨by unfold badI; rw [hl, hn, if_neg h]⟩
    have hb : ((n : Int) == (s.size : Int)) = false := by rw [beq_eq_false_iff_ne]; omega
    clear hn hl hle h
    go_enter Try.func7, Try.ntmps7
    go_wp2_with (go_at_call 9; refine (hA _).mono ?_; rintro e w1 ⟨rfl, hw1⟩)
    go_ret
    exact ⟨by rw [HZ.out]; rfl, hw1⟩
theorem badI_neg (s : List Nat) : decide (badI s < 0) = vld s := by
  unfold badI vld
  by_cases h : whl s s.length = s.length
  · rw [if_pos h, decide_eq_true h]; rfl
  · rw [if_neg h, decide_eq_false h, decide_eq_false (by omega)]
def vldV (s : ByteArray) (w : World) (e : Ending) (w' : World) : Prop := e = .returned (.bool (vld (bs s))) ∧ Drawn0 w w'
theorem valid_any (s : ByteArray) (w : World) (hs : s.size ≤ 140737488351232) : Calls Try.prog 6 #[.string s] w (vldV s w) := by
  have hA := fun w => bad_any s w hs
  have HZ := Aside0.mk (badI_neg (bs s))
  unfold badV at hA
  go_enter Try.func6, Try.ntmps6
  go_wp2_with (go_at_call 7; refine (hA _).mono ?_; rintro e w1 ⟨rfl, hw1⟩)
  go_ret
  exact ⟨by rw [← HZ.out]; rfl, hw1⟩
/-- The whole signs in front that have so many bytes at most. -/
def clip (s : ByteArray) (n : Int) : ByteArray := s.extract 0 (whl (bs s) (max n 0))
def clipV (s : ByteArray) (n : Int) (w : World) (e : Ending) (w' : World) : Prop := e = .returned (.string (clip s n)) ∧ Drawn0 w w'
theorem clip_any (s : ByteArray) (n : Int) (w : World) (hs : s.size ≤ 140737488351232) (hn : n < 9223372036854775808) : Calls Try.prog 8 #[.string s, .int .i64 n] w (clipV s n w) := by
  have hA := fun w => whole_any s (max n 0) w hs (by omega) (by omega)
  have hle := (whl_says _ (bs s) (max n 0) (Nat.le_refl _) (by omega)).2.1
  rw [bs_length] at hle
  have HZ : Aside0 (clip s n = s.extract 0 (whl (bs s) (max n 0))) := ⟨rfl⟩
  unfold whlV at hA
  generalize whl (bs s) (max n 0) = k at *
  by_cases h : n < 0
  · rw [show max n 0 = 0 by omega] at hA
    go_enter Try.func8, Try.ntmps8
    go_wp2_with (go_at_call 9; refine (hA _).mono ?_; rintro e w1 ⟨rfl, hw1⟩)
    go_ret
    exact ⟨by rw [HZ.out]; rfl, hw1⟩
  · rw [show max n 0 = n by omega] at hA
    go_enter Try.func8, Try.ntmps8
    go_wp2_with (go_at_call 9; refine (hA _).mono ?_; rintro e w1 ⟨rfl, hw1⟩)
    go_ret
    exact ⟨by rw [HZ.out]; rfl, hw1⟩
end Go.Proofs.Ytipgdjjmmfkfiaa
