import Derived.Test.YtipgdjjmmfkfiaaDoorMoagzecqe
import Derived.Test.YtipgdjjmmfkfiaaDoorMpbbfkqni
import Derived.Test.YtipgdjjmmfkfiaaDoorProg
import Derived.WalkKit
import Derived.Deep.QuietTactic
import Derived.BigQuiet
import Derived.LoopTactic
namespace Go.Proofs.YtipgdjjmmfkfiaaDoor
open Go.RowKit Go.Proofs.YtipgdjjmmfkfiaaDoorW.PrintWords Hy

theorem follows_any (c : Nat) (w : World) : Calls Tryd.prog 40 #[.int .u8 (c : Int)] w fun e w' => e = .returned (.bool (fol c)) ∧ w' = w := by
  unfold fol
  by_cases h : 128 ≤ c
  · have h1 : (128 : Int) ≤ (c : Int) := by omega
    have h2 : decide ((c : Int) ≤ 191) = decide (c ≤ 191) := decide_eq_decide.2 (by omega)
    go_enter Tryd.func40, Tryd.ntmps40
    go_wp2
    go_ret
    exact ⟨by rw [decide_eq_true h, Bool.true_and, ← h2]; rfl, rfl⟩
  · have h1 : ¬ (128 : Int) ≤ (c : Int) := by omega
    go_enter Tryd.func40, Tryd.ntmps40
    go_wp2
    go_ret
    exact ⟨by simp, rfl⟩
def szcV (c : Nat) (w : World) (e : Ending) (w' : World) : Prop := e = .returned (.int .i64 ((szc c : Nat) : Int)) ∧ w' = w
set_option maxHeartbeats 1000000 in
theorem usize_any (c : Nat) (w : World) : Calls Tryd.prog 38 #[.int .u8 (c : Int)] w (szcV c w) := by
  have hz : ∀ n, szc c = n → ∀ W, ∀ e, e = .returned (.int .i64 (n : Int)) → szcV c W e W := by
    intro n hn W e he; subst hn; exact ⟨he, rfl⟩
  by_cases h1 : c > 244
  · have HZ := Aside0.mk (hz 0 (by unfold szc; rw [if_pos h1]))
    have g1 : (244 : Int) < (c : Int) := by omega
    clear hz h1
    go_enter Tryd.func38, Tryd.ntmps38
    go_wp2
    go_ret
    exact HZ.out _ _ rfl
  · have g1 : ¬ (244 : Int) < (c : Int) := by omega
    by_cases h2 : c < 128
    · have HZ := Aside0.mk (hz 1 (by unfold szc; rw [if_neg h1, if_neg (by omega), if_neg (by omega), if_neg (by omega), if_neg (by omega)]))
      have g2 : ¬ (128 : Int) ≤ (c : Int) := by omega
      have g4 : ¬ (240 : Int) ≤ (c : Int) := by omega
      have g5 : ¬ (224 : Int) ≤ (c : Int) := by omega
      have g6 : ¬ (194 : Int) ≤ (c : Int) := by omega
      clear hz h1 h2
      go_enter Tryd.func38, Tryd.ntmps38
      go_wp2
      go_ret
      exact HZ.out _ _ rfl
    · have g2 : (128 : Int) ≤ (c : Int) := by omega
      by_cases h3 : c < 194
      · have HZ := Aside0.mk (hz 0 (by unfold szc; rw [if_neg h1, if_pos (by omega)]))
        have g3 : (c : Int) < 194 := by omega
        clear hz h1 h2 h3
        go_enter Tryd.func38, Tryd.ntmps38
        go_wp2
        go_ret
        exact HZ.out _ _ rfl
      · have g3 : ¬ (c : Int) < 194 := by omega
        have g6 : (194 : Int) ≤ (c : Int) := by omega
        by_cases h4 : c ≥ 240
        · have HZ := Aside0.mk (hz 4 (by unfold szc; rw [if_neg h1, if_neg (by omega), if_pos h4]))
          have g4 : (240 : Int) ≤ (c : Int) := by omega
          clear hz h1 h2 h3 h4
          go_enter Tryd.func38, Tryd.ntmps38
          go_wp2
          go_ret
          exact HZ.out _ _ rfl
        · have g4 : ¬ (240 : Int) ≤ (c : Int) := by omega
          by_cases h5 : c ≥ 224
          · have HZ := Aside0.mk (hz 3 (by unfold szc; rw [if_neg h1, if_neg (by omega), if_neg h4, if_pos h5]))
            have g5 : (224 : Int) ≤ (c : Int) := by omega
            clear hz h1 h2 h3 h4 h5
            go_enter Tryd.func38, Tryd.ntmps38
            go_wp2
            go_ret
            exact HZ.out _ _ rfl
          · have HZ := Aside0.mk (hz 2 (by unfold szc; rw [if_neg h1, if_neg (by omega), if_neg h4, if_neg h5, if_pos (by omega)]))
            have g5 : ¬ (224 : Int) ≤ (c : Int) := by omega
            clear hz h1 h2 h3 h4 h5
            go_enter Tryd.func38, Tryd.ntmps38
            go_wp2
            go_ret
            exact HZ.out _ _ rfl
def secV (f c : Nat) (w : World) (e : Ending) (w' : World) : Prop := e = .returned (.bool (sec f c)) ∧ w' = w
theorem sec_one (f c : Nat) (_ : Int) (p : Bool) (hs : sec f c = (p && fol c)) : ∀ W e, e = .returned (.bool (p && fol c)) → secV f c W e W := fun _ _ he => ⟨by rw [he, hs], rfl⟩
set_option maxHeartbeats 1000000 in
theorem second_any (f c : Nat) (w : World) : Calls Tryd.prog 39 #[.int .u8 (f : Int), .int .u8 (c : Int)] w (secV f c w) := by
  have F := follows_any c
  by_cases h1 : f = 224
  · by_cases h : 160 ≤ c
    · have HZ := Aside0.mk (sec_one f c 0 true (by unfold sec; rw [if_pos h1, decide_eq_true h]))
      have g : (160 : Int) ≤ (c : Int) := by omega
      subst h1
      go_enter Tryd.func39, Tryd.ntmps39
      go_wp2_with (go_at_call 40; refine (F _).mono ?_; rintro e w' ⟨rfl, rfl⟩)
      go_ret
      exact HZ.out _ _ rfl
    · have HZ := Aside0.mk (sec_one f c 0 false (by unfold sec; rw [if_pos h1, decide_eq_false h]))
      have g : ¬ (160 : Int) ≤ (c : Int) := by omega
      subst h1
      go_enter Tryd.func39, Tryd.ntmps39
      go_wp2_with (go_at_call 40; refine (F _).mono ?_; rintro e w' ⟨rfl, rfl⟩)
      go_ret
      exact HZ.out _ _ rfl
  · have g1 : ((f : Int) == 224) = false := by rw [beq_eq_false_iff_ne]; omega
    by_cases h2 : f = 237
    · by_cases h : c ≤ 159
      · have HZ := Aside0.mk (sec_one f c 0 true (by unfold sec; rw [if_neg h1, if_pos h2, decide_eq_true h]))
        have g : (c : Int) ≤ 159 := by omega
        clear h1 g1
        subst h2
        go_enter Tryd.func39, Tryd.ntmps39
        go_wp2_with (go_at_call 40; refine (F _).mono ?_; rintro e w' ⟨rfl, rfl⟩)
        go_ret
        exact HZ.out _ _ rfl
      · have HZ := Aside0.mk (sec_one f c 0 false (by unfold sec; rw [if_neg h1, if_pos h2, decide_eq_false h]))
        have g : ¬ (c : Int) ≤ 159 := by omega
        clear h1 g1
        subst h2
        go_enter Tryd.func39, Tryd.ntmps39
        go_wp2_with (go_at_call 40; refine (F _).mono ?_; rintro e w' ⟨rfl, rfl⟩)
        go_ret
        exact HZ.out _ _ rfl
    · have g2 : ((f : Int) == 237) = false := by rw [beq_eq_false_iff_ne]; omega
      by_cases h3 : f = 240
      · by_cases h : 144 ≤ c
        · have HZ := Aside0.mk (sec_one f c 0 true (by unfold sec; rw [if_neg h1, if_neg h2, if_pos h3, decide_eq_true h]))
          have g : (144 : Int) ≤ (c : Int) := by omega
          clear h1 g1 h2 g2
          subst h3
          go_enter Tryd.func39, Tryd.ntmps39
          go_wp2_with (go_at_call 40; refine (F _).mono ?_; rintro e w' ⟨rfl, rfl⟩)
          go_ret
          exact HZ.out _ _ rfl
        · have HZ := Aside0.mk (sec_one f c 0 false (by unfold sec; rw [if_neg h1, if_neg h2, if_pos h3, decide_eq_false h]))
          have g : ¬ (144 : Int) ≤ (c : Int) := by omega
          clear h1 g1 h2 g2
          subst h3
          go_enter Tryd.func39, Tryd.ntmps39
          go_wp2_with (go_at_call 40; refine (F _).mono ?_; rintro e w' ⟨rfl, rfl⟩)
          go_ret
          exact HZ.out _ _ rfl
      · have g3 : ((f : Int) == 240) = false := by rw [beq_eq_false_iff_ne]; omega
        by_cases h4 : f = 244
        · by_cases h : c ≤ 143
          · have HZ := Aside0.mk (sec_one f c 0 true (by unfold sec; rw [if_neg h1, if_neg h2, if_neg h3, if_pos h4, decide_eq_true h]))
            have g : (c : Int) ≤ 143 := by omega
            clear h1 g1 h2 g2 h3 g3
            subst h4
            go_enter Tryd.func39, Tryd.ntmps39
            go_wp2_with (go_at_call 40; refine (F _).mono ?_; rintro e w' ⟨rfl, rfl⟩)
            go_ret
            exact HZ.out _ _ rfl
          · have HZ := Aside0.mk (sec_one f c 0 false (by unfold sec; rw [if_neg h1, if_neg h2, if_neg h3, if_pos h4, decide_eq_false h]))
            have g : ¬ (c : Int) ≤ 143 := by omega
            clear h1 g1 h2 g2 h3 g3
            subst h4
            go_enter Tryd.func39, Tryd.ntmps39
            go_wp2_with (go_at_call 40; refine (F _).mono ?_; rintro e w' ⟨rfl, rfl⟩)
            go_ret
            exact HZ.out _ _ rfl
        · have g4 : ((f : Int) == 244) = false := by rw [beq_eq_false_iff_ne]; omega
          have HZ := Aside0.mk (sec_one f c 0 true (by unfold sec; rw [if_neg h1, if_neg h2, if_neg h3, if_neg h4, Bool.true_and]))
          clear h1 h2 h3 h4
          go_enter Tryd.func39, Tryd.ntmps39
          go_wp2_with (go_at_call 40; refine (F _).mono ?_; rintro e w' ⟨rfl, rfl⟩)
          go_ret
          exact HZ.out _ _ (by simp)
end Go.Proofs.YtipgdjjmmfkfiaaDoor
namespace Go.Proofs.YtipgdjjmmfkfiaaDoor
open Go.RowKit Go.Proofs.YtipgdjjmmfkfiaaDoorW.PrintWords Hy

def sgnV (s : ByteArray) (w : World) (e : Ending) (w' : World) : Prop := e = .returned (.int .i64 ((sgn (bs s) : Nat) : Int)) ∧ Drawn0 w w'
theorem drawnN {w : World} (n : Nat) : Drawn0 w (w.drewN n) := ⟨n, rfl⟩
set_option maxHeartbeats 4000000 in
theorem sign_any (s : ByteArray) (w : World) (h0 : 0 < s.size) (hs : s.size ≤ 140737488351232) :
    Calls Tryd.prog 37 #[.string s] w (sgnV s w) := by
  have hlen := bs_length s
  have hz : ∀ n, sgn (bs s) = n → ∀ W, Drawn0 w W → ∀ e, e = .returned (.int .i64 (n : Int)) → sgnV s w e W := by
    intro n hn W hW e he; subst hn; exact ⟨he, hW⟩
  have hg0 := get_bs s 0 h0
  have hA := usize_any s[0].toNat
  unfold szcV at hA
  rw [hg0] at hA
  by_cases h1 : szc ((bs s).getD 0 0) ≤ 1
  · have HZ := Aside0.mk (hz _ (sgn_small (bs s) (by omega) h1))
    rcases (by omega : szc ((bs s).getD 0 0) = 0 ∨ szc ((bs s).getD 0 0) = 1) with h2 | h2
    · rw [h2] at hA HZ
      rw [← hg0] at hA
      have hb1 : decide ((s.size : Int) < 0) = false := by simp
      clear hz hg0 h1 h2 hlen
      go_enter Tryd.func37, Tryd.ntmps37
      go_wp2_with (go_at_call 38; refine (hA _).mono ?_; rintro e w' ⟨rfl, hw'⟩; subst w')
      go_quiet (fail)
      go_wp2
      go_loopw [4] (fun v4 w' => v4 = .int .i64 2 ∧ Drawn0 w w') (fun _ _ => 0)
      case atStart => exact ⟨rfl, drawnN _⟩
      case round =>
        obtain ⟨rfl, HD⟩ := hrel
        go_wp2
        go_ret
        exact HZ.out _ HD _ rfl
    · rw [h2] at hA HZ
      rw [← hg0] at hA
      have hb1 : decide ((s.size : Int) < 1) = false := by simp; omega
      clear hz hg0 h1 h2 hlen
      go_enter Tryd.func37, Tryd.ntmps37
      go_wp2_with (go_at_call 38; refine (hA _).mono ?_; rintro e w' ⟨rfl, hw'⟩; subst w')
      go_quiet (fail)
      go_wp2
      go_loopw [4] (fun v4 w' => v4 = .int .i64 2 ∧ Drawn0 w w') (fun _ _ => 0)
      case atStart => exact ⟨rfl, drawnN _⟩
      case round =>
        obtain ⟨rfl, HD⟩ := hrel
        go_wp2
        go_ret
        exact HZ.out _ HD _ rfl
  · obtain ⟨n, hn⟩ : ∃ n, szc ((bs s).getD 0 0) = n := ⟨_, rfl⟩
    rw [hn] at hA
    rw [← hg0] at hA
    have hn2 : 2 ≤ n := by omega
    have hn4 : n ≤ 4 := by rw [← hn]; exact szc_le _
    have hb2 : decide ((1 : Int) < (n : Int)) = true := by simp; omega
    have hn1 : (1 : Int) < (n : Int) := by omega
    by_cases h3 : s.size < n
    · have HZ := Aside0.mk (hz 0 (sgn_short _ (by omega)))
      have hb1 : decide ((s.size : Int) < (n : Int)) = true := by simp; omega
      have hb3 : (s.size : Int) < (n : Int) := by omega
      clear hz hg0 h1 hlen hn
      go_enter Tryd.func37, Tryd.ntmps37
      go_wp2_with (go_at_call 38; refine (hA _).mono ?_; rintro e w' ⟨rfl, hw'⟩; subst w')
      go_quiet (fail)
      go_wp2
      go_ret
      exact HZ.out _ (drawnN _) _ rfl
    · have hb1 : decide ((s.size : Int) < (n : Int)) = false := by simp; omega
      have hb3 : ¬ (s.size : Int) < (n : Int) := by omega
      have hs1 : 1 < s.size := by omega
      have hS := second_any s[0].toNat s[1].toNat
      unfold secV at hS
      have hg1 := get_bs s 1 hs1
      have hq1 : ((1 : Int) < (s.size : Int)) = True := eq_true (by omega)
      have hq2 : (1 < s.size) = True := eq_true (by omega)
      by_cases h4 : sec s[0].toNat s[1].toNat = true
      · rw [h4] at hS
        have HN := Aside0.mk hn
        have HS := Aside0.mk (show sec ((bs s).getD 0 0) ((bs s).getD 1 0) = true by rw [← hg0, ← hg1]; exact h4)
        have HZ := Aside0.mk hz
        clear hz hg0 h1 hlen hn h4 hg1
        go_enter Tryd.func37, Tryd.ntmps37
        go_wp2_with (go_at_call 38; refine (hA _).mono ?_; rintro e w' ⟨rfl, hw'⟩; subst w')
        go_quiet (first | (go_at_call 39; refine Calls.quiet_of_same (hS _)))
        go_wp2
        go_loopw [4] (fun v4 w' => ∃ j : Nat, v4 = .int .i64 (j : Int) ∧ 2 ≤ j ∧ j ≤ n ∧ Aside0 (∀ i, 2 ≤ i → i < j → fol ((bs s).getD i 0) = true) ∧ Drawn0 w w') (fun v4 _ => n - (intOf v4).toNat)
        case atStart => exact ⟨2, rfl, by omega, by omega, ⟨fun i h1 h2 => by omega⟩, drawnN _⟩
        case round =>
          obtain ⟨j, rfl, hj, hjn, HF, HD⟩ := hrel
          by_cases hlt : j < n
          · have hjs : j < s.size := by omega
            have hF := follows_any s[j].toNat
            have hgj := get_bs s j hjs
            have hlt2 : (j : Int) < (n : Int) := by omega
            by_cases h5 : fol s[j].toNat = true
            · rw [h5] at hF
              have HF2 : Aside0 (∀ i, 2 ≤ i → i < j + 1 → fol ((bs s).getD i 0) = true) := ⟨by
                intro i hi hi2
                by_cases e : i = j
                · subst e; rw [← hgj]; exact h5
                · exact HF.out i hi (by omega)⟩
              clear h5 hgj
              go_wp2_with (go_at_call 40; refine (hF _).mono ?_; rintro e w' ⟨rfl, hw'⟩; subst w')
              go_roundw
              case rel => exact ⟨j + 1, by go_num, by omega, by omega, HF2, HD⟩
              case measure => simp [intOf]; omega
            · rw [Bool.not_eq_true] at h5
              rw [h5] at hF
              have HZ2 := Aside0.mk (HZ.out 0 (sgn_fol _ j hj (by rw [HN.out]; exact hlt) (by rw [← hgj]; exact h5)))
              clear h5 hgj
              go_wp2_with (go_at_call 40; refine (hF _).mono ?_; rintro e w' ⟨rfl, hw'⟩; subst w')
              go_ret
              exact HZ2.out _ HD _ rfl
          · have hge : ¬ (j : Int) < (n : Int) := by omega
            have HZ2 := Aside0.mk (HZ.out n (by rw [← HN.out]; exact sgn_all _ (by rw [HN.out]; exact hn2) (by rw [HN.out, bs_length]; omega) HS.out (fun i h1 h2 => HF.out i h1 (by rw [HN.out] at h2; omega))))
            go_wp2
            go_ret
            exact HZ2.out _ HD _ rfl
      · rw [Bool.not_eq_true] at h4
        rw [h4] at hS
        have HZ := Aside0.mk (hz 0 (sgn_sec _ (by omega) (by rw [← hg0, ← hg1]; exact h4)))
        clear hz hg0 h1 hlen hn h4 hg1
        go_enter Tryd.func37, Tryd.ntmps37
        go_wp2_with (go_at_call 38; refine (hA _).mono ?_; rintro e w' ⟨rfl, hw'⟩; subst w')
        go_quiet (first | (go_at_call 39; refine Calls.quiet_of_same (hS _)))
        go_wp2
        go_ret
        exact HZ.out _ (drawnN _) _ rfl
end Go.Proofs.YtipgdjjmmfkfiaaDoor
namespace Go.Proofs.YtipgdjjmmfkfiaaDoor
open Go.RowKit Go.Proofs.YtipgdjjmmfkfiaaDoorW.PrintWords Hy

theorem drawn_trans {w w1 w2 : World} (h : Drawn0 w w1) (h' : Drawn0 w1 w2) : Drawn0 w w2 := by
  obtain ⟨n, rfl⟩ := h; obtain ⟨m, rfl⟩ := h'; exact ⟨n + m, by rw [World.drewN_drewN]⟩
def whlV (s : ByteArray) (m : Int) (w : World) (e : Ending) (w' : World) : Prop := e = .returned (.int .i64 ((whl (bs s) m : Nat) : Int)) ∧ Drawn0 w w'
set_option maxHeartbeats 4000000 in
theorem whole_any (s : ByteArray) (m : Int) (w : World) (hs : s.size ≤ 140737488351232) (hm : 0 ≤ m) (hm2 : m < 9223372036854775808) :
    Calls Tryd.prog 34 #[.string s, .int .i64 m] w (whlV s m w) := by
  have hz : ∀ n, whl (bs s) m = n → ∀ W, Drawn0 w W → ∀ e, e = .returned (.int .i64 (n : Int)) → whlV s m w e W := by
    intro n hn W hW e he; subst hn; exact ⟨he, hW⟩
  have HZ := Aside0.mk hz
  clear hz
  go_enter Tryd.func34, Tryd.ntmps34
  go_wp2
  go_loopw [5] (fun v5 w' => ∃ a : Nat, v5 = .int .i64 (a : Int) ∧ a ≤ s.size ∧ Aside0 (whl (bs s) m = a + whl ((bs s).drop a) (m - a)) ∧ Drawn0 w w') (fun v5 _ => s.size - (intOf v5).toNat)
  case atStart => exact ⟨0, rfl, by omega, ⟨by simp⟩, Drawn0.refl _⟩
  case round =>
    obtain ⟨a, rfl, ha, HE, HD⟩ := hrel
    by_cases hlt : a < s.size
    · have hlt2 : (a : Int) < (s.size : Int) := by omega
      have hez : (s.extract a s.size).size = s.size - a := by rw [ByteArray.size_extract]; omega
      have hA := fun w => sign_any (s.extract a s.size) w (by omega) (by omega)
      unfold sgnV at hA
      rw [bs_extract, ← bs_length, List.take_length] at hA
      rw [bs_length] at hA
      obtain ⟨n, hn⟩ : ∃ n, sgn ((bs s).drop a) = n := ⟨_, rfl⟩
      have hle := sgn_le ((bs s).drop a)
      rw [List.length_drop, bs_length] at hle
      rw [hn] at hA hle
      have hwr : ∀ w1, Drawn0 wr w1 → Drawn0 w w1 := fun w1 h => drawn_trans HD h
      by_cases h0 : n = 0
      · have HZ2 := Aside0.mk (HZ.out a (by rw [HE.out, whl_stop _ _ (.inl (by rw [hn]; exact h0))]; rfl))
        have hb : ((n : Int) == 0) = true := by simp; omega
        subst h0
        clear HZ HE hn hle hez
        go_wp2_with (go_at_call 37; refine (hA _).mono ?_; rintro e w1 ⟨rfl, hw1⟩; have HD1 := hwr _ hw1; clear hw1 HD)
        go_ret
        exact HZ2.out _ HD1 _ rfl
      · have hb : ((n : Int) == 0) = false := by simp; omega
        by_cases h1 : m - a < n
        · have HZ2 := Aside0.mk (HZ.out a (by rw [HE.out, whl_stop _ _ (.inr (by rw [hn]; exact h1))]; rfl))
          have hb2 : decide (m - (a : Int) < (n : Int)) = true := decide_eq_true h1
          clear HZ HE hn hle hez h0
          go_wp2_with (go_at_call 37; refine (hA _).mono ?_; rintro e w1 ⟨rfl, hw1⟩; have HD1 := hwr _ hw1; clear hw1 HD)
          go_ret
          exact HZ2.out _ HD1 _ rfl
        · have HE2 : Aside0 (whl (bs s) m = (a + n : Nat) + whl ((bs s).drop (a + n)) (m - (a + n : Nat))) := ⟨by
            rw [HE.out, whl_go _ _ (by rw [hn]; exact h0) (by rw [hn]; omega), hn, List.drop_drop]
            rw [show m - (a : Int) - (n : Int) = m - ((a + n : Nat) : Int) by omega]; omega⟩
          have hb2 : decide (m - (a : Int) < (n : Int)) = false := decide_eq_false h1
          have han : a + n ≤ s.size := by omega
          clear HZ HE hn hle hez
          go_wp2_with (go_at_call 37; refine (hA _).mono ?_; rintro e w1 ⟨rfl, hw1⟩; have HD1 := hwr _ hw1; clear hw1 HD)
          go_roundw
          case rel => exact ⟨a + n, by go_num, han, HE2, HD1⟩
          case measure => simp [intOf]; omega
    · obtain rfl : a = s.size := by omega
      have HZ2 := Aside0.mk (HZ.out s.size (by rw [HE.out, ← bs_length, List.drop_length, whl_stop _ _ (.inl rfl)]; rfl))
      clear HZ HE hlt ha
      go_wp2
      go_ret
      exact HZ2.out _ HD _ rfl
/-- Where the first sign is none; -1: all are right. -/
def badI (s : List Nat) : Int := if whl s s.length = s.length then -1 else (whl s s.length : Int)
def badV (s : ByteArray) (w : World) (e : Ending) (w' : World) : Prop := e = .returned (.int .i64 (badI (bs s))) ∧ Drawn0 w w'
theorem bad_any (s : ByteArray) (w : World) (hs : s.size ≤ 140737488351232) : Calls Tryd.prog 24 #[.string s] w (badV s w) := by
  have hA := fun w => whole_any s s.size w hs (by omega) (by omega)
  unfold whlV at hA
  obtain ⟨n, hn⟩ : ∃ n, whl (bs s) s.size = n := ⟨_, rfl⟩
  rw [hn] at hA
  have hl := bs_length s
  have hle := (whl_says _ (bs s) s.size (Nat.le_refl _) (by omega)).2.1
  rw [hn, hl] at hle
  by_cases h : n = s.size
  · have HZ : Aside0 (badI (bs s) = -1) := ⟨by unfold badI; rw [hl, hn, if_pos h]⟩
    subst h
    clear hn hl hle
    go_enter Tryd.func24, Tryd.ntmps24
    go_wp2_with (go_at_call 34; refine (hA _).mono ?_; rintro e w1 ⟨rfl, hw1⟩)
    go_ret
    exact ⟨by rw [HZ.out]; rfl, hw1⟩
  · have HZ : Aside0 (badI (bs s) = n) := ⟨by unfold badI; rw [hl, hn, if_neg h]⟩
    have hb : ((n : Int) == (s.size : Int)) = false := by rw [beq_eq_false_iff_ne]; omega
    clear hn hl hle h
    go_enter Tryd.func24, Tryd.ntmps24
    go_wp2_with (go_at_call 34; refine (hA _).mono ?_; rintro e w1 ⟨rfl, hw1⟩)
    go_ret
    exact ⟨by rw [HZ.out]; rfl, hw1⟩
theorem badI_neg (s : List Nat) : decide (badI s < 0) = vld s := by
  unfold badI vld
  by_cases h : whl s s.length = s.length
  · rw [if_pos h, decide_eq_true h]; rfl
  · rw [if_neg h, decide_eq_false h, decide_eq_false (by omega)]
def vldV (s : ByteArray) (w : World) (e : Ending) (w' : World) : Prop := e = .returned (.bool (vld (bs s))) ∧ Drawn0 w w'
theorem valid_any (s : ByteArray) (w : World) (hs : s.size ≤ 140737488351232) : Calls Tryd.prog 23 #[.string s] w (vldV s w) := by
  have hA := fun w => bad_any s w hs
  have HZ := Aside0.mk (badI_neg (bs s))
  unfold badV at hA
  go_enter Tryd.func23, Tryd.ntmps23
  go_wp2_with (go_at_call 24; refine (hA _).mono ?_; rintro e w1 ⟨rfl, hw1⟩)
  go_ret
  exact ⟨by rw [← HZ.out]; rfl, hw1⟩
/-- The whole signs in front that have so many bytes at most. -/
def clip (s : ByteArray) (n : Int) : ByteArray := s.extract 0 (whl (bs s) (max n 0))
def clipV (s : ByteArray) (n : Int) (w : World) (e : Ending) (w' : World) : Prop := e = .returned (.string (clip s n)) ∧ Drawn0 w w'
theorem clip_any (s : ByteArray) (n : Int) (w : World) (hs : s.size ≤ 140737488351232) (hn : n < 9223372036854775808) : Calls Tryd.prog 25 #[.string s, .int .i64 n] w (clipV s n w) := by
  have hA := fun w => whole_any s (max n 0) w hs (by omega) (by omega)
  have hle := (whl_says _ (bs s) (max n 0) (Nat.le_refl _) (by omega)).2.1
  rw [bs_length] at hle
  have HZ : Aside0 (clip s n = s.extract 0 (whl (bs s) (max n 0))) := ⟨rfl⟩
  unfold whlV at hA
  generalize whl (bs s) (max n 0) = k at *
  by_cases h : n < 0
  · rw [show max n 0 = 0 by omega] at hA
    go_enter Tryd.func25, Tryd.ntmps25
    go_wp2_with (go_at_call 34; refine (hA _).mono ?_; rintro e w1 ⟨rfl, hw1⟩)
    go_ret
    exact ⟨by rw [HZ.out]; rfl, hw1⟩
  · rw [show max n 0 = n by omega] at hA
    go_enter Tryd.func25, Tryd.ntmps25
    go_wp2_with (go_at_call 34; refine (hA _).mono ?_; rintro e w1 ⟨rfl, hw1⟩)
    go_ret
    exact ⟨by rw [HZ.out]; rfl, hw1⟩
end Go.Proofs.YtipgdjjmmfkfiaaDoor
namespace Go.Proofs.YtipgdjjmmfkfiaaDoor
open Go.RowKit Go.Proofs.YtipgdjjmmfkfiaaDoorW.PrintWords Hy

theorem whl1 : whl [97, 192] 2 = 1 := by rw [whl_go _ _ (by decide) (by decide), whl_stop _ _ (by decide)]; decide
theorem whl2 : whl [97, 195, 169] 3 = 3 := by rw [whl_go _ _ (by decide) (by decide), whl_go _ _ (by decide) (by decide), whl_stop _ _ (by decide)]; decide
theorem whl3 : whl [237, 160, 128] 3 = 0 := by rw [whl_stop _ _ (by decide)]
theorem whl4 : whl [] 0 = 0 := by rw [whl_stop _ _ (by decide)]
theorem whl5 : whl [97, 195, 169] 2 = 1 := by rw [whl_go _ _ (by decide) (by decide), whl_stop _ _ (by decide)]; decide
theorem bad1 (w : World) : Calls Tryd.prog 24 #[.string ⟨#[97, 192]⟩] w fun e w' => e = .returned (.int .i64 1) ∧ ∃ m, w' = w.drewN m :=
  (bad_any ⟨#[97, 192]⟩ w (by decide)).mono fun e w' h => ⟨by rw [h.1]; congr 2; show badI [97, 192] = 1; unfold badI; rw [show ([97, 192] : List Nat).length = 2 from rfl, show ((2 : Nat) : Int) = 2 from rfl, whl1]; rfl, by obtain ⟨m, hm⟩ := h.2; exact ⟨m, hm⟩⟩
theorem bad4 (w : World) : Calls Tryd.prog 24 #[.string ⟨#[]⟩] w fun e w' => e = .returned (.int .i64 (-1)) ∧ ∃ m, w' = w.drewN m :=
  (bad_any ⟨#[]⟩ w (by decide)).mono fun e w' h => ⟨by rw [h.1]; congr 2; show badI [] = -1; unfold badI; rw [show ([] : List Nat).length = 0 from rfl, show ((0 : Nat) : Int) = 0 from rfl, whl4]; rfl, by obtain ⟨m, hm⟩ := h.2; exact ⟨m, hm⟩⟩
theorem vld2 (w : World) : Calls Tryd.prog 23 #[.string ⟨#[97, 195, 169]⟩] w fun e w' => e = .returned (.bool true) ∧ ∃ m, w' = w.drewN m :=
  (valid_any ⟨#[97, 195, 169]⟩ w (by decide)).mono fun e w' h => ⟨by rw [h.1]; congr 2; show vld [97, 195, 169] = true; unfold vld; rw [show ([97, 195, 169] : List Nat).length = 3 from rfl, show ((3 : Nat) : Int) = 3 from rfl, whl2]; rfl, by obtain ⟨m, hm⟩ := h.2; exact ⟨m, hm⟩⟩
theorem vld3 (w : World) : Calls Tryd.prog 23 #[.string ⟨#[237, 160, 128]⟩] w fun e w' => e = .returned (.bool false) ∧ ∃ m, w' = w.drewN m :=
  (valid_any ⟨#[237, 160, 128]⟩ w (by decide)).mono fun e w' h => ⟨by rw [h.1]; congr 2; show vld [237, 160, 128] = false; unfold vld; rw [show ([237, 160, 128] : List Nat).length = 3 from rfl, show ((3 : Nat) : Int) = 3 from rfl, whl3]; rfl, by obtain ⟨m, hm⟩ := h.2; exact ⟨m, hm⟩⟩
theorem clip5 (w : World) : Calls Tryd.prog 25 #[.string ⟨#[97, 195, 169]⟩, .int .i64 2] w fun e w' => e = .returned (.string ⟨#[97]⟩) ∧ ∃ m, w' = w.drewN m :=
  (clip_any ⟨#[97, 195, 169]⟩ 2 w (by decide) (by decide)).mono fun e w' h => ⟨by rw [h.1]; congr 2; unfold clip; rw [show max (2 : Int) 0 = 2 by decide, show bs ⟨#[97, 195, 169]⟩ = [97, 195, 169] from rfl, whl5]; decide, by obtain ⟨m, hm⟩ := h.2; exact ⟨m, hm⟩⟩
set_option maxHeartbeats 1000000 in
theorem utf_first (w : World) : Calls Tryd.prog 20 #[] w fun e w' => e = .returned (.bool true) ∧ ∃ m, w' = w.drewN m := by
  go_enter Tryd.func20, Tryd.ntmps20
  go_wp2_with (first
    | (go_at_call 24; first | (with_reducible refine (bad1 _).mono ?_; rintro e w' ⟨rfl, n1, rfl⟩) | (with_reducible refine (bad4 _).mono ?_; rintro e w' ⟨rfl, n1, rfl⟩))
    | (go_at_call 23; first | (with_reducible refine (vld2 _).mono ?_; rintro e w' ⟨rfl, n1, rfl⟩) | (with_reducible refine (vld3 _).mono ?_; rintro e w' ⟨rfl, n1, rfl⟩))
    | (go_at_call 25; (with_reducible refine (clip5 _).mono ?_; rintro e w' ⟨rfl, n1, rfl⟩)))
  go_ret
  exact ⟨rfl, ⟨_, rfl⟩⟩
end Go.Proofs.YtipgdjjmmfkfiaaDoor
