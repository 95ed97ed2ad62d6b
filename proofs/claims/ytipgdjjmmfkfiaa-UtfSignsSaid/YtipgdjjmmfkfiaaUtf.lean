import Derived.Test.YtipgdjjmmfkfiaaUtfP
import Derived.Test.YtipgdjjmmfkfiaaBt
import Derived.Test.YtipgdjjmmfkfiaaProg
import Derived.WalkKit
import Derived.Deep.QuietTactic
import Derived.BigQuiet
import Derived.LoopTactic
namespace Go.Proofs.Ytipgdjjmmfkfiaa
open Go.RowKit Go.Proofs.YtipgdjjmmfkfiaaW.PrintWords Hy

theorem follows_any (c : Nat) (w : World) : Calls Try.prog 13 #[.int .u8 (c : Int)] w fun e w' => e = .returned (.bool (fol c)) ∧ w' = w := by
  unfold fol
  by_cases h : 128 ≤ c
  · have h1 : (128 : Int) ≤ (c : Int) := by omega
    have h2 : decide ((c : Int) ≤ 191) = decide (c ≤ 191) := decide_eq_decide.2 (by omega)
    go_enter Try.func13, Try.ntmps13
    go_wp2
    go_ret
    exact ⟨by rw [decide_eq_true h, Bool.true_and, ← h2]; rfl, rfl⟩
  · have h1 : ¬ (128 : Int) ≤ (c : Int) := by omega
    go_enter Try.func13, Try.ntmps13
    go_wp2
    go_ret
    exact ⟨by simp [h], rfl⟩
def szcV (c : Nat) (w : World) (e : Ending) (w' : World) : Prop := e = .returned (.int .i64 ((szc c : Nat) : Int)) ∧ w' = w
set_option maxHeartbeats 1000000 in
theorem usize_any (c : Nat) (w : World) : Calls Try.prog 11 #[.int .u8 (c : Int)] w (szcV c w) := by
  have hz : ∀ n, szc c = n → ∀ W, ∀ e, e = .returned (.int .i64 (n : Int)) → szcV c W e W := by
    intro n hn W e he; subst hn; exact ⟨he, rfl⟩
  by_cases h1 : c > 244
  · have HZ := Aside0.mk (hz 0 (by unfold szc; rw [if_pos h1]))
    have g1 : (244 : Int) < (c : Int) := by omega
    clear hz h1
    go_enter Try.func11, Try.ntmps11
    go_wp2
    go_ret
    exact HZ.out _ _ rfl
  · have g1 : ¬ (244 : Int) < (c : Int) := by omega
    by_cases h2 : c < 128
    · have HZ := Aside0.mk (hz 1 (by unfold szc; rw [if_neg h1, if_neg (by omega), if_neg (by omega), if_neg (by omega), if_neg (by omega)]))
      have g2 : ¬ (128 : Int) ≤ (c : Int) := by omega
      have g4 : ¬ (240 : Int) ≤ (c : Int) := by omega
      have g5 : ¬ (224 : Int) ≤ (c : Int) := by omega
      have g6 : ¬ (194 : Int) ≤ (c : Int) := by omega
      clear hz h1 h2
      go_enter Try.func11, Try.ntmps11
      go_wp2
      go_ret
      exact HZ.out _ _ rfl
    · have g2 : (128 : Int) ≤ (c : Int) := by omega
      by_cases h3 : c < 194
      · have HZ := Aside0.mk (hz 0 (by unfold szc; rw [if_neg h1, if_pos (by omega)]))
        have g3 : (c : Int) < 194 := by omega
        clear hz h1 h2 h3
        go_enter Try.func11, Try.ntmps11
        go_wp2
        go_ret
        exact HZ.out _ _ rfl
      · have g3 : ¬ (c : Int) < 194 := by omega
        have g6 : (194 : Int) ≤ (c : Int) := by omega
        by_cases h4 : c ≥ 240
        · have HZ := Aside0.mk (hz 4 (by unfold szc; rw [if_neg h1, if_neg (by omega), if_pos h4]))
          have g4 : (240 : Int) ≤ (c : Int) := by omega
          clear hz h1 h2 h3 h4
          go_enter Try.func11, Try.ntmps11
          go_wp2
          go_ret
          exact HZ.out _ _ rfl
        · have g4 : ¬ (240 : Int) ≤ (c : Int) := by omega
          by_cases h5 : c ≥ 224
          · have HZ := Aside0.mk (hz 3 (by unfold szc; rw [if_neg h1, if_neg (by omega), if_neg h4, if_pos h5]))
            have g5 : (224 : Int) ≤ (c : Int) := by omega
            clear hz h1 h2 h3 h4 h5
            go_enter Try.func11, Try.ntmps11
            go_wp2
            go_ret
            exact HZ.out _ _ rfl
          · have HZ := Aside0.mk (hz 2 (by unfold szc; rw [if_neg h1, if_neg (by omega), if_neg h4, if_neg h5, if_pos (by omega)]))
            have g5 : ¬ (224 : Int) ≤ (c : Int) := by omega
            clear hz h1 h2 h3 h4 h5
            go_enter Try.func11, Try.ntmps11
            go_wp2
            go_ret
            exact HZ.out _ _ rfl
def secV (f c : Nat) (w : World) (e : Ending) (w' : World) : Prop := e = .returned (.bool (sec f c)) ∧ w' = w
theorem sec_one (f c : Nat) (_ : Int) (p : Bool) (hs : sec f c = (p && fol c)) : ∀ W e, e = .returned (.bool (p && fol c)) → secV f c W e W := fun _ _ he => ⟨by rw [he, hs], rfl⟩
set_option maxHeartbeats 1000000 in
theorem second_any (f c : Nat) (w : World) : Calls Try.prog 12 #[.int .u8 (f : Int), .int .u8 (c : Int)] w (secV f c w) := by
  have F := follows_any c
  by_cases h1 : f = 224
  · by_cases h : 160 ≤ c
    · have HZ := Aside0.mk (sec_one f c 0 true (by unfold sec; rw [if_pos h1, decide_eq_true h]))
      have g : (160 : Int) ≤ (c : Int) := by omega
      subst h1
      go_enter Try.func12, Try.ntmps12
      go_wp2_with (go_at_call 13; refine (F _).mono ?_; rintro e w' ⟨rfl, rfl⟩)
      go_ret
      exact HZ.out _ _ rfl
    · have HZ := Aside0.mk (sec_one f c 0 false (by unfold sec; rw [if_pos h1, decide_eq_false h]))
      have g : ¬ (160 : Int) ≤ (c : Int) := by omega
      subst h1
      go_enter Try.func12, Try.ntmps12
      go_wp2_with (go_at_call 13; refine (F _).mono ?_; rintro e w' ⟨rfl, rfl⟩)
      go_ret
      exact HZ.out _ _ rfl
  · have g1 : ((f : Int) == 224) = false := by rw [beq_eq_false_iff_ne]; omega
    by_cases h2 : f = 237
    · by_cases h : c ≤ 159
      · have HZ := Aside0.mk (sec_one f c 0 true (by unfold sec; rw [if_neg h1, if_pos h2, decide_eq_true h]))
        have g : (c : Int) ≤ 159 := by omega
        clear h1 g1
        subst h2
        go_enter Try.func12, Try.ntmps12
        go_wp2_with (go_at_call 13; refine (F _).mono ?_; rintro e w' ⟨rfl, rfl⟩)
        go_ret
        exact HZ.out _ _ rfl
      · have HZ := Aside0.mk (sec_one f c 0 false (by unfold sec; rw [if_neg h1, if_pos h2, decide_eq_false h]))
        have g : ¬ (c : Int) ≤ 159 := by omega
        clear h1 g1
        subst h2
        go_enter Try.func12, Try.ntmps12
        go_wp2_with (go_at_call 13; refine (F _).mono ?_; rintro e w' ⟨rfl, rfl⟩)
        go_ret
        exact HZ.out _ _ rfl
    · have g2 : ((f : Int) == 237) = false := by rw [beq_eq_false_iff_ne]; omega
      by_cases h3 : f = 240
      · by_cases h : 144 ≤ c
        · have HZ := Aside0.mk (sec_one f c 0 true (by unfold sec; rw [if_neg h1, if_neg h2, if_pos h3, decide_eq_true h]))
          have g : (144 : Int) ≤ (c : Int) := by omega
          clear h1 g1 h2 g2
          subst h3
          go_enter Try.func12, Try.ntmps12
          go_wp2_with (go_at_call 13; refine (F _).mono ?_; rintro e w' ⟨rfl, rfl⟩)
          go_ret
          exact HZ.out _ _ rfl
        · have HZ := Aside0.mk (sec_one f c 0 false (by unfold sec; rw [if_neg h1, if_neg h2, if_pos h3, decide_eq_false h]))
          have g : ¬ (144 : Int) ≤ (c : Int) := by omega
          clear h1 g1 h2 g2
          subst h3
          go_enter Try.func12, Try.ntmps12
          go_wp2_with (go_at_call 13; refine (F _).mono ?_; rintro e w' ⟨rfl, rfl⟩)
          go_ret
          exact HZ.out _ _ rfl
      · have g3 : ((f : Int) == 240) = false := by rw [beq_eq_false_iff_ne]; omega
        by_cases h4 : f = 244
        · by_cases h : c ≤ 143
          · have HZ := Aside0.mk (sec_one f c 0 true (by unfold sec; rw [if_neg h1, if_neg h2, if_neg h3, if_pos h4, decide_eq_true h]))
            have g : (c : Int) ≤ 143 := by omega
            clear h1 g1 h2 g2 h3 g3
            subst h4
            go_enter Try.func12, Try.ntmps12
            go_wp2_with (go_at_call 13; refine (F _).mono ?_; rintro e w' ⟨rfl, rfl⟩)
            go_ret
            exact HZ.out _ _ rfl
          · have HZ := Aside0.mk (sec_one f c 0 false (by unfold sec; rw [if_neg h1, if_neg h2, if_neg h3, if_pos h4, decide_eq_false h]))
            have g : ¬ (c : Int) ≤ 143 := by omega
            clear h1 g1 h2 g2 h3 g3
            subst h4
            go_enter Try.func12, Try.ntmps12
            go_wp2_with (go_at_call 13; refine (F _).mono ?_; rintro e w' ⟨rfl, rfl⟩)
            go_ret
            exact HZ.out _ _ rfl
        · have g4 : ((f : Int) == 244) = false := by rw [beq_eq_false_iff_ne]; omega
          have HZ := Aside0.mk (sec_one f c 0 true (by unfold sec; rw [if_neg h1, if_neg h2, if_neg h3, if_neg h4, Bool.true_and]))
          clear h1 h2 h3 h4
          go_enter Try.func12, Try.ntmps12
          go_wp2_with (go_at_call 13; refine (F _).mono ?_; rintro e w' ⟨rfl, rfl⟩)
          go_ret
          exact HZ.out _ _ (by simp)
end Go.Proofs.Ytipgdjjmmfkfiaa
