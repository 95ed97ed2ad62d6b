import Derived.Test.YtipgdjjmmfkfiaaUtfW
namespace Go.Proofs.Ytipgdjjmmfkfiaa
open Go.RowKit Go.Proofs.YtipgdjjmmfkfiaaW.PrintWords Hy

theorem whl1 : whl [97, 192] 2 = 1 := by rw [whl_go _ _ (by decide) (by decide), whl_stop _ _ (by decide)]; decide
theorem whl2 : whl [97, 195, 169] 3 = 3 := by rw [whl_go _ _ (by decide) (by decide), whl_go _ _ (by decide) (by decide), whl_stop _ _ (by decide)]; decide
theorem whl3 : whl [237, 160, 128] 3 = 0 := by rw [whl_stop _ _ (by decide)]
theorem whl4 : whl [] 0 = 0 := by rw [whl_stop _ _ (by decide)]
theorem whl5 : whl [97, 195, 169] 2 = 1 := by rw [whl_go _ _ (by decide) (by decide), whl_stop _ _ (by decide)]; decide
theorem bad1 (w : World) : Calls Try.prog 7 #[.string ⟨#[97, 192]⟩] w fun e w' => e = .returned (.int .i64 1) ∧ ∃ m, w' = w.drewN m :=
  (bad_any ⟨#[97, 192]⟩ w (by decide)).mono fun e w' h => ⟨by rw [h.1]; congr 2; show badI [97, 192] = 1; unfold badI; rw [show ([97, 192] : List Nat).length = 2 from rfl, show ((2 : Nat) : Int) = 2 from rfl, whl1]; rfl, by obtain ⟨m, hm⟩ := h.2; exact ⟨m, hm⟩⟩
theorem bad4 (w : World) : Calls Try.prog 7 #[.string ⟨#[]⟩] w fun e w' => e = .returned (.int .i64 (-1)) ∧ ∃ m, w' = w.drewN m :=
  (bad_any ⟨#[]⟩ w (by decide)).mono fun e w' h => ⟨by rw [h.1]; congr 2; show badI [] = -1; unfold badI; rw [show ([] : List Nat).length = 0 from rfl, show ((0 : Nat) : Int) = 0 from rfl, whl4]; rfl, by obtain ⟨m, hm⟩ := h.2; exact ⟨m, hm⟩⟩
theorem vld2 (w : World) : Calls Try.prog 6 #[.string ⟨#[97, 195, 169]⟩] w fun e w' => e = .returned (.bool true) ∧ ∃ m, w' = w.drewN m :=
  (valid_any ⟨#[97, 195, 169]⟩ w (by decide)).mono fun e w' h => ⟨by rw [h.1]; congr 2; show vld [97, 195, 169] = true; unfold vld; rw [show ([97, 195, 169] : List Nat).length = 3 from rfl, show ((3 : Nat) : Int) = 3 from rfl, whl2]; rfl, by obtain ⟨m, hm⟩ := h.2; exact ⟨m, hm⟩⟩
theorem vld3 (w : World) : Calls Try.prog 6 #[.string ⟨#[237, 160, 128]⟩] w fun e w' => e = .returned (.bool false) ∧ ∃ m, w' = w.drewN m :=
  (valid_any ⟨#[237, 160, 128]⟩ w (by decide)).mono fun e w' h => ⟨by rw [h.1]; congr 2; show vld [237, 160, 128] = false; unfold vld; rw [show ([237, 160, 128] : List Nat).length = 3 from rfl, show ((3 : Nat) : Int) = 3 from rfl, whl3]; rfl, by obtain ⟨m, hm⟩ := h.2; exact ⟨m, hm⟩⟩
theorem clip5 (w : World) : Calls Try.prog 8 #[.string ⟨#[97, 195, 169]⟩, .int .i64 2] w fun e w' => e = .returned (.string ⟨#[97]⟩) ∧ ∃ m, w' = w.drewN m :=
  (clip_any ⟨#[97, 195, 169]⟩ 2 w (by decide) (by decide)).mono fun e w' h => ⟨by rw [h.1]; congr 2; unfold clip; rw [show max (2 : Int) 0 = 2 by decide, show bs ⟨#[97, 195, 169]⟩ = [97, 195, 169] from rfl, whl5]; decide, by obtain ⟨m, hm⟩ := h.2; exact ⟨m, hm⟩⟩
set_option maxHeartbeats 1000000 in
theorem utf_first (w : World) : Calls Try.prog 5 #[] w fun e w' => e = .returned (.bool true) ∧ ∃ m, w' = w.drewN m := by
  go_enter Try.func5, Try.ntmps5
  go_wp2_with (first
    | (go_at_call 7; first | (with_reducible refine (bad1 _).mono ?_; rintro e w' ⟨rfl, n1, rfl⟩) | (with_reducible refine (bad4 _).mono ?_; rintro e w' ⟨rfl, n1, rfl⟩))
    | (go_at_call 6; first | (with_reducible refine (vld2 _).mono ?_; rintro e w' ⟨rfl, n1, rfl⟩) | (with_reducible refine (vld3 _).mono ?_; rintro e w' ⟨rfl, n1, rfl⟩))
    | (go_at_call 8; (with_reducible refine (clip5 _).mono ?_; rintro e w' ⟨rfl, n1, rfl⟩)))
  go_ret
  exact ⟨rfl, ⟨_, rfl⟩⟩
end Go.Proofs.Ytipgdjjmmfkfiaa
