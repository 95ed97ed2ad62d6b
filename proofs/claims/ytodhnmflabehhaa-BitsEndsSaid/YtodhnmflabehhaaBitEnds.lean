import Derived.Test.YtodhnmflabehhaaBitR
import Derived.Test.YtodhnmflabehhaaBitE
namespace Go.Proofs.Ytodhnmflabehhaa
open Go.RowKit Go.Proofs.YtodhnmflabehhaaW.PrintWords Go.Proofs.YtodhnmflabehhaaW.PrintLast Go.Proofs.YtodhnmflabehhaaW.PrintMore Hy

theorem IsW.below {T B g : Nat} {l : List Bool} {w w' : World} (h : IsW T B g l w) (hb : Below w.heap.size w w') : IsW T B g l w' := by
  obtain ⟨v, h1, h2, h3⟩ := h
  exact ⟨v, h1, blk_below h2 hb, own_move h3 (fun k hk => hb.block k (own_lt h3 k hk))⟩
theorem IsW.new (T : Nat) (w : World) : IsW T w.heap.size w.heap.size [] (w.alloc (.cells #[.slice none 0 0, .int .i64 0] T)) :=
  ⟨.slice none 0 0, Nat.le_refl _, heap_alloc_new w _, by rw [pk_nil]; exact own_nil _ _ _ _⟩
theorem RAt.low {B B' g : Nat} {s : ByteArray} {a : Nat} {w : World} (h : RAt B g s a w) (hb : B' ≤ B) : RAt B' g s a w := ⟨Nat.le_trans hb h.1, h.2⟩
theorem put5 (w : World) : Calls Try.prog 13 #[.pointer (some ⟨w.heap.size, 0, none⟩), .int .u64 5, .int .i64 3] (w.alloc (.cells #[.slice none 0 0, .int .i64 0] 40)) fun e w' => e = .returned .nilIface ∧ IsW 40 w.heap.size w.heap.size (bitsOf 5 3) w' ∧ Below w.heap.size w w' :=
  (wput_ok 40 (by decide) w.heap.size w.heap.size [] 5 3 _ (by decide) (by decide) (by decide) (by simp) (IsW.new _ w)).mono fun _ _ h => ⟨h.1, h.2.1, ((Below.refl w.heap.size w).alloc (Nat.le_refl _) _).trans h.2.2⟩
theorem str5 (B g : Nat) (w : World) (h : IsW 40 B g (bitsOf 5 3) w) : Calls Try.prog 16 #[.pointer (some ⟨g, 0, none⟩)] w fun e w' => e = .returned (.string ⟨#[160]⟩) ∧ w' = w := by
  have h1 := wstring_any _ B g _ w h
  rw [pk_one _ (by decide) (by decide)] at h1
  exact h1
theorem len5 (B g : Nat) (w : World) (h : IsW 40 B g (bitsOf 5 3) w) : Calls Try.prog 17 #[.pointer (some ⟨g, 0, none⟩)] w fun e w' => e = .returned (.int .i64 3) ∧ w' = w := wlen_any _ B g _ w h
theorem get5 (B g : Nat) (w : World) (hB : B ≤ w.heap.size) (h : RAt B g ⟨#[160]⟩ 0 w) : Calls Try.prog 15 #[.pointer (some ⟨g, 0, none⟩), .int .i64 3] w fun e w' => e = .returned (.tuple #[.int .u64 5, .nilIface]) ∧ Below B w w' :=
  (rget_ok B g ⟨#[160]⟩ 0 3 w (by decide) (by decide) (by decide) hB h).mono fun _ _ h => ⟨h.1, h.2.2⟩
theorem lead1 (w : World) : Calls Try.prog 7 #[.int .u64 1] w fun e w' => e = .returned (.int .i64 63) ∧ Drawn0 w w' := lead_any 1 w (by decide)
theorem trail0 (w : World) : Calls Try.prog 8 #[.int .u64 0] w fun e w' => e = .returned (.int .i64 64) ∧ Drawn0 w w' := trail_any 0 w (by decide)
set_option maxHeartbeats 1000000 in
theorem bits_first (w : World) : Calls Try.prog 6 #[] w fun e w' => e = .returned (.bool true) ∧ Below w.heap.size w w' := by
  go_enter Try.func6, Try.ntmps6
  go_wp2_with (first
    | (go_at_call 13; refine (put5 _).mono ?_; rintro e w1 ⟨rfl, hw1, hb1⟩; have HW1 := Aside0.mk hw1; have HB1 := Aside0.mk hb1; clear hw1 hb1)
    | (go_at_call 14; refine (newReader_any _ _).mono ?_; rintro e w2 ⟨g, rfl, hr2, hb2⟩; have HR2 := Aside0.mk hr2; have HB2 := Aside0.mk hb2; clear hr2 hb2)
    | (go_at_call 15; refine (get5 _ _ _ HB2.out.size HR2.out).mono ?_; rintro e w3 ⟨rfl, hb3⟩; have HW3 := Aside0.mk (IsW.below HW1.out (HB2.out.trans hb3)); have HB3 := Aside0.mk (below_next HB1.out (HB2.out.trans hb3)); clear hb3)
    | (go_at_call 16; refine (str5 _ _ _ HW3.out).mono ?_; rintro e w4 ⟨rfl, hw4⟩; subst w4)
    | (go_at_call 17; refine (len5 _ _ _ HW3.out).mono ?_; rintro e w4 ⟨rfl, hw4⟩; subst w4)
    | (go_at_call 7; refine (lead1 _).mono ?_; rintro e w4 ⟨rfl, ⟨m4, rfl⟩⟩)
    | (go_at_call 8; refine (trail0 _).mono ?_; rintro e w4 ⟨rfl, ⟨m4, rfl⟩⟩))
  go_ret
  exact ⟨rfl, drewN_below HB3.out _⟩
end Go.Proofs.Ytodhnmflabehhaa
