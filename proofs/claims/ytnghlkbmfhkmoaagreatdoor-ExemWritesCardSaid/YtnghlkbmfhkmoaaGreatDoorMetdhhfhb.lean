import Derived.Test.YtnghlkbmfhkmoaaGreatDoorMmmsfdqrm
import Derived.Test.YtnghlkbmfhkmoaaGreatDoorMophrpqnn
namespace Go.Proofs.YtnghlkbmfhkmoaaGreatDoor
open Go.RowKit Go.Proofs.YtnghlkbmfhkmoaaGreatDoorW.PrintWords Go.Proofs.YtnghlkbmfhkmoaaGreatDoorW.PrintLast Go.Proofs.YtnghlkbmfhkmoaaGreatDoorW.PrintMore Hy
/-! ### value.bare -/
theorem len_b (n : Nat) : ((n : Int) == 0) = decide (n = 0) := by
  cases h : decide (n = 0)
  · rw [decide_eq_false_iff_not] at h; rw [beq_eq_false_iff_ne]; omega
  · rw [decide_eq_true_eq] at h; rw [beq_iff_eq]; omega
theorem int_b (n : Int) : (n == 0) = decide (n = 0) := by
  cases h : decide (n = 0)
  · rw [decide_eq_false_iff_not] at h; rw [beq_eq_false_iff_ne]; exact h
  · rw [decide_eq_true_eq] at h; rw [beq_iff_eq]; exact h
set_option maxHeartbeats 4000000 in
set_option maxRecDepth 100000 in
theorem nested_any (w : World) (x : Vl) :
    Calls Tryz.prog 108 #[.agg (vlC x).toArray] w fun e w' => e = .returned (.bool (nestB x)) ∧ Below w.heap.size w w' := by
  cases f0 : decide (x.l.len = 0)
  · skip
    have hr : nestB x = false := by unfold nestB; simp only [f0]; rfl
    rw [hr]
    clear hr
    go_enter Tryz.func108, Tryz.ntmps108
    go_upto_region 1 with (with_reducible refine gate_dst (N := 1) rfl ?_; refine Great.wpList_boxTo rfl 57 _ rfl _ rfl w.heap.size rfl (vlC x).toArray rfl ?_)
    have HX : Aside0 (XVl (w.alloc (.cells (vlC x).toArray 57)) w.heap.size x) := ⟨⟨heap_alloc_new w _⟩⟩
    have HB : Aside0 (Below w.heap.size w (w.alloc (.cells (vlC x).toArray 57))) := ⟨(Below.refl _ _).alloc (Nat.le_refl _) _⟩
    generalize (w.alloc (.cells (vlC x).toArray 57)) = w1 at *
    generalize hg : w.heap.size = g at HX ⊢
    clear hg
    have x0 := HX.out.c0
    have x1 := HX.out.c1
    have x2 := HX.out.c2
    have x3 := HX.out.c3
    have x4 := HX.out.c4
    have x5 := HX.out.c5
    have x6 := HX.out.c6
    have x7 := HX.out.c7
    have g0 := f0; rw [← len_b] at g0
    go_wp2_with (first
      | (refine wpList_load_rowG (by rfl) 57 _ rfl g rfl 57 (vlC x).toArray (0, 0) _ HX.out.blk Tryz.underlying57 rfl (by kernel_rfl) ?_))
    go_ret
    exact ⟨rfl, HB.out⟩
  · skip
    cases f1 : decide (x.m.len = 0)
    · skip
      have hr : nestB x = false := by unfold nestB; simp only [f0, f1]; rfl
      rw [hr]
      clear hr
      go_enter Tryz.func108, Tryz.ntmps108
      go_upto_region 1 with (with_reducible refine gate_dst (N := 1) rfl ?_; refine Great.wpList_boxTo rfl 57 _ rfl _ rfl w.heap.size rfl (vlC x).toArray rfl ?_)
      have HX : Aside0 (XVl (w.alloc (.cells (vlC x).toArray 57)) w.heap.size x) := ⟨⟨heap_alloc_new w _⟩⟩
      have HB : Aside0 (Below w.heap.size w (w.alloc (.cells (vlC x).toArray 57))) := ⟨(Below.refl _ _).alloc (Nat.le_refl _) _⟩
      generalize (w.alloc (.cells (vlC x).toArray 57)) = w1 at *
      generalize hg : w.heap.size = g at HX ⊢
      clear hg
      have x0 := HX.out.c0
      have x1 := HX.out.c1
      have x2 := HX.out.c2
      have x3 := HX.out.c3
      have x4 := HX.out.c4
      have x5 := HX.out.c5
      have x6 := HX.out.c6
      have x7 := HX.out.c7
      have g0 := f0; rw [← len_b] at g0
      have g1 := f1; rw [← len_b] at g1
      go_wp2_with (first
        | (refine wpList_load_rowG (by rfl) 57 _ rfl g rfl 57 (vlC x).toArray (0, 0) _ HX.out.blk Tryz.underlying57 rfl (by kernel_rfl) ?_))
      go_ret
      exact ⟨rfl, HB.out⟩
    · skip
      cases f2 : emB x.inner
      · skip
        have hr : nestB x = false := by unfold nestB; simp only [f0, f1, f2]; rfl
        rw [hr]
        clear hr
        go_enter Tryz.func108, Tryz.ntmps108
        go_upto_region 1 with (with_reducible refine gate_dst (N := 1) rfl ?_; refine Great.wpList_boxTo rfl 57 _ rfl _ rfl w.heap.size rfl (vlC x).toArray rfl ?_)
        have HX : Aside0 (XVl (w.alloc (.cells (vlC x).toArray 57)) w.heap.size x) := ⟨⟨heap_alloc_new w _⟩⟩
        have HB : Aside0 (Below w.heap.size w (w.alloc (.cells (vlC x).toArray 57))) := ⟨(Below.refl _ _).alloc (Nat.le_refl _) _⟩
        generalize (w.alloc (.cells (vlC x).toArray 57)) = w1 at *
        generalize hg : w.heap.size = g at HX ⊢
        clear hg
        have x0 := HX.out.c0
        have x1 := HX.out.c1
        have x2 := HX.out.c2
        have x3 := HX.out.c3
        have x4 := HX.out.c4
        have x5 := HX.out.c5
        have x6 := HX.out.c6
        have x7 := HX.out.c7
        have g0 := f0; rw [← len_b] at g0
        have g1 := f1; rw [← len_b] at g1
        have g2 : (x.inner.toList == []) = _ := f2
        go_wp2_with (first
          | (refine wpList_load_rowG (by rfl) 57 _ rfl g rfl 57 (vlC x).toArray (0, 0) _ HX.out.blk Tryz.underlying57 rfl (by kernel_rfl) ?_))
        go_ret
        exact ⟨rfl, HB.out⟩
      · skip
        have hr : nestB x = true := by unfold nestB; simp only [f0, f1, f2]; rfl
        rw [hr]
        clear hr
        go_enter Tryz.func108, Tryz.ntmps108
        go_upto_region 1 with (with_reducible refine gate_dst (N := 1) rfl ?_; refine Great.wpList_boxTo rfl 57 _ rfl _ rfl w.heap.size rfl (vlC x).toArray rfl ?_)
        have HX : Aside0 (XVl (w.alloc (.cells (vlC x).toArray 57)) w.heap.size x) := ⟨⟨heap_alloc_new w _⟩⟩
        have HB : Aside0 (Below w.heap.size w (w.alloc (.cells (vlC x).toArray 57))) := ⟨(Below.refl _ _).alloc (Nat.le_refl _) _⟩
        generalize (w.alloc (.cells (vlC x).toArray 57)) = w1 at *
        generalize hg : w.heap.size = g at HX ⊢
        clear hg
        have x0 := HX.out.c0
        have x1 := HX.out.c1
        have x2 := HX.out.c2
        have x3 := HX.out.c3
        have x4 := HX.out.c4
        have x5 := HX.out.c5
        have x6 := HX.out.c6
        have x7 := HX.out.c7
        have g0 := f0; rw [← len_b] at g0
        have g1 := f1; rw [← len_b] at g1
        have g2 : (x.inner.toList == []) = _ := f2
        go_wp2_with (first
          | (refine wpList_load_rowG (by rfl) 57 _ rfl g rfl 57 (vlC x).toArray (0, 0) _ HX.out.blk Tryz.underlying57 rfl (by kernel_rfl) ?_))
        go_ret
        exact ⟨rfl, HB.out⟩
set_option maxHeartbeats 4000000 in
set_option maxRecDepth 100000 in
theorem plain_any (w : World) (x : Vl) :
    Calls Tryz.prog 107 #[.agg (vlC x).toArray] w fun e w' => e = .returned (.bool (plainB x)) ∧ Below w.heap.size w w' := by
  have HN : (∀ w2, Calls Tryz.prog 108 #[.agg (vlC x).toArray] w2 fun e w' => e = .returned (.bool (nestB x)) ∧ Below w2.heap.size w2 w') := fun w2 => nested_any w2 x
  cases f0 : decide (x.n = 0)
  · skip
    have hr : plainB x = false := by unfold plainB; simp only [f0]; rfl
    rw [hr]
    clear hr
    have HN := Aside0.mk HN
    go_enter Tryz.func107, Tryz.ntmps107
    go_upto_region 1 with (with_reducible refine gate_dst (N := 1) rfl ?_; refine Great.wpList_boxTo rfl 57 _ rfl _ rfl w.heap.size rfl (vlC x).toArray rfl ?_)
    have HX : Aside0 (XVl (w.alloc (.cells (vlC x).toArray 57)) w.heap.size x) := ⟨⟨heap_alloc_new w _⟩⟩
    have HB : Aside0 (Below w.heap.size w (w.alloc (.cells (vlC x).toArray 57))) := ⟨(Below.refl _ _).alloc (Nat.le_refl _) _⟩
    generalize (w.alloc (.cells (vlC x).toArray 57)) = w1 at *
    generalize hg : w.heap.size = g at HX ⊢
    clear hg
    have x0 := HX.out.c0
    have x1 := HX.out.c1
    have x2 := HX.out.c2
    have x3 := HX.out.c3
    have x4 := HX.out.c4
    have x5 := HX.out.c5
    have x6 := HX.out.c6
    have x7 := HX.out.c7
    have g0 := f0; rw [← int_b] at g0
    go_wp2_with (first
      | (refine wpList_load_rowG (by rfl) 57 _ rfl g rfl 57 (vlC x).toArray (0, 0) _ HX.out.blk Tryz.underlying57 rfl (by kernel_rfl) ?_)
      | (go_at_call 108; with_reducible refine (HN.out _).mono ?_; rintro e w2 ⟨rfl, hb2⟩; have n0_ := Aside0.mk (below_next HB.out hb2); have n1_ := Aside0.mk (HX.out.below hb2); clear HB HX hb2 x0 x1 x2 x3 x4 x5 x6 x7; have HB := n0_; have HX := n1_; clear n0_ n1_; have x0 := HX.out.c0; have x1 := HX.out.c1; have x2 := HX.out.c2; have x3 := HX.out.c3; have x4 := HX.out.c4; have x5 := HX.out.c5; have x6 := HX.out.c6; have x7 := HX.out.c7))
    go_ret
    exact ⟨rfl, HB.out⟩
  · skip
    cases f1 : x.b
    · skip
      cases f2 : nestB x
      · skip
        have hr : plainB x = false := by unfold plainB; simp only [f0, f1, f2]; rfl
        rw [hr]
        clear hr
        rw [f2] at HN
        have HN := Aside0.mk HN
        go_enter Tryz.func107, Tryz.ntmps107
        go_upto_region 1 with (with_reducible refine gate_dst (N := 1) rfl ?_; refine Great.wpList_boxTo rfl 57 _ rfl _ rfl w.heap.size rfl (vlC x).toArray rfl ?_)
        have HX : Aside0 (XVl (w.alloc (.cells (vlC x).toArray 57)) w.heap.size x) := ⟨⟨heap_alloc_new w _⟩⟩
        have HB : Aside0 (Below w.heap.size w (w.alloc (.cells (vlC x).toArray 57))) := ⟨(Below.refl _ _).alloc (Nat.le_refl _) _⟩
        generalize (w.alloc (.cells (vlC x).toArray 57)) = w1 at *
        generalize hg : w.heap.size = g at HX ⊢
        clear hg
        have x0 := HX.out.c0
        have x1 := HX.out.c1
        have x2 := HX.out.c2
        have x3 := HX.out.c3
        have x4 := HX.out.c4
        have x5 := HX.out.c5
        have x6 := HX.out.c6
        have x7 := HX.out.c7
        have g0 := f0; rw [← int_b] at g0
        rw [f1] at x2
        go_wp2_with (first
          | (refine wpList_load_rowG (by rfl) 57 _ rfl g rfl 57 (vlC x).toArray (0, 0) _ HX.out.blk Tryz.underlying57 rfl (by kernel_rfl) ?_)
          | (go_at_call 108; with_reducible refine (HN.out _).mono ?_; rintro e w2 ⟨rfl, hb2⟩; have n0_ := Aside0.mk (below_next HB.out hb2); have n1_ := Aside0.mk (HX.out.below hb2); clear HB HX hb2 x0 x1 x2 x3 x4 x5 x6 x7; have HB := n0_; have HX := n1_; clear n0_ n1_; have x0 := HX.out.c0; have x1 := HX.out.c1; have x2 := HX.out.c2; have x3 := HX.out.c3; have x4 := HX.out.c4; have x5 := HX.out.c5; have x6 := HX.out.c6; have x7 := HX.out.c7))
        go_ret
        exact ⟨rfl, HB.out⟩
      · skip
        have hr : plainB x = true := by unfold plainB; simp only [f0, f1, f2]; rfl
        rw [hr]
        clear hr
        rw [f2] at HN
        have HN := Aside0.mk HN
        go_enter Tryz.func107, Tryz.ntmps107
        go_upto_region 1 with (with_reducible refine gate_dst (N := 1) rfl ?_; refine Great.wpList_boxTo rfl 57 _ rfl _ rfl w.heap.size rfl (vlC x).toArray rfl ?_)
        have HX : Aside0 (XVl (w.alloc (.cells (vlC x).toArray 57)) w.heap.size x) := ⟨⟨heap_alloc_new w _⟩⟩
        have HB : Aside0 (Below w.heap.size w (w.alloc (.cells (vlC x).toArray 57))) := ⟨(Below.refl _ _).alloc (Nat.le_refl _) _⟩
        generalize (w.alloc (.cells (vlC x).toArray 57)) = w1 at *
        generalize hg : w.heap.size = g at HX ⊢
        clear hg
        have x0 := HX.out.c0
        have x1 := HX.out.c1
        have x2 := HX.out.c2
        have x3 := HX.out.c3
        have x4 := HX.out.c4
        have x5 := HX.out.c5
        have x6 := HX.out.c6
        have x7 := HX.out.c7
        have g0 := f0; rw [← int_b] at g0
        rw [f1] at x2
        go_wp2_with (first
          | (refine wpList_load_rowG (by rfl) 57 _ rfl g rfl 57 (vlC x).toArray (0, 0) _ HX.out.blk Tryz.underlying57 rfl (by kernel_rfl) ?_)
          | (go_at_call 108; with_reducible refine (HN.out _).mono ?_; rintro e w2 ⟨rfl, hb2⟩; have n0_ := Aside0.mk (below_next HB.out hb2); have n1_ := Aside0.mk (HX.out.below hb2); clear HB HX hb2 x0 x1 x2 x3 x4 x5 x6 x7; have HB := n0_; have HX := n1_; clear n0_ n1_; have x0 := HX.out.c0; have x1 := HX.out.c1; have x2 := HX.out.c2; have x3 := HX.out.c3; have x4 := HX.out.c4; have x5 := HX.out.c5; have x6 := HX.out.c6; have x7 := HX.out.c7))
        go_ret
        exact ⟨rfl, HB.out⟩
    · skip
      have hr : plainB x = false := by unfold plainB; simp only [f0, f1]; rfl
      rw [hr]
      clear hr
      have HN := Aside0.mk HN
      go_enter Tryz.func107, Tryz.ntmps107
      go_upto_region 1 with (with_reducible refine gate_dst (N := 1) rfl ?_; refine Great.wpList_boxTo rfl 57 _ rfl _ rfl w.heap.size rfl (vlC x).toArray rfl ?_)
      have HX : Aside0 (XVl (w.alloc (.cells (vlC x).toArray 57)) w.heap.size x) := ⟨⟨heap_alloc_new w _⟩⟩
      have HB : Aside0 (Below w.heap.size w (w.alloc (.cells (vlC x).toArray 57))) := ⟨(Below.refl _ _).alloc (Nat.le_refl _) _⟩
      generalize (w.alloc (.cells (vlC x).toArray 57)) = w1 at *
      generalize hg : w.heap.size = g at HX ⊢
      clear hg
      have x0 := HX.out.c0
      have x1 := HX.out.c1
      have x2 := HX.out.c2
      have x3 := HX.out.c3
      have x4 := HX.out.c4
      have x5 := HX.out.c5
      have x6 := HX.out.c6
      have x7 := HX.out.c7
      have g0 := f0; rw [← int_b] at g0
      rw [f1] at x2
      go_wp2_with (first
        | (refine wpList_load_rowG (by rfl) 57 _ rfl g rfl 57 (vlC x).toArray (0, 0) _ HX.out.blk Tryz.underlying57 rfl (by kernel_rfl) ?_)
        | (go_at_call 108; with_reducible refine (HN.out _).mono ?_; rintro e w2 ⟨rfl, hb2⟩; have n0_ := Aside0.mk (below_next HB.out hb2); have n1_ := Aside0.mk (HX.out.below hb2); clear HB HX hb2 x0 x1 x2 x3 x4 x5 x6 x7; have HB := n0_; have HX := n1_; clear n0_ n1_; have x0 := HX.out.c0; have x1 := HX.out.c1; have x2 := HX.out.c2; have x3 := HX.out.c3; have x4 := HX.out.c4; have x5 := HX.out.c5; have x6 := HX.out.c6; have x7 := HX.out.c7))
      go_ret
      exact ⟨rfl, HB.out⟩
set_option maxHeartbeats 4000000 in
set_option maxRecDepth 100000 in
theorem bare_1 (w : World) (x : Vl) (hs : x.s.size ≤ 100000) (hk : x.kind = 1) :
    Calls Tryz.prog 90 #[.agg (vlC x).toArray] w fun e w' => e = .returned (.bool (bareB x)) ∧ Below w.heap.size w w' := by
  obtain ⟨kind, s, b, n, l, m, inner, unk⟩ := x
  simp only at hs hk
  subst hk
  obtain ⟨x, hx⟩ : ∃ x : Vl, x = ⟨1, s, b, n, l, m, inner, unk⟩ := ⟨_, rfl⟩
  rw [← hx]
  have hs : x.s.size ≤ 100000 := by rw [hx]; exact hs
  have hk : x.kind = 1 := by rw [hx]
  clear hx
  have HP : (∀ w2, Calls Tryz.prog 107 #[.agg (vlC x).toArray] w2 fun e w' => e = .returned (.bool (plainB x)) ∧ Below w2.heap.size w2 w') := fun w2 => plain_any w2 x
  have HV : (∀ w2, Calls Tryz.prog 70 #[.string x.s] w2 fun e w' => e = .returned (.bool (vld (bs x.s))) ∧ Below w2.heap.size w2 w') := fun w2 => (valid_any x.s w2 (by omega)).mono (by rintro e w' ⟨h1, ⟨nd, rfl⟩⟩; exact ⟨h1, pw_below_drewN (Below.refl _ _) nd⟩)
  clear hs
  cases f0 : vld (bs x.s)
  · skip
    have hr : bareB x = false := by unfold bareB; rw [hk]; simp only [f0]; rfl
    rw [hr]
    clear hr
    rw [f0] at HV
    have HV := Aside0.mk HV
    have HP := Aside0.mk HP
    go_enter Tryz.func90, Tryz.ntmps90
    go_upto_region 1 with (with_reducible refine gate_dst (N := 1) rfl ?_; refine Great.wpList_boxTo rfl 57 _ rfl _ rfl w.heap.size rfl (vlC x).toArray rfl ?_)
    have HX : Aside0 (XVl (w.alloc (.cells (vlC x).toArray 57)) w.heap.size x) := ⟨⟨heap_alloc_new w _⟩⟩
    have HB : Aside0 (Below w.heap.size w (w.alloc (.cells (vlC x).toArray 57))) := ⟨(Below.refl _ _).alloc (Nat.le_refl _) _⟩
    generalize (w.alloc (.cells (vlC x).toArray 57)) = w1 at *
    generalize hg : w.heap.size = g at HX ⊢
    clear hg
    have x0 := HX.out.c0
    have x1 := HX.out.c1
    have x2 := HX.out.c2
    have x3 := HX.out.c3
    have x4 := HX.out.c4
    have x5 := HX.out.c5
    have x6 := HX.out.c6
    have x7 := HX.out.c7
    go_wp2_with (first
      | (refine wpList_load_rowG (by rfl) 57 _ rfl g rfl 57 (vlC x).toArray (0, 0) _ HX.out.blk Tryz.underlying57 rfl (by kernel_rfl) ?_)
      | (go_at_call 70; with_reducible refine (HV.out _).mono ?_; rintro e w2 ⟨rfl, hb2⟩; have n0_ := Aside0.mk (below_next HB.out hb2); have n1_ := Aside0.mk (HX.out.below hb2); clear HB HX hb2 x0 x1 x2 x3 x4 x5 x6 x7; have HB := n0_; have HX := n1_; clear n0_ n1_; have x0 := HX.out.c0; have x1 := HX.out.c1; have x2 := HX.out.c2; have x3 := HX.out.c3; have x4 := HX.out.c4; have x5 := HX.out.c5; have x6 := HX.out.c6; have x7 := HX.out.c7)
      | (go_at_call 107; with_reducible refine (HP.out _).mono ?_; rintro e w2 ⟨rfl, hb2⟩; have n0_ := Aside0.mk (below_next HB.out hb2); have n1_ := Aside0.mk (HX.out.below hb2); clear HB HX hb2 x0 x1 x2 x3 x4 x5 x6 x7; have HB := n0_; have HX := n1_; clear n0_ n1_; have x0 := HX.out.c0; have x1 := HX.out.c1; have x2 := HX.out.c2; have x3 := HX.out.c3; have x4 := HX.out.c4; have x5 := HX.out.c5; have x6 := HX.out.c6; have x7 := HX.out.c7))
    go_ret
    exact ⟨rfl, HB.out⟩
  · skip
    cases f1 : plainB x
    · skip
      have hr : bareB x = false := by unfold bareB; rw [hk]; simp only [f0, f1]; rfl
      rw [hr]
      clear hr
      rw [f0] at HV
      rw [f1] at HP
      have HV := Aside0.mk HV
      have HP := Aside0.mk HP
      go_enter Tryz.func90, Tryz.ntmps90
      go_upto_region 1 with (with_reducible refine gate_dst (N := 1) rfl ?_; refine Great.wpList_boxTo rfl 57 _ rfl _ rfl w.heap.size rfl (vlC x).toArray rfl ?_)
      have HX : Aside0 (XVl (w.alloc (.cells (vlC x).toArray 57)) w.heap.size x) := ⟨⟨heap_alloc_new w _⟩⟩
      have HB : Aside0 (Below w.heap.size w (w.alloc (.cells (vlC x).toArray 57))) := ⟨(Below.refl _ _).alloc (Nat.le_refl _) _⟩
      generalize (w.alloc (.cells (vlC x).toArray 57)) = w1 at *
      generalize hg : w.heap.size = g at HX ⊢
      clear hg
      have x0 := HX.out.c0
      have x1 := HX.out.c1
      have x2 := HX.out.c2
      have x3 := HX.out.c3
      have x4 := HX.out.c4
      have x5 := HX.out.c5
      have x6 := HX.out.c6
      have x7 := HX.out.c7
      go_wp2_with (first
        | (refine wpList_load_rowG (by rfl) 57 _ rfl g rfl 57 (vlC x).toArray (0, 0) _ HX.out.blk Tryz.underlying57 rfl (by kernel_rfl) ?_)
        | (go_at_call 70; with_reducible refine (HV.out _).mono ?_; rintro e w2 ⟨rfl, hb2⟩; have n0_ := Aside0.mk (below_next HB.out hb2); have n1_ := Aside0.mk (HX.out.below hb2); clear HB HX hb2 x0 x1 x2 x3 x4 x5 x6 x7; have HB := n0_; have HX := n1_; clear n0_ n1_; have x0 := HX.out.c0; have x1 := HX.out.c1; have x2 := HX.out.c2; have x3 := HX.out.c3; have x4 := HX.out.c4; have x5 := HX.out.c5; have x6 := HX.out.c6; have x7 := HX.out.c7)
        | (go_at_call 107; with_reducible refine (HP.out _).mono ?_; rintro e w2 ⟨rfl, hb2⟩; have n0_ := Aside0.mk (below_next HB.out hb2); have n1_ := Aside0.mk (HX.out.below hb2); clear HB HX hb2 x0 x1 x2 x3 x4 x5 x6 x7; have HB := n0_; have HX := n1_; clear n0_ n1_; have x0 := HX.out.c0; have x1 := HX.out.c1; have x2 := HX.out.c2; have x3 := HX.out.c3; have x4 := HX.out.c4; have x5 := HX.out.c5; have x6 := HX.out.c6; have x7 := HX.out.c7))
      go_ret
      exact ⟨rfl, HB.out⟩
    · skip
      have hr : bareB x = true := by unfold bareB; rw [hk]; simp only [f0, f1]; rfl
      rw [hr]
      clear hr
      rw [f0] at HV
      rw [f1] at HP
      have HV := Aside0.mk HV
      have HP := Aside0.mk HP
      go_enter Tryz.func90, Tryz.ntmps90
      go_upto_region 1 with (with_reducible refine gate_dst (N := 1) rfl ?_; refine Great.wpList_boxTo rfl 57 _ rfl _ rfl w.heap.size rfl (vlC x).toArray rfl ?_)
      have HX : Aside0 (XVl (w.alloc (.cells (vlC x).toArray 57)) w.heap.size x) := ⟨⟨heap_alloc_new w _⟩⟩
      have HB : Aside0 (Below w.heap.size w (w.alloc (.cells (vlC x).toArray 57))) := ⟨(Below.refl _ _).alloc (Nat.le_refl _) _⟩
      generalize (w.alloc (.cells (vlC x).toArray 57)) = w1 at *
      generalize hg : w.heap.size = g at HX ⊢
      clear hg
      have x0 := HX.out.c0
      have x1 := HX.out.c1
      have x2 := HX.out.c2
      have x3 := HX.out.c3
      have x4 := HX.out.c4
      have x5 := HX.out.c5
      have x6 := HX.out.c6
      have x7 := HX.out.c7
      go_wp2_with (first
        | (refine wpList_load_rowG (by rfl) 57 _ rfl g rfl 57 (vlC x).toArray (0, 0) _ HX.out.blk Tryz.underlying57 rfl (by kernel_rfl) ?_)
        | (go_at_call 70; with_reducible refine (HV.out _).mono ?_; rintro e w2 ⟨rfl, hb2⟩; have n0_ := Aside0.mk (below_next HB.out hb2); have n1_ := Aside0.mk (HX.out.below hb2); clear HB HX hb2 x0 x1 x2 x3 x4 x5 x6 x7; have HB := n0_; have HX := n1_; clear n0_ n1_; have x0 := HX.out.c0; have x1 := HX.out.c1; have x2 := HX.out.c2; have x3 := HX.out.c3; have x4 := HX.out.c4; have x5 := HX.out.c5; have x6 := HX.out.c6; have x7 := HX.out.c7)
        | (go_at_call 107; with_reducible refine (HP.out _).mono ?_; rintro e w2 ⟨rfl, hb2⟩; have n0_ := Aside0.mk (below_next HB.out hb2); have n1_ := Aside0.mk (HX.out.below hb2); clear HB HX hb2 x0 x1 x2 x3 x4 x5 x6 x7; have HB := n0_; have HX := n1_; clear n0_ n1_; have x0 := HX.out.c0; have x1 := HX.out.c1; have x2 := HX.out.c2; have x3 := HX.out.c3; have x4 := HX.out.c4; have x5 := HX.out.c5; have x6 := HX.out.c6; have x7 := HX.out.c7))
      go_ret
      exact ⟨rfl, HB.out⟩
set_option maxHeartbeats 4000000 in
set_option maxRecDepth 100000 in
theorem bare_7 (w : World) (x : Vl) (hs : x.s.size ≤ 100000) (hk : x.kind = 7) :
    Calls Tryz.prog 90 #[.agg (vlC x).toArray] w fun e w' => e = .returned (.bool (bareB x)) ∧ Below w.heap.size w w' := by
  obtain ⟨kind, s, b, n, l, m, inner, unk⟩ := x
  simp only at hs hk
  subst hk
  obtain ⟨x, hx⟩ : ∃ x : Vl, x = ⟨7, s, b, n, l, m, inner, unk⟩ := ⟨_, rfl⟩
  rw [← hx]
  have hs : x.s.size ≤ 100000 := by rw [hx]; exact hs
  have hk : x.kind = 7 := by rw [hx]
  clear hx
  have HP : (∀ w2, Calls Tryz.prog 107 #[.agg (vlC x).toArray] w2 fun e w' => e = .returned (.bool (plainB x)) ∧ Below w2.heap.size w2 w') := fun w2 => plain_any w2 x
  clear hs
  cases f0 : plainB x
  · skip
    have hr : bareB x = false := by unfold bareB; rw [hk]; simp only [f0]; rfl
    rw [hr]
    clear hr
    rw [f0] at HP
    have HP := Aside0.mk HP
    go_enter Tryz.func90, Tryz.ntmps90
    go_upto_region 1 with (with_reducible refine gate_dst (N := 1) rfl ?_; refine Great.wpList_boxTo rfl 57 _ rfl _ rfl w.heap.size rfl (vlC x).toArray rfl ?_)
    have HX : Aside0 (XVl (w.alloc (.cells (vlC x).toArray 57)) w.heap.size x) := ⟨⟨heap_alloc_new w _⟩⟩
    have HB : Aside0 (Below w.heap.size w (w.alloc (.cells (vlC x).toArray 57))) := ⟨(Below.refl _ _).alloc (Nat.le_refl _) _⟩
    generalize (w.alloc (.cells (vlC x).toArray 57)) = w1 at *
    generalize hg : w.heap.size = g at HX ⊢
    clear hg
    have x0 := HX.out.c0
    have x1 := HX.out.c1
    have x2 := HX.out.c2
    have x3 := HX.out.c3
    have x4 := HX.out.c4
    have x5 := HX.out.c5
    have x6 := HX.out.c6
    have x7 := HX.out.c7
    go_wp2_with (first
      | (refine wpList_load_rowG (by rfl) 57 _ rfl g rfl 57 (vlC x).toArray (0, 0) _ HX.out.blk Tryz.underlying57 rfl (by kernel_rfl) ?_)
      | (go_at_call 107; with_reducible refine (HP.out _).mono ?_; rintro e w2 ⟨rfl, hb2⟩; have n0_ := Aside0.mk (below_next HB.out hb2); have n1_ := Aside0.mk (HX.out.below hb2); clear HB HX hb2 x0 x1 x2 x3 x4 x5 x6 x7; have HB := n0_; have HX := n1_; clear n0_ n1_; have x0 := HX.out.c0; have x1 := HX.out.c1; have x2 := HX.out.c2; have x3 := HX.out.c3; have x4 := HX.out.c4; have x5 := HX.out.c5; have x6 := HX.out.c6; have x7 := HX.out.c7))
    go_ret
    exact ⟨rfl, HB.out⟩
  · skip
    have hr : bareB x = true := by unfold bareB; rw [hk]; simp only [f0]; rfl
    rw [hr]
    clear hr
    rw [f0] at HP
    have HP := Aside0.mk HP
    go_enter Tryz.func90, Tryz.ntmps90
    go_upto_region 1 with (with_reducible refine gate_dst (N := 1) rfl ?_; refine Great.wpList_boxTo rfl 57 _ rfl _ rfl w.heap.size rfl (vlC x).toArray rfl ?_)
    have HX : Aside0 (XVl (w.alloc (.cells (vlC x).toArray 57)) w.heap.size x) := ⟨⟨heap_alloc_new w _⟩⟩
    have HB : Aside0 (Below w.heap.size w (w.alloc (.cells (vlC x).toArray 57))) := ⟨(Below.refl _ _).alloc (Nat.le_refl _) _⟩
    generalize (w.alloc (.cells (vlC x).toArray 57)) = w1 at *
    generalize hg : w.heap.size = g at HX ⊢
    clear hg
    have x0 := HX.out.c0
    have x1 := HX.out.c1
    have x2 := HX.out.c2
    have x3 := HX.out.c3
    have x4 := HX.out.c4
    have x5 := HX.out.c5
    have x6 := HX.out.c6
    have x7 := HX.out.c7
    go_wp2_with (first
      | (refine wpList_load_rowG (by rfl) 57 _ rfl g rfl 57 (vlC x).toArray (0, 0) _ HX.out.blk Tryz.underlying57 rfl (by kernel_rfl) ?_)
      | (go_at_call 107; with_reducible refine (HP.out _).mono ?_; rintro e w2 ⟨rfl, hb2⟩; have n0_ := Aside0.mk (below_next HB.out hb2); have n1_ := Aside0.mk (HX.out.below hb2); clear HB HX hb2 x0 x1 x2 x3 x4 x5 x6 x7; have HB := n0_; have HX := n1_; clear n0_ n1_; have x0 := HX.out.c0; have x1 := HX.out.c1; have x2 := HX.out.c2; have x3 := HX.out.c3; have x4 := HX.out.c4; have x5 := HX.out.c5; have x6 := HX.out.c6; have x7 := HX.out.c7))
    go_ret
    exact ⟨rfl, HB.out⟩
set_option maxHeartbeats 4000000 in
set_option maxRecDepth 100000 in
theorem bare_2 (w : World) (x : Vl) (hs : x.s.size ≤ 100000) (hk : x.kind = 2) :
    Calls Tryz.prog 90 #[.agg (vlC x).toArray] w fun e w' => e = .returned (.bool (bareB x)) ∧ Below w.heap.size w w' := by
  obtain ⟨kind, s, b, n, l, m, inner, unk⟩ := x
  simp only at hs hk
  subst hk
  obtain ⟨x, hx⟩ : ∃ x : Vl, x = ⟨2, s, b, n, l, m, inner, unk⟩ := ⟨_, rfl⟩
  rw [← hx]
  have hs : x.s.size ≤ 100000 := by rw [hx]; exact hs
  have hk : x.kind = 2 := by rw [hx]
  clear hx
  have HN : (∀ w2, Calls Tryz.prog 108 #[.agg (vlC x).toArray] w2 fun e w' => e = .returned (.bool (nestB x)) ∧ Below w2.heap.size w2 w') := fun w2 => nested_any w2 x
  clear hs
  cases f0 : emB x.s
  · skip
    have hr : bareB x = false := by unfold bareB; rw [hk]; simp only [f0]; rfl
    rw [hr]
    clear hr
    have HN := Aside0.mk HN
    go_enter Tryz.func90, Tryz.ntmps90
    go_upto_region 1 with (with_reducible refine gate_dst (N := 1) rfl ?_; refine Great.wpList_boxTo rfl 57 _ rfl _ rfl w.heap.size rfl (vlC x).toArray rfl ?_)
    have HX : Aside0 (XVl (w.alloc (.cells (vlC x).toArray 57)) w.heap.size x) := ⟨⟨heap_alloc_new w _⟩⟩
    have HB : Aside0 (Below w.heap.size w (w.alloc (.cells (vlC x).toArray 57))) := ⟨(Below.refl _ _).alloc (Nat.le_refl _) _⟩
    generalize (w.alloc (.cells (vlC x).toArray 57)) = w1 at *
    generalize hg : w.heap.size = g at HX ⊢
    clear hg
    have x0 := HX.out.c0
    have x1 := HX.out.c1
    have x2 := HX.out.c2
    have x3 := HX.out.c3
    have x4 := HX.out.c4
    have x5 := HX.out.c5
    have x6 := HX.out.c6
    have x7 := HX.out.c7
    have g0 : (x.s.toList == []) = _ := f0
    go_wp2_with (first
      | (refine wpList_load_rowG (by rfl) 57 _ rfl g rfl 57 (vlC x).toArray (0, 0) _ HX.out.blk Tryz.underlying57 rfl (by kernel_rfl) ?_)
      | (go_at_call 108; with_reducible refine (HN.out _).mono ?_; rintro e w2 ⟨rfl, hb2⟩; have n0_ := Aside0.mk (below_next HB.out hb2); have n1_ := Aside0.mk (HX.out.below hb2); clear HB HX hb2 x0 x1 x2 x3 x4 x5 x6 x7; have HB := n0_; have HX := n1_; clear n0_ n1_; have x0 := HX.out.c0; have x1 := HX.out.c1; have x2 := HX.out.c2; have x3 := HX.out.c3; have x4 := HX.out.c4; have x5 := HX.out.c5; have x6 := HX.out.c6; have x7 := HX.out.c7))
    go_ret
    exact ⟨rfl, HB.out⟩
  · skip
    cases f1 : decide (x.n = 0)
    · skip
      have hr : bareB x = false := by unfold bareB; rw [hk]; simp only [f0, f1]; rfl
      rw [hr]
      clear hr
      have HN := Aside0.mk HN
      go_enter Tryz.func90, Tryz.ntmps90
      go_upto_region 1 with (with_reducible refine gate_dst (N := 1) rfl ?_; refine Great.wpList_boxTo rfl 57 _ rfl _ rfl w.heap.size rfl (vlC x).toArray rfl ?_)
      have HX : Aside0 (XVl (w.alloc (.cells (vlC x).toArray 57)) w.heap.size x) := ⟨⟨heap_alloc_new w _⟩⟩
      have HB : Aside0 (Below w.heap.size w (w.alloc (.cells (vlC x).toArray 57))) := ⟨(Below.refl _ _).alloc (Nat.le_refl _) _⟩
      generalize (w.alloc (.cells (vlC x).toArray 57)) = w1 at *
      generalize hg : w.heap.size = g at HX ⊢
      clear hg
      have x0 := HX.out.c0
      have x1 := HX.out.c1
      have x2 := HX.out.c2
      have x3 := HX.out.c3
      have x4 := HX.out.c4
      have x5 := HX.out.c5
      have x6 := HX.out.c6
      have x7 := HX.out.c7
      have g0 : (x.s.toList == []) = _ := f0
      have g1 := f1; rw [← int_b] at g1
      go_wp2_with (first
        | (refine wpList_load_rowG (by rfl) 57 _ rfl g rfl 57 (vlC x).toArray (0, 0) _ HX.out.blk Tryz.underlying57 rfl (by kernel_rfl) ?_)
        | (go_at_call 108; with_reducible refine (HN.out _).mono ?_; rintro e w2 ⟨rfl, hb2⟩; have n0_ := Aside0.mk (below_next HB.out hb2); have n1_ := Aside0.mk (HX.out.below hb2); clear HB HX hb2 x0 x1 x2 x3 x4 x5 x6 x7; have HB := n0_; have HX := n1_; clear n0_ n1_; have x0 := HX.out.c0; have x1 := HX.out.c1; have x2 := HX.out.c2; have x3 := HX.out.c3; have x4 := HX.out.c4; have x5 := HX.out.c5; have x6 := HX.out.c6; have x7 := HX.out.c7))
      go_ret
      exact ⟨rfl, HB.out⟩
    · skip
      cases f2 : nestB x
      · skip
        have hr : bareB x = false := by unfold bareB; rw [hk]; simp only [f0, f1, f2]; rfl
        rw [hr]
        clear hr
        rw [f2] at HN
        have HN := Aside0.mk HN
        go_enter Tryz.func90, Tryz.ntmps90
        go_upto_region 1 with (with_reducible refine gate_dst (N := 1) rfl ?_; refine Great.wpList_boxTo rfl 57 _ rfl _ rfl w.heap.size rfl (vlC x).toArray rfl ?_)
        have HX : Aside0 (XVl (w.alloc (.cells (vlC x).toArray 57)) w.heap.size x) := ⟨⟨heap_alloc_new w _⟩⟩
        have HB : Aside0 (Below w.heap.size w (w.alloc (.cells (vlC x).toArray 57))) := ⟨(Below.refl _ _).alloc (Nat.le_refl _) _⟩
        generalize (w.alloc (.cells (vlC x).toArray 57)) = w1 at *
        generalize hg : w.heap.size = g at HX ⊢
        clear hg
        have x0 := HX.out.c0
        have x1 := HX.out.c1
        have x2 := HX.out.c2
        have x3 := HX.out.c3
        have x4 := HX.out.c4
        have x5 := HX.out.c5
        have x6 := HX.out.c6
        have x7 := HX.out.c7
        have g0 : (x.s.toList == []) = _ := f0
        have g1 := f1; rw [← int_b] at g1
        go_wp2_with (first
          | (refine wpList_load_rowG (by rfl) 57 _ rfl g rfl 57 (vlC x).toArray (0, 0) _ HX.out.blk Tryz.underlying57 rfl (by kernel_rfl) ?_)
          | (go_at_call 108; with_reducible refine (HN.out _).mono ?_; rintro e w2 ⟨rfl, hb2⟩; have n0_ := Aside0.mk (below_next HB.out hb2); have n1_ := Aside0.mk (HX.out.below hb2); clear HB HX hb2 x0 x1 x2 x3 x4 x5 x6 x7; have HB := n0_; have HX := n1_; clear n0_ n1_; have x0 := HX.out.c0; have x1 := HX.out.c1; have x2 := HX.out.c2; have x3 := HX.out.c3; have x4 := HX.out.c4; have x5 := HX.out.c5; have x6 := HX.out.c6; have x7 := HX.out.c7))
        go_ret
        exact ⟨rfl, HB.out⟩
      · skip
        have hr : bareB x = true := by unfold bareB; rw [hk]; simp only [f0, f1, f2]; rfl
        rw [hr]
        clear hr
        rw [f2] at HN
        have HN := Aside0.mk HN
        go_enter Tryz.func90, Tryz.ntmps90
        go_upto_region 1 with (with_reducible refine gate_dst (N := 1) rfl ?_; refine Great.wpList_boxTo rfl 57 _ rfl _ rfl w.heap.size rfl (vlC x).toArray rfl ?_)
        have HX : Aside0 (XVl (w.alloc (.cells (vlC x).toArray 57)) w.heap.size x) := ⟨⟨heap_alloc_new w _⟩⟩
        have HB : Aside0 (Below w.heap.size w (w.alloc (.cells (vlC x).toArray 57))) := ⟨(Below.refl _ _).alloc (Nat.le_refl _) _⟩
        generalize (w.alloc (.cells (vlC x).toArray 57)) = w1 at *
        generalize hg : w.heap.size = g at HX ⊢
        clear hg
        have x0 := HX.out.c0
        have x1 := HX.out.c1
        have x2 := HX.out.c2
        have x3 := HX.out.c3
        have x4 := HX.out.c4
        have x5 := HX.out.c5
        have x6 := HX.out.c6
        have x7 := HX.out.c7
        have g0 : (x.s.toList == []) = _ := f0
        have g1 := f1; rw [← int_b] at g1
        go_wp2_with (first
          | (refine wpList_load_rowG (by rfl) 57 _ rfl g rfl 57 (vlC x).toArray (0, 0) _ HX.out.blk Tryz.underlying57 rfl (by kernel_rfl) ?_)
          | (go_at_call 108; with_reducible refine (HN.out _).mono ?_; rintro e w2 ⟨rfl, hb2⟩; have n0_ := Aside0.mk (below_next HB.out hb2); have n1_ := Aside0.mk (HX.out.below hb2); clear HB HX hb2 x0 x1 x2 x3 x4 x5 x6 x7; have HB := n0_; have HX := n1_; clear n0_ n1_; have x0 := HX.out.c0; have x1 := HX.out.c1; have x2 := HX.out.c2; have x3 := HX.out.c3; have x4 := HX.out.c4; have x5 := HX.out.c5; have x6 := HX.out.c6; have x7 := HX.out.c7))
        go_ret
        exact ⟨rfl, HB.out⟩
set_option maxHeartbeats 4000000 in
set_option maxRecDepth 100000 in
theorem bare_3 (w : World) (x : Vl) (hs : x.s.size ≤ 100000) (hk : x.kind = 3) :
    Calls Tryz.prog 90 #[.agg (vlC x).toArray] w fun e w' => e = .returned (.bool (bareB x)) ∧ Below w.heap.size w w' := by
  obtain ⟨kind, s, b, n, l, m, inner, unk⟩ := x
  simp only at hs hk
  subst hk
  obtain ⟨x, hx⟩ : ∃ x : Vl, x = ⟨3, s, b, n, l, m, inner, unk⟩ := ⟨_, rfl⟩
  rw [← hx]
  have hs : x.s.size ≤ 100000 := by rw [hx]; exact hs
  have hk : x.kind = 3 := by rw [hx]
  clear hx
  have HN : (∀ w2, Calls Tryz.prog 108 #[.agg (vlC x).toArray] w2 fun e w' => e = .returned (.bool (nestB x)) ∧ Below w2.heap.size w2 w') := fun w2 => nested_any w2 x
  clear hs
  cases f0 : emB x.s
  · skip
    have hr : bareB x = false := by unfold bareB; rw [hk]; simp only [f0]; rfl
    rw [hr]
    clear hr
    have HN := Aside0.mk HN
    go_enter Tryz.func90, Tryz.ntmps90
    go_upto_region 1 with (with_reducible refine gate_dst (N := 1) rfl ?_; refine Great.wpList_boxTo rfl 57 _ rfl _ rfl w.heap.size rfl (vlC x).toArray rfl ?_)
    have HX : Aside0 (XVl (w.alloc (.cells (vlC x).toArray 57)) w.heap.size x) := ⟨⟨heap_alloc_new w _⟩⟩
    have HB : Aside0 (Below w.heap.size w (w.alloc (.cells (vlC x).toArray 57))) := ⟨(Below.refl _ _).alloc (Nat.le_refl _) _⟩
    generalize (w.alloc (.cells (vlC x).toArray 57)) = w1 at *
    generalize hg : w.heap.size = g at HX ⊢
    clear hg
    have x0 := HX.out.c0
    have x1 := HX.out.c1
    have x2 := HX.out.c2
    have x3 := HX.out.c3
    have x4 := HX.out.c4
    have x5 := HX.out.c5
    have x6 := HX.out.c6
    have x7 := HX.out.c7
    have g0 : (x.s.toList == []) = _ := f0
    go_wp2_with (first
      | (refine wpList_load_rowG (by rfl) 57 _ rfl g rfl 57 (vlC x).toArray (0, 0) _ HX.out.blk Tryz.underlying57 rfl (by kernel_rfl) ?_)
      | (go_at_call 108; with_reducible refine (HN.out _).mono ?_; rintro e w2 ⟨rfl, hb2⟩; have n0_ := Aside0.mk (below_next HB.out hb2); have n1_ := Aside0.mk (HX.out.below hb2); clear HB HX hb2 x0 x1 x2 x3 x4 x5 x6 x7; have HB := n0_; have HX := n1_; clear n0_ n1_; have x0 := HX.out.c0; have x1 := HX.out.c1; have x2 := HX.out.c2; have x3 := HX.out.c3; have x4 := HX.out.c4; have x5 := HX.out.c5; have x6 := HX.out.c6; have x7 := HX.out.c7))
    go_ret
    exact ⟨rfl, HB.out⟩
  · skip
    cases f1 : x.b
    · skip
      cases f2 : nestB x
      · skip
        have hr : bareB x = false := by unfold bareB; rw [hk]; simp only [f0, f1, f2]; rfl
        rw [hr]
        clear hr
        rw [f2] at HN
        have HN := Aside0.mk HN
        go_enter Tryz.func90, Tryz.ntmps90
        go_upto_region 1 with (with_reducible refine gate_dst (N := 1) rfl ?_; refine Great.wpList_boxTo rfl 57 _ rfl _ rfl w.heap.size rfl (vlC x).toArray rfl ?_)
        have HX : Aside0 (XVl (w.alloc (.cells (vlC x).toArray 57)) w.heap.size x) := ⟨⟨heap_alloc_new w _⟩⟩
        have HB : Aside0 (Below w.heap.size w (w.alloc (.cells (vlC x).toArray 57))) := ⟨(Below.refl _ _).alloc (Nat.le_refl _) _⟩
        generalize (w.alloc (.cells (vlC x).toArray 57)) = w1 at *
        generalize hg : w.heap.size = g at HX ⊢
        clear hg
        have x0 := HX.out.c0
        have x1 := HX.out.c1
        have x2 := HX.out.c2
        have x3 := HX.out.c3
        have x4 := HX.out.c4
        have x5 := HX.out.c5
        have x6 := HX.out.c6
        have x7 := HX.out.c7
        have g0 : (x.s.toList == []) = _ := f0
        rw [f1] at x2
        go_wp2_with (first
          | (refine wpList_load_rowG (by rfl) 57 _ rfl g rfl 57 (vlC x).toArray (0, 0) _ HX.out.blk Tryz.underlying57 rfl (by kernel_rfl) ?_)
          | (go_at_call 108; with_reducible refine (HN.out _).mono ?_; rintro e w2 ⟨rfl, hb2⟩; have n0_ := Aside0.mk (below_next HB.out hb2); have n1_ := Aside0.mk (HX.out.below hb2); clear HB HX hb2 x0 x1 x2 x3 x4 x5 x6 x7; have HB := n0_; have HX := n1_; clear n0_ n1_; have x0 := HX.out.c0; have x1 := HX.out.c1; have x2 := HX.out.c2; have x3 := HX.out.c3; have x4 := HX.out.c4; have x5 := HX.out.c5; have x6 := HX.out.c6; have x7 := HX.out.c7))
        go_ret
        exact ⟨rfl, HB.out⟩
      · skip
        have hr : bareB x = true := by unfold bareB; rw [hk]; simp only [f0, f1, f2]; rfl
        rw [hr]
        clear hr
        rw [f2] at HN
        have HN := Aside0.mk HN
        go_enter Tryz.func90, Tryz.ntmps90
        go_upto_region 1 with (with_reducible refine gate_dst (N := 1) rfl ?_; refine Great.wpList_boxTo rfl 57 _ rfl _ rfl w.heap.size rfl (vlC x).toArray rfl ?_)
        have HX : Aside0 (XVl (w.alloc (.cells (vlC x).toArray 57)) w.heap.size x) := ⟨⟨heap_alloc_new w _⟩⟩
        have HB : Aside0 (Below w.heap.size w (w.alloc (.cells (vlC x).toArray 57))) := ⟨(Below.refl _ _).alloc (Nat.le_refl _) _⟩
        generalize (w.alloc (.cells (vlC x).toArray 57)) = w1 at *
        generalize hg : w.heap.size = g at HX ⊢
        clear hg
        have x0 := HX.out.c0
        have x1 := HX.out.c1
        have x2 := HX.out.c2
        have x3 := HX.out.c3
        have x4 := HX.out.c4
        have x5 := HX.out.c5
        have x6 := HX.out.c6
        have x7 := HX.out.c7
        have g0 : (x.s.toList == []) = _ := f0
        rw [f1] at x2
        go_wp2_with (first
          | (refine wpList_load_rowG (by rfl) 57 _ rfl g rfl 57 (vlC x).toArray (0, 0) _ HX.out.blk Tryz.underlying57 rfl (by kernel_rfl) ?_)
          | (go_at_call 108; with_reducible refine (HN.out _).mono ?_; rintro e w2 ⟨rfl, hb2⟩; have n0_ := Aside0.mk (below_next HB.out hb2); have n1_ := Aside0.mk (HX.out.below hb2); clear HB HX hb2 x0 x1 x2 x3 x4 x5 x6 x7; have HB := n0_; have HX := n1_; clear n0_ n1_; have x0 := HX.out.c0; have x1 := HX.out.c1; have x2 := HX.out.c2; have x3 := HX.out.c3; have x4 := HX.out.c4; have x5 := HX.out.c5; have x6 := HX.out.c6; have x7 := HX.out.c7))
        go_ret
        exact ⟨rfl, HB.out⟩
    · skip
      have hr : bareB x = false := by unfold bareB; rw [hk]; simp only [f0, f1]; rfl
      rw [hr]
      clear hr
      have HN := Aside0.mk HN
      go_enter Tryz.func90, Tryz.ntmps90
      go_upto_region 1 with (with_reducible refine gate_dst (N := 1) rfl ?_; refine Great.wpList_boxTo rfl 57 _ rfl _ rfl w.heap.size rfl (vlC x).toArray rfl ?_)
      have HX : Aside0 (XVl (w.alloc (.cells (vlC x).toArray 57)) w.heap.size x) := ⟨⟨heap_alloc_new w _⟩⟩
      have HB : Aside0 (Below w.heap.size w (w.alloc (.cells (vlC x).toArray 57))) := ⟨(Below.refl _ _).alloc (Nat.le_refl _) _⟩
      generalize (w.alloc (.cells (vlC x).toArray 57)) = w1 at *
      generalize hg : w.heap.size = g at HX ⊢
      clear hg
      have x0 := HX.out.c0
      have x1 := HX.out.c1
      have x2 := HX.out.c2
      have x3 := HX.out.c3
      have x4 := HX.out.c4
      have x5 := HX.out.c5
      have x6 := HX.out.c6
      have x7 := HX.out.c7
      have g0 : (x.s.toList == []) = _ := f0
      rw [f1] at x2
      go_wp2_with (first
        | (refine wpList_load_rowG (by rfl) 57 _ rfl g rfl 57 (vlC x).toArray (0, 0) _ HX.out.blk Tryz.underlying57 rfl (by kernel_rfl) ?_)
        | (go_at_call 108; with_reducible refine (HN.out _).mono ?_; rintro e w2 ⟨rfl, hb2⟩; have n0_ := Aside0.mk (below_next HB.out hb2); have n1_ := Aside0.mk (HX.out.below hb2); clear HB HX hb2 x0 x1 x2 x3 x4 x5 x6 x7; have HB := n0_; have HX := n1_; clear n0_ n1_; have x0 := HX.out.c0; have x1 := HX.out.c1; have x2 := HX.out.c2; have x3 := HX.out.c3; have x4 := HX.out.c4; have x5 := HX.out.c5; have x6 := HX.out.c6; have x7 := HX.out.c7))
      go_ret
      exact ⟨rfl, HB.out⟩
set_option maxHeartbeats 4000000 in
set_option maxRecDepth 100000 in
theorem bare_4 (w : World) (x : Vl) (hs : x.s.size ≤ 100000) (hk : x.kind = 4) :
    Calls Tryz.prog 90 #[.agg (vlC x).toArray] w fun e w' => e = .returned (.bool (bareB x)) ∧ Below w.heap.size w w' := by
  obtain ⟨kind, s, b, n, l, m, inner, unk⟩ := x
  simp only at hs hk
  subst hk
  obtain ⟨x, hx⟩ : ∃ x : Vl, x = ⟨4, s, b, n, l, m, inner, unk⟩ := ⟨_, rfl⟩
  rw [← hx]
  have hs : x.s.size ≤ 100000 := by rw [hx]; exact hs
  have hk : x.kind = 4 := by rw [hx]
  clear hx
  have HN : (∀ w2, Calls Tryz.prog 108 #[.agg (vlC x).toArray] w2 fun e w' => e = .returned (.bool (nestB x)) ∧ Below w2.heap.size w2 w') := fun w2 => nested_any w2 x
  clear hs
  cases f0 : emB x.s
  · skip
    have hr : bareB x = false := by unfold bareB; rw [hk]; simp only [f0]; rfl
    rw [hr]
    clear hr
    have HN := Aside0.mk HN
    go_enter Tryz.func90, Tryz.ntmps90
    go_upto_region 1 with (with_reducible refine gate_dst (N := 1) rfl ?_; refine Great.wpList_boxTo rfl 57 _ rfl _ rfl w.heap.size rfl (vlC x).toArray rfl ?_)
    have HX : Aside0 (XVl (w.alloc (.cells (vlC x).toArray 57)) w.heap.size x) := ⟨⟨heap_alloc_new w _⟩⟩
    have HB : Aside0 (Below w.heap.size w (w.alloc (.cells (vlC x).toArray 57))) := ⟨(Below.refl _ _).alloc (Nat.le_refl _) _⟩
    generalize (w.alloc (.cells (vlC x).toArray 57)) = w1 at *
    generalize hg : w.heap.size = g at HX ⊢
    clear hg
    have x0 := HX.out.c0
    have x1 := HX.out.c1
    have x2 := HX.out.c2
    have x3 := HX.out.c3
    have x4 := HX.out.c4
    have x5 := HX.out.c5
    have x6 := HX.out.c6
    have x7 := HX.out.c7
    have g0 : (x.s.toList == []) = _ := f0
    go_wp2_with (first
      | (refine wpList_load_rowG (by rfl) 57 _ rfl g rfl 57 (vlC x).toArray (0, 0) _ HX.out.blk Tryz.underlying57 rfl (by kernel_rfl) ?_)
      | (go_at_call 108; with_reducible refine (HN.out _).mono ?_; rintro e w2 ⟨rfl, hb2⟩; have n0_ := Aside0.mk (below_next HB.out hb2); have n1_ := Aside0.mk (HX.out.below hb2); clear HB HX hb2 x0 x1 x2 x3 x4 x5 x6 x7; have HB := n0_; have HX := n1_; clear n0_ n1_; have x0 := HX.out.c0; have x1 := HX.out.c1; have x2 := HX.out.c2; have x3 := HX.out.c3; have x4 := HX.out.c4; have x5 := HX.out.c5; have x6 := HX.out.c6; have x7 := HX.out.c7))
    go_ret
    exact ⟨rfl, HB.out⟩
  · skip
    cases f1 : x.b
    · skip
      cases f2 : nestB x
      · skip
        have hr : bareB x = false := by unfold bareB; rw [hk]; simp only [f0, f1, f2]; rfl
        rw [hr]
        clear hr
        rw [f2] at HN
        have HN := Aside0.mk HN
        go_enter Tryz.func90, Tryz.ntmps90
        go_upto_region 1 with (with_reducible refine gate_dst (N := 1) rfl ?_; refine Great.wpList_boxTo rfl 57 _ rfl _ rfl w.heap.size rfl (vlC x).toArray rfl ?_)
        have HX : Aside0 (XVl (w.alloc (.cells (vlC x).toArray 57)) w.heap.size x) := ⟨⟨heap_alloc_new w _⟩⟩
        have HB : Aside0 (Below w.heap.size w (w.alloc (.cells (vlC x).toArray 57))) := ⟨(Below.refl _ _).alloc (Nat.le_refl _) _⟩
        generalize (w.alloc (.cells (vlC x).toArray 57)) = w1 at *
        generalize hg : w.heap.size = g at HX ⊢
        clear hg
        have x0 := HX.out.c0
        have x1 := HX.out.c1
        have x2 := HX.out.c2
        have x3 := HX.out.c3
        have x4 := HX.out.c4
        have x5 := HX.out.c5
        have x6 := HX.out.c6
        have x7 := HX.out.c7
        have g0 : (x.s.toList == []) = _ := f0
        rw [f1] at x2
        go_wp2_with (first
          | (refine wpList_load_rowG (by rfl) 57 _ rfl g rfl 57 (vlC x).toArray (0, 0) _ HX.out.blk Tryz.underlying57 rfl (by kernel_rfl) ?_)
          | (go_at_call 108; with_reducible refine (HN.out _).mono ?_; rintro e w2 ⟨rfl, hb2⟩; have n0_ := Aside0.mk (below_next HB.out hb2); have n1_ := Aside0.mk (HX.out.below hb2); clear HB HX hb2 x0 x1 x2 x3 x4 x5 x6 x7; have HB := n0_; have HX := n1_; clear n0_ n1_; have x0 := HX.out.c0; have x1 := HX.out.c1; have x2 := HX.out.c2; have x3 := HX.out.c3; have x4 := HX.out.c4; have x5 := HX.out.c5; have x6 := HX.out.c6; have x7 := HX.out.c7))
        go_ret
        exact ⟨rfl, HB.out⟩
      · skip
        have hr : bareB x = true := by unfold bareB; rw [hk]; simp only [f0, f1, f2]; rfl
        rw [hr]
        clear hr
        rw [f2] at HN
        have HN := Aside0.mk HN
        go_enter Tryz.func90, Tryz.ntmps90
        go_upto_region 1 with (with_reducible refine gate_dst (N := 1) rfl ?_; refine Great.wpList_boxTo rfl 57 _ rfl _ rfl w.heap.size rfl (vlC x).toArray rfl ?_)
        have HX : Aside0 (XVl (w.alloc (.cells (vlC x).toArray 57)) w.heap.size x) := ⟨⟨heap_alloc_new w _⟩⟩
        have HB : Aside0 (Below w.heap.size w (w.alloc (.cells (vlC x).toArray 57))) := ⟨(Below.refl _ _).alloc (Nat.le_refl _) _⟩
        generalize (w.alloc (.cells (vlC x).toArray 57)) = w1 at *
        generalize hg : w.heap.size = g at HX ⊢
        clear hg
        have x0 := HX.out.c0
        have x1 := HX.out.c1
        have x2 := HX.out.c2
        have x3 := HX.out.c3
        have x4 := HX.out.c4
        have x5 := HX.out.c5
        have x6 := HX.out.c6
        have x7 := HX.out.c7
        have g0 : (x.s.toList == []) = _ := f0
        rw [f1] at x2
        go_wp2_with (first
          | (refine wpList_load_rowG (by rfl) 57 _ rfl g rfl 57 (vlC x).toArray (0, 0) _ HX.out.blk Tryz.underlying57 rfl (by kernel_rfl) ?_)
          | (go_at_call 108; with_reducible refine (HN.out _).mono ?_; rintro e w2 ⟨rfl, hb2⟩; have n0_ := Aside0.mk (below_next HB.out hb2); have n1_ := Aside0.mk (HX.out.below hb2); clear HB HX hb2 x0 x1 x2 x3 x4 x5 x6 x7; have HB := n0_; have HX := n1_; clear n0_ n1_; have x0 := HX.out.c0; have x1 := HX.out.c1; have x2 := HX.out.c2; have x3 := HX.out.c3; have x4 := HX.out.c4; have x5 := HX.out.c5; have x6 := HX.out.c6; have x7 := HX.out.c7))
        go_ret
        exact ⟨rfl, HB.out⟩
    · skip
      have hr : bareB x = false := by unfold bareB; rw [hk]; simp only [f0, f1]; rfl
      rw [hr]
      clear hr
      have HN := Aside0.mk HN
      go_enter Tryz.func90, Tryz.ntmps90
      go_upto_region 1 with (with_reducible refine gate_dst (N := 1) rfl ?_; refine Great.wpList_boxTo rfl 57 _ rfl _ rfl w.heap.size rfl (vlC x).toArray rfl ?_)
      have HX : Aside0 (XVl (w.alloc (.cells (vlC x).toArray 57)) w.heap.size x) := ⟨⟨heap_alloc_new w _⟩⟩
      have HB : Aside0 (Below w.heap.size w (w.alloc (.cells (vlC x).toArray 57))) := ⟨(Below.refl _ _).alloc (Nat.le_refl _) _⟩
      generalize (w.alloc (.cells (vlC x).toArray 57)) = w1 at *
      generalize hg : w.heap.size = g at HX ⊢
      clear hg
      have x0 := HX.out.c0
      have x1 := HX.out.c1
      have x2 := HX.out.c2
      have x3 := HX.out.c3
      have x4 := HX.out.c4
      have x5 := HX.out.c5
      have x6 := HX.out.c6
      have x7 := HX.out.c7
      have g0 : (x.s.toList == []) = _ := f0
      rw [f1] at x2
      go_wp2_with (first
        | (refine wpList_load_rowG (by rfl) 57 _ rfl g rfl 57 (vlC x).toArray (0, 0) _ HX.out.blk Tryz.underlying57 rfl (by kernel_rfl) ?_)
        | (go_at_call 108; with_reducible refine (HN.out _).mono ?_; rintro e w2 ⟨rfl, hb2⟩; have n0_ := Aside0.mk (below_next HB.out hb2); have n1_ := Aside0.mk (HX.out.below hb2); clear HB HX hb2 x0 x1 x2 x3 x4 x5 x6 x7; have HB := n0_; have HX := n1_; clear n0_ n1_; have x0 := HX.out.c0; have x1 := HX.out.c1; have x2 := HX.out.c2; have x3 := HX.out.c3; have x4 := HX.out.c4; have x5 := HX.out.c5; have x6 := HX.out.c6; have x7 := HX.out.c7))
      go_ret
      exact ⟨rfl, HB.out⟩
set_option maxHeartbeats 4000000 in
set_option maxRecDepth 100000 in
theorem bare_0 (w : World) (x : Vl) (hs : x.s.size ≤ 100000) (hk : x.kind = 0) :
    Calls Tryz.prog 90 #[.agg (vlC x).toArray] w fun e w' => e = .returned (.bool (bareB x)) ∧ Below w.heap.size w w' := by
  obtain ⟨kind, s, b, n, l, m, inner, unk⟩ := x
  simp only at hs hk
  subst hk
  obtain ⟨x, hx⟩ : ∃ x : Vl, x = ⟨0, s, b, n, l, m, inner, unk⟩ := ⟨_, rfl⟩
  rw [← hx]
  have hs : x.s.size ≤ 100000 := by rw [hx]; exact hs
  have hk : x.kind = 0 := by rw [hx]
  clear hx
  have HN : (∀ w2, Calls Tryz.prog 108 #[.agg (vlC x).toArray] w2 fun e w' => e = .returned (.bool (nestB x)) ∧ Below w2.heap.size w2 w') := fun w2 => nested_any w2 x
  clear hs
  cases f0 : emB x.s
  · skip
    have hr : bareB x = false := by unfold bareB; rw [hk]; simp only [f0]; rfl
    rw [hr]
    clear hr
    have HN := Aside0.mk HN
    go_enter Tryz.func90, Tryz.ntmps90
    go_upto_region 1 with (with_reducible refine gate_dst (N := 1) rfl ?_; refine Great.wpList_boxTo rfl 57 _ rfl _ rfl w.heap.size rfl (vlC x).toArray rfl ?_)
    have HX : Aside0 (XVl (w.alloc (.cells (vlC x).toArray 57)) w.heap.size x) := ⟨⟨heap_alloc_new w _⟩⟩
    have HB : Aside0 (Below w.heap.size w (w.alloc (.cells (vlC x).toArray 57))) := ⟨(Below.refl _ _).alloc (Nat.le_refl _) _⟩
    generalize (w.alloc (.cells (vlC x).toArray 57)) = w1 at *
    generalize hg : w.heap.size = g at HX ⊢
    clear hg
    have x0 := HX.out.c0
    have x1 := HX.out.c1
    have x2 := HX.out.c2
    have x3 := HX.out.c3
    have x4 := HX.out.c4
    have x5 := HX.out.c5
    have x6 := HX.out.c6
    have x7 := HX.out.c7
    have g0 : (x.s.toList == []) = _ := f0
    go_wp2_with (first
      | (refine wpList_load_rowG (by rfl) 57 _ rfl g rfl 57 (vlC x).toArray (0, 0) _ HX.out.blk Tryz.underlying57 rfl (by kernel_rfl) ?_)
      | (go_at_call 108; with_reducible refine (HN.out _).mono ?_; rintro e w2 ⟨rfl, hb2⟩; have n0_ := Aside0.mk (below_next HB.out hb2); have n1_ := Aside0.mk (HX.out.below hb2); clear HB HX hb2 x0 x1 x2 x3 x4 x5 x6 x7; have HB := n0_; have HX := n1_; clear n0_ n1_; have x0 := HX.out.c0; have x1 := HX.out.c1; have x2 := HX.out.c2; have x3 := HX.out.c3; have x4 := HX.out.c4; have x5 := HX.out.c5; have x6 := HX.out.c6; have x7 := HX.out.c7))
    go_ret
    exact ⟨rfl, HB.out⟩
  · skip
    cases f1 : decide (x.n = 0)
    · skip
      have hr : bareB x = false := by unfold bareB; rw [hk]; simp only [f0, f1]; rfl
      rw [hr]
      clear hr
      have HN := Aside0.mk HN
      go_enter Tryz.func90, Tryz.ntmps90
      go_upto_region 1 with (with_reducible refine gate_dst (N := 1) rfl ?_; refine Great.wpList_boxTo rfl 57 _ rfl _ rfl w.heap.size rfl (vlC x).toArray rfl ?_)
      have HX : Aside0 (XVl (w.alloc (.cells (vlC x).toArray 57)) w.heap.size x) := ⟨⟨heap_alloc_new w _⟩⟩
      have HB : Aside0 (Below w.heap.size w (w.alloc (.cells (vlC x).toArray 57))) := ⟨(Below.refl _ _).alloc (Nat.le_refl _) _⟩
      generalize (w.alloc (.cells (vlC x).toArray 57)) = w1 at *
      generalize hg : w.heap.size = g at HX ⊢
      clear hg
      have x0 := HX.out.c0
      have x1 := HX.out.c1
      have x2 := HX.out.c2
      have x3 := HX.out.c3
      have x4 := HX.out.c4
      have x5 := HX.out.c5
      have x6 := HX.out.c6
      have x7 := HX.out.c7
      have g0 : (x.s.toList == []) = _ := f0
      have g1 := f1; rw [← int_b] at g1
      go_wp2_with (first
        | (refine wpList_load_rowG (by rfl) 57 _ rfl g rfl 57 (vlC x).toArray (0, 0) _ HX.out.blk Tryz.underlying57 rfl (by kernel_rfl) ?_)
        | (go_at_call 108; with_reducible refine (HN.out _).mono ?_; rintro e w2 ⟨rfl, hb2⟩; have n0_ := Aside0.mk (below_next HB.out hb2); have n1_ := Aside0.mk (HX.out.below hb2); clear HB HX hb2 x0 x1 x2 x3 x4 x5 x6 x7; have HB := n0_; have HX := n1_; clear n0_ n1_; have x0 := HX.out.c0; have x1 := HX.out.c1; have x2 := HX.out.c2; have x3 := HX.out.c3; have x4 := HX.out.c4; have x5 := HX.out.c5; have x6 := HX.out.c6; have x7 := HX.out.c7))
      go_ret
      exact ⟨rfl, HB.out⟩
    · skip
      cases f2 : x.b
      · skip
        cases f3 : nestB x
        · skip
          have hr : bareB x = false := by unfold bareB; rw [hk]; simp only [f0, f1, f2, f3]; rfl
          rw [hr]
          clear hr
          rw [f3] at HN
          have HN := Aside0.mk HN
          go_enter Tryz.func90, Tryz.ntmps90
          go_upto_region 1 with (with_reducible refine gate_dst (N := 1) rfl ?_; refine Great.wpList_boxTo rfl 57 _ rfl _ rfl w.heap.size rfl (vlC x).toArray rfl ?_)
          have HX : Aside0 (XVl (w.alloc (.cells (vlC x).toArray 57)) w.heap.size x) := ⟨⟨heap_alloc_new w _⟩⟩
          have HB : Aside0 (Below w.heap.size w (w.alloc (.cells (vlC x).toArray 57))) := ⟨(Below.refl _ _).alloc (Nat.le_refl _) _⟩
          generalize (w.alloc (.cells (vlC x).toArray 57)) = w1 at *
          generalize hg : w.heap.size = g at HX ⊢
          clear hg
          have x0 := HX.out.c0
          have x1 := HX.out.c1
          have x2 := HX.out.c2
          have x3 := HX.out.c3
          have x4 := HX.out.c4
          have x5 := HX.out.c5
          have x6 := HX.out.c6
          have x7 := HX.out.c7
          have g0 : (x.s.toList == []) = _ := f0
          have g1 := f1; rw [← int_b] at g1
          rw [f2] at x2
          go_wp2_with (first
            | (refine wpList_load_rowG (by rfl) 57 _ rfl g rfl 57 (vlC x).toArray (0, 0) _ HX.out.blk Tryz.underlying57 rfl (by kernel_rfl) ?_)
            | (go_at_call 108; with_reducible refine (HN.out _).mono ?_; rintro e w2 ⟨rfl, hb2⟩; have n0_ := Aside0.mk (below_next HB.out hb2); have n1_ := Aside0.mk (HX.out.below hb2); clear HB HX hb2 x0 x1 x2 x3 x4 x5 x6 x7; have HB := n0_; have HX := n1_; clear n0_ n1_; have x0 := HX.out.c0; have x1 := HX.out.c1; have x2 := HX.out.c2; have x3 := HX.out.c3; have x4 := HX.out.c4; have x5 := HX.out.c5; have x6 := HX.out.c6; have x7 := HX.out.c7))
          go_ret
          exact ⟨rfl, HB.out⟩
        · skip
          have hr : bareB x = true := by unfold bareB; rw [hk]; simp only [f0, f1, f2, f3]; rfl
          rw [hr]
          clear hr
          rw [f3] at HN
          have HN := Aside0.mk HN
          go_enter Tryz.func90, Tryz.ntmps90
          go_upto_region 1 with (with_reducible refine gate_dst (N := 1) rfl ?_; refine Great.wpList_boxTo rfl 57 _ rfl _ rfl w.heap.size rfl (vlC x).toArray rfl ?_)
          have HX : Aside0 (XVl (w.alloc (.cells (vlC x).toArray 57)) w.heap.size x) := ⟨⟨heap_alloc_new w _⟩⟩
          have HB : Aside0 (Below w.heap.size w (w.alloc (.cells (vlC x).toArray 57))) := ⟨(Below.refl _ _).alloc (Nat.le_refl _) _⟩
          generalize (w.alloc (.cells (vlC x).toArray 57)) = w1 at *
          generalize hg : w.heap.size = g at HX ⊢
          clear hg
          have x0 := HX.out.c0
          have x1 := HX.out.c1
          have x2 := HX.out.c2
          have x3 := HX.out.c3
          have x4 := HX.out.c4
          have x5 := HX.out.c5
          have x6 := HX.out.c6
          have x7 := HX.out.c7
          have g0 : (x.s.toList == []) = _ := f0
          have g1 := f1; rw [← int_b] at g1
          rw [f2] at x2
          go_wp2_with (first
            | (refine wpList_load_rowG (by rfl) 57 _ rfl g rfl 57 (vlC x).toArray (0, 0) _ HX.out.blk Tryz.underlying57 rfl (by kernel_rfl) ?_)
            | (go_at_call 108; with_reducible refine (HN.out _).mono ?_; rintro e w2 ⟨rfl, hb2⟩; have n0_ := Aside0.mk (below_next HB.out hb2); have n1_ := Aside0.mk (HX.out.below hb2); clear HB HX hb2 x0 x1 x2 x3 x4 x5 x6 x7; have HB := n0_; have HX := n1_; clear n0_ n1_; have x0 := HX.out.c0; have x1 := HX.out.c1; have x2 := HX.out.c2; have x3 := HX.out.c3; have x4 := HX.out.c4; have x5 := HX.out.c5; have x6 := HX.out.c6; have x7 := HX.out.c7))
          go_ret
          exact ⟨rfl, HB.out⟩
      · skip
        have hr : bareB x = false := by unfold bareB; rw [hk]; simp only [f0, f1, f2]; rfl
        rw [hr]
        clear hr
        have HN := Aside0.mk HN
        go_enter Tryz.func90, Tryz.ntmps90
        go_upto_region 1 with (with_reducible refine gate_dst (N := 1) rfl ?_; refine Great.wpList_boxTo rfl 57 _ rfl _ rfl w.heap.size rfl (vlC x).toArray rfl ?_)
        have HX : Aside0 (XVl (w.alloc (.cells (vlC x).toArray 57)) w.heap.size x) := ⟨⟨heap_alloc_new w _⟩⟩
        have HB : Aside0 (Below w.heap.size w (w.alloc (.cells (vlC x).toArray 57))) := ⟨(Below.refl _ _).alloc (Nat.le_refl _) _⟩
        generalize (w.alloc (.cells (vlC x).toArray 57)) = w1 at *
        generalize hg : w.heap.size = g at HX ⊢
        clear hg
        have x0 := HX.out.c0
        have x1 := HX.out.c1
        have x2 := HX.out.c2
        have x3 := HX.out.c3
        have x4 := HX.out.c4
        have x5 := HX.out.c5
        have x6 := HX.out.c6
        have x7 := HX.out.c7
        have g0 : (x.s.toList == []) = _ := f0
        have g1 := f1; rw [← int_b] at g1
        rw [f2] at x2
        go_wp2_with (first
          | (refine wpList_load_rowG (by rfl) 57 _ rfl g rfl 57 (vlC x).toArray (0, 0) _ HX.out.blk Tryz.underlying57 rfl (by kernel_rfl) ?_)
          | (go_at_call 108; with_reducible refine (HN.out _).mono ?_; rintro e w2 ⟨rfl, hb2⟩; have n0_ := Aside0.mk (below_next HB.out hb2); have n1_ := Aside0.mk (HX.out.below hb2); clear HB HX hb2 x0 x1 x2 x3 x4 x5 x6 x7; have HB := n0_; have HX := n1_; clear n0_ n1_; have x0 := HX.out.c0; have x1 := HX.out.c1; have x2 := HX.out.c2; have x3 := HX.out.c3; have x4 := HX.out.c4; have x5 := HX.out.c5; have x6 := HX.out.c6; have x7 := HX.out.c7))
        go_ret
        exact ⟨rfl, HB.out⟩
set_option maxHeartbeats 4000000 in
set_option maxRecDepth 100000 in
theorem bare_5 (w : World) (x : Vl) (hs : x.s.size ≤ 100000) (hk : x.kind = 5) :
    Calls Tryz.prog 90 #[.agg (vlC x).toArray] w fun e w' => e = .returned (.bool (bareB x)) ∧ Below w.heap.size w w' := by
  obtain ⟨kind, s, b, n, l, m, inner, unk⟩ := x
  simp only at hs hk
  subst hk
  obtain ⟨x, hx⟩ : ∃ x : Vl, x = ⟨5, s, b, n, l, m, inner, unk⟩ := ⟨_, rfl⟩
  rw [← hx]
  have hs : x.s.size ≤ 100000 := by rw [hx]; exact hs
  have hk : x.kind = 5 := by rw [hx]
  clear hx
  clear hs
  cases f0 : emB x.s
  · skip
    have hr : bareB x = false := by unfold bareB; rw [hk]; simp only [f0]; rfl
    rw [hr]
    clear hr
    go_enter Tryz.func90, Tryz.ntmps90
    go_upto_region 1 with (with_reducible refine gate_dst (N := 1) rfl ?_; refine Great.wpList_boxTo rfl 57 _ rfl _ rfl w.heap.size rfl (vlC x).toArray rfl ?_)
    have HX : Aside0 (XVl (w.alloc (.cells (vlC x).toArray 57)) w.heap.size x) := ⟨⟨heap_alloc_new w _⟩⟩
    have HB : Aside0 (Below w.heap.size w (w.alloc (.cells (vlC x).toArray 57))) := ⟨(Below.refl _ _).alloc (Nat.le_refl _) _⟩
    generalize (w.alloc (.cells (vlC x).toArray 57)) = w1 at *
    generalize hg : w.heap.size = g at HX ⊢
    clear hg
    have x0 := HX.out.c0
    have x1 := HX.out.c1
    have x2 := HX.out.c2
    have x3 := HX.out.c3
    have x4 := HX.out.c4
    have x5 := HX.out.c5
    have x6 := HX.out.c6
    have x7 := HX.out.c7
    have g0 : (x.s.toList == []) = _ := f0
    go_wp2_with (first
      | (refine wpList_load_rowG (by rfl) 57 _ rfl g rfl 57 (vlC x).toArray (0, 0) _ HX.out.blk Tryz.underlying57 rfl (by kernel_rfl) ?_))
    go_ret
    exact ⟨rfl, HB.out⟩
  · skip
    cases f1 : decide (x.n = 0)
    · skip
      have hr : bareB x = false := by unfold bareB; rw [hk]; simp only [f0, f1]; rfl
      rw [hr]
      clear hr
      go_enter Tryz.func90, Tryz.ntmps90
      go_upto_region 1 with (with_reducible refine gate_dst (N := 1) rfl ?_; refine Great.wpList_boxTo rfl 57 _ rfl _ rfl w.heap.size rfl (vlC x).toArray rfl ?_)
      have HX : Aside0 (XVl (w.alloc (.cells (vlC x).toArray 57)) w.heap.size x) := ⟨⟨heap_alloc_new w _⟩⟩
      have HB : Aside0 (Below w.heap.size w (w.alloc (.cells (vlC x).toArray 57))) := ⟨(Below.refl _ _).alloc (Nat.le_refl _) _⟩
      generalize (w.alloc (.cells (vlC x).toArray 57)) = w1 at *
      generalize hg : w.heap.size = g at HX ⊢
      clear hg
      have x0 := HX.out.c0
      have x1 := HX.out.c1
      have x2 := HX.out.c2
      have x3 := HX.out.c3
      have x4 := HX.out.c4
      have x5 := HX.out.c5
      have x6 := HX.out.c6
      have x7 := HX.out.c7
      have g0 : (x.s.toList == []) = _ := f0
      have g1 := f1; rw [← int_b] at g1
      go_wp2_with (first
        | (refine wpList_load_rowG (by rfl) 57 _ rfl g rfl 57 (vlC x).toArray (0, 0) _ HX.out.blk Tryz.underlying57 rfl (by kernel_rfl) ?_))
      go_ret
      exact ⟨rfl, HB.out⟩
    · skip
      cases f2 : x.b
      · skip
        cases f3 : decide (x.m.len = 0)
        · skip
          have hr : bareB x = false := by unfold bareB; rw [hk]; simp only [f0, f1, f2, f3]; rfl
          rw [hr]
          clear hr
          go_enter Tryz.func90, Tryz.ntmps90
          go_upto_region 1 with (with_reducible refine gate_dst (N := 1) rfl ?_; refine Great.wpList_boxTo rfl 57 _ rfl _ rfl w.heap.size rfl (vlC x).toArray rfl ?_)
          have HX : Aside0 (XVl (w.alloc (.cells (vlC x).toArray 57)) w.heap.size x) := ⟨⟨heap_alloc_new w _⟩⟩
          have HB : Aside0 (Below w.heap.size w (w.alloc (.cells (vlC x).toArray 57))) := ⟨(Below.refl _ _).alloc (Nat.le_refl _) _⟩
          generalize (w.alloc (.cells (vlC x).toArray 57)) = w1 at *
          generalize hg : w.heap.size = g at HX ⊢
          clear hg
          have x0 := HX.out.c0
          have x1 := HX.out.c1
          have x2 := HX.out.c2
          have x3 := HX.out.c3
          have x4 := HX.out.c4
          have x5 := HX.out.c5
          have x6 := HX.out.c6
          have x7 := HX.out.c7
          have g0 : (x.s.toList == []) = _ := f0
          have g1 := f1; rw [← int_b] at g1
          rw [f2] at x2
          have g3 := f3; rw [← len_b] at g3
          go_wp2_with (first
            | (refine wpList_load_rowG (by rfl) 57 _ rfl g rfl 57 (vlC x).toArray (0, 0) _ HX.out.blk Tryz.underlying57 rfl (by kernel_rfl) ?_))
          go_ret
          exact ⟨rfl, HB.out⟩
        · skip
          have hr : bareB x = true := by unfold bareB; rw [hk]; simp only [f0, f1, f2, f3]; rfl
          rw [hr]
          clear hr
          go_enter Tryz.func90, Tryz.ntmps90
          go_upto_region 1 with (with_reducible refine gate_dst (N := 1) rfl ?_; refine Great.wpList_boxTo rfl 57 _ rfl _ rfl w.heap.size rfl (vlC x).toArray rfl ?_)
          have HX : Aside0 (XVl (w.alloc (.cells (vlC x).toArray 57)) w.heap.size x) := ⟨⟨heap_alloc_new w _⟩⟩
          have HB : Aside0 (Below w.heap.size w (w.alloc (.cells (vlC x).toArray 57))) := ⟨(Below.refl _ _).alloc (Nat.le_refl _) _⟩
          generalize (w.alloc (.cells (vlC x).toArray 57)) = w1 at *
          generalize hg : w.heap.size = g at HX ⊢
          clear hg
          have x0 := HX.out.c0
          have x1 := HX.out.c1
          have x2 := HX.out.c2
          have x3 := HX.out.c3
          have x4 := HX.out.c4
          have x5 := HX.out.c5
          have x6 := HX.out.c6
          have x7 := HX.out.c7
          have g0 : (x.s.toList == []) = _ := f0
          have g1 := f1; rw [← int_b] at g1
          rw [f2] at x2
          have g3 := f3; rw [← len_b] at g3
          go_wp2_with (first
            | (refine wpList_load_rowG (by rfl) 57 _ rfl g rfl 57 (vlC x).toArray (0, 0) _ HX.out.blk Tryz.underlying57 rfl (by kernel_rfl) ?_))
          go_ret
          exact ⟨rfl, HB.out⟩
      · skip
        have hr : bareB x = false := by unfold bareB; rw [hk]; simp only [f0, f1, f2]; rfl
        rw [hr]
        clear hr
        go_enter Tryz.func90, Tryz.ntmps90
        go_upto_region 1 with (with_reducible refine gate_dst (N := 1) rfl ?_; refine Great.wpList_boxTo rfl 57 _ rfl _ rfl w.heap.size rfl (vlC x).toArray rfl ?_)
        have HX : Aside0 (XVl (w.alloc (.cells (vlC x).toArray 57)) w.heap.size x) := ⟨⟨heap_alloc_new w _⟩⟩
        have HB : Aside0 (Below w.heap.size w (w.alloc (.cells (vlC x).toArray 57))) := ⟨(Below.refl _ _).alloc (Nat.le_refl _) _⟩
        generalize (w.alloc (.cells (vlC x).toArray 57)) = w1 at *
        generalize hg : w.heap.size = g at HX ⊢
        clear hg
        have x0 := HX.out.c0
        have x1 := HX.out.c1
        have x2 := HX.out.c2
        have x3 := HX.out.c3
        have x4 := HX.out.c4
        have x5 := HX.out.c5
        have x6 := HX.out.c6
        have x7 := HX.out.c7
        have g0 : (x.s.toList == []) = _ := f0
        have g1 := f1; rw [← int_b] at g1
        rw [f2] at x2
        go_wp2_with (first
          | (refine wpList_load_rowG (by rfl) 57 _ rfl g rfl 57 (vlC x).toArray (0, 0) _ HX.out.blk Tryz.underlying57 rfl (by kernel_rfl) ?_))
        go_ret
        exact ⟨rfl, HB.out⟩
set_option maxHeartbeats 4000000 in
set_option maxRecDepth 100000 in
theorem bare_6 (w : World) (x : Vl) (hs : x.s.size ≤ 100000) (hk : x.kind = 6) :
    Calls Tryz.prog 90 #[.agg (vlC x).toArray] w fun e w' => e = .returned (.bool (bareB x)) ∧ Below w.heap.size w w' := by
  obtain ⟨kind, s, b, n, l, m, inner, unk⟩ := x
  simp only at hs hk
  subst hk
  obtain ⟨x, hx⟩ : ∃ x : Vl, x = ⟨6, s, b, n, l, m, inner, unk⟩ := ⟨_, rfl⟩
  rw [← hx]
  have hs : x.s.size ≤ 100000 := by rw [hx]; exact hs
  have hk : x.kind = 6 := by rw [hx]
  clear hx
  clear hs
  cases f0 : emB x.s
  · skip
    have hr : bareB x = false := by unfold bareB; rw [hk]; simp only [f0]; rfl
    rw [hr]
    clear hr
    go_enter Tryz.func90, Tryz.ntmps90
    go_upto_region 1 with (with_reducible refine gate_dst (N := 1) rfl ?_; refine Great.wpList_boxTo rfl 57 _ rfl _ rfl w.heap.size rfl (vlC x).toArray rfl ?_)
    have HX : Aside0 (XVl (w.alloc (.cells (vlC x).toArray 57)) w.heap.size x) := ⟨⟨heap_alloc_new w _⟩⟩
    have HB : Aside0 (Below w.heap.size w (w.alloc (.cells (vlC x).toArray 57))) := ⟨(Below.refl _ _).alloc (Nat.le_refl _) _⟩
    generalize (w.alloc (.cells (vlC x).toArray 57)) = w1 at *
    generalize hg : w.heap.size = g at HX ⊢
    clear hg
    have x0 := HX.out.c0
    have x1 := HX.out.c1
    have x2 := HX.out.c2
    have x3 := HX.out.c3
    have x4 := HX.out.c4
    have x5 := HX.out.c5
    have x6 := HX.out.c6
    have x7 := HX.out.c7
    have g0 : (x.s.toList == []) = _ := f0
    go_wp2_with (first
      | (refine wpList_load_rowG (by rfl) 57 _ rfl g rfl 57 (vlC x).toArray (0, 0) _ HX.out.blk Tryz.underlying57 rfl (by kernel_rfl) ?_))
    go_ret
    exact ⟨rfl, HB.out⟩
  · skip
    cases f1 : decide (x.n = 0)
    · skip
      have hr : bareB x = false := by unfold bareB; rw [hk]; simp only [f0, f1]; rfl
      rw [hr]
      clear hr
      go_enter Tryz.func90, Tryz.ntmps90
      go_upto_region 1 with (with_reducible refine gate_dst (N := 1) rfl ?_; refine Great.wpList_boxTo rfl 57 _ rfl _ rfl w.heap.size rfl (vlC x).toArray rfl ?_)
      have HX : Aside0 (XVl (w.alloc (.cells (vlC x).toArray 57)) w.heap.size x) := ⟨⟨heap_alloc_new w _⟩⟩
      have HB : Aside0 (Below w.heap.size w (w.alloc (.cells (vlC x).toArray 57))) := ⟨(Below.refl _ _).alloc (Nat.le_refl _) _⟩
      generalize (w.alloc (.cells (vlC x).toArray 57)) = w1 at *
      generalize hg : w.heap.size = g at HX ⊢
      clear hg
      have x0 := HX.out.c0
      have x1 := HX.out.c1
      have x2 := HX.out.c2
      have x3 := HX.out.c3
      have x4 := HX.out.c4
      have x5 := HX.out.c5
      have x6 := HX.out.c6
      have x7 := HX.out.c7
      have g0 : (x.s.toList == []) = _ := f0
      have g1 := f1; rw [← int_b] at g1
      go_wp2_with (first
        | (refine wpList_load_rowG (by rfl) 57 _ rfl g rfl 57 (vlC x).toArray (0, 0) _ HX.out.blk Tryz.underlying57 rfl (by kernel_rfl) ?_))
      go_ret
      exact ⟨rfl, HB.out⟩
    · skip
      cases f2 : x.b
      · skip
        cases f3 : decide (x.l.len = 0)
        · skip
          have hr : bareB x = false := by unfold bareB; rw [hk]; simp only [f0, f1, f2, f3]; rfl
          rw [hr]
          clear hr
          go_enter Tryz.func90, Tryz.ntmps90
          go_upto_region 1 with (with_reducible refine gate_dst (N := 1) rfl ?_; refine Great.wpList_boxTo rfl 57 _ rfl _ rfl w.heap.size rfl (vlC x).toArray rfl ?_)
          have HX : Aside0 (XVl (w.alloc (.cells (vlC x).toArray 57)) w.heap.size x) := ⟨⟨heap_alloc_new w _⟩⟩
          have HB : Aside0 (Below w.heap.size w (w.alloc (.cells (vlC x).toArray 57))) := ⟨(Below.refl _ _).alloc (Nat.le_refl _) _⟩
          generalize (w.alloc (.cells (vlC x).toArray 57)) = w1 at *
          generalize hg : w.heap.size = g at HX ⊢
          clear hg
          have x0 := HX.out.c0
          have x1 := HX.out.c1
          have x2 := HX.out.c2
          have x3 := HX.out.c3
          have x4 := HX.out.c4
          have x5 := HX.out.c5
          have x6 := HX.out.c6
          have x7 := HX.out.c7
          have g0 : (x.s.toList == []) = _ := f0
          have g1 := f1; rw [← int_b] at g1
          rw [f2] at x2
          have g3 := f3; rw [← len_b] at g3
          go_wp2_with (first
            | (refine wpList_load_rowG (by rfl) 57 _ rfl g rfl 57 (vlC x).toArray (0, 0) _ HX.out.blk Tryz.underlying57 rfl (by kernel_rfl) ?_))
          go_ret
          exact ⟨rfl, HB.out⟩
        · skip
          have hr : bareB x = true := by unfold bareB; rw [hk]; simp only [f0, f1, f2, f3]; rfl
          rw [hr]
          clear hr
          go_enter Tryz.func90, Tryz.ntmps90
          go_upto_region 1 with (with_reducible refine gate_dst (N := 1) rfl ?_; refine Great.wpList_boxTo rfl 57 _ rfl _ rfl w.heap.size rfl (vlC x).toArray rfl ?_)
          have HX : Aside0 (XVl (w.alloc (.cells (vlC x).toArray 57)) w.heap.size x) := ⟨⟨heap_alloc_new w _⟩⟩
          have HB : Aside0 (Below w.heap.size w (w.alloc (.cells (vlC x).toArray 57))) := ⟨(Below.refl _ _).alloc (Nat.le_refl _) _⟩
          generalize (w.alloc (.cells (vlC x).toArray 57)) = w1 at *
          generalize hg : w.heap.size = g at HX ⊢
          clear hg
          have x0 := HX.out.c0
          have x1 := HX.out.c1
          have x2 := HX.out.c2
          have x3 := HX.out.c3
          have x4 := HX.out.c4
          have x5 := HX.out.c5
          have x6 := HX.out.c6
          have x7 := HX.out.c7
          have g0 : (x.s.toList == []) = _ := f0
          have g1 := f1; rw [← int_b] at g1
          rw [f2] at x2
          have g3 := f3; rw [← len_b] at g3
          go_wp2_with (first
            | (refine wpList_load_rowG (by rfl) 57 _ rfl g rfl 57 (vlC x).toArray (0, 0) _ HX.out.blk Tryz.underlying57 rfl (by kernel_rfl) ?_))
          go_ret
          exact ⟨rfl, HB.out⟩
      · skip
        have hr : bareB x = false := by unfold bareB; rw [hk]; simp only [f0, f1, f2]; rfl
        rw [hr]
        clear hr
        go_enter Tryz.func90, Tryz.ntmps90
        go_upto_region 1 with (with_reducible refine gate_dst (N := 1) rfl ?_; refine Great.wpList_boxTo rfl 57 _ rfl _ rfl w.heap.size rfl (vlC x).toArray rfl ?_)
        have HX : Aside0 (XVl (w.alloc (.cells (vlC x).toArray 57)) w.heap.size x) := ⟨⟨heap_alloc_new w _⟩⟩
        have HB : Aside0 (Below w.heap.size w (w.alloc (.cells (vlC x).toArray 57))) := ⟨(Below.refl _ _).alloc (Nat.le_refl _) _⟩
        generalize (w.alloc (.cells (vlC x).toArray 57)) = w1 at *
        generalize hg : w.heap.size = g at HX ⊢
        clear hg
        have x0 := HX.out.c0
        have x1 := HX.out.c1
        have x2 := HX.out.c2
        have x3 := HX.out.c3
        have x4 := HX.out.c4
        have x5 := HX.out.c5
        have x6 := HX.out.c6
        have x7 := HX.out.c7
        have g0 : (x.s.toList == []) = _ := f0
        have g1 := f1; rw [← int_b] at g1
        rw [f2] at x2
        go_wp2_with (first
          | (refine wpList_load_rowG (by rfl) 57 _ rfl g rfl 57 (vlC x).toArray (0, 0) _ HX.out.blk Tryz.underlying57 rfl (by kernel_rfl) ?_))
        go_ret
        exact ⟨rfl, HB.out⟩
set_option maxHeartbeats 4000000 in
set_option maxRecDepth 100000 in
theorem bare_other (w : World) (x : Vl) (hk : ¬ (0 ≤ x.kind ∧ x.kind ≤ 7)) :
    Calls Tryz.prog 90 #[.agg (vlC x).toArray] w fun e w' => e = .returned (.bool (bareB x)) ∧ Below w.heap.size w w' := by
  have hr : bareB x = false := by unfold bareB; rw [if_neg (by omega), if_neg (by omega), if_neg (by omega), if_neg (by omega), if_neg (by omega), if_neg (by omega), if_neg (by omega)]
  rw [hr]
  have k0 : (x.kind == 0) = false := by rw [beq_eq_false_iff_ne]; omega
  have k1 : (x.kind == 1) = false := by rw [beq_eq_false_iff_ne]; omega
  have k2 : (x.kind == 2) = false := by rw [beq_eq_false_iff_ne]; omega
  have k3 : (x.kind == 3) = false := by rw [beq_eq_false_iff_ne]; omega
  have k4 : (x.kind == 4) = false := by rw [beq_eq_false_iff_ne]; omega
  have k5 : (x.kind == 5) = false := by rw [beq_eq_false_iff_ne]; omega
  have k6 : (x.kind == 6) = false := by rw [beq_eq_false_iff_ne]; omega
  have k7 : (x.kind == 7) = false := by rw [beq_eq_false_iff_ne]; omega
  clear hr hk
  go_enter Tryz.func90, Tryz.ntmps90
  go_upto_region 1 with (with_reducible refine gate_dst (N := 1) rfl ?_; refine Great.wpList_boxTo rfl 57 _ rfl _ rfl w.heap.size rfl (vlC x).toArray rfl ?_)
  have HX : Aside0 (XVl (w.alloc (.cells (vlC x).toArray 57)) w.heap.size x) := ⟨⟨heap_alloc_new w _⟩⟩
  have HB : Aside0 (Below w.heap.size w (w.alloc (.cells (vlC x).toArray 57))) := ⟨(Below.refl _ _).alloc (Nat.le_refl _) _⟩
  generalize (w.alloc (.cells (vlC x).toArray 57)) = w1 at *
  generalize hg : w.heap.size = g at HX ⊢
  clear hg
  have x0 := HX.out.c0
  have x1 := HX.out.c1
  have x2 := HX.out.c2
  have x3 := HX.out.c3
  have x4 := HX.out.c4
  have x5 := HX.out.c5
  have x6 := HX.out.c6
  have x7 := HX.out.c7
  go_wp2_with (first
    | (refine wpList_load_rowG (by rfl) 57 _ rfl g rfl 57 (vlC x).toArray (0, 0) _ HX.out.blk Tryz.underlying57 rfl (by kernel_rfl) ?_))
  go_ret
  exact ⟨rfl, HB.out⟩
theorem bare_any (w : World) (x : Vl) (hs : x.s.size ≤ 100000) :
    Calls Tryz.prog 90 #[.agg (vlC x).toArray] w fun e w' => e = .returned (.bool (bareB x)) ∧ Below w.heap.size w w' := by
  by_cases h1 : x.kind = 1
  · exact bare_1 w x hs h1
  by_cases h7 : x.kind = 7
  · exact bare_7 w x hs h7
  by_cases h2 : x.kind = 2
  · exact bare_2 w x hs h2
  by_cases h3 : x.kind = 3
  · exact bare_3 w x hs h3
  by_cases h4 : x.kind = 4
  · exact bare_4 w x hs h4
  by_cases h0 : x.kind = 0
  · exact bare_0 w x hs h0
  by_cases h5 : x.kind = 5
  · exact bare_5 w x hs h5
  by_cases h6 : x.kind = 6
  · exact bare_6 w x hs h6
  exact bare_other w x (by omega)
end Go.Proofs.YtnghlkbmfhkmoaaGreatDoor
