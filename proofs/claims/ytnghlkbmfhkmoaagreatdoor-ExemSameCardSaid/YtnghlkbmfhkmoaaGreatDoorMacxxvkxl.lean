import Derived.Test.YtnghlkbmfhkmoaaGreatDoorMzxmmykla
namespace Go.Proofs.YtnghlkbmfhkmoaaGreatDoor
open Go.RowKit Go.Proofs.YtnghlkbmfhkmoaaGreatDoorW.PrintWords Go.Proofs.YtnghlkbmfhkmoaaGreatDoorW.PrintLast Go.Proofs.YtnghlkbmfhkmoaaGreatDoorW.PrintMore

/-! ### exemplars alike -/
structure XEm (w : World) (g : Nat) (x : Exm) : Prop where
  blk : w.heap[g]? = some (.cells (exmC x).toArray 25 (0, 0))
section
variable {w w' : World} {g : Nat} {x : Exm}
theorem XEm.c0 (h : XEm w g x) : w.cell? ⟨g, 0, none⟩ = some (.slice x.attrs.a x.attrs.len x.attrs.cap) := by rw [blk_cell h.blk]; rfl
theorem XEm.c1 (h : XEm w g x) : w.cell? ⟨g, 1, none⟩ = some (.int .u64 x.time) := by rw [blk_cell h.blk]; rfl
theorem XEm.c2 (h : XEm w g x) : w.cell? ⟨g, 2, none⟩ = some (.int .i64 x.kind) := by rw [blk_cell h.blk]; rfl
theorem XEm.c3 (h : XEm w g x) : w.cell? ⟨g, 3, none⟩ = some (.int .u64 x.n) := by rw [blk_cell h.blk]; rfl
theorem XEm.c4 (h : XEm w g x) : w.cell? ⟨g, 4, none⟩ = some (.string x.span) := by rw [blk_cell h.blk]; rfl
theorem XEm.c5 (h : XEm w g x) : w.cell? ⟨g, 5, none⟩ = some (.string x.trace) := by rw [blk_cell h.blk]; rfl
theorem XEm.c6 (h : XEm w g x) : w.cell? ⟨g, 6, none⟩ = some (.string x.unk) := by rw [blk_cell h.blk]; rfl
theorem XEm.below (h : XEm w g x) (hb : Below w.heap.size w w') : XEm w' g x := ⟨blk_below h.blk hb⟩
end
set_option maxHeartbeats 4000000 in
set_option maxRecDepth 100000 in
theorem sexm_0 (w : World) (a b : Exm) (e0 : ¬ a.time = b.time) :
    Calls Tryz.prog 7 #[.agg (exmC a).toArray, .agg (exmC b).toArray] w fun e w' => e = .returned (.bool false) ∧ Below w.heap.size w w' := by
  have hX : XEm ((w.alloc (.cells (exmC a).toArray 25)).alloc (.cells (exmC b).toArray 25)) w.heap.size a := XEm.below ⟨heap_alloc_new w _⟩ ((Below.refl _ _).alloc (Nat.le_refl _) _)
  have hY : XEm ((w.alloc (.cells (exmC a).toArray 25)).alloc (.cells (exmC b).toArray 25)) (w.heap.size + 1) b := ⟨by have h := heap_alloc_new (w.alloc (.cells (exmC a).toArray 25)) (.cells (exmC b).toArray 25); simp only [World.size_alloc] at h; exact h⟩
  have HB : Aside0 (Below w.heap.size w ((w.alloc (.cells (exmC a).toArray 25)).alloc (.cells (exmC b).toArray 25))) := ⟨((Below.refl _ _).alloc (Nat.le_refl _) _).alloc (by simp only [World.size_alloc]; omega) _⟩
  have HX := Aside0.mk hX
  have HY := Aside0.mk hY
  clear hX hY
  go_enter Tryz.func7, Tryz.ntmps7
  go_upto_region 1 with (first
    | ((with_reducible refine gate_dst (N := 2) rfl ?_); refine Great.wpList_boxTo rfl 25 _ rfl _ rfl w.heap.size rfl (exmC a).toArray rfl ?_)
    | ((with_reducible refine gate_dst (N := 3) rfl ?_); refine Great.wpList_boxTo rfl 25 _ rfl _ rfl (w.heap.size + 1) (by simp only [World.size_alloc]) (exmC b).toArray rfl ?_))
  generalize ((w.alloc (.cells (exmC a).toArray 25)).alloc (.cells (exmC b).toArray 25)) = w1 at *
  have x0 := HX.out.c0
  have y0 := HY.out.c0
  have x1 := HX.out.c1
  have y1 := HY.out.c1
  have x2 := HX.out.c2
  have y2 := HY.out.c2
  have x3 := HX.out.c3
  have y3 := HY.out.c3
  have x4 := HX.out.c4
  have y4 := HY.out.c4
  have x5 := HX.out.c5
  have y5 := HY.out.c5
  have x6 := HX.out.c6
  have y6 := HY.out.c6
  have f0 : (a.time == b.time) = false := by rw [beq_eq_false_iff_ne]; exact e0
  clear HX HY
  go_wp2_with fail
  go_ret
  exact ⟨rfl, HB.out⟩
set_option maxHeartbeats 4000000 in
set_option maxRecDepth 100000 in
theorem sexm_1 (w : World) (a b : Exm) (e0 : a.time = b.time) (e1 : ¬ a.kind = b.kind) :
    Calls Tryz.prog 7 #[.agg (exmC a).toArray, .agg (exmC b).toArray] w fun e w' => e = .returned (.bool false) ∧ Below w.heap.size w w' := by
  have hX : XEm ((w.alloc (.cells (exmC a).toArray 25)).alloc (.cells (exmC b).toArray 25)) w.heap.size a := XEm.below ⟨heap_alloc_new w _⟩ ((Below.refl _ _).alloc (Nat.le_refl _) _)
  have hY : XEm ((w.alloc (.cells (exmC a).toArray 25)).alloc (.cells (exmC b).toArray 25)) (w.heap.size + 1) b := ⟨by have h := heap_alloc_new (w.alloc (.cells (exmC a).toArray 25)) (.cells (exmC b).toArray 25); simp only [World.size_alloc] at h; exact h⟩
  have HB : Aside0 (Below w.heap.size w ((w.alloc (.cells (exmC a).toArray 25)).alloc (.cells (exmC b).toArray 25))) := ⟨((Below.refl _ _).alloc (Nat.le_refl _) _).alloc (by simp only [World.size_alloc]; omega) _⟩
  have HX := Aside0.mk hX
  have HY := Aside0.mk hY
  clear hX hY
  go_enter Tryz.func7, Tryz.ntmps7
  go_upto_region 1 with (first
    | ((with_reducible refine gate_dst (N := 2) rfl ?_); refine Great.wpList_boxTo rfl 25 _ rfl _ rfl w.heap.size rfl (exmC a).toArray rfl ?_)
    | ((with_reducible refine gate_dst (N := 3) rfl ?_); refine Great.wpList_boxTo rfl 25 _ rfl _ rfl (w.heap.size + 1) (by simp only [World.size_alloc]) (exmC b).toArray rfl ?_))
  generalize ((w.alloc (.cells (exmC a).toArray 25)).alloc (.cells (exmC b).toArray 25)) = w1 at *
  have x0 := HX.out.c0
  have y0 := HY.out.c0
  have x1 := HX.out.c1
  have y1 := HY.out.c1
  have x2 := HX.out.c2
  have y2 := HY.out.c2
  have x3 := HX.out.c3
  have y3 := HY.out.c3
  have x4 := HX.out.c4
  have y4 := HY.out.c4
  have x5 := HX.out.c5
  have y5 := HY.out.c5
  have x6 := HX.out.c6
  have y6 := HY.out.c6
  rw [← e0] at y1
  have f1 : (a.kind == b.kind) = false := by rw [beq_eq_false_iff_ne]; exact e1
  clear HX HY
  go_wp2_with fail
  go_ret
  exact ⟨rfl, HB.out⟩
set_option maxHeartbeats 4000000 in
set_option maxRecDepth 100000 in
theorem sexm_2 (w : World) (a b : Exm) (e0 : a.time = b.time) (e1 : a.kind = b.kind) (e2 : ¬ a.n = b.n) :
    Calls Tryz.prog 7 #[.agg (exmC a).toArray, .agg (exmC b).toArray] w fun e w' => e = .returned (.bool false) ∧ Below w.heap.size w w' := by
  have hX : XEm ((w.alloc (.cells (exmC a).toArray 25)).alloc (.cells (exmC b).toArray 25)) w.heap.size a := XEm.below ⟨heap_alloc_new w _⟩ ((Below.refl _ _).alloc (Nat.le_refl _) _)
  have hY : XEm ((w.alloc (.cells (exmC a).toArray 25)).alloc (.cells (exmC b).toArray 25)) (w.heap.size + 1) b := ⟨by have h := heap_alloc_new (w.alloc (.cells (exmC a).toArray 25)) (.cells (exmC b).toArray 25); simp only [World.size_alloc] at h; exact h⟩
  have HB : Aside0 (Below w.heap.size w ((w.alloc (.cells (exmC a).toArray 25)).alloc (.cells (exmC b).toArray 25))) := ⟨((Below.refl _ _).alloc (Nat.le_refl _) _).alloc (by simp only [World.size_alloc]; omega) _⟩
  have HX := Aside0.mk hX
  have HY := Aside0.mk hY
  clear hX hY
  go_enter Tryz.func7, Tryz.ntmps7
  go_upto_region 1 with (first
    | ((with_reducible refine gate_dst (N := 2) rfl ?_); refine Great.wpList_boxTo rfl 25 _ rfl _ rfl w.heap.size rfl (exmC a).toArray rfl ?_)
    | ((with_reducible refine gate_dst (N := 3) rfl ?_); refine Great.wpList_boxTo rfl 25 _ rfl _ rfl (w.heap.size + 1) (by simp only [World.size_alloc]) (exmC b).toArray rfl ?_))
  generalize ((w.alloc (.cells (exmC a).toArray 25)).alloc (.cells (exmC b).toArray 25)) = w1 at *
  have x0 := HX.out.c0
  have y0 := HY.out.c0
  have x1 := HX.out.c1
  have y1 := HY.out.c1
  have x2 := HX.out.c2
  have y2 := HY.out.c2
  have x3 := HX.out.c3
  have y3 := HY.out.c3
  have x4 := HX.out.c4
  have y4 := HY.out.c4
  have x5 := HX.out.c5
  have y5 := HY.out.c5
  have x6 := HX.out.c6
  have y6 := HY.out.c6
  rw [← e0] at y1
  rw [← e1] at y2
  have f2 : (a.n == b.n) = false := by rw [beq_eq_false_iff_ne]; exact e2
  clear HX HY
  go_wp2_with fail
  go_ret
  exact ⟨rfl, HB.out⟩
set_option maxHeartbeats 4000000 in
set_option maxRecDepth 100000 in
theorem sexm_3 (w : World) (a b : Exm) (e0 : a.time = b.time) (e1 : a.kind = b.kind) (e2 : a.n = b.n) (e3 : (a.span.toList == b.span.toList) = false) :
    Calls Tryz.prog 7 #[.agg (exmC a).toArray, .agg (exmC b).toArray] w fun e w' => e = .returned (.bool false) ∧ Below w.heap.size w w' := by
  have hX : XEm ((w.alloc (.cells (exmC a).toArray 25)).alloc (.cells (exmC b).toArray 25)) w.heap.size a := XEm.below ⟨heap_alloc_new w _⟩ ((Below.refl _ _).alloc (Nat.le_refl _) _)
  have hY : XEm ((w.alloc (.cells (exmC a).toArray 25)).alloc (.cells (exmC b).toArray 25)) (w.heap.size + 1) b := ⟨by have h := heap_alloc_new (w.alloc (.cells (exmC a).toArray 25)) (.cells (exmC b).toArray 25); simp only [World.size_alloc] at h; exact h⟩
  have HB : Aside0 (Below w.heap.size w ((w.alloc (.cells (exmC a).toArray 25)).alloc (.cells (exmC b).toArray 25))) := ⟨((Below.refl _ _).alloc (Nat.le_refl _) _).alloc (by simp only [World.size_alloc]; omega) _⟩
  have HX := Aside0.mk hX
  have HY := Aside0.mk hY
  clear hX hY
  go_enter Tryz.func7, Tryz.ntmps7
  go_upto_region 1 with (first
    | ((with_reducible refine gate_dst (N := 2) rfl ?_); refine Great.wpList_boxTo rfl 25 _ rfl _ rfl w.heap.size rfl (exmC a).toArray rfl ?_)
    | ((with_reducible refine gate_dst (N := 3) rfl ?_); refine Great.wpList_boxTo rfl 25 _ rfl _ rfl (w.heap.size + 1) (by simp only [World.size_alloc]) (exmC b).toArray rfl ?_))
  generalize ((w.alloc (.cells (exmC a).toArray 25)).alloc (.cells (exmC b).toArray 25)) = w1 at *
  have x0 := HX.out.c0
  have y0 := HY.out.c0
  have x1 := HX.out.c1
  have y1 := HY.out.c1
  have x2 := HX.out.c2
  have y2 := HY.out.c2
  have x3 := HX.out.c3
  have y3 := HY.out.c3
  have x4 := HX.out.c4
  have y4 := HY.out.c4
  have x5 := HX.out.c5
  have y5 := HY.out.c5
  have x6 := HX.out.c6
  have y6 := HY.out.c6
  rw [← e0] at y1
  rw [← e1] at y2
  rw [← e2] at y3
  clear HX HY
  go_wp2_with fail
  go_ret
  exact ⟨rfl, HB.out⟩
set_option maxHeartbeats 4000000 in
set_option maxRecDepth 100000 in
theorem sexm_4 (w : World) (a b : Exm) (e0 : a.time = b.time) (e1 : a.kind = b.kind) (e2 : a.n = b.n) (e3 : (a.span.toList == b.span.toList) = true) (e4 : (a.trace.toList == b.trace.toList) = false) :
    Calls Tryz.prog 7 #[.agg (exmC a).toArray, .agg (exmC b).toArray] w fun e w' => e = .returned (.bool false) ∧ Below w.heap.size w w' := by
  have hX : XEm ((w.alloc (.cells (exmC a).toArray 25)).alloc (.cells (exmC b).toArray 25)) w.heap.size a := XEm.below ⟨heap_alloc_new w _⟩ ((Below.refl _ _).alloc (Nat.le_refl _) _)
  have hY : XEm ((w.alloc (.cells (exmC a).toArray 25)).alloc (.cells (exmC b).toArray 25)) (w.heap.size + 1) b := ⟨by have h := heap_alloc_new (w.alloc (.cells (exmC a).toArray 25)) (.cells (exmC b).toArray 25); simp only [World.size_alloc] at h; exact h⟩
  have HB : Aside0 (Below w.heap.size w ((w.alloc (.cells (exmC a).toArray 25)).alloc (.cells (exmC b).toArray 25))) := ⟨((Below.refl _ _).alloc (Nat.le_refl _) _).alloc (by simp only [World.size_alloc]; omega) _⟩
  have HX := Aside0.mk hX
  have HY := Aside0.mk hY
  clear hX hY
  go_enter Tryz.func7, Tryz.ntmps7
  go_upto_region 1 with (first
    | ((with_reducible refine gate_dst (N := 2) rfl ?_); refine Great.wpList_boxTo rfl 25 _ rfl _ rfl w.heap.size rfl (exmC a).toArray rfl ?_)
    | ((with_reducible refine gate_dst (N := 3) rfl ?_); refine Great.wpList_boxTo rfl 25 _ rfl _ rfl (w.heap.size + 1) (by simp only [World.size_alloc]) (exmC b).toArray rfl ?_))
  generalize ((w.alloc (.cells (exmC a).toArray 25)).alloc (.cells (exmC b).toArray 25)) = w1 at *
  have x0 := HX.out.c0
  have y0 := HY.out.c0
  have x1 := HX.out.c1
  have y1 := HY.out.c1
  have x2 := HX.out.c2
  have y2 := HY.out.c2
  have x3 := HX.out.c3
  have y3 := HY.out.c3
  have x4 := HX.out.c4
  have y4 := HY.out.c4
  have x5 := HX.out.c5
  have y5 := HY.out.c5
  have x6 := HX.out.c6
  have y6 := HY.out.c6
  rw [← e0] at y1
  rw [← e1] at y2
  rw [← e2] at y3
  clear HX HY
  go_wp2_with fail
  go_ret
  exact ⟨rfl, HB.out⟩
set_option maxHeartbeats 4000000 in
set_option maxRecDepth 100000 in
theorem sexm_5 (w : World) (a b : Exm) (e0 : a.time = b.time) (e1 : a.kind = b.kind) (e2 : a.n = b.n) (e3 : (a.span.toList == b.span.toList) = true) (e4 : (a.trace.toList == b.trace.toList) = true) (e5 : (a.unk.toList == b.unk.toList) = false) :
    Calls Tryz.prog 7 #[.agg (exmC a).toArray, .agg (exmC b).toArray] w fun e w' => e = .returned (.bool false) ∧ Below w.heap.size w w' := by
  have hX : XEm ((w.alloc (.cells (exmC a).toArray 25)).alloc (.cells (exmC b).toArray 25)) w.heap.size a := XEm.below ⟨heap_alloc_new w _⟩ ((Below.refl _ _).alloc (Nat.le_refl _) _)
  have hY : XEm ((w.alloc (.cells (exmC a).toArray 25)).alloc (.cells (exmC b).toArray 25)) (w.heap.size + 1) b := ⟨by have h := heap_alloc_new (w.alloc (.cells (exmC a).toArray 25)) (.cells (exmC b).toArray 25); simp only [World.size_alloc] at h; exact h⟩
  have HB : Aside0 (Below w.heap.size w ((w.alloc (.cells (exmC a).toArray 25)).alloc (.cells (exmC b).toArray 25))) := ⟨((Below.refl _ _).alloc (Nat.le_refl _) _).alloc (by simp only [World.size_alloc]; omega) _⟩
  have HX := Aside0.mk hX
  have HY := Aside0.mk hY
  clear hX hY
  go_enter Tryz.func7, Tryz.ntmps7
  go_upto_region 1 with (first
    | ((with_reducible refine gate_dst (N := 2) rfl ?_); refine Great.wpList_boxTo rfl 25 _ rfl _ rfl w.heap.size rfl (exmC a).toArray rfl ?_)
    | ((with_reducible refine gate_dst (N := 3) rfl ?_); refine Great.wpList_boxTo rfl 25 _ rfl _ rfl (w.heap.size + 1) (by simp only [World.size_alloc]) (exmC b).toArray rfl ?_))
  generalize ((w.alloc (.cells (exmC a).toArray 25)).alloc (.cells (exmC b).toArray 25)) = w1 at *
  have x0 := HX.out.c0
  have y0 := HY.out.c0
  have x1 := HX.out.c1
  have y1 := HY.out.c1
  have x2 := HX.out.c2
  have y2 := HY.out.c2
  have x3 := HX.out.c3
  have y3 := HY.out.c3
  have x4 := HX.out.c4
  have y4 := HY.out.c4
  have x5 := HX.out.c5
  have y5 := HY.out.c5
  have x6 := HX.out.c6
  have y6 := HY.out.c6
  rw [← e0] at y1
  rw [← e1] at y2
  rw [← e2] at y3
  clear HX HY
  go_wp2_with fail
  go_ret
  exact ⟨rfl, HB.out⟩
set_option maxHeartbeats 4000000 in
set_option maxRecDepth 100000 in
theorem sexm_6 (w : World) (a b : Exm) (e0 : a.time = b.time) (e1 : a.kind = b.kind) (e2 : a.n = b.n) (e3 : (a.span.toList == b.span.toList) = true) (e4 : (a.trace.toList == b.trace.toList) = true) (e5 : (a.unk.toList == b.unk.toList) = true) (h6 : CB w 16 #[a.attrs.v, b.attrs.v] false) :
    Calls Tryz.prog 7 #[.agg (exmC a).toArray, .agg (exmC b).toArray] w fun e w' => e = .returned (.bool false) ∧ Below w.heap.size w w' := by
  have hX : XEm ((w.alloc (.cells (exmC a).toArray 25)).alloc (.cells (exmC b).toArray 25)) w.heap.size a := XEm.below ⟨heap_alloc_new w _⟩ ((Below.refl _ _).alloc (Nat.le_refl _) _)
  have hY : XEm ((w.alloc (.cells (exmC a).toArray 25)).alloc (.cells (exmC b).toArray 25)) (w.heap.size + 1) b := ⟨by have h := heap_alloc_new (w.alloc (.cells (exmC a).toArray 25)) (.cells (exmC b).toArray 25); simp only [World.size_alloc] at h; exact h⟩
  have HB : Aside0 (Below w.heap.size w ((w.alloc (.cells (exmC a).toArray 25)).alloc (.cells (exmC b).toArray 25))) := ⟨((Below.refl _ _).alloc (Nat.le_refl _) _).alloc (by simp only [World.size_alloc]; omega) _⟩
  have HX := Aside0.mk hX
  have HY := Aside0.mk hY
  clear hX hY
  unfold CB Sl.v at h6
  have H6 := Aside0.mk h6
  clear h6
  go_enter Tryz.func7, Tryz.ntmps7
  go_upto_region 1 with (first
    | ((with_reducible refine gate_dst (N := 2) rfl ?_); refine Great.wpList_boxTo rfl 25 _ rfl _ rfl w.heap.size rfl (exmC a).toArray rfl ?_)
    | ((with_reducible refine gate_dst (N := 3) rfl ?_); refine Great.wpList_boxTo rfl 25 _ rfl _ rfl (w.heap.size + 1) (by simp only [World.size_alloc]) (exmC b).toArray rfl ?_))
  generalize ((w.alloc (.cells (exmC a).toArray 25)).alloc (.cells (exmC b).toArray 25)) = w1 at *
  have x0 := HX.out.c0
  have y0 := HY.out.c0
  have x1 := HX.out.c1
  have y1 := HY.out.c1
  have x2 := HX.out.c2
  have y2 := HY.out.c2
  have x3 := HX.out.c3
  have y3 := HY.out.c3
  have x4 := HX.out.c4
  have y4 := HY.out.c4
  have x5 := HX.out.c5
  have y5 := HY.out.c5
  have x6 := HX.out.c6
  have y6 := HY.out.c6
  rw [← e0] at y1
  rw [← e1] at y2
  rw [← e2] at y3
  go_wp2_with (go_at_call 16; with_reducible refine (H6.out _ HB.out).mono ?_; rintro e w2 ⟨rfl, hb2⟩; have n0_ := Aside0.mk (below_next HB.out hb2); have n1_ := Aside0.mk (HX.out.below hb2); have n2_ := Aside0.mk (HY.out.below hb2); clear HB HX HY hb2 x0 y0 x1 y1 x2 y2 x3 y3 x4 y4 x5 y5 x6 y6; have HB := n0_; have HX := n1_; have HY := n2_; clear n0_ n1_ n2_; have x0 := HX.out.c0; have y0 := HY.out.c0; have x1 := HX.out.c1; have y1 := HY.out.c1; have x2 := HX.out.c2; have y2 := HY.out.c2; have x3 := HX.out.c3; have y3 := HY.out.c3; have x4 := HX.out.c4; have y4 := HY.out.c4; have x5 := HX.out.c5; have y5 := HY.out.c5; have x6 := HX.out.c6; have y6 := HY.out.c6; rw [← e0] at y1; rw [← e1] at y2; rw [← e2] at y3)
  go_ret
  exact ⟨rfl, HB.out⟩
set_option maxHeartbeats 4000000 in
set_option maxRecDepth 100000 in
theorem sexm_7 (w : World) (a b : Exm) (e0 : a.time = b.time) (e1 : a.kind = b.kind) (e2 : a.n = b.n) (e3 : (a.span.toList == b.span.toList) = true) (e4 : (a.trace.toList == b.trace.toList) = true) (e5 : (a.unk.toList == b.unk.toList) = true) (h6 : CB w 16 #[a.attrs.v, b.attrs.v] true) :
    Calls Tryz.prog 7 #[.agg (exmC a).toArray, .agg (exmC b).toArray] w fun e w' => e = .returned (.bool true) ∧ Below w.heap.size w w' := by
  have hX : XEm ((w.alloc (.cells (exmC a).toArray 25)).alloc (.cells (exmC b).toArray 25)) w.heap.size a := XEm.below ⟨heap_alloc_new w _⟩ ((Below.refl _ _).alloc (Nat.le_refl _) _)
  have hY : XEm ((w.alloc (.cells (exmC a).toArray 25)).alloc (.cells (exmC b).toArray 25)) (w.heap.size + 1) b := ⟨by have h := heap_alloc_new (w.alloc (.cells (exmC a).toArray 25)) (.cells (exmC b).toArray 25); simp only [World.size_alloc] at h; exact h⟩
  have HB : Aside0 (Below w.heap.size w ((w.alloc (.cells (exmC a).toArray 25)).alloc (.cells (exmC b).toArray 25))) := ⟨((Below.refl _ _).alloc (Nat.le_refl _) _).alloc (by simp only [World.size_alloc]; omega) _⟩
  have HX := Aside0.mk hX
  have HY := Aside0.mk hY
  clear hX hY
  unfold CB Sl.v at h6
  have H6 := Aside0.mk h6
  clear h6
  go_enter Tryz.func7, Tryz.ntmps7
  go_upto_region 1 with (first
    | ((with_reducible refine gate_dst (N := 2) rfl ?_); refine Great.wpList_boxTo rfl 25 _ rfl _ rfl w.heap.size rfl (exmC a).toArray rfl ?_)
    | ((with_reducible refine gate_dst (N := 3) rfl ?_); refine Great.wpList_boxTo rfl 25 _ rfl _ rfl (w.heap.size + 1) (by simp only [World.size_alloc]) (exmC b).toArray rfl ?_))
  generalize ((w.alloc (.cells (exmC a).toArray 25)).alloc (.cells (exmC b).toArray 25)) = w1 at *
  have x0 := HX.out.c0
  have y0 := HY.out.c0
  have x1 := HX.out.c1
  have y1 := HY.out.c1
  have x2 := HX.out.c2
  have y2 := HY.out.c2
  have x3 := HX.out.c3
  have y3 := HY.out.c3
  have x4 := HX.out.c4
  have y4 := HY.out.c4
  have x5 := HX.out.c5
  have y5 := HY.out.c5
  have x6 := HX.out.c6
  have y6 := HY.out.c6
  rw [← e0] at y1
  rw [← e1] at y2
  rw [← e2] at y3
  go_wp2_with (go_at_call 16; with_reducible refine (H6.out _ HB.out).mono ?_; rintro e w2 ⟨rfl, hb2⟩; have n0_ := Aside0.mk (below_next HB.out hb2); have n1_ := Aside0.mk (HX.out.below hb2); have n2_ := Aside0.mk (HY.out.below hb2); clear HB HX HY hb2 x0 y0 x1 y1 x2 y2 x3 y3 x4 y4 x5 y5 x6 y6; have HB := n0_; have HX := n1_; have HY := n2_; clear n0_ n1_ n2_; have x0 := HX.out.c0; have y0 := HY.out.c0; have x1 := HX.out.c1; have y1 := HY.out.c1; have x2 := HX.out.c2; have y2 := HY.out.c2; have x3 := HX.out.c3; have y3 := HY.out.c3; have x4 := HX.out.c4; have y4 := HY.out.c4; have x5 := HX.out.c5; have y5 := HY.out.c5; have x6 := HX.out.c6; have y6 := HY.out.c6; rw [← e0] at y1; rw [← e1] at y2; rw [← e2] at y3)
  go_ret
  exact ⟨rfl, HB.out⟩
theorem sexm_any (w : World) (a b : Exm) (q6 : Bool) (h6 : CB w 16 #[a.attrs.v, b.attrs.v] q6) :
    Calls Tryz.prog 7 #[.agg (exmC a).toArray, .agg (exmC b).toArray] w fun e w' => e = .returned (.bool (decide (a.time = b.time) && decide (a.kind = b.kind) && decide (a.n = b.n) && stB a.span b.span && stB a.trace b.trace && stB a.unk b.unk && q6)) ∧ Below w.heap.size w w' := by
  by_cases e0 : a.time = b.time
  · skip
    by_cases e1 : a.kind = b.kind
    · skip
      by_cases e2 : a.n = b.n
      · skip
        cases e3 : (a.span.toList == b.span.toList)
        · have h := sexm_3 w a b e0 e1 e2 e3
          simp only [stB, e0, e1, e2, e3, decide_true, Bool.false_and, Bool.and_false]
          exact h
        · skip
          cases e4 : (a.trace.toList == b.trace.toList)
          · have h := sexm_4 w a b e0 e1 e2 e3 e4
            simp only [stB, e0, e1, e2, e3, e4, decide_true, Bool.false_and, Bool.and_false]
            exact h
          · skip
            cases e5 : (a.unk.toList == b.unk.toList)
            · have h := sexm_5 w a b e0 e1 e2 e3 e4 e5
              simp only [stB, e0, e1, e2, e3, e4, e5, decide_true, Bool.false_and, Bool.and_false]
              exact h
            · skip
              cases q6
              · have h := sexm_6 w a b e0 e1 e2 e3 e4 e5 h6
                simp only [stB, e0, e1, e2, e3, e4, e5, decide_true, Bool.and_false]
                exact h
              · have h := sexm_7 w a b e0 e1 e2 e3 e4 e5 h6
                simp only [stB, e0, e1, e2, e3, e4, e5, decide_true, Bool.and_true]
                exact h
      · have h := sexm_2 w a b e0 e1 e2
        simp only [stB, e0, e1, e2, decide_false, decide_true, Bool.false_and, Bool.and_false]
        exact h
    · have h := sexm_1 w a b e0 e1
      simp only [stB, e0, e1, decide_false, decide_true, Bool.false_and, Bool.and_false]
      exact h
  · have h := sexm_0 w a b e0
    simp only [stB, e0, decide_false, Bool.false_and]
    exact h
set_option maxHeartbeats 4000000 in
set_option maxRecDepth 100000 in
theorem rexm_0 (w : World) (a b : Exm) (h0 : CB w 17 #[a.attrs.v, b.attrs.v] false) :
    Calls Tryz.prog 8 #[.agg (exmC a).toArray, .agg (exmC b).toArray] w fun e w' => e = .returned (.bool false) ∧ Below w.heap.size w w' := by
  have hX : XEm ((w.alloc (.cells (exmC a).toArray 25)).alloc (.cells (exmC b).toArray 25)) w.heap.size a := XEm.below ⟨heap_alloc_new w _⟩ ((Below.refl _ _).alloc (Nat.le_refl _) _)
  have hY : XEm ((w.alloc (.cells (exmC a).toArray 25)).alloc (.cells (exmC b).toArray 25)) (w.heap.size + 1) b := ⟨by have h := heap_alloc_new (w.alloc (.cells (exmC a).toArray 25)) (.cells (exmC b).toArray 25); simp only [World.size_alloc] at h; exact h⟩
  have HB : Aside0 (Below w.heap.size w ((w.alloc (.cells (exmC a).toArray 25)).alloc (.cells (exmC b).toArray 25))) := ⟨((Below.refl _ _).alloc (Nat.le_refl _) _).alloc (by simp only [World.size_alloc]; omega) _⟩
  have HX := Aside0.mk hX
  have HY := Aside0.mk hY
  clear hX hY
  unfold CB Sl.v at h0
  have H0 := Aside0.mk h0
  clear h0
  go_enter Tryz.func8, Tryz.ntmps8
  go_upto_region 1 with (first
    | ((with_reducible refine gate_dst (N := 2) rfl ?_); refine Great.wpList_boxTo rfl 25 _ rfl _ rfl w.heap.size rfl (exmC a).toArray rfl ?_)
    | ((with_reducible refine gate_dst (N := 3) rfl ?_); refine Great.wpList_boxTo rfl 25 _ rfl _ rfl (w.heap.size + 1) (by simp only [World.size_alloc]) (exmC b).toArray rfl ?_))
  generalize ((w.alloc (.cells (exmC a).toArray 25)).alloc (.cells (exmC b).toArray 25)) = w1 at *
  have x0 := HX.out.c0
  have y0 := HY.out.c0
  have x1 := HX.out.c1
  have y1 := HY.out.c1
  have x2 := HX.out.c2
  have y2 := HY.out.c2
  have x3 := HX.out.c3
  have y3 := HY.out.c3
  have x4 := HX.out.c4
  have y4 := HY.out.c4
  have x5 := HX.out.c5
  have y5 := HY.out.c5
  have x6 := HX.out.c6
  have y6 := HY.out.c6
  go_wp2_with (go_at_call 17; with_reducible refine (H0.out _ HB.out).mono ?_; rintro e w2 ⟨rfl, hb2⟩; have n0_ := Aside0.mk (below_next HB.out hb2); have n1_ := Aside0.mk (HX.out.below hb2); have n2_ := Aside0.mk (HY.out.below hb2); clear HB HX HY hb2 x0 y0 x1 y1 x2 y2 x3 y3 x4 y4 x5 y5 x6 y6; have HB := n0_; have HX := n1_; have HY := n2_; clear n0_ n1_ n2_; have x0 := HX.out.c0; have y0 := HY.out.c0; have x1 := HX.out.c1; have y1 := HY.out.c1; have x2 := HX.out.c2; have y2 := HY.out.c2; have x3 := HX.out.c3; have y3 := HY.out.c3; have x4 := HX.out.c4; have y4 := HY.out.c4; have x5 := HX.out.c5; have y5 := HY.out.c5; have x6 := HX.out.c6; have y6 := HY.out.c6)
  go_ret
  exact ⟨rfl, HB.out⟩
set_option maxHeartbeats 4000000 in
set_option maxRecDepth 100000 in
theorem rexm_1 (w : World) (a b : Exm) (h0 : CB w 17 #[a.attrs.v, b.attrs.v] true) (e1 : ¬ a.time = b.time) :
    Calls Tryz.prog 8 #[.agg (exmC a).toArray, .agg (exmC b).toArray] w fun e w' => e = .returned (.bool false) ∧ Below w.heap.size w w' := by
  have hX : XEm ((w.alloc (.cells (exmC a).toArray 25)).alloc (.cells (exmC b).toArray 25)) w.heap.size a := XEm.below ⟨heap_alloc_new w _⟩ ((Below.refl _ _).alloc (Nat.le_refl _) _)
  have hY : XEm ((w.alloc (.cells (exmC a).toArray 25)).alloc (.cells (exmC b).toArray 25)) (w.heap.size + 1) b := ⟨by have h := heap_alloc_new (w.alloc (.cells (exmC a).toArray 25)) (.cells (exmC b).toArray 25); simp only [World.size_alloc] at h; exact h⟩
  have HB : Aside0 (Below w.heap.size w ((w.alloc (.cells (exmC a).toArray 25)).alloc (.cells (exmC b).toArray 25))) := ⟨((Below.refl _ _).alloc (Nat.le_refl _) _).alloc (by simp only [World.size_alloc]; omega) _⟩
  have HX := Aside0.mk hX
  have HY := Aside0.mk hY
  clear hX hY
  unfold CB Sl.v at h0
  have H0 := Aside0.mk h0
  clear h0
  go_enter Tryz.func8, Tryz.ntmps8
  go_upto_region 1 with (first
    | ((with_reducible refine gate_dst (N := 2) rfl ?_); refine Great.wpList_boxTo rfl 25 _ rfl _ rfl w.heap.size rfl (exmC a).toArray rfl ?_)
    | ((with_reducible refine gate_dst (N := 3) rfl ?_); refine Great.wpList_boxTo rfl 25 _ rfl _ rfl (w.heap.size + 1) (by simp only [World.size_alloc]) (exmC b).toArray rfl ?_))
  generalize ((w.alloc (.cells (exmC a).toArray 25)).alloc (.cells (exmC b).toArray 25)) = w1 at *
  have x0 := HX.out.c0
  have y0 := HY.out.c0
  have x1 := HX.out.c1
  have y1 := HY.out.c1
  have x2 := HX.out.c2
  have y2 := HY.out.c2
  have x3 := HX.out.c3
  have y3 := HY.out.c3
  have x4 := HX.out.c4
  have y4 := HY.out.c4
  have x5 := HX.out.c5
  have y5 := HY.out.c5
  have x6 := HX.out.c6
  have y6 := HY.out.c6
  have f1 : (a.time == b.time) = false := by rw [beq_eq_false_iff_ne]; exact e1
  go_wp2_with (go_at_call 17; with_reducible refine (H0.out _ HB.out).mono ?_; rintro e w2 ⟨rfl, hb2⟩; have n0_ := Aside0.mk (below_next HB.out hb2); have n1_ := Aside0.mk (HX.out.below hb2); have n2_ := Aside0.mk (HY.out.below hb2); clear HB HX HY hb2 x0 y0 x1 y1 x2 y2 x3 y3 x4 y4 x5 y5 x6 y6; have HB := n0_; have HX := n1_; have HY := n2_; clear n0_ n1_ n2_; have x0 := HX.out.c0; have y0 := HY.out.c0; have x1 := HX.out.c1; have y1 := HY.out.c1; have x2 := HX.out.c2; have y2 := HY.out.c2; have x3 := HX.out.c3; have y3 := HY.out.c3; have x4 := HX.out.c4; have y4 := HY.out.c4; have x5 := HX.out.c5; have y5 := HY.out.c5; have x6 := HX.out.c6; have y6 := HY.out.c6)
  go_ret
  exact ⟨rfl, HB.out⟩
set_option maxHeartbeats 4000000 in
set_option maxRecDepth 100000 in
theorem rexm_2 (w : World) (a b : Exm) (h0 : CB w 17 #[a.attrs.v, b.attrs.v] true) (e1 : a.time = b.time) (e2 : ¬ a.kind = b.kind) :
    Calls Tryz.prog 8 #[.agg (exmC a).toArray, .agg (exmC b).toArray] w fun e w' => e = .returned (.bool false) ∧ Below w.heap.size w w' := by
  have hX : XEm ((w.alloc (.cells (exmC a).toArray 25)).alloc (.cells (exmC b).toArray 25)) w.heap.size a := XEm.below ⟨heap_alloc_new w _⟩ ((Below.refl _ _).alloc (Nat.le_refl _) _)
  have hY : XEm ((w.alloc (.cells (exmC a).toArray 25)).alloc (.cells (exmC b).toArray 25)) (w.heap.size + 1) b := ⟨by have h := heap_alloc_new (w.alloc (.cells (exmC a).toArray 25)) (.cells (exmC b).toArray 25); simp only [World.size_alloc] at h; exact h⟩
  have HB : Aside0 (Below w.heap.size w ((w.alloc (.cells (exmC a).toArray 25)).alloc (.cells (exmC b).toArray 25))) := ⟨((Below.refl _ _).alloc (Nat.le_refl _) _).alloc (by simp only [World.size_alloc]; omega) _⟩
  have HX := Aside0.mk hX
  have HY := Aside0.mk hY
  clear hX hY
  unfold CB Sl.v at h0
  have H0 := Aside0.mk h0
  clear h0
  go_enter Tryz.func8, Tryz.ntmps8
  go_upto_region 1 with (first
    | ((with_reducible refine gate_dst (N := 2) rfl ?_); refine Great.wpList_boxTo rfl 25 _ rfl _ rfl w.heap.size rfl (exmC a).toArray rfl ?_)
    | ((with_reducible refine gate_dst (N := 3) rfl ?_); refine Great.wpList_boxTo rfl 25 _ rfl _ rfl (w.heap.size + 1) (by simp only [World.size_alloc]) (exmC b).toArray rfl ?_))
  generalize ((w.alloc (.cells (exmC a).toArray 25)).alloc (.cells (exmC b).toArray 25)) = w1 at *
  have x0 := HX.out.c0
  have y0 := HY.out.c0
  have x1 := HX.out.c1
  have y1 := HY.out.c1
  have x2 := HX.out.c2
  have y2 := HY.out.c2
  have x3 := HX.out.c3
  have y3 := HY.out.c3
  have x4 := HX.out.c4
  have y4 := HY.out.c4
  have x5 := HX.out.c5
  have y5 := HY.out.c5
  have x6 := HX.out.c6
  have y6 := HY.out.c6
  rw [← e1] at y1
  have f2 : (a.kind == b.kind) = false := by rw [beq_eq_false_iff_ne]; exact e2
  go_wp2_with (go_at_call 17; with_reducible refine (H0.out _ HB.out).mono ?_; rintro e w2 ⟨rfl, hb2⟩; have n0_ := Aside0.mk (below_next HB.out hb2); have n1_ := Aside0.mk (HX.out.below hb2); have n2_ := Aside0.mk (HY.out.below hb2); clear HB HX HY hb2 x0 y0 x1 y1 x2 y2 x3 y3 x4 y4 x5 y5 x6 y6; have HB := n0_; have HX := n1_; have HY := n2_; clear n0_ n1_ n2_; have x0 := HX.out.c0; have y0 := HY.out.c0; have x1 := HX.out.c1; have y1 := HY.out.c1; have x2 := HX.out.c2; have y2 := HY.out.c2; have x3 := HX.out.c3; have y3 := HY.out.c3; have x4 := HX.out.c4; have y4 := HY.out.c4; have x5 := HX.out.c5; have y5 := HY.out.c5; have x6 := HX.out.c6; have y6 := HY.out.c6; rw [← e1] at y1)
  go_ret
  exact ⟨rfl, HB.out⟩
set_option maxHeartbeats 4000000 in
set_option maxRecDepth 100000 in
theorem rexm_3 (w : World) (a b : Exm) (h0 : CB w 17 #[a.attrs.v, b.attrs.v] true) (e1 : a.time = b.time) (e2 : a.kind = b.kind) (e3 : ¬ a.n = b.n) :
    Calls Tryz.prog 8 #[.agg (exmC a).toArray, .agg (exmC b).toArray] w fun e w' => e = .returned (.bool false) ∧ Below w.heap.size w w' := by
  have hX : XEm ((w.alloc (.cells (exmC a).toArray 25)).alloc (.cells (exmC b).toArray 25)) w.heap.size a := XEm.below ⟨heap_alloc_new w _⟩ ((Below.refl _ _).alloc (Nat.le_refl _) _)
  have hY : XEm ((w.alloc (.cells (exmC a).toArray 25)).alloc (.cells (exmC b).toArray 25)) (w.heap.size + 1) b := ⟨by have h := heap_alloc_new (w.alloc (.cells (exmC a).toArray 25)) (.cells (exmC b).toArray 25); simp only [World.size_alloc] at h; exact h⟩
  have HB : Aside0 (Below w.heap.size w ((w.alloc (.cells (exmC a).toArray 25)).alloc (.cells (exmC b).toArray 25))) := ⟨((Below.refl _ _).alloc (Nat.le_refl _) _).alloc (by simp only [World.size_alloc]; omega) _⟩
  have HX := Aside0.mk hX
  have HY := Aside0.mk hY
  clear hX hY
  unfold CB Sl.v at h0
  have H0 := Aside0.mk h0
  clear h0
  go_enter Tryz.func8, Tryz.ntmps8
  go_upto_region 1 with (first
    | ((with_reducible refine gate_dst (N := 2) rfl ?_); refine Great.wpList_boxTo rfl 25 _ rfl _ rfl w.heap.size rfl (exmC a).toArray rfl ?_)
    | ((with_reducible refine gate_dst (N := 3) rfl ?_); refine Great.wpList_boxTo rfl 25 _ rfl _ rfl (w.heap.size + 1) (by simp only [World.size_alloc]) (exmC b).toArray rfl ?_))
  generalize ((w.alloc (.cells (exmC a).toArray 25)).alloc (.cells (exmC b).toArray 25)) = w1 at *
  have x0 := HX.out.c0
  have y0 := HY.out.c0
  have x1 := HX.out.c1
  have y1 := HY.out.c1
  have x2 := HX.out.c2
  have y2 := HY.out.c2
  have x3 := HX.out.c3
  have y3 := HY.out.c3
  have x4 := HX.out.c4
  have y4 := HY.out.c4
  have x5 := HX.out.c5
  have y5 := HY.out.c5
  have x6 := HX.out.c6
  have y6 := HY.out.c6
  rw [← e1] at y1
  rw [← e2] at y2
  have f3 : (a.n == b.n) = false := by rw [beq_eq_false_iff_ne]; exact e3
  go_wp2_with (go_at_call 17; with_reducible refine (H0.out _ HB.out).mono ?_; rintro e w2 ⟨rfl, hb2⟩; have n0_ := Aside0.mk (below_next HB.out hb2); have n1_ := Aside0.mk (HX.out.below hb2); have n2_ := Aside0.mk (HY.out.below hb2); clear HB HX HY hb2 x0 y0 x1 y1 x2 y2 x3 y3 x4 y4 x5 y5 x6 y6; have HB := n0_; have HX := n1_; have HY := n2_; clear n0_ n1_ n2_; have x0 := HX.out.c0; have y0 := HY.out.c0; have x1 := HX.out.c1; have y1 := HY.out.c1; have x2 := HX.out.c2; have y2 := HY.out.c2; have x3 := HX.out.c3; have y3 := HY.out.c3; have x4 := HX.out.c4; have y4 := HY.out.c4; have x5 := HX.out.c5; have y5 := HY.out.c5; have x6 := HX.out.c6; have y6 := HY.out.c6; rw [← e1] at y1; rw [← e2] at y2)
  go_ret
  exact ⟨rfl, HB.out⟩
set_option maxHeartbeats 4000000 in
set_option maxRecDepth 100000 in
theorem rexm_4 (w : World) (a b : Exm) (h0 : CB w 17 #[a.attrs.v, b.attrs.v] true) (e1 : a.time = b.time) (e2 : a.kind = b.kind) (e3 : a.n = b.n) (e4 : (a.span.toList == b.span.toList) = false) :
    Calls Tryz.prog 8 #[.agg (exmC a).toArray, .agg (exmC b).toArray] w fun e w' => e = .returned (.bool false) ∧ Below w.heap.size w w' := by
  have hX : XEm ((w.alloc (.cells (exmC a).toArray 25)).alloc (.cells (exmC b).toArray 25)) w.heap.size a := XEm.below ⟨heap_alloc_new w _⟩ ((Below.refl _ _).alloc (Nat.le_refl _) _)
  have hY : XEm ((w.alloc (.cells (exmC a).toArray 25)).alloc (.cells (exmC b).toArray 25)) (w.heap.size + 1) b := ⟨by have h := heap_alloc_new (w.alloc (.cells (exmC a).toArray 25)) (.cells (exmC b).toArray 25); simp only [World.size_alloc] at h; exact h⟩
  have HB : Aside0 (Below w.heap.size w ((w.alloc (.cells (exmC a).toArray 25)).alloc (.cells (exmC b).toArray 25))) := ⟨((Below.refl _ _).alloc (Nat.le_refl _) _).alloc (by simp only [World.size_alloc]; omega) _⟩
  have HX := Aside0.mk hX
  have HY := Aside0.mk hY
  clear hX hY
  unfold CB Sl.v at h0
  have H0 := Aside0.mk h0
  clear h0
  go_enter Tryz.func8, Tryz.ntmps8
  go_upto_region 1 with (first
    | ((with_reducible refine gate_dst (N := 2) rfl ?_); refine Great.wpList_boxTo rfl 25 _ rfl _ rfl w.heap.size rfl (exmC a).toArray rfl ?_)
    | ((with_reducible refine gate_dst (N := 3) rfl ?_); refine Great.wpList_boxTo rfl 25 _ rfl _ rfl (w.heap.size + 1) (by simp only [World.size_alloc]) (exmC b).toArray rfl ?_))
  generalize ((w.alloc (.cells (exmC a).toArray 25)).alloc (.cells (exmC b).toArray 25)) = w1 at *
  have x0 := HX.out.c0
  have y0 := HY.out.c0
  have x1 := HX.out.c1
  have y1 := HY.out.c1
  have x2 := HX.out.c2
  have y2 := HY.out.c2
  have x3 := HX.out.c3
  have y3 := HY.out.c3
  have x4 := HX.out.c4
  have y4 := HY.out.c4
  have x5 := HX.out.c5
  have y5 := HY.out.c5
  have x6 := HX.out.c6
  have y6 := HY.out.c6
  rw [← e1] at y1
  rw [← e2] at y2
  rw [← e3] at y3
  go_wp2_with (go_at_call 17; with_reducible refine (H0.out _ HB.out).mono ?_; rintro e w2 ⟨rfl, hb2⟩; have n0_ := Aside0.mk (below_next HB.out hb2); have n1_ := Aside0.mk (HX.out.below hb2); have n2_ := Aside0.mk (HY.out.below hb2); clear HB HX HY hb2 x0 y0 x1 y1 x2 y2 x3 y3 x4 y4 x5 y5 x6 y6; have HB := n0_; have HX := n1_; have HY := n2_; clear n0_ n1_ n2_; have x0 := HX.out.c0; have y0 := HY.out.c0; have x1 := HX.out.c1; have y1 := HY.out.c1; have x2 := HX.out.c2; have y2 := HY.out.c2; have x3 := HX.out.c3; have y3 := HY.out.c3; have x4 := HX.out.c4; have y4 := HY.out.c4; have x5 := HX.out.c5; have y5 := HY.out.c5; have x6 := HX.out.c6; have y6 := HY.out.c6; rw [← e1] at y1; rw [← e2] at y2; rw [← e3] at y3)
  go_ret
  exact ⟨rfl, HB.out⟩
set_option maxHeartbeats 4000000 in
set_option maxRecDepth 100000 in
theorem rexm_5 (w : World) (a b : Exm) (h0 : CB w 17 #[a.attrs.v, b.attrs.v] true) (e1 : a.time = b.time) (e2 : a.kind = b.kind) (e3 : a.n = b.n) (e4 : (a.span.toList == b.span.toList) = true) (e5 : (a.trace.toList == b.trace.toList) = false) :
    Calls Tryz.prog 8 #[.agg (exmC a).toArray, .agg (exmC b).toArray] w fun e w' => e = .returned (.bool false) ∧ Below w.heap.size w w' := by
  have hX : XEm ((w.alloc (.cells (exmC a).toArray 25)).alloc (.cells (exmC b).toArray 25)) w.heap.size a := XEm.below ⟨heap_alloc_new w _⟩ ((Below.refl _ _).alloc (Nat.le_refl _) _)
  have hY : XEm ((w.alloc (.cells (exmC a).toArray 25)).alloc (.cells (exmC b).toArray 25)) (w.heap.size + 1) b := ⟨by have h := heap_alloc_new (w.alloc (.cells (exmC a).toArray 25)) (.cells (exmC b).toArray 25); simp only [World.size_alloc] at h; exact h⟩
  have HB : Aside0 (Below w.heap.size w ((w.alloc (.cells (exmC a).toArray 25)).alloc (.cells (exmC b).toArray 25))) := ⟨((Below.refl _ _).alloc (Nat.le_refl _) _).alloc (by simp only [World.size_alloc]; omega) _⟩
  have HX := Aside0.mk hX
  have HY := Aside0.mk hY
  clear hX hY
  unfold CB Sl.v at h0
  have H0 := Aside0.mk h0
  clear h0
  go_enter Tryz.func8, Tryz.ntmps8
  go_upto_region 1 with (first
    | ((with_reducible refine gate_dst (N := 2) rfl ?_); refine Great.wpList_boxTo rfl 25 _ rfl _ rfl w.heap.size rfl (exmC a).toArray rfl ?_)
    | ((with_reducible refine gate_dst (N := 3) rfl ?_); refine Great.wpList_boxTo rfl 25 _ rfl _ rfl (w.heap.size + 1) (by simp only [World.size_alloc]) (exmC b).toArray rfl ?_))
  generalize ((w.alloc (.cells (exmC a).toArray 25)).alloc (.cells (exmC b).toArray 25)) = w1 at *
  have x0 := HX.out.c0
  have y0 := HY.out.c0
  have x1 := HX.out.c1
  have y1 := HY.out.c1
  have x2 := HX.out.c2
  have y2 := HY.out.c2
  have x3 := HX.out.c3
  have y3 := HY.out.c3
  have x4 := HX.out.c4
  have y4 := HY.out.c4
  have x5 := HX.out.c5
  have y5 := HY.out.c5
  have x6 := HX.out.c6
  have y6 := HY.out.c6
  rw [← e1] at y1
  rw [← e2] at y2
  rw [← e3] at y3
  go_wp2_with (go_at_call 17; with_reducible refine (H0.out _ HB.out).mono ?_; rintro e w2 ⟨rfl, hb2⟩; have n0_ := Aside0.mk (below_next HB.out hb2); have n1_ := Aside0.mk (HX.out.below hb2); have n2_ := Aside0.mk (HY.out.below hb2); clear HB HX HY hb2 x0 y0 x1 y1 x2 y2 x3 y3 x4 y4 x5 y5 x6 y6; have HB := n0_; have HX := n1_; have HY := n2_; clear n0_ n1_ n2_; have x0 := HX.out.c0; have y0 := HY.out.c0; have x1 := HX.out.c1; have y1 := HY.out.c1; have x2 := HX.out.c2; have y2 := HY.out.c2; have x3 := HX.out.c3; have y3 := HY.out.c3; have x4 := HX.out.c4; have y4 := HY.out.c4; have x5 := HX.out.c5; have y5 := HY.out.c5; have x6 := HX.out.c6; have y6 := HY.out.c6; rw [← e1] at y1; rw [← e2] at y2; rw [← e3] at y3)
  go_ret
  exact ⟨rfl, HB.out⟩
set_option maxHeartbeats 4000000 in
set_option maxRecDepth 100000 in
theorem rexm_6 (w : World) (a b : Exm) (h0 : CB w 17 #[a.attrs.v, b.attrs.v] true) (e1 : a.time = b.time) (e2 : a.kind = b.kind) (e3 : a.n = b.n) (e4 : (a.span.toList == b.span.toList) = true) (e5 : (a.trace.toList == b.trace.toList) = true) (e6 : (a.unk.toList == b.unk.toList) = false) :
    Calls Tryz.prog 8 #[.agg (exmC a).toArray, .agg (exmC b).toArray] w fun e w' => e = .returned (.bool false) ∧ Below w.heap.size w w' := by
  have hX : XEm ((w.alloc (.cells (exmC a).toArray 25)).alloc (.cells (exmC b).toArray 25)) w.heap.size a := XEm.below ⟨heap_alloc_new w _⟩ ((Below.refl _ _).alloc (Nat.le_refl _) _)
  have hY : XEm ((w.alloc (.cells (exmC a).toArray 25)).alloc (.cells (exmC b).toArray 25)) (w.heap.size + 1) b := ⟨by have h := heap_alloc_new (w.alloc (.cells (exmC a).toArray 25)) (.cells (exmC b).toArray 25); simp only [World.size_alloc] at h; exact h⟩
  have HB : Aside0 (Below w.heap.size w ((w.alloc (.cells (exmC a).toArray 25)).alloc (.cells (exmC b).toArray 25))) := ⟨((Below.refl _ _).alloc (Nat.le_refl _) _).alloc (by simp only [World.size_alloc]; omega) _⟩
  have HX := Aside0.mk hX
  have HY := Aside0.mk hY
  clear hX hY
  unfold CB Sl.v at h0
  have H0 := Aside0.mk h0
  clear h0
  go_enter Tryz.func8, Tryz.ntmps8
  go_upto_region 1 with (first
    | ((with_reducible refine gate_dst (N := 2) rfl ?_); refine Great.wpList_boxTo rfl 25 _ rfl _ rfl w.heap.size rfl (exmC a).toArray rfl ?_)
    | ((with_reducible refine gate_dst (N := 3) rfl ?_); refine Great.wpList_boxTo rfl 25 _ rfl _ rfl (w.heap.size + 1) (by simp only [World.size_alloc]) (exmC b).toArray rfl ?_))
  generalize ((w.alloc (.cells (exmC a).toArray 25)).alloc (.cells (exmC b).toArray 25)) = w1 at *
  have x0 := HX.out.c0
  have y0 := HY.out.c0
  have x1 := HX.out.c1
  have y1 := HY.out.c1
  have x2 := HX.out.c2
  have y2 := HY.out.c2
  have x3 := HX.out.c3
  have y3 := HY.out.c3
  have x4 := HX.out.c4
  have y4 := HY.out.c4
  have x5 := HX.out.c5
  have y5 := HY.out.c5
  have x6 := HX.out.c6
  have y6 := HY.out.c6
  rw [← e1] at y1
  rw [← e2] at y2
  rw [← e3] at y3
  go_wp2_with (go_at_call 17; with_reducible refine (H0.out _ HB.out).mono ?_; rintro e w2 ⟨rfl, hb2⟩; have n0_ := Aside0.mk (below_next HB.out hb2); have n1_ := Aside0.mk (HX.out.below hb2); have n2_ := Aside0.mk (HY.out.below hb2); clear HB HX HY hb2 x0 y0 x1 y1 x2 y2 x3 y3 x4 y4 x5 y5 x6 y6; have HB := n0_; have HX := n1_; have HY := n2_; clear n0_ n1_ n2_; have x0 := HX.out.c0; have y0 := HY.out.c0; have x1 := HX.out.c1; have y1 := HY.out.c1; have x2 := HX.out.c2; have y2 := HY.out.c2; have x3 := HX.out.c3; have y3 := HY.out.c3; have x4 := HX.out.c4; have y4 := HY.out.c4; have x5 := HX.out.c5; have y5 := HY.out.c5; have x6 := HX.out.c6; have y6 := HY.out.c6; rw [← e1] at y1; rw [← e2] at y2; rw [← e3] at y3)
  go_ret
  exact ⟨rfl, HB.out⟩
set_option maxHeartbeats 4000000 in
set_option maxRecDepth 100000 in
theorem rexm_7 (w : World) (a b : Exm) (h0 : CB w 17 #[a.attrs.v, b.attrs.v] true) (e1 : a.time = b.time) (e2 : a.kind = b.kind) (e3 : a.n = b.n) (e4 : (a.span.toList == b.span.toList) = true) (e5 : (a.trace.toList == b.trace.toList) = true) (e6 : (a.unk.toList == b.unk.toList) = true) :
    Calls Tryz.prog 8 #[.agg (exmC a).toArray, .agg (exmC b).toArray] w fun e w' => e = .returned (.bool true) ∧ Below w.heap.size w w' := by
  have hX : XEm ((w.alloc (.cells (exmC a).toArray 25)).alloc (.cells (exmC b).toArray 25)) w.heap.size a := XEm.below ⟨heap_alloc_new w _⟩ ((Below.refl _ _).alloc (Nat.le_refl _) _)
  have hY : XEm ((w.alloc (.cells (exmC a).toArray 25)).alloc (.cells (exmC b).toArray 25)) (w.heap.size + 1) b := ⟨by have h := heap_alloc_new (w.alloc (.cells (exmC a).toArray 25)) (.cells (exmC b).toArray 25); simp only [World.size_alloc] at h; exact h⟩
  have HB : Aside0 (Below w.heap.size w ((w.alloc (.cells (exmC a).toArray 25)).alloc (.cells (exmC b).toArray 25))) := ⟨((Below.refl _ _).alloc (Nat.le_refl _) _).alloc (by simp only [World.size_alloc]; omega) _⟩
  have HX := Aside0.mk hX
  have HY := Aside0.mk hY
  clear hX hY
  unfold CB Sl.v at h0
  have H0 := Aside0.mk h0
  clear h0
  go_enter Tryz.func8, Tryz.ntmps8
  go_upto_region 1 with (first
    | ((with_reducible refine gate_dst (N := 2) rfl ?_); refine Great.wpList_boxTo rfl 25 _ rfl _ rfl w.heap.size rfl (exmC a).toArray rfl ?_)
    | ((with_reducible refine gate_dst (N := 3) rfl ?_); refine Great.wpList_boxTo rfl 25 _ rfl _ rfl (w.heap.size + 1) (by simp only [World.size_alloc]) (exmC b).toArray rfl ?_))
  generalize ((w.alloc (.cells (exmC a).toArray 25)).alloc (.cells (exmC b).toArray 25)) = w1 at *
  have x0 := HX.out.c0
  have y0 := HY.out.c0
  have x1 := HX.out.c1
  have y1 := HY.out.c1
  have x2 := HX.out.c2
  have y2 := HY.out.c2
  have x3 := HX.out.c3
  have y3 := HY.out.c3
  have x4 := HX.out.c4
  have y4 := HY.out.c4
  have x5 := HX.out.c5
  have y5 := HY.out.c5
  have x6 := HX.out.c6
  have y6 := HY.out.c6
  rw [← e1] at y1
  rw [← e2] at y2
  rw [← e3] at y3
  go_wp2_with (go_at_call 17; with_reducible refine (H0.out _ HB.out).mono ?_; rintro e w2 ⟨rfl, hb2⟩; have n0_ := Aside0.mk (below_next HB.out hb2); have n1_ := Aside0.mk (HX.out.below hb2); have n2_ := Aside0.mk (HY.out.below hb2); clear HB HX HY hb2 x0 y0 x1 y1 x2 y2 x3 y3 x4 y4 x5 y5 x6 y6; have HB := n0_; have HX := n1_; have HY := n2_; clear n0_ n1_ n2_; have x0 := HX.out.c0; have y0 := HY.out.c0; have x1 := HX.out.c1; have y1 := HY.out.c1; have x2 := HX.out.c2; have y2 := HY.out.c2; have x3 := HX.out.c3; have y3 := HY.out.c3; have x4 := HX.out.c4; have y4 := HY.out.c4; have x5 := HX.out.c5; have y5 := HY.out.c5; have x6 := HX.out.c6; have y6 := HY.out.c6; rw [← e1] at y1; rw [← e2] at y2; rw [← e3] at y3)
  go_ret
  exact ⟨rfl, HB.out⟩
theorem rexm_any (w : World) (a b : Exm) (q0 : Bool) (h0 : CB w 17 #[a.attrs.v, b.attrs.v] q0) :
    Calls Tryz.prog 8 #[.agg (exmC a).toArray, .agg (exmC b).toArray] w fun e w' => e = .returned (.bool (q0 && decide (a.time = b.time) && decide (a.kind = b.kind) && decide (a.n = b.n) && stB a.span b.span && stB a.trace b.trace && stB a.unk b.unk)) ∧ Below w.heap.size w w' := by
  cases q0
  · have h := rexm_0 w a b h0
    simp only [stB, Bool.false_and]
    exact h
  · skip
    by_cases e1 : a.time = b.time
    · skip
      by_cases e2 : a.kind = b.kind
      · skip
        by_cases e3 : a.n = b.n
        · skip
          cases e4 : (a.span.toList == b.span.toList)
          · have h := rexm_4 w a b h0 e1 e2 e3 e4
            simp only [stB, e1, e2, e3, e4, decide_true, Bool.false_and, Bool.and_false]
            exact h
          · skip
            cases e5 : (a.trace.toList == b.trace.toList)
            · have h := rexm_5 w a b h0 e1 e2 e3 e4 e5
              simp only [stB, e1, e2, e3, e4, e5, decide_true, Bool.false_and, Bool.and_false]
              exact h
            · skip
              cases e6 : (a.unk.toList == b.unk.toList)
              · have h := rexm_6 w a b h0 e1 e2 e3 e4 e5 e6
                simp only [stB, e1, e2, e3, e4, e5, e6, decide_true, Bool.and_false]
                exact h
              · have h := rexm_7 w a b h0 e1 e2 e3 e4 e5 e6
                simp only [stB, e1, e2, e3, e4, e5, e6, decide_true, Bool.and_true]
                exact h
        · have h := rexm_3 w a b h0 e1 e2 e3
          simp only [stB, e1, e2, e3, decide_false, decide_true, Bool.false_and, Bool.and_false]
          exact h
      · have h := rexm_2 w a b h0 e1 e2
        simp only [stB, e1, e2, decide_false, decide_true, Bool.false_and, Bool.and_false]
        exact h
    · have h := rexm_1 w a b h0 e1
      simp only [stB, e1, decide_false, Bool.false_and, Bool.and_false]
      exact h
end Go.Proofs.YtnghlkbmfhkmoaaGreatDoor
