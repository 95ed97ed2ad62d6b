import Derived.Test.YtnghlkbmfhkmoaaGreatDoorMvjaqbpvn
import Derived.Test.YtnghlkbmfhkmoaaGreatDoorMqazhvmzc
import Derived.Test.YtnghlkbmfhkmoaaGreatDoorMmmsfdqrm
import Derived.Great.Walk
namespace Go.Proofs.YtnghlkbmfhkmoaaGreatDoor
open Go.RowKit Go.Proofs.YtnghlkbmfhkmoaaGreatDoorW.PrintWords Go.Proofs.YtnghlkbmfhkmoaaGreatDoorW.PrintLast Go.Proofs.YtnghlkbmfhkmoaaGreatDoorW.PrintMore Hy
/-! ### hygref8.Value -/
set_option maxHeartbeats 4000000 in
set_option maxRecDepth 100000 in
theorem rw_1 (W w : World) (x : Vl) (f : Nat) (hk : x.kind = 1) (_hW : Below W.heap.size W w) (hx : VlOk W x) (hs : SmV W (f + 1) x) (hgd : GdV W (f + 1) x) (_HV : RW_ W f) (_HPK : RPK W f) :
    Calls Tryz.prog 77 #[.agg (vlC x).toArray] w fun e w' => e = .returned (.string (bytV W (f + 1) x)) ∧ Below w.heap.size w w' := by
  obtain ⟨s1, s2, s3, hsL, hsM⟩ := hs.of
  have hgo := hgd.of
  have hw := hs.2
  have hR := bytV_le W (f + 1) x hx hs
  have hP : kindB x (catB (fun y => putB 1 (bytV W f y)) (vls W x.l)) (catB (fun y => putB 1 (keyB (bytV W f) y)) (kvs W x.m)) = putB 1 x.s := by unfold kindB; rw [if_pos (.inl hk), hk]
  have hE : bytV W (f + 1) x = putB 1 x.s ++ x.unk := by
    show kindB x _ _ ++ x.unk = _
    rw [hP]
  rw [hE, ByteArray.size_append] at hR
  have hn0 := hx.n.1
  have hn1 := hx.n.2
  obtain ⟨Q, hQ⟩ : ∃ Q, (putB 1 x.s : ByteArray) = Q := ⟨_, rfl⟩
  rw [hQ] at hE hR
  rw [hE]
  have b9 : Q.size + x.unk.size ≤ 9223372036854775807 := by omega
  have A4 := Aside0.mk (fun w2 => rbytes_any 1 x.s w2 (by omega))
  unfold putB at hQ
  rw [hQ] at A4
  have HK := Aside0.mk hk
  clear _hW hx hs hgd _HV _HPK hw hR hP hE hQ hn0 hn1 s1 s2 s3 hsL hsM hgo hk
  go_enter Tryz.func77, Tryz.ntmps77
  go_upto_region 1 with (with_reducible refine gate_dst (N := 1) rfl ?_; refine Great.wpList_boxTo rfl 57 _ rfl _ rfl w.heap.size rfl (vlC x).toArray rfl ?_)
  have HX : Aside0 (XVl (w.alloc (.cells (vlC x).toArray 57)) w.heap.size x) := ⟨⟨heap_alloc_new w _⟩⟩
  have HB : Aside0 (Below w.heap.size w (w.alloc (.cells (vlC x).toArray 57))) := ⟨(Below.refl _ _).alloc (Nat.le_refl _) _⟩
  generalize (w.alloc (.cells (vlC x).toArray 57)) = w1 at *
  generalize hg : w.heap.size = g at HX ⊢
  clear hg
  have x0 : w1.cell? ⟨g, 0, none⟩ = some (.int .i64 1) := HK.out ▸ HX.out.c0
  have x1 := HX.out.c1
  have x2 := HX.out.c2
  have x3 := HX.out.c3
  have x4 := HX.out.c4
  have x5 := HX.out.c5
  have x6 := HX.out.c6
  have x7 := HX.out.c7
  go_wp2_with ((go_at_call 55; with_reducible refine (A4.out _).mono ?_; rintro e wn ⟨rfl, hb2⟩; have n0_ := Aside0.mk (below_next HB.out hb2); have n1_ : Aside0 (XVl wn g x) := ⟨HX.out.below hb2⟩; clear HB HX hb2 x0 x1 x2 x3 x4 x5 x6 x7; have HB := n0_; have HX := n1_; clear n0_ n1_; have x0 : wn.cell? ⟨g, 0, none⟩ = some (.int .i64 1) := HK.out ▸ HX.out.c0; have x1 := HX.out.c1; have x2 := HX.out.c2; have x3 := HX.out.c3; have x4 := HX.out.c4; have x5 := HX.out.c5; have x6 := HX.out.c6; have x7 := HX.out.c7))
  go_ret
  exact ⟨rfl, HB.out⟩
set_option maxHeartbeats 4000000 in
set_option maxRecDepth 100000 in
theorem rw_7 (W w : World) (x : Vl) (f : Nat) (hk : x.kind = 7) (_hW : Below W.heap.size W w) (hx : VlOk W x) (hs : SmV W (f + 1) x) (hgd : GdV W (f + 1) x) (_HV : RW_ W f) (_HPK : RPK W f) :
    Calls Tryz.prog 77 #[.agg (vlC x).toArray] w fun e w' => e = .returned (.string (bytV W (f + 1) x)) ∧ Below w.heap.size w w' := by
  obtain ⟨s1, s2, s3, hsL, hsM⟩ := hs.of
  have hgo := hgd.of
  have hw := hs.2
  have hR := bytV_le W (f + 1) x hx hs
  have hP : kindB x (catB (fun y => putB 1 (bytV W f y)) (vls W x.l)) (catB (fun y => putB 1 (keyB (bytV W f) y)) (kvs W x.m)) = putB 7 x.s := by unfold kindB; rw [if_pos (.inr hk), hk]
  have hE : bytV W (f + 1) x = putB 7 x.s ++ x.unk := by
    show kindB x _ _ ++ x.unk = _
    rw [hP]
  rw [hE, ByteArray.size_append] at hR
  have hn0 := hx.n.1
  have hn1 := hx.n.2
  obtain ⟨Q, hQ⟩ : ∃ Q, (putB 7 x.s : ByteArray) = Q := ⟨_, rfl⟩
  rw [hQ] at hE hR
  rw [hE]
  have b9 : Q.size + x.unk.size ≤ 9223372036854775807 := by omega
  have A4 := Aside0.mk (fun w2 => rbytes_any 7 x.s w2 (by omega))
  unfold putB at hQ
  rw [hQ] at A4
  have HK := Aside0.mk hk
  clear _hW hx hs hgd _HV _HPK hw hR hP hE hQ hn0 hn1 s1 s2 s3 hsL hsM hgo hk
  go_enter Tryz.func77, Tryz.ntmps77
  go_upto_region 1 with (with_reducible refine gate_dst (N := 1) rfl ?_; refine Great.wpList_boxTo rfl 57 _ rfl _ rfl w.heap.size rfl (vlC x).toArray rfl ?_)
  have HX : Aside0 (XVl (w.alloc (.cells (vlC x).toArray 57)) w.heap.size x) := ⟨⟨heap_alloc_new w _⟩⟩
  have HB : Aside0 (Below w.heap.size w (w.alloc (.cells (vlC x).toArray 57))) := ⟨(Below.refl _ _).alloc (Nat.le_refl _) _⟩
  generalize (w.alloc (.cells (vlC x).toArray 57)) = w1 at *
  generalize hg : w.heap.size = g at HX ⊢
  clear hg
  have x0 : w1.cell? ⟨g, 0, none⟩ = some (.int .i64 7) := HK.out ▸ HX.out.c0
  have x1 := HX.out.c1
  have x2 := HX.out.c2
  have x3 := HX.out.c3
  have x4 := HX.out.c4
  have x5 := HX.out.c5
  have x6 := HX.out.c6
  have x7 := HX.out.c7
  go_wp2_with ((go_at_call 55; with_reducible refine (A4.out _).mono ?_; rintro e wn ⟨rfl, hb2⟩; have n0_ := Aside0.mk (below_next HB.out hb2); have n1_ : Aside0 (XVl wn g x) := ⟨HX.out.below hb2⟩; clear HB HX hb2 x0 x1 x2 x3 x4 x5 x6 x7; have HB := n0_; have HX := n1_; clear n0_ n1_; have x0 : wn.cell? ⟨g, 0, none⟩ = some (.int .i64 7) := HK.out ▸ HX.out.c0; have x1 := HX.out.c1; have x2 := HX.out.c2; have x3 := HX.out.c3; have x4 := HX.out.c4; have x5 := HX.out.c5; have x6 := HX.out.c6; have x7 := HX.out.c7))
  go_ret
  exact ⟨rfl, HB.out⟩
set_option maxHeartbeats 4000000 in
set_option maxRecDepth 100000 in
theorem rw_2t (W w : World) (x : Vl) (f : Nat) (hk : x.kind = 2) (hbb : x.b = true) (_hW : Below W.heap.size W w) (hx : VlOk W x) (hs : SmV W (f + 1) x) (hgd : GdV W (f + 1) x) (_HV : RW_ W f) (_HPK : RPK W f) :
    Calls Tryz.prog 77 #[.agg (vlC x).toArray] w fun e w' => e = .returned (.string (bytV W (f + 1) x)) ∧ Below w.heap.size w w' := by
  obtain ⟨s1, s2, s3, hsL, hsM⟩ := hs.of
  have hgo := hgd.of
  have hw := hs.2
  have hR := bytV_le W (f + 1) x hx hs
  have hP : kindB x (catB (fun y => putB 1 (bytV W f y)) (vls W x.l)) (catB (fun y => putB 1 (keyB (bytV W f) y)) (kvs W x.m)) = recB 2 0 (put 1) := by unfold kindB; rw [if_neg (by omega), if_pos hk, hbb]; rfl
  have hE : bytV W (f + 1) x = recB 2 0 (put 1) ++ x.unk := by
    show kindB x _ _ ++ x.unk = _
    rw [hP]
  rw [hE, ByteArray.size_append] at hR
  have hn0 := hx.n.1
  have hn1 := hx.n.2
  obtain ⟨Q, hQ⟩ : ∃ Q, (recB 2 0 (put 1) : ByteArray) = Q := ⟨_, rfl⟩
  rw [hQ] at hE hR
  rw [hE]
  have b9 : Q.size + x.unk.size ≤ 9223372036854775807 := by omega
  have A4 := Aside0.mk (fun w2 => rnum_any 2 1 w2 (by omega) (by omega))
  skip
  rw [hQ] at A4
  have HK := Aside0.mk hk
  have HBB := Aside0.mk hbb
  clear _hW hx hs hgd _HV _HPK hw hR hP hE hQ hn0 hn1 s1 s2 s3 hsL hsM hgo hk hbb
  go_enter Tryz.func77, Tryz.ntmps77
  go_upto_region 1 with (with_reducible refine gate_dst (N := 1) rfl ?_; refine Great.wpList_boxTo rfl 57 _ rfl _ rfl w.heap.size rfl (vlC x).toArray rfl ?_)
  have HX : Aside0 (XVl (w.alloc (.cells (vlC x).toArray 57)) w.heap.size x) := ⟨⟨heap_alloc_new w _⟩⟩
  have HB : Aside0 (Below w.heap.size w (w.alloc (.cells (vlC x).toArray 57))) := ⟨(Below.refl _ _).alloc (Nat.le_refl _) _⟩
  generalize (w.alloc (.cells (vlC x).toArray 57)) = w1 at *
  generalize hg : w.heap.size = g at HX ⊢
  clear hg
  have x0 : w1.cell? ⟨g, 0, none⟩ = some (.int .i64 2) := HK.out ▸ HX.out.c0
  have x1 := HX.out.c1
  have x2 : w1.cell? ⟨g, 2, none⟩ = some (.bool true) := HBB.out ▸ HX.out.c2
  have x3 := HX.out.c3
  have x4 := HX.out.c4
  have x5 := HX.out.c5
  have x6 := HX.out.c6
  have x7 := HX.out.c7
  go_wp2_with ((go_at_call 99; with_reducible refine (A4.out _).mono ?_; rintro e wn ⟨rfl, hb2⟩; have n0_ := Aside0.mk (below_next HB.out hb2); have n1_ : Aside0 (XVl wn g x) := ⟨HX.out.below hb2⟩; clear HB HX hb2 x0 x1 x2 x3 x4 x5 x6 x7; have HB := n0_; have HX := n1_; clear n0_ n1_; have x0 : wn.cell? ⟨g, 0, none⟩ = some (.int .i64 2) := HK.out ▸ HX.out.c0; have x1 := HX.out.c1; have x2 : wn.cell? ⟨g, 2, none⟩ = some (.bool true) := HBB.out ▸ HX.out.c2; have x3 := HX.out.c3; have x4 := HX.out.c4; have x5 := HX.out.c5; have x6 := HX.out.c6; have x7 := HX.out.c7))
  go_ret
  exact ⟨rfl, HB.out⟩
set_option maxHeartbeats 4000000 in
set_option maxRecDepth 100000 in
theorem rw_2f (W w : World) (x : Vl) (f : Nat) (hk : x.kind = 2) (hbb : x.b = false) (_hW : Below W.heap.size W w) (hx : VlOk W x) (hs : SmV W (f + 1) x) (hgd : GdV W (f + 1) x) (_HV : RW_ W f) (_HPK : RPK W f) :
    Calls Tryz.prog 77 #[.agg (vlC x).toArray] w fun e w' => e = .returned (.string (bytV W (f + 1) x)) ∧ Below w.heap.size w w' := by
  obtain ⟨s1, s2, s3, hsL, hsM⟩ := hs.of
  have hgo := hgd.of
  have hw := hs.2
  have hR := bytV_le W (f + 1) x hx hs
  have hP : kindB x (catB (fun y => putB 1 (bytV W f y)) (vls W x.l)) (catB (fun y => putB 1 (keyB (bytV W f) y)) (kvs W x.m)) = recB 2 0 (put 0) := by unfold kindB; rw [if_neg (by omega), if_pos hk, hbb, bareB_n hgo.1 hk]; rfl
  have hE : bytV W (f + 1) x = recB 2 0 (put 0) ++ x.unk := by
    show kindB x _ _ ++ x.unk = _
    rw [hP]
  rw [hE, ByteArray.size_append] at hR
  have hn0 := hx.n.1
  have hn1 := hx.n.2
  obtain ⟨Q, hQ⟩ : ∃ Q, (recB 2 0 (put 0) : ByteArray) = Q := ⟨_, rfl⟩
  rw [hQ] at hE hR
  rw [hE]
  have b9 : Q.size + x.unk.size ≤ 9223372036854775807 := by omega
  have A4 := Aside0.mk (fun w2 => rnum_any 2 0 w2 (by omega) (by omega))
  skip
  rw [hQ] at A4
  have HK := Aside0.mk hk
  have HBB := Aside0.mk hbb
  clear _hW hx hs hgd _HV _HPK hw hR hP hE hQ hn0 hn1 s1 s2 s3 hsL hsM hgo hk hbb
  go_enter Tryz.func77, Tryz.ntmps77
  go_upto_region 1 with (with_reducible refine gate_dst (N := 1) rfl ?_; refine Great.wpList_boxTo rfl 57 _ rfl _ rfl w.heap.size rfl (vlC x).toArray rfl ?_)
  have HX : Aside0 (XVl (w.alloc (.cells (vlC x).toArray 57)) w.heap.size x) := ⟨⟨heap_alloc_new w _⟩⟩
  have HB : Aside0 (Below w.heap.size w (w.alloc (.cells (vlC x).toArray 57))) := ⟨(Below.refl _ _).alloc (Nat.le_refl _) _⟩
  generalize (w.alloc (.cells (vlC x).toArray 57)) = w1 at *
  generalize hg : w.heap.size = g at HX ⊢
  clear hg
  have x0 : w1.cell? ⟨g, 0, none⟩ = some (.int .i64 2) := HK.out ▸ HX.out.c0
  have x1 := HX.out.c1
  have x2 : w1.cell? ⟨g, 2, none⟩ = some (.bool false) := HBB.out ▸ HX.out.c2
  have x3 := HX.out.c3
  have x4 := HX.out.c4
  have x5 := HX.out.c5
  have x6 := HX.out.c6
  have x7 := HX.out.c7
  go_wp2_with ((go_at_call 99; with_reducible refine (A4.out _).mono ?_; rintro e wn ⟨rfl, hb2⟩; have n0_ := Aside0.mk (below_next HB.out hb2); have n1_ : Aside0 (XVl wn g x) := ⟨HX.out.below hb2⟩; clear HB HX hb2 x0 x1 x2 x3 x4 x5 x6 x7; have HB := n0_; have HX := n1_; clear n0_ n1_; have x0 : wn.cell? ⟨g, 0, none⟩ = some (.int .i64 2) := HK.out ▸ HX.out.c0; have x1 := HX.out.c1; have x2 : wn.cell? ⟨g, 2, none⟩ = some (.bool false) := HBB.out ▸ HX.out.c2; have x3 := HX.out.c3; have x4 := HX.out.c4; have x5 := HX.out.c5; have x6 := HX.out.c6; have x7 := HX.out.c7))
  go_ret
  exact ⟨rfl, HB.out⟩
set_option maxHeartbeats 4000000 in
set_option maxRecDepth 100000 in
theorem rw_3 (W w : World) (x : Vl) (f : Nat) (hk : x.kind = 3) (_hW : Below W.heap.size W w) (hx : VlOk W x) (hs : SmV W (f + 1) x) (hgd : GdV W (f + 1) x) (_HV : RW_ W f) (_HPK : RPK W f) :
    Calls Tryz.prog 77 #[.agg (vlC x).toArray] w fun e w' => e = .returned (.string (bytV W (f + 1) x)) ∧ Below w.heap.size w w' := by
  obtain ⟨s1, s2, s3, hsL, hsM⟩ := hs.of
  have hgo := hgd.of
  have hw := hs.2
  have hR := bytV_le W (f + 1) x hx hs
  have hP : kindB x (catB (fun y => putB 1 (bytV W f y)) (vls W x.l)) (catB (fun y => putB 1 (keyB (bytV W f) y)) (kvs W x.m)) = recB 3 0 (put x.n) := by unfold kindB; rw [if_neg (by omega), if_neg (by omega), if_pos hk]
  have hE : bytV W (f + 1) x = recB 3 0 (put x.n) ++ x.unk := by
    show kindB x _ _ ++ x.unk = _
    rw [hP]
  rw [hE, ByteArray.size_append] at hR
  have hn0 := hx.n.1
  have hn1 := hx.n.2
  obtain ⟨Q, hQ⟩ : ∃ Q, (recB 3 0 (put x.n) : ByteArray) = Q := ⟨_, rfl⟩
  rw [hQ] at hE hR
  rw [hE]
  have b9 : Q.size + x.unk.size ≤ 9223372036854775807 := by omega
  have A4 := Aside0.mk (fun w2 => rnum_any 3 x.n w2 (by omega) (by omega))
  skip
  rw [hQ] at A4
  have HK := Aside0.mk hk
  clear _hW hx hs hgd _HV _HPK hw hR hP hE hQ hn0 hn1 s1 s2 s3 hsL hsM hgo hk
  go_enter Tryz.func77, Tryz.ntmps77
  go_upto_region 1 with (with_reducible refine gate_dst (N := 1) rfl ?_; refine Great.wpList_boxTo rfl 57 _ rfl _ rfl w.heap.size rfl (vlC x).toArray rfl ?_)
  have HX : Aside0 (XVl (w.alloc (.cells (vlC x).toArray 57)) w.heap.size x) := ⟨⟨heap_alloc_new w _⟩⟩
  have HB : Aside0 (Below w.heap.size w (w.alloc (.cells (vlC x).toArray 57))) := ⟨(Below.refl _ _).alloc (Nat.le_refl _) _⟩
  generalize (w.alloc (.cells (vlC x).toArray 57)) = w1 at *
  generalize hg : w.heap.size = g at HX ⊢
  clear hg
  have x0 : w1.cell? ⟨g, 0, none⟩ = some (.int .i64 3) := HK.out ▸ HX.out.c0
  have x1 := HX.out.c1
  have x2 := HX.out.c2
  have x3 := HX.out.c3
  have x4 := HX.out.c4
  have x5 := HX.out.c5
  have x6 := HX.out.c6
  have x7 := HX.out.c7
  go_wp2_with ((go_at_call 99; with_reducible refine (A4.out _).mono ?_; rintro e wn ⟨rfl, hb2⟩; have n0_ := Aside0.mk (below_next HB.out hb2); have n1_ : Aside0 (XVl wn g x) := ⟨HX.out.below hb2⟩; clear HB HX hb2 x0 x1 x2 x3 x4 x5 x6 x7; have HB := n0_; have HX := n1_; clear n0_ n1_; have x0 : wn.cell? ⟨g, 0, none⟩ = some (.int .i64 3) := HK.out ▸ HX.out.c0; have x1 := HX.out.c1; have x2 := HX.out.c2; have x3 := HX.out.c3; have x4 := HX.out.c4; have x5 := HX.out.c5; have x6 := HX.out.c6; have x7 := HX.out.c7))
  go_ret
  exact ⟨rfl, HB.out⟩
set_option maxHeartbeats 4000000 in
set_option maxRecDepth 100000 in
theorem rw_4 (W w : World) (x : Vl) (f : Nat) (hk : x.kind = 4) (_hW : Below W.heap.size W w) (hx : VlOk W x) (hs : SmV W (f + 1) x) (hgd : GdV W (f + 1) x) (_HV : RW_ W f) (_HPK : RPK W f) :
    Calls Tryz.prog 77 #[.agg (vlC x).toArray] w fun e w' => e = .returned (.string (bytV W (f + 1) x)) ∧ Below w.heap.size w w' := by
  obtain ⟨s1, s2, s3, hsL, hsM⟩ := hs.of
  have hgo := hgd.of
  have hw := hs.2
  have hR := bytV_le W (f + 1) x hx hs
  have hP : kindB x (catB (fun y => putB 1 (bytV W f y)) (vls W x.l)) (catB (fun y => putB 1 (keyB (bytV W f) y)) (kvs W x.m)) = recB 4 1 (st (leL 8 x.n.toNat)) := by unfold kindB; rw [if_neg (by omega), if_neg (by omega), if_neg (by omega), if_pos hk]
  have hE : bytV W (f + 1) x = recB 4 1 (st (leL 8 x.n.toNat)) ++ x.unk := by
    show kindB x _ _ ++ x.unk = _
    rw [hP]
  rw [hE, ByteArray.size_append] at hR
  have hn0 := hx.n.1
  have hn1 := hx.n.2
  obtain ⟨Q, hQ⟩ : ∃ Q, (recB 4 1 (st (leL 8 x.n.toNat)) : ByteArray) = Q := ⟨_, rfl⟩
  rw [hQ] at hE hR
  rw [hE]
  have b9 : Q.size + x.unk.size ≤ 9223372036854775807 := by omega
  have A4 := Aside0.mk (fun w2 => rfixed_any 4 x.n.toNat w2)
  rw [Int.toNat_of_nonneg hn0] at A4
  skip
  rw [hQ] at A4
  have HK := Aside0.mk hk
  clear _hW hx hs hgd _HV _HPK hw hR hP hE hQ hn0 hn1 s1 s2 s3 hsL hsM hgo hk
  go_enter Tryz.func77, Tryz.ntmps77
  go_upto_region 1 with (with_reducible refine gate_dst (N := 1) rfl ?_; refine Great.wpList_boxTo rfl 57 _ rfl _ rfl w.heap.size rfl (vlC x).toArray rfl ?_)
  have HX : Aside0 (XVl (w.alloc (.cells (vlC x).toArray 57)) w.heap.size x) := ⟨⟨heap_alloc_new w _⟩⟩
  have HB : Aside0 (Below w.heap.size w (w.alloc (.cells (vlC x).toArray 57))) := ⟨(Below.refl _ _).alloc (Nat.le_refl _) _⟩
  generalize (w.alloc (.cells (vlC x).toArray 57)) = w1 at *
  generalize hg : w.heap.size = g at HX ⊢
  clear hg
  have x0 : w1.cell? ⟨g, 0, none⟩ = some (.int .i64 4) := HK.out ▸ HX.out.c0
  have x1 := HX.out.c1
  have x2 := HX.out.c2
  have x3 := HX.out.c3
  have x4 := HX.out.c4
  have x5 := HX.out.c5
  have x6 := HX.out.c6
  have x7 := HX.out.c7
  go_wp2_with ((go_at_call 34; with_reducible refine (A4.out _).mono ?_; rintro e wn ⟨rfl, hb2⟩; have n0_ := Aside0.mk (below_next HB.out hb2); have n1_ : Aside0 (XVl wn g x) := ⟨HX.out.below hb2⟩; clear HB HX hb2 x0 x1 x2 x3 x4 x5 x6 x7; have HB := n0_; have HX := n1_; clear n0_ n1_; have x0 : wn.cell? ⟨g, 0, none⟩ = some (.int .i64 4) := HK.out ▸ HX.out.c0; have x1 := HX.out.c1; have x2 := HX.out.c2; have x3 := HX.out.c3; have x4 := HX.out.c4; have x5 := HX.out.c5; have x6 := HX.out.c6; have x7 := HX.out.c7))
  go_ret
  exact ⟨rfl, HB.out⟩
set_option maxHeartbeats 4000000 in
set_option maxRecDepth 100000 in
theorem rw_5 (W w : World) (x : Vl) (f : Nat) (hk : x.kind = 5) (hW : Below W.heap.size W w) (hx : VlOk W x) (hs : SmV W (f + 1) x) (hgd : GdV W (f + 1) x) (HV : RW_ W f) (_HPK : RPK W f) :
    Calls Tryz.prog 77 #[.agg (vlC x).toArray] w fun e w' => e = .returned (.string (bytV W (f + 1) x)) ∧ Below w.heap.size w w' := by
  obtain ⟨s1, s2, s3, hsL, hsM⟩ := hs.of
  have hgo := hgd.of
  have hw := hs.2
  have hR := bytV_le W (f + 1) x hx hs
  have hP : kindB x (catB (fun y => putB 1 (bytV W f y)) (vls W x.l)) (catB (fun y => putB 1 (keyB (bytV W f) y)) (kvs W x.m)) = putB 5 (catB (fun y => putB 1 (bytV W f y)) (vls W x.l) ++ x.inner) := by unfold kindB; rw [if_neg (by omega), if_neg (by omega), if_neg (by omega), if_neg (by omega), if_pos hk]
  have hE : bytV W (f + 1) x = putB 5 (catB (fun y => putB 1 (bytV W f y)) (vls W x.l) ++ x.inner) ++ x.unk := by
    show kindB x _ _ ++ x.unk = _
    rw [hP]
  rw [hE, ByteArray.size_append] at hR
  have hn0 := hx.n.1
  have hn1 := hx.n.2
  have hl := vls_at hx.l
  have hok := VlOk.ls hx
  have hgl := hgo.2.1 hk
  have hsum : ((vls W x.l).map (wtV W f)).sum ≤ 12000 := by rw [wtV_succ] at hw; omega
  have hPt : ∀ y ∈ vls W x.l, ((fun y => putB 1 (bytV W f y)) y).size ≤ wtV W f y := fun y hy => show (putB 1 (bytV W f y)).size ≤ wtV W f y from by have e1 := bytV_le W f y (hok y hy) (hsL y hy); have e2 := (hsL y hy).2; have e3 := putB_le 1 (bytV W f y) (by omega); omega
  have hQt : ∀ y ∈ vls W x.l, (bytV W f y).size ≤ 12000 := fun y hy => by have e1 := bytV_le W f y (hok y hy) (hsL y hy); have e2 := (hsL y hy).2; omega
  obtain ⟨T, hTe⟩ : ∃ T, catB (fun y => putB 1 (bytV W f y)) (vls W x.l) = T := ⟨_, rfl⟩
  have hT : (T ++ x.inner).size ≤ 12000 := by rw [← hTe]; have h_ := putB_ge 5 (catB (fun y => putB 1 (bytV W f y)) (vls W x.l) ++ x.inner) (by omega); omega
  rw [hTe] at hE hR
  have hT2 : T.size + x.inner.size ≤ 9223372036854775807 := by rw [ByteArray.size_append] at hT; omega
  obtain ⟨Q, hQ⟩ : ∃ Q, (putB 5 (T ++ x.inner) : ByteArray) = Q := ⟨_, rfl⟩
  rw [hQ] at hE hR
  rw [hE]
  have b9 : Q.size + x.unk.size ≤ 9223372036854775807 := by omega
  have A4 := Aside0.mk (fun w2 => rbytes_any 5 (T ++ x.inner) w2 (by omega))
  unfold putB at hQ
  rw [hQ] at A4
  have HK := Aside0.mk hk
  have hln : x.l.len = (vls W x.l).length := hl.1
  generalize vls W x.l = l at *
  have hlm : l.length ≤ 9223372036854775807 := by have h := hl.2.1; have h2 := hl.2.2.1; unfold maxLen at h2; omega
  have HL := Aside0.mk hl
  have HLN := Aside0.mk hln
  have HF := Aside0.mk hsL
  have HGL := Aside0.mk hgl
  have HSM := Aside0.mk hsum
  have HPP := Aside0.mk hPt
  have HQQ := Aside0.mk hQt
  have HVV := Aside0.mk HV
  have HW := Aside0.mk hW
  obtain ⟨pt, hpt⟩ : ∃ pt, (fun y => putB 1 (bytV W f y)) = pt := ⟨_, rfl⟩
  rw [hpt] at hTe HPP
  have HPT := Aside0.mk hpt
  have HTE := Aside0.mk hTe
  clear hW hx hs hgd HV _HPK hw hR hP hE hQ hn0 hn1 s1 s2 s3 hsL hsM hgo hk hT hTe hl hok hgl hsum hPt hQt hln hpt
  go_enter Tryz.func77, Tryz.ntmps77
  go_upto_region 1 with (with_reducible refine gate_dst (N := 1) rfl ?_; refine Great.wpList_boxTo rfl 57 _ rfl _ rfl w.heap.size rfl (vlC x).toArray rfl ?_)
  have HX : Aside0 (XVl (w.alloc (.cells (vlC x).toArray 57)) w.heap.size x) := ⟨⟨heap_alloc_new w _⟩⟩
  have HB : Aside0 (Below w.heap.size w (w.alloc (.cells (vlC x).toArray 57))) := ⟨(Below.refl _ _).alloc (Nat.le_refl _) _⟩
  generalize (w.alloc (.cells (vlC x).toArray 57)) = w1 at *
  generalize hg : w.heap.size = g at HX ⊢
  clear hg
  have x0 : w1.cell? ⟨g, 0, none⟩ = some (.int .i64 5) := HK.out ▸ HX.out.c0
  have x1 := HX.out.c1
  have x2 := HX.out.c2
  have x3 := HX.out.c3
  have x4 := HX.out.c4
  have x5 := HX.out.c5
  have x6 := HX.out.c6
  have x7 := HX.out.c7
  go_wp2_with fail
  go_loopw [5, 6] (fun v5 v6 w' => ∃ i : Nat, v5 = .string (catB pt (l.take i)) ∧ v6 = .int .i64 (i : Int) ∧ i ≤ l.length ∧ Aside0 (XVl w' g x) ∧ Aside0 (Below w.heap.size w w')) (fun _ v6 _ => l.length - (intOf v6).toNat)
  case atStart => exact ⟨0, rfl, rfl, Nat.zero_le _, HX, HB⟩
  case round =>
    clear HB HX x0 x1 x2 x3 x4 x5 x6 x7
    obtain ⟨i, rfl, rfl, hi, HX, HB⟩ := hrel
    have hln := HLN.out
    have x4 := HX.out.c4
    by_cases hlt : i < l.length
    · obtain ⟨ad, hla, hel⟩ := HL.out.2.2.2 (by omega)
      obtain ⟨he1, he2⟩ := hel i hlt
      have hfi := HF.out l[i] (List.getElem_mem hlt)
      have hgi := HGL.out l[i] (List.getElem_mem hlt)
      have hpi := HPP.out l[i] (List.getElem_mem hlt)
      have hqi := HQQ.out l[i] (List.getElem_mem hlt)
      have hsi := sum_mem (g := wtV W f) (List.getElem_mem hlt)
      have hci := catB_le pt (wtV W f) l i HPP.out
      have hni := catB_next pt l i l[i] (List.getElem?_eq_getElem hlt)
      have hpe : pt l[i] = putB 1 (bytV W f l[i]) := by rw [← HPT.out]
      generalize l[i] = y at *
      have hWr : Below W.heap.size W wr := HW.out.trans (HB.out.mono HW.out.size)
      have HPX := Aside0.mk (cells_below hWr (vl_cells he1))
      have HKY := Aside0.mk (HVV.out wr y hWr he2 hfi hgi)
      obtain ⟨q, hq⟩ : ∃ q, bytV W f y = q := ⟨_, rfl⟩
      rw [hq] at HKY hpe hqi
      have HBY := Aside0.mk (fun w2 => rbytes_any 1 q w2 (by omega))
      obtain ⟨t, ht⟩ : ∃ t, putB 1 q = t := ⟨_, rfl⟩
      rw [hpe, ht] at hni hpi
      unfold putB at ht
      rw [ht] at HBY
      obtain ⟨sA, hsA⟩ : ∃ sA, catB pt (l.take i) = sA := ⟨_, rfl⟩
      rw [hsA] at hci hni ⊢
      have HNI := Aside0.mk hni
      have b1 : sA.size + t.size ≤ 9223372036854775807 := by have := HSM.out; omega
      have c1 : (i : Int) < (x.l.len : Int) := by omega
      have c2 : (0 : Int) ≤ (i : Int) := by omega
      rw [hla] at x4
      clear he1 he2 hel hfi hgi hWr hpi hqi hsi hci hni hpe hq ht hsA hla hln
      go_wp2_with (first
        | ((with_reducible refine gate_dst (N := 44) rfl ?_); refine wpList_load_at rfl 57 _ rfl (ad.add (i * 8)) rfl (vlC y) HPX.out Tryz.underlying57 rfl (by kernel_rfl) ?_)
        | (go_at_call 77; with_reducible refine HKY.out.mono ?_; rintro e wn ⟨rfl, hb⟩; have HBn := Aside0.mk (below_next HB.out hb); have HXn := Aside0.mk (HX.out.below hb); clear HB HX hb HPX HKY x4; have HB := HBn; have HX := HXn; clear HBn HXn)
        | (go_at_call 55; with_reducible refine (HBY.out _).mono ?_; rintro e wm ⟨rfl, hb⟩; have HBn := Aside0.mk (below_next HB.out hb); have HXn := Aside0.mk (HX.out.below hb); clear HB HX hb; have HB := HBn; have HX := HXn; clear HBn HXn))
      go_roundw
      case rel => exact ⟨i + 1, by rw [HNI.out], by go_num, by omega, HX, HB⟩
      case measure => simp [intOf]; omega
    · have hca := catB_all pt l i (by omega)
      rw [HTE.out] at hca
      rw [hca]
      have x6 := HX.out.c6
      have x7 := HX.out.c7
      have c1 : ¬ (i : Int) < (x.l.len : Int) := by omega
      clear hca hln
      go_wp2_with (go_at_call 55; with_reducible refine (A4.out _).mono ?_; rintro e wn ⟨rfl, hb2⟩; have n0_ := Aside0.mk (below_next HB.out hb2); have n1_ := Aside0.mk (HX.out.below hb2); clear HB HX hb2 x4 x6 x7; have HB := n0_; have HX := n1_; clear n0_ n1_; have x7 := HX.out.c7)
      go_ret
      exact ⟨rfl, HB.out⟩
set_option maxHeartbeats 4000000 in
set_option maxRecDepth 100000 in
theorem rw_6 (W w : World) (x : Vl) (f : Nat) (hk : x.kind = 6) (hW : Below W.heap.size W w) (hx : VlOk W x) (hs : SmV W (f + 1) x) (hgd : GdV W (f + 1) x) (_HV : RW_ W f) (HPK : RPK W f) :
    Calls Tryz.prog 77 #[.agg (vlC x).toArray] w fun e w' => e = .returned (.string (bytV W (f + 1) x)) ∧ Below w.heap.size w w' := by
  obtain ⟨s1, s2, s3, hsL, hsM⟩ := hs.of
  have hgo := hgd.of
  have hw := hs.2
  have hR := bytV_le W (f + 1) x hx hs
  have hP : kindB x (catB (fun y => putB 1 (bytV W f y)) (vls W x.l)) (catB (fun y => putB 1 (keyB (bytV W f) y)) (kvs W x.m)) = putB 6 (catB (fun y => putB 1 (keyB (bytV W f) y)) (kvs W x.m) ++ x.inner) := by unfold kindB; rw [if_neg (by omega), if_neg (by omega), if_neg (by omega), if_neg (by omega), if_neg (by omega), if_pos hk]
  have hE : bytV W (f + 1) x = putB 6 (catB (fun y => putB 1 (keyB (bytV W f) y)) (kvs W x.m) ++ x.inner) ++ x.unk := by
    show kindB x _ _ ++ x.unk = _
    rw [hP]
  rw [hE, ByteArray.size_append] at hR
  have hn0 := hx.n.1
  have hn1 := hx.n.2
  have A3 := Aside0.mk (fun w2 (hb : Below w.heap.size w w2) => rpack_any W f HPK w2 x.m (hW.trans (hb.mono hW.size)) hx.m hsM (hgo.2.2 hk) (by rw [wtV_succ] at hw; omega))
  obtain ⟨T, hTe⟩ : ∃ T, catB (fun y => putB 1 (keyB (bytV W f) y)) (kvs W x.m) = T := ⟨_, rfl⟩
  have hT : (T ++ x.inner).size ≤ 12000 := by rw [← hTe]; have h_ := putB_ge 6 (catB (fun y => putB 1 (keyB (bytV W f) y)) (kvs W x.m) ++ x.inner) (by omega); omega
  rw [hTe] at hE hR A3
  have hT2 : T.size + x.inner.size ≤ 9223372036854775807 := by rw [ByteArray.size_append] at hT; omega
  unfold Sl.v at A3
  obtain ⟨Q, hQ⟩ : ∃ Q, (putB 6 (T ++ x.inner) : ByteArray) = Q := ⟨_, rfl⟩
  rw [hQ] at hE hR
  rw [hE]
  have b9 : Q.size + x.unk.size ≤ 9223372036854775807 := by omega
  have A4 := Aside0.mk (fun w2 => rbytes_any 6 (T ++ x.inner) w2 (by omega))
  unfold putB at hQ
  rw [hQ] at A4
  have HK := Aside0.mk hk
  clear hW hx hs hgd _HV HPK hw hR hP hE hQ hn0 hn1 s1 s2 s3 hsL hsM hgo hk hT hTe
  go_enter Tryz.func77, Tryz.ntmps77
  go_upto_region 1 with (with_reducible refine gate_dst (N := 1) rfl ?_; refine Great.wpList_boxTo rfl 57 _ rfl _ rfl w.heap.size rfl (vlC x).toArray rfl ?_)
  have HX : Aside0 (XVl (w.alloc (.cells (vlC x).toArray 57)) w.heap.size x) := ⟨⟨heap_alloc_new w _⟩⟩
  have HB : Aside0 (Below w.heap.size w (w.alloc (.cells (vlC x).toArray 57))) := ⟨(Below.refl _ _).alloc (Nat.le_refl _) _⟩
  generalize (w.alloc (.cells (vlC x).toArray 57)) = w1 at *
  generalize hg : w.heap.size = g at HX ⊢
  clear hg
  have x0 : w1.cell? ⟨g, 0, none⟩ = some (.int .i64 6) := HK.out ▸ HX.out.c0
  have x1 := HX.out.c1
  have x2 := HX.out.c2
  have x3 := HX.out.c3
  have x4 := HX.out.c4
  have x5 := HX.out.c5
  have x6 := HX.out.c6
  have x7 := HX.out.c7
  go_upto_region 22 with fail
  clear x0 x1 x2 x3 x4 x5 x6 x7
  have HBd := Aside0.mk (below_drew1 HB.out)
  have HXd := Aside0.mk (show XVl w1.drew g x from ⟨HX.out.blk⟩)
  clear HB HX
  have HB := HBd
  have HX := HXd
  clear HBd HXd
  refine start_ (n := 8) (S := fun w' => w'.cell? ⟨g, 5, none⟩ = some (.slice x.m.a x.m.len x.m.cap) ∧ w'.cell? ⟨g, 6, none⟩ = some (.string x.inner)) (ds := []) #[false, false, false, false, false, false, false, false] (by kernel_rfl) rfl rfl ⟨HX.out.c5, HX.out.c6⟩ (fun hHeld => ?_)
  refine pure_ (i := 0) (N := some 55) (v := ?_) (a' := ?_) #[true, false, false, false, false, false, false, false] rfl rfl (by kernel_rfl) (fun _ _ _ h => h) (Or.inl ⟨by rfl, ?_⟩) ?_ ?_
  rotate_left
  · intro w'
    go_simp
    first | with_reducible rfl | (rw [if_neg (by omega)])
  rotate_left
  · simp only [Act.put, s1_, s2_, s3_]
    rfl
  refine pure_ (i := 3) (N := some 58) (v := ?_) (a' := ?_) #[true, false, false, true, false, false, false, false] rfl rfl (by kernel_rfl) (fun _ _ _ h => h) (Or.inl ⟨by rfl, ?_⟩) ?_ ?_
  rotate_left
  · intro w'
    go_simp
    first | with_reducible rfl | (rw [if_neg (by omega)])
  rotate_left
  · simp only [Act.put, s1_, s2_, s3_]
    rfl
  refine take_ (i := 1) (N := some 56) (v := ?_) (a' := ?_) #[true, true, false, true, false, false, false, false] rfl rfl (by kernel_rfl) (fun _ _ _ h => h) (Or.inl ⟨by rfl, ?_⟩) hHeld ?_ ?_
  rotate_left
  · rintro w' ⟨s0, s1⟩
    go_simp
    first | with_reducible rfl | (rw [if_neg (by omega)])
  rotate_left
  · simp only [Act.put, s1_, s2_, s3_]
    rfl
  refine take_ (i := 4) (N := some 59) (v := ?_) (a' := ?_) #[true, true, false, true, true, false, false, false] rfl rfl (by kernel_rfl) (fun _ _ _ h => h) (Or.inl ⟨by rfl, ?_⟩) hHeld ?_ ?_
  rotate_left
  · rintro w' ⟨s0, s1⟩
    go_simp
    first | with_reducible rfl | (rw [if_neg (by omega)])
  rotate_left
  · simp only [Act.put, s1_, s2_, s3_]
    rfl
  refine one_ (i := 2) (N := some 57) #[true, true, true, true, true, false, false, false] rfl rfl (by kernel_rfl) (by decide) (fun K hK => ?_)
  refine goes_ Tryz.func100 (by kernel_rfl) rfl #[.slice x.m.a x.m.len x.m.cap] (by rfl) rfl rfl (by simp only [List.map_toArray, List.map_cons, List.map_nil]; rfl) ?_
  with_reducible refine (A3.out _ HB.out).mono ?_
  rintro e w2 ⟨rfl, hb⟩
  refine ⟨_, rfl, ?_⟩
  replace HB := Aside0.mk (below_next HB.out hb)
  replace HX := Aside0.mk (HX.out.below hb)
  clear hb
  refine hK.out _ _ ⟨HX.out.c5, HX.out.c6⟩ (fun hHeld => ?_)
  clear hK K
  refine norm_ (a' := ?_) ?_ ?_
  rotate_left
  · show Act.put _ (some 57) _ = _
    simp only [Act.put, s1_, s2_, s3_]
    rfl
  refine pure_ (i := 5) (N := some 60) (v := ?_) (a' := ?_) #[true, true, true, true, true, true, false, false] rfl rfl (by kernel_rfl) (fun _ _ _ h => h) (Or.inl ⟨by rfl, ?_⟩) ?_ ?_
  rotate_left
  · intro w'
    go_simp
    first | with_reducible rfl | (rw [if_neg (by omega)])
  rotate_left
  · simp only [Act.put, s1_, s2_, s3_]
    rfl
  refine one_ (i := 6) (N := some 61) #[true, true, true, true, true, true, true, false] rfl rfl (by kernel_rfl) (by decide) (fun K hK => ?_)
  refine goes_ Tryz.func55 (by kernel_rfl) rfl #[.int .i64 6, .string (T ++ x.inner)] (by rfl) rfl rfl (by simp only [List.map_toArray, List.map_cons, List.map_nil]; rfl) ?_
  with_reducible refine (A4.out _).mono ?_
  rintro e w4 ⟨rfl, hb⟩
  refine ⟨_, rfl, ?_⟩
  replace HB := Aside0.mk (below_next HB.out hb)
  replace HX := Aside0.mk (HX.out.below hb)
  clear hb
  refine hK.out _ _ ⟨HX.out.c5, HX.out.c6⟩ (fun hHeld => ?_)
  clear hK K
  refine norm_ (a' := ?_) ?_ ?_
  rotate_left
  · show Act.put _ (some 61) _ = _
    simp only [Act.put, s1_, s2_, s3_]
    rfl
  refine pure_ (i := 7) (N := some 3) (v := ?_) (a' := ?_) #[true, true, true, true, true, true, true, true] rfl rfl (by kernel_rfl) (fun _ _ _ h => h) (Or.inl ⟨by rfl, ?_⟩) ?_ ?_
  rotate_left
  · intro w'
    go_simp
    first | with_reducible rfl | (rw [if_neg (by omega)])
  rotate_left
  · simp only [Act.put, s1_, s2_, s3_]
    rfl
  refine done_ (by kernel_rfl) ?_
  have x0 : w4.cell? ⟨g, 0, none⟩ = some (.int .i64 6) := HK.out ▸ HX.out.c0
  have x1 := HX.out.c1
  have x2 := HX.out.c2
  have x3 := HX.out.c3
  have x4 := HX.out.c4
  have x5 := HX.out.c5
  have x6 := HX.out.c6
  have x7 := HX.out.c7
  go_wp2_with fail
  go_ret
  exact ⟨rfl, HB.out⟩
set_option maxHeartbeats 4000000 in
set_option maxRecDepth 100000 in
theorem rw_o (W w : World) (x : Vl) (f : Nat) (hk : ¬ (1 ≤ x.kind ∧ x.kind ≤ 7)) (_hW : Below W.heap.size W w) (hx : VlOk W x) (hs : SmV W (f + 1) x) (hgd : GdV W (f + 1) x) (_HV : RW_ W f) (_HPK : RPK W f) :
    Calls Tryz.prog 77 #[.agg (vlC x).toArray] w fun e w' => e = .returned (.string (bytV W (f + 1) x)) ∧ Below w.heap.size w w' := by
  obtain ⟨s1, s2, s3, hsL, hsM⟩ := hs.of
  have hgo := hgd.of
  have hw := hs.2
  have hR := bytV_le W (f + 1) x hx hs
  have hP : kindB x (catB (fun y => putB 1 (bytV W f y)) (vls W x.l)) (catB (fun y => putB 1 (keyB (bytV W f) y)) (kvs W x.m)) = ⟨#[]⟩ := by unfold kindB; rw [if_neg (by omega), if_neg (by omega), if_neg (by omega), if_neg (by omega), if_neg (by omega), if_neg (by omega)]
  have hE : bytV W (f + 1) x = ⟨#[]⟩ ++ x.unk := by
    show kindB x _ _ ++ x.unk = _
    rw [hP]
  rw [hE, ByteArray.size_append] at hR
  have hn0 := hx.n.1
  have hn1 := hx.n.2
  obtain ⟨Q, hQ⟩ : ∃ Q, (⟨#[]⟩ : ByteArray) = Q := ⟨_, rfl⟩
  rw [hQ] at hE hR
  rw [hE]
  have b9 : Q.size + x.unk.size ≤ 9223372036854775807 := by omega
  have k1 : (x.kind == 1) = false := by rw [beq_eq_false_iff_ne]; omega
  have k7 : (x.kind == 7) = false := by rw [beq_eq_false_iff_ne]; omega
  have k2 : (x.kind == 2) = false := by rw [beq_eq_false_iff_ne]; omega
  have k3 : (x.kind == 3) = false := by rw [beq_eq_false_iff_ne]; omega
  have k4 : (x.kind == 4) = false := by rw [beq_eq_false_iff_ne]; omega
  have k5 : (x.kind == 5) = false := by rw [beq_eq_false_iff_ne]; omega
  have k6 : (x.kind == 6) = false := by rw [beq_eq_false_iff_ne]; omega
  have HQ := Aside0.mk hQ
  clear _hW hx hs hgd _HV _HPK hw hR hP hE hQ hn0 hn1 s1 s2 s3 hsL hsM hgo hk
  go_enter Tryz.func77, Tryz.ntmps77
  go_upto_region 1 with (with_reducible refine gate_dst (N := 1) rfl ?_; refine Great.wpList_boxTo rfl 57 _ rfl _ rfl w.heap.size rfl (vlC x).toArray rfl ?_)
  have HX : Aside0 (XVl (w.alloc (.cells (vlC x).toArray 57)) w.heap.size x) := ⟨⟨heap_alloc_new w _⟩⟩
  have HB : Aside0 (Below w.heap.size w (w.alloc (.cells (vlC x).toArray 57))) := ⟨(Below.refl _ _).alloc (Nat.le_refl _) _⟩
  generalize (w.alloc (.cells (vlC x).toArray 57)) = w1 at *
  generalize hg : w.heap.size = g at HX ⊢
  clear hg
  have HQb := Aside0.mk b9
  rw [← HQ.out] at b9
  have b9b : (⟨#[]⟩ : ByteArray).size + x.unk.size ≤ 9223372036854775807 := b9
  have x0 := HX.out.c0
  have x1 := HX.out.c1
  have x2 := HX.out.c2
  have x3 := HX.out.c3
  have x4 := HX.out.c4
  have x5 := HX.out.c5
  have x6 := HX.out.c6
  have x7 := HX.out.c7
  go_wp2_with fail
  go_ret
  exact ⟨by rw [← HQ.out]; rfl, HB.out⟩
theorem rw_next (W : World) (f : Nat) (HV : RW_ W f) (HPK : RPK W f) : RW_ W (f + 1) := by
  intro w x hW hx hs hg
  by_cases h1 : x.kind = 1
  · exact rw_1 W w x f h1 hW hx hs hg HV HPK
  by_cases h7 : x.kind = 7
  · exact rw_7 W w x f h7 hW hx hs hg HV HPK
  by_cases h2 : x.kind = 2
  · cases hb : x.b
    · exact rw_2f W w x f h2 hb hW hx hs hg HV HPK
    · exact rw_2t W w x f h2 hb hW hx hs hg HV HPK
  by_cases h3 : x.kind = 3
  · exact rw_3 W w x f h3 hW hx hs hg HV HPK
  by_cases h4 : x.kind = 4
  · exact rw_4 W w x f h4 hW hx hs hg HV HPK
  by_cases h5 : x.kind = 5
  · exact rw_5 W w x f h5 hW hx hs hg HV HPK
  by_cases h6 : x.kind = 6
  · exact rw_6 W w x f h6 hW hx hs hg HV HPK
  exact rw_o W w x f (by omega) hW hx hs hg HV HPK
theorem rw_all (W : World) : ∀ f, RW_ W f
  | 0 => fun _ _ _ _ hs _ => hs.1.elim
  | f + 1 => rw_next W f (rw_all W f) (rpk_any W f (rwk_any W f (rw_all W f)))
theorem rwk_all (W : World) (f : Nat) : RWK W f := rwk_any W f (rw_all W f)
theorem rpk_all (W : World) (f : Nat) : RPK W f := rpk_any W f (rwk_all W f)
end Go.Proofs.YtnghlkbmfhkmoaaGreatDoor
namespace Go.Proofs.YtnghlkbmfhkmoaaGreatDoor
open Go.RowKit Go.Proofs.YtnghlkbmfhkmoaaGreatDoorW.PrintWords Go.Proofs.YtnghlkbmfhkmoaaGreatDoorW.PrintLast Go.Proofs.YtnghlkbmfhkmoaaGreatDoorW.PrintMore
noncomputable def xw (W : World) (x : Exm) : Nat := 60 + x.span.size + x.trace.size + x.unk.size + ((kvs W x.attrs).map (kw W 41)).sum
theorem xw_mk (W : World) (a : Sl) (tm kd nn : Int) (sp tr uk : ByteArray) : xw W ⟨a, tm, kd, nn, sp, tr, uk⟩ = 60 + sp.size + tr.size + uk.size + ((kvs W a).map (kw W 41)).sum := rfl
theorem rkeysw_40 (W w : World) (s : Sl) (l : List Kv) (room : Int) (hW : Below W.heap.size W w) (hs : SlAt 11 kvC KvOk W s l) (h1 : -1 ≤ room) (h2 : room ≤ 12000) :
    Calls Tryz.prog 39 #[s.v, .int .i64 40, .int .i64 room] w (RResW room l.length (fun r => (∀ y ∈ l, FinV W 41 y.v) ∧ r + ((l.map (kw W 41)).sum : Int) ≤ room) w) := (roomw_both 41 (by omega)).2 W w s l room hW hs h1 h2
set_option maxHeartbeats 2000000 in
set_option maxRecDepth 100000 in
theorem rexsw_any (W0 W w : World) (s : Sl) (l : List Exm) (room : Int) (hW0 : Below W0.heap.size W0 W) (hW : Below W.heap.size W w) (hs : SlAt 7 exmC (fun _ x => ExmOk W0 x) W s l) (h1 : -1 ≤ room) (h2 : room ≤ 12000) :
    Calls Tryz.prog 15 #[s.v, .int .i64 room] w (RResW room 0 (fun r => (∀ x ∈ l, ∀ y ∈ kvs W0 x.attrs, FinV W0 41 y.v) ∧ r + ((l.map (xw W0)).sum : Int) ≤ room) w) := by
  obtain ⟨sa, sn, sc⟩ := s
  obtain rfl : sn = l.length := hs.1
  have HW := Aside0.mk hW
  have HW0 := Aside0.mk hW0
  have HS := Aside0.mk hs
  have HB := Aside0.mk (Below.refl w.heap.size w)
  have H12 := Aside0.mk h2
  have HQ := Aside0.mk (RP.refl h1)
  have hlm : l.length ≤ 9223372036854775807 := by have h := hs.2.1; have h2 := hs.2.2.1; unfold maxLen at h2; simp only at h h2; omega
  unfold Sl.v
  clear hW hW0 hs h2
  go_enter Tryz.func15, Tryz.ntmps15
  go_wp2_with fail
  go_loopw [1, 5, 6] (fun v1 v5 _ w' => ∃ (i : Nat) (r : Int), v1 = .int .i64 r ∧ v5 = .int .i64 (i : Int) ∧ i ≤ l.length ∧ Aside0 (RP room 0 r) ∧ Aside0 (0 ≤ r → (∀ j x, j < i → l[j]? = some x → ∀ y ∈ kvs W0 x.attrs, FinV W0 41 y.v) ∧ r + (wS (xw W0) l i : Int) ≤ room) ∧ Aside0 (Below w.heap.size w w')) (fun _ v5 _ _ => l.length - (intOf v5).toNat)
  case atStart => exact ⟨0, room, rfl, rfl, Nat.zero_le _, HQ, ⟨fun _ => ⟨fun j y hj => absurd hj (Nat.not_lt_zero j), by rw [wS_zero]; omega⟩⟩, HB⟩
  case round =>
    clear HQ HB
    obtain ⟨i, r, rfl, rfl, hi, HQ, HFI, HB⟩ := hrel
    by_cases hgo : i < l.length ∧ 0 ≤ r
    · obtain ⟨hlt, hr0⟩ := hgo
      obtain ⟨ad, rfl, hel⟩ := HS.out.2.2.2 (by omega)
      obtain ⟨he1, he2⟩ := hel i hlt
      have hWr : Below W.heap.size W wr := HW.out.trans (HB.out.mono HW.out.size)
      have hxa := (exm_at he1).below hWr
      have HWr := Aside0.mk hWr
      have HN := Aside0.mk (show ExmOk W0 l[i] from he2)
      have HGX := Aside0.mk (List.getElem?_eq_getElem hlt)
      generalize l[i] = x at *
      obtain ⟨⟨aa, an, ac⟩, tm, kd, nn, sp, tr, unk⟩ := x
      have p0 := hxa.c0
      have p1 := hxa.c1
      have p2 := hxa.c2
      have p3 := hxa.c3
      have p4 := hxa.c4
      have p5 := hxa.c5
      have p6 := hxa.c6
      unfold Sl.v at p0
      have T3w := Aside0.mk (tk3w r sp.size tr.size unk.size (by omega) (by have := HQ.out.2.1; have := H12.out; omega))
      have T3 := Aside0.mk (tk3 r sp.size tr.size unk.size (by omega) (by have := HQ.out.2.1; have := H12.out; omega))
      clear he1 he2 hel hxa hWr
      go_upto_region 5 with (first
        | ((with_reducible refine gate_dst (N := 6) rfl ?_); refine box_event ?hg (N := 6) ?hd (cs := #[.slice none 0 0, .int .u64 0, .int .i64 0, .int .u64 0, .string ⟨#[]⟩, .string ⟨#[]⟩, .string ⟨#[]⟩]) (t := 25) ?hr ?_; (case hd => rfl); (case hg => rfl); (case hr => first | (go_simp; done) | (go_simp; rfl)); intro x hx w4 hx4 hb4
           have hx4 : XE w4 x (.slice none 0 0) 0 0 0 ByteArray.empty ByteArray.empty ByteArray.empty := hx4
           have hxw : wr.heap.size ≤ x := by omega
           have p0 := pw_cell_below hb4 p0
           have p1 := pw_cell_below hb4 p1
           have p2 := pw_cell_below hb4 p2
           have p3 := pw_cell_below hb4 p3
           have p4 := pw_cell_below hb4 p4
           have p5 := pw_cell_below hb4 p5
           have p6 := pw_cell_below hb4 p6
           have z0 := hx4.c0
           have z1 := hx4.c1
           have z2 := hx4.c2
           have z3 := hx4.c3
           have z4 := hx4.c4
           have z5 := hx4.c5
           have z6 := hx4.c6
           have zf := fun i => hx4.fz i
           have HX := Aside0.mk (hx4.all (.slice aa an ac) tm kd nn sp tr unk)
           have k5 := ex_kp w4 x (.slice aa an ac) tm kd nn sp tr unk
           have hb := hb4.trans (k5.toBelow hb4.size (fun k e => by rw [e]; exact hxw))
           have HB5 := Aside0.mk (below_next HB.out hb)
           clear hx hx4 k5 hb4 hb))
      clear z0 z1 z2 z3 z4 z5 z6 zf hxw hx4 HB HWr p0 p1 p2 p3 p4 p5 p6
      unfold exSt at HX HB5
      generalize ((((((w4.setCell ⟨x, 0, none⟩ (.slice aa an ac)).setCell ⟨x, 1, none⟩ (.int .u64 tm)).setCell ⟨x, 2, none⟩ (.int .i64 kd)).setCell ⟨x, 3, none⟩ (.int .u64 nn)).setCell ⟨x, 4, none⟩ (.string sp)).setCell ⟨x, 5, none⟩ (.string tr)).setCell ⟨x, 6, none⟩ (.string unk) = w5 at *
      have q4 := HX.out.c4
      have q5 := HX.out.c5
      have q6 := HX.out.c6
      go_quiet ((go_at_call 38; exact Calls.quiet_of (take_qq _ _ _)))
      generalize tk (tk (tk r (sp.size : Int)) (tr.size : Int)) (unk.size : Int) = r1 at *
      have HBd : Aside0 (Below w.heap.size w (w5.drewN nq)) := ⟨pw_below_drewN HB5.out _⟩
      have HXd : Aside0 (XE (w5.drewN nq) x (.slice aa an ac) tm kd nn sp tr unk) := ⟨HX.out⟩
      generalize w5.drewN nq = w6 at *
      have q0 := HXd.out.c0
      have hks := kvs_at HN.out.attrs
      have H := rkeysw_40 W0 w6 ⟨aa, an, ac⟩ _ r1 (HW0.out.trans ((HW.out.trans (HBd.out.mono HW.out.size)).mono HW0.out.size)) hks T3.out.1 (by have := T3.out.2.1; have := HQ.out.2.1; have := H12.out; omega)
      unfold Sl.v at H
      clear q4 q5 q6 HX HB5 hks
      go_wp2_with fail
      refine H.mono ?_
      rintro e w7 ⟨r2, rfl, hr2, hb⟩
      have HQn := Aside0.mk (((HQ.out.trans T3.out).trans hr2.1).less (Nat.zero_le _))
      have HFn := Aside0.mk (show 0 ≤ r2 → (∀ j x, j < i + 1 → l[j]? = some x → ∀ y ∈ kvs W0 x.attrs, FinV W0 41 y.v) ∧ r2 + (wS (xw W0) l (i + 1) : Int) ≤ room from fun h0 => ⟨get_next (p := fun x : Exm => ∀ y ∈ kvs W0 x.attrs, FinV W0 41 y.v) (HFI.out hr0).1 HGX.out (hr2.2 h0).1, by
        have h_1 := (HFI.out hr0).2
        have h_2 := (hr2.2 h0).2
        have h_3 := hr2.1.2.1
        have h_4 := T3w.out (by omega)
        rw [wS_next HGX.out, xw_mk]
        omega⟩)
      have HBn := Aside0.mk (below_next HBd.out hb)
      clear hb hr2 q0 H HBd HXd HQ T3
      go_wp2_with fail
      go_roundw
      case rel => exact ⟨i + 1, r2, rfl, by go_num, by omega, HQn, HFn, HBn⟩
      case measure => simp [intOf]; omega
    · have hor : ¬ i < l.length ∨ (i < l.length ∧ r < 0) := by
        by_cases h1 : i < l.length
        · exact .inr ⟨h1, by by_cases h : 0 ≤ r; exact absurd ⟨h1, h⟩ hgo; omega⟩
        · exact .inl h1
      clear hgo
      rcases hor with d1 | ⟨d1, d2⟩
      all_goals
        go_wp2_with fail
        all_goals first
          | (exfalso; omega)
          | (go_ret
             exact ⟨r, rfl, ⟨HQ.out, fun h0 => ⟨all_of_get (p := fun x : Exm => ∀ y ∈ kvs W0 x.attrs, FinV W0 41 y.v) (fun j x hj hx => (HFI.out h0).1 j x (by omega) hx), by have h_1 := (HFI.out h0).2; rw [wS_all (by omega)] at h_1; exact h_1⟩⟩, HB.out⟩)
theorem exm_lonew {W w : World} {b : Nat} {x : Exm} (h : w.heap[b]? = some (.cells (exmC x).toArray 25 (0, 0))) (hx : ExmOk W x) : SlAt 7 exmC (fun _ x => ExmOk W x) w ⟨some ⟨b, 0, none⟩, 1, 1⟩ [x] := by
  refine ⟨rfl, Nat.le_refl _, (by decide : 1 ≤ maxLen), fun _ => ⟨⟨b, 0, none⟩, rfl, fun i hi => ?_⟩⟩
  obtain rfl : i = 0 := by simp at hi; omega
  refine ⟨fun j hj => ?_, hx⟩
  have : (((⟨b, 0, none⟩ : Addr).add (0 * 7)).add j) = ⟨b, j, none⟩ := by cases j <;> simp [Addr.add]
  rw [this, blk_cell h]
  simp
set_option maxHeartbeats 2000000 in
set_option maxRecDepth 100000 in
theorem rexw_any (W w : World) (x : Exm) (room : Int) (hW : Below W.heap.size W w) (hx : ExmOk W x) (h1 : -1 ≤ room) (h2 : room ≤ 12000) :
    Calls Tryz.prog 6 #[.agg (exmC x).toArray, .int .i64 room] w (RResW room 0 (fun r => (∀ y ∈ kvs W x.attrs, FinV W 41 y.v) ∧ r + (xw W x : Int) ≤ room) w) := by
  have HW := Aside0.mk hW
  have HX := Aside0.mk hx
  have H1 := Aside0.mk (And.intro h1 h2)
  clear hW hx h1 h2
  go_enter Tryz.func6, Tryz.ntmps6
  go_upto_region 1 with (with_reducible refine gate_dst (N := 2) rfl ?_; refine Great.wpList_boxTo rfl 25 _ rfl _ rfl w.heap.size rfl (exmC x).toArray rfl ?_)
  have HK : Aside0 ((w.alloc (.cells (exmC x).toArray 25)).heap[w.heap.size]? = some (.cells (exmC x).toArray 25 (0, 0))) := ⟨heap_alloc_new w _⟩
  have HB : Aside0 (Below w.heap.size w (w.alloc (.cells (exmC x).toArray 25))) := ⟨(Below.refl _ _).alloc (Nat.le_refl _) _⟩
  generalize (w.alloc (.cells (exmC x).toArray 25)) = w1 at *
  generalize hg : w.heap.size = g at HK ⊢
  have HGG := Aside0.mk hg
  clear hg
  have hl7 : (exmC x).length = 7 := rfl
  go_wp2_with (first
    | (refine wpList_load_row rfl 25 _ rfl g rfl 25 (exmC x).toArray (0, 0) _ HK.out Tryz.underlying25 rfl (by kernel_rfl) ?_))
  have HB2 := Aside0.mk (HB.out.alloc HB.out.size (.cells (exmC x).toArray 25))
  have HN := heap_alloc_new w1 (.cells (exmC x).toArray 25)
  have hW1 : Below W.heap.size W w1 := HW.out.trans (HB.out.mono HW.out.size)
  have hW2 := hW1.alloc hW1.size (.cells (exmC x).toArray 25)
  have G := rexsw_any W _ _ ⟨some ⟨w1.heap.size, 0, none⟩, 1, 1⟩ [x] room hW2 (Below.refl _ _) (exm_lonew HN HX.out) H1.out.1 H1.out.2
  obtain ⟨a1, a2, a3, a4, a5, a6, a7⟩ := x
  refine Calls.mono (show Calls _ _ _ _ _ from G) ?_
  rintro e w3 ⟨r, rfl, hr, hb⟩
  have HB3 := Aside0.mk (HB2.out.trans (hb.mono HB2.out.size))
  have HR := Aside0.mk hr
  clear hr hb HB2 HN hW1 hW2 G HK
  go_wp2_with fail
  go_ret
  exact ⟨r, rfl, ⟨HR.out.1, fun h0 => ⟨(HR.out.2 h0).1 _ List.mem_cons_self, by have h_ := (HR.out.2 h0).2; simp only [List.map_cons, List.map_nil, List.sum_cons, List.sum_nil, Nat.add_zero] at h_; exact h_⟩⟩, HB3.out⟩
end Go.Proofs.YtnghlkbmfhkmoaaGreatDoor
