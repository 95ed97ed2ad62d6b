import Derived.Test.YtnghlkbmfhkmoaaGreatDoorMlwwsbyug
import Derived.Test.YtnghlkbmfhkmoaaGreatDoorMdmwuvcyu
namespace Go.Proofs.YtnghlkbmfhkmoaaGreatDoor
open Go.RowKit Go.Proofs.YtnghlkbmfhkmoaaGreatDoorW.PrintWords Go.Proofs.YtnghlkbmfhkmoaaGreatDoorW.PrintLast Go.Proofs.YtnghlkbmfhkmoaaGreatDoorW.PrintMore Hy
/-! ### value.write -/
theorem WB.setLow {b g i : Nat} {u : Value} {w : World} {s : ByteArray} (h : WB b b s w) (hg : g < b) : WB b b s (w.setCell ⟨g, i, none⟩ u) := by
  have go : ∀ p, Lib.BuilderAt 50 5 b b p (Lib.strCells s) w → Lib.BuilderAt 50 5 b b p (Lib.strCells s) (w.setCell ⟨g, i, none⟩ u) := by
    rintro p ⟨hB, v, hh, ho, hne⟩
    refine ⟨hB, v, by rw [Below.heap_setCell _ _ _ _ (by simp only; omega)]; exact hh, ⟨ho.1, ho.2.imp id ?_⟩, hne⟩
    rintro ⟨k, cap, cur, rfl, hk, hg', rest⟩
    exact ⟨k, cap, cur, rfl, hk, by rw [Below.heap_setCell _ _ _ _ (by simp only; omega)]; exact hg', rest⟩
  rcases h with h | h
  · exact .inl (go _ h)
  · exact .inr (go _ h)
theorem blk_set {w : World} {g t : Nat} {c : Array Value} (h : w.heap[g]? = some (.cells c t (0, 0))) (i : Nat) (v : Value) : (w.setCell ⟨g, i, none⟩ v).heap[g]? = some (.cells (c.setIfInBounds i v) t (0, 0)) := by
  have hlt := blk_lt h
  have h' : w.heap[g] = .cells c t (0, 0) := by rw [Array.getElem?_eq_getElem hlt] at h; injection h
  simp only [World.setCell, Array.getElem?_modify, if_true, h, Option.map_some]
  rfl
theorem XVl.set3 {w : World} {g : Nat} {x : Vl} (h : XVl w g x) (u : Int) : XVl (w.setCell ⟨g, 3, none⟩ (.int .u64 u)) g ⟨x.kind, x.s, x.b, u, x.l, x.m, x.inner, x.unk⟩ := ⟨by rw [blk_set h.blk]; rfl⟩
theorem set_size (w : World) (a : Addr) (u : Value) : (w.setCell a u).heap.size = w.heap.size := by simp [World.setCell]
set_option maxHeartbeats 4000000 in
set_option maxRecDepth 100000 in
theorem pw_1 (W w : World) (x : Vl) (f : Nat) (hk : x.kind = 1) (_hW : Below W.heap.size W w) (hx : VlOk W x) (hs : SmV W (f + 1) x) (_HPV : PPV W f) (_HPK : PPK W f) :
    Calls Tryz.prog 73 #[.agg (vlC x).toArray] w fun e w' => e = .returned (.string (bytV W (f + 1) x)) ∧ Below w.heap.size w w' := by
  obtain ⟨s1, s2, s3, hsL, hsM⟩ := hs.of
  have hw := hs.2
  have hR := bytV_le W (f + 1) x hx hs
  have hP : kindB x (catB (fun y => putB 1 (bytV W f y)) (vls W x.l)) (catB (fun y => putB 1 (keyB (bytV W f) y)) (kvs W x.m)) = putB 1 x.s := by unfold kindB; rw [if_pos (.inl hk), hk]
  have hE : bytV W (f + 1) x = putB 1 x.s ++ x.unk := by
    show kindB x _ _ ++ x.unk = _
    rw [hP]
  rw [hE, ByteArray.size_append] at hR
  have hn0 := hx.n.1
  have hn1 := hx.n.2
  obtain ⟨Q, hQ⟩ : ∃ Q, (putB 1 x.s : ByteArray) = Q := ⟨_, rfl⟩
  rw [hQ] at hE hR
  rw [hE]
  have W1 := Aside0.mk (fun (b : Nat) (w2 : World) (h : WB b b ⟨#[]⟩ w2) (hb : b ≤ w2.heap.size) => (show Calls Tryz.prog 47 #[.pointer (some ⟨b, 0, none⟩), .int .i64 1, .string x.s] w2 (fun e w' => e = .returned (.tuple #[]) ∧ WB b b Q w' ∧ Below b w2 w') from by have z : (⟨#[]⟩ : ByteArray).size = 0 := rfl; have h_ := wpart_any b b ⟨#[]⟩ 1 x.s (by omega) w2 h (by have h2 := putB_le 1 x.s (by omega); unfold putB at h2; omega) hb; unfold WAdds at h_; rw [empty_app] at h_; rw [← hQ]; exact h_))
  have W2 := Aside0.mk (fun (b : Nat) (w2 : World) (h : WB b b Q w2) (hb : b ≤ w2.heap.size) => (show Calls Tryz.prog 26 #[.pointer (some ⟨b, 0, none⟩), .string x.unk] w2 (fun e w' => e = .returned (.tuple #[]) ∧ WB b b (Q ++ x.unk) w' ∧ Below b w2 w') from by exact wraw_any b b Q x.unk w2 h (by omega) hb))
  have HK := Aside0.mk hk
  clear _hW hx hs _HPV _HPK hw hR hP hE hQ hn0 hn1 s1 s2 s3 hsL hsM hk
  go_enter Tryz.func73, Tryz.ntmps73
  go_upto_region 1 with (with_reducible refine gate_dst (N := 1) rfl ?_; refine Great.wpList_boxTo rfl 57 _ rfl _ rfl w.heap.size rfl (vlC x).toArray rfl ?_)
  have HX : Aside0 (XVl (w.alloc (.cells (vlC x).toArray 57)) w.heap.size x) := ⟨⟨heap_alloc_new w _⟩⟩
  have HB : Aside0 (Below w.heap.size w (w.alloc (.cells (vlC x).toArray 57))) := ⟨(Below.refl _ _).alloc (Nat.le_refl _) _⟩
  generalize (w.alloc (.cells (vlC x).toArray 57)) = w1 at *
  obtain ⟨g, hg⟩ : ∃ g, w.heap.size = g := ⟨_, rfl⟩
  rw [hg] at HX ⊢
  have HG0 := Aside0.mk (show g < w1.heap.size from blk_lt HX.out.blk)
  have HGW := Aside0.mk (show w.heap.size ≤ g from Nat.le_of_eq hg)
  clear hg
  go_upto_region 2 with fail
  have HBn : Aside0 (Below w.heap.size w (w1.alloc (.cells #[.pointer none, .slice none 0 0] 50))) := ⟨HB.out.alloc HB.out.size _⟩
  have HXn : Aside0 (XVl (w1.alloc (.cells #[.pointer none, .slice none 0 0] 50)) g x) := ⟨HX.out.below ((Below.refl _ _).alloc (Nat.le_refl _) _)⟩
  have HWB : Aside0 (WB w1.heap.size w1.heap.size ⟨#[]⟩ (w1.alloc (.cells #[.pointer none, .slice none 0 0] 50))) := ⟨WB.new w1⟩
  have HWS : Aside0 (w1.heap.size ≤ (w1.alloc (.cells #[.pointer none, .slice none 0 0] 50)).heap.size) := ⟨by rw [World.size_alloc]; omega⟩
  have HWb : Aside0 (w.heap.size ≤ w1.heap.size) := ⟨HB.out.size⟩
  clear HB HX
  have HB := HBn
  have HX := HXn
  clear HBn HXn
  generalize (w1.alloc (.cells #[.pointer none, .slice none 0 0] 50)) = w3 at *
  generalize w1.heap.size = b at *
  have x0 : w3.cell? ⟨g, 0, none⟩ = some (.int .i64 1) := HK.out ▸ HX.out.c0
  have x1 := HX.out.c1
  have x2 := HX.out.c2
  have x3 := HX.out.c3
  have x4 := HX.out.c4
  have x5 := HX.out.c5
  have x6 := HX.out.c6
  have x7 := HX.out.c7
  go_wp2_with (first
    | (go_at_call 47; with_reducible refine (W1.out b _ HWB.out HWS.out).mono ?_; rintro e wn ⟨rfl, hw2, hb2⟩; have n0_ := Aside0.mk (HB.out.trans (hb2.mono HWb.out)); have n1_ : Aside0 (XVl wn g x) := ⟨⟨by rw [hb2.block g HG0.out]; exact HX.out.blk⟩⟩; have n2_ := Aside0.mk hw2; have n3_ := Aside0.mk (Nat.le_trans HWS.out hb2.size); clear HB HX HWB HWS hb2 hw2 x0 x1 x2 x3 x4 x5 x6 x7; have HB := n0_; have HX := n1_; have HWB := n2_; have HWS := n3_; clear n0_ n1_ n2_ n3_; have x0 : wn.cell? ⟨g, 0, none⟩ = some (.int .i64 1) := HK.out ▸ HX.out.c0; have x1 := HX.out.c1; have x2 := HX.out.c2; have x3 := HX.out.c3; have x4 := HX.out.c4; have x5 := HX.out.c5; have x6 := HX.out.c6; have x7 := HX.out.c7)
    | (go_at_call 26; with_reducible refine (W2.out b _ HWB.out HWS.out).mono ?_; rintro e wn ⟨rfl, hw2, hb2⟩; have n0_ := Aside0.mk (HB.out.trans (hb2.mono HWb.out)); have n1_ : Aside0 (XVl wn g x) := ⟨⟨by rw [hb2.block g HG0.out]; exact HX.out.blk⟩⟩; have n2_ := Aside0.mk hw2; have n3_ := Aside0.mk (Nat.le_trans HWS.out hb2.size); clear HB HX HWB HWS hb2 hw2 x0 x1 x2 x3 x4 x5 x6 x7; have HB := n0_; have HX := n1_; have HWB := n2_; have HWS := n3_; clear n0_ n1_ n2_ n3_; have x0 : wn.cell? ⟨g, 0, none⟩ = some (.int .i64 1) := HK.out ▸ HX.out.c0; have x1 := HX.out.c1; have x2 := HX.out.c2; have x3 := HX.out.c3; have x4 := HX.out.c4; have x5 := HX.out.c5; have x6 := HX.out.c6; have x7 := HX.out.c7)
    | (go_at_call 27; with_reducible refine (wstring_any b b _ _ HWB.out HWS.out).mono ?_; rintro e wn ⟨rfl, hb2⟩; have n0_ := Aside0.mk (HB.out.trans (hb2.mono HWb.out)); clear HB hb2; have HB := n0_; clear n0_))
  go_ret
  exact ⟨rfl, HB.out⟩
set_option maxHeartbeats 4000000 in
set_option maxRecDepth 100000 in
theorem pw_7 (W w : World) (x : Vl) (f : Nat) (hk : x.kind = 7) (_hW : Below W.heap.size W w) (hx : VlOk W x) (hs : SmV W (f + 1) x) (_HPV : PPV W f) (_HPK : PPK W f) :
    Calls Tryz.prog 73 #[.agg (vlC x).toArray] w fun e w' => e = .returned (.string (bytV W (f + 1) x)) ∧ Below w.heap.size w w' := by
  obtain ⟨s1, s2, s3, hsL, hsM⟩ := hs.of
  have hw := hs.2
  have hR := bytV_le W (f + 1) x hx hs
  have hP : kindB x (catB (fun y => putB 1 (bytV W f y)) (vls W x.l)) (catB (fun y => putB 1 (keyB (bytV W f) y)) (kvs W x.m)) = putB 7 x.s := by unfold kindB; rw [if_pos (.inr hk), hk]
  have hE : bytV W (f + 1) x = putB 7 x.s ++ x.unk := by
    show kindB x _ _ ++ x.unk = _
    rw [hP]
  rw [hE, ByteArray.size_append] at hR
  have hn0 := hx.n.1
  have hn1 := hx.n.2
  obtain ⟨Q, hQ⟩ : ∃ Q, (putB 7 x.s : ByteArray) = Q := ⟨_, rfl⟩
  rw [hQ] at hE hR
  rw [hE]
  have W1 := Aside0.mk (fun (b : Nat) (w2 : World) (h : WB b b ⟨#[]⟩ w2) (hb : b ≤ w2.heap.size) => (show Calls Tryz.prog 47 #[.pointer (some ⟨b, 0, none⟩), .int .i64 7, .string x.s] w2 (fun e w' => e = .returned (.tuple #[]) ∧ WB b b Q w' ∧ Below b w2 w') from by have z : (⟨#[]⟩ : ByteArray).size = 0 := rfl; have h_ := wpart_any b b ⟨#[]⟩ 7 x.s (by omega) w2 h (by have h2 := putB_le 7 x.s (by omega); unfold putB at h2; omega) hb; unfold WAdds at h_; rw [empty_app] at h_; rw [← hQ]; exact h_))
  have W2 := Aside0.mk (fun (b : Nat) (w2 : World) (h : WB b b Q w2) (hb : b ≤ w2.heap.size) => (show Calls Tryz.prog 26 #[.pointer (some ⟨b, 0, none⟩), .string x.unk] w2 (fun e w' => e = .returned (.tuple #[]) ∧ WB b b (Q ++ x.unk) w' ∧ Below b w2 w') from by exact wraw_any b b Q x.unk w2 h (by omega) hb))
  have HK := Aside0.mk hk
  clear _hW hx hs _HPV _HPK hw hR hP hE hQ hn0 hn1 s1 s2 s3 hsL hsM hk
  go_enter Tryz.func73, Tryz.ntmps73
  go_upto_region 1 with (with_reducible refine gate_dst (N := 1) rfl ?_; refine Great.wpList_boxTo rfl 57 _ rfl _ rfl w.heap.size rfl (vlC x).toArray rfl ?_)
  have HX : Aside0 (XVl (w.alloc (.cells (vlC x).toArray 57)) w.heap.size x) := ⟨⟨heap_alloc_new w _⟩⟩
  have HB : Aside0 (Below w.heap.size w (w.alloc (.cells (vlC x).toArray 57))) := ⟨(Below.refl _ _).alloc (Nat.le_refl _) _⟩
  generalize (w.alloc (.cells (vlC x).toArray 57)) = w1 at *
  obtain ⟨g, hg⟩ : ∃ g, w.heap.size = g := ⟨_, rfl⟩
  rw [hg] at HX ⊢
  have HG0 := Aside0.mk (show g < w1.heap.size from blk_lt HX.out.blk)
  have HGW := Aside0.mk (show w.heap.size ≤ g from Nat.le_of_eq hg)
  clear hg
  go_upto_region 2 with fail
  have HBn : Aside0 (Below w.heap.size w (w1.alloc (.cells #[.pointer none, .slice none 0 0] 50))) := ⟨HB.out.alloc HB.out.size _⟩
  have HXn : Aside0 (XVl (w1.alloc (.cells #[.pointer none, .slice none 0 0] 50)) g x) := ⟨HX.out.below ((Below.refl _ _).alloc (Nat.le_refl _) _)⟩
  have HWB : Aside0 (WB w1.heap.size w1.heap.size ⟨#[]⟩ (w1.alloc (.cells #[.pointer none, .slice none 0 0] 50))) := ⟨WB.new w1⟩
  have HWS : Aside0 (w1.heap.size ≤ (w1.alloc (.cells #[.pointer none, .slice none 0 0] 50)).heap.size) := ⟨by rw [World.size_alloc]; omega⟩
  have HWb : Aside0 (w.heap.size ≤ w1.heap.size) := ⟨HB.out.size⟩
  clear HB HX
  have HB := HBn
  have HX := HXn
  clear HBn HXn
  generalize (w1.alloc (.cells #[.pointer none, .slice none 0 0] 50)) = w3 at *
  generalize w1.heap.size = b at *
  have x0 : w3.cell? ⟨g, 0, none⟩ = some (.int .i64 7) := HK.out ▸ HX.out.c0
  have x1 := HX.out.c1
  have x2 := HX.out.c2
  have x3 := HX.out.c3
  have x4 := HX.out.c4
  have x5 := HX.out.c5
  have x6 := HX.out.c6
  have x7 := HX.out.c7
  go_wp2_with (first
    | (go_at_call 47; with_reducible refine (W1.out b _ HWB.out HWS.out).mono ?_; rintro e wn ⟨rfl, hw2, hb2⟩; have n0_ := Aside0.mk (HB.out.trans (hb2.mono HWb.out)); have n1_ : Aside0 (XVl wn g x) := ⟨⟨by rw [hb2.block g HG0.out]; exact HX.out.blk⟩⟩; have n2_ := Aside0.mk hw2; have n3_ := Aside0.mk (Nat.le_trans HWS.out hb2.size); clear HB HX HWB HWS hb2 hw2 x0 x1 x2 x3 x4 x5 x6 x7; have HB := n0_; have HX := n1_; have HWB := n2_; have HWS := n3_; clear n0_ n1_ n2_ n3_; have x0 : wn.cell? ⟨g, 0, none⟩ = some (.int .i64 7) := HK.out ▸ HX.out.c0; have x1 := HX.out.c1; have x2 := HX.out.c2; have x3 := HX.out.c3; have x4 := HX.out.c4; have x5 := HX.out.c5; have x6 := HX.out.c6; have x7 := HX.out.c7)
    | (go_at_call 26; with_reducible refine (W2.out b _ HWB.out HWS.out).mono ?_; rintro e wn ⟨rfl, hw2, hb2⟩; have n0_ := Aside0.mk (HB.out.trans (hb2.mono HWb.out)); have n1_ : Aside0 (XVl wn g x) := ⟨⟨by rw [hb2.block g HG0.out]; exact HX.out.blk⟩⟩; have n2_ := Aside0.mk hw2; have n3_ := Aside0.mk (Nat.le_trans HWS.out hb2.size); clear HB HX HWB HWS hb2 hw2 x0 x1 x2 x3 x4 x5 x6 x7; have HB := n0_; have HX := n1_; have HWB := n2_; have HWS := n3_; clear n0_ n1_ n2_ n3_; have x0 : wn.cell? ⟨g, 0, none⟩ = some (.int .i64 7) := HK.out ▸ HX.out.c0; have x1 := HX.out.c1; have x2 := HX.out.c2; have x3 := HX.out.c3; have x4 := HX.out.c4; have x5 := HX.out.c5; have x6 := HX.out.c6; have x7 := HX.out.c7)
    | (go_at_call 27; with_reducible refine (wstring_any b b _ _ HWB.out HWS.out).mono ?_; rintro e wn ⟨rfl, hb2⟩; have n0_ := Aside0.mk (HB.out.trans (hb2.mono HWb.out)); clear HB hb2; have HB := n0_; clear n0_))
  go_ret
  exact ⟨rfl, HB.out⟩
set_option maxHeartbeats 4000000 in
set_option maxRecDepth 100000 in
theorem pw_2t (W w : World) (x : Vl) (f : Nat) (hk : x.kind = 2) (hbb : x.b = true) (_hW : Below W.heap.size W w) (hx : VlOk W x) (hs : SmV W (f + 1) x) (_HPV : PPV W f) (_HPK : PPK W f) :
    Calls Tryz.prog 73 #[.agg (vlC x).toArray] w fun e w' => e = .returned (.string (bytV W (f + 1) x)) ∧ Below w.heap.size w w' := by
  obtain ⟨s1, s2, s3, hsL, hsM⟩ := hs.of
  have hw := hs.2
  have hR := bytV_le W (f + 1) x hx hs
  have hP : kindB x (catB (fun y => putB 1 (bytV W f y)) (vls W x.l)) (catB (fun y => putB 1 (keyB (bytV W f) y)) (kvs W x.m)) = recB 2 0 (put 1) := by unfold kindB; rw [if_neg (by omega), if_pos hk, hbb]; rfl
  have hE : bytV W (f + 1) x = recB 2 0 (put 1) ++ x.unk := by
    show kindB x _ _ ++ x.unk = _
    rw [hP]
  rw [hE, ByteArray.size_append] at hR
  have hn0 := hx.n.1
  have hn1 := hx.n.2
  obtain ⟨Q, hQ⟩ : ∃ Q, (recB 2 0 (put 1) : ByteArray) = Q := ⟨_, rfl⟩
  rw [hQ] at hE hR
  rw [hE]
  have W1 := Aside0.mk (fun (b : Nat) (w2 : World) (h : WB b b ⟨#[]⟩ w2) (hb : b ≤ w2.heap.size) => (show Calls Tryz.prog 93 #[.pointer (some ⟨b, 0, none⟩), .int .i64 2, .int .u64 1] w2 (fun e w' => e = .returned (.tuple #[]) ∧ WB b b Q w' ∧ Below b w2 w') from by have z : (⟨#[]⟩ : ByteArray).size = 0 := rfl; have h_ := wfew_any b b ⟨#[]⟩ 2 1 (by omega) (by omega) w2 h (by have h2 := recB_le 2 0 (put 1); have h3 := put_le 1 (by omega); omega) hb; unfold WAdds at h_; rw [empty_app] at h_; rw [← hQ]; exact h_))
  have W2 := Aside0.mk (fun (b : Nat) (w2 : World) (h : WB b b Q w2) (hb : b ≤ w2.heap.size) => (show Calls Tryz.prog 26 #[.pointer (some ⟨b, 0, none⟩), .string x.unk] w2 (fun e w' => e = .returned (.tuple #[]) ∧ WB b b (Q ++ x.unk) w' ∧ Below b w2 w') from by exact wraw_any b b Q x.unk w2 h (by omega) hb))
  have HK := Aside0.mk hk
  have HBB := Aside0.mk hbb
  clear _hW hx hs _HPV _HPK hw hR hP hE hQ hn0 hn1 s1 s2 s3 hsL hsM hk hbb
  go_enter Tryz.func73, Tryz.ntmps73
  go_upto_region 1 with (with_reducible refine gate_dst (N := 1) rfl ?_; refine Great.wpList_boxTo rfl 57 _ rfl _ rfl w.heap.size rfl (vlC x).toArray rfl ?_)
  have HX : Aside0 (XVl (w.alloc (.cells (vlC x).toArray 57)) w.heap.size x) := ⟨⟨heap_alloc_new w _⟩⟩
  have HB : Aside0 (Below w.heap.size w (w.alloc (.cells (vlC x).toArray 57))) := ⟨(Below.refl _ _).alloc (Nat.le_refl _) _⟩
  generalize (w.alloc (.cells (vlC x).toArray 57)) = w1 at *
  obtain ⟨g, hg⟩ : ∃ g, w.heap.size = g := ⟨_, rfl⟩
  rw [hg] at HX ⊢
  have HG0 := Aside0.mk (show g < w1.heap.size from blk_lt HX.out.blk)
  have HGW := Aside0.mk (show w.heap.size ≤ g from Nat.le_of_eq hg)
  clear hg
  go_upto_region 2 with fail
  have HBn : Aside0 (Below w.heap.size w (w1.alloc (.cells #[.pointer none, .slice none 0 0] 50))) := ⟨HB.out.alloc HB.out.size _⟩
  have HXn : Aside0 (XVl (w1.alloc (.cells #[.pointer none, .slice none 0 0] 50)) g x) := ⟨HX.out.below ((Below.refl _ _).alloc (Nat.le_refl _) _)⟩
  have HWB : Aside0 (WB w1.heap.size w1.heap.size ⟨#[]⟩ (w1.alloc (.cells #[.pointer none, .slice none 0 0] 50))) := ⟨WB.new w1⟩
  have HWS : Aside0 (w1.heap.size ≤ (w1.alloc (.cells #[.pointer none, .slice none 0 0] 50)).heap.size) := ⟨by rw [World.size_alloc]; omega⟩
  have HWb : Aside0 (w.heap.size ≤ w1.heap.size) := ⟨HB.out.size⟩
  clear HB HX
  have HB := HBn
  have HX := HXn
  clear HBn HXn
  generalize (w1.alloc (.cells #[.pointer none, .slice none 0 0] 50)) = w3 at *
  generalize w1.heap.size = b at *
  have x0 : w3.cell? ⟨g, 0, none⟩ = some (.int .i64 2) := HK.out ▸ HX.out.c0
  have x1 := HX.out.c1
  have x2 : w3.cell? ⟨g, 2, none⟩ = some (.bool true) := HBB.out ▸ HX.out.c2
  have x3 := HX.out.c3
  have x4 := HX.out.c4
  have x5 := HX.out.c5
  have x6 := HX.out.c6
  have x7 := HX.out.c7
  have zf := fun i => blk_fz HX.out.blk i
  go_upto_region 13 with fail
  clear x0 x1 x2 x3 x4 x5 x6 x7 zf
  have n0_ := Aside0.mk (HB.out.setCell (p := ⟨g, 3, none⟩) HGW.out (.int .u64 1))
  have n1_ := Aside0.mk (HX.out.set3 1)
  have n2_ := Aside0.mk (HWB.out.setLow (i := 3) (u := .int .u64 1) HG0.out)
  have n3_ : Aside0 (b ≤ (w3.setCell ⟨g, 3, none⟩ (.int .u64 1)).heap.size) := ⟨by rw [set_size]; exact HWS.out⟩
  clear HB HX HWB HWS
  have HB := n0_
  have HX := n1_
  have HWB := n2_
  have HWS := n3_
  clear n0_ n1_ n2_ n3_
  generalize w3.setCell ⟨g, 3, none⟩ (.int .u64 1) = w4 at *
  have x0 : w4.cell? ⟨g, 0, none⟩ = some (.int .i64 2) := HK.out ▸ HX.out.c0
  have x3 : w4.cell? ⟨g, 3, none⟩ = some (.int .u64 1) := HX.out.c3
  have x7 : w4.cell? ⟨g, 7, none⟩ = some (.string x.unk) := HX.out.c7
  go_wp2_with (first
    | (go_at_call 93; with_reducible refine (W1.out b _ HWB.out HWS.out).mono ?_; rintro e wn ⟨rfl, hw2, hb2⟩; have n0_ := Aside0.mk (HB.out.trans (hb2.mono HWb.out)); have n1_ : Aside0 (XVl wn g ⟨x.kind, x.s, x.b, 1, x.l, x.m, x.inner, x.unk⟩) := ⟨⟨by rw [hb2.block g HG0.out]; exact HX.out.blk⟩⟩; have n2_ := Aside0.mk hw2; have n3_ := Aside0.mk (Nat.le_trans HWS.out hb2.size); clear HB HX HWB HWS hb2 hw2 x0 x3 x7; have HB := n0_; have HX := n1_; have HWB := n2_; have HWS := n3_; clear n0_ n1_ n2_ n3_; have x0 : wn.cell? ⟨g, 0, none⟩ = some (.int .i64 2) := HK.out ▸ HX.out.c0; have x3 : wn.cell? ⟨g, 3, none⟩ = some (.int .u64 1) := HX.out.c3; have x7 : wn.cell? ⟨g, 7, none⟩ = some (.string x.unk) := HX.out.c7)
    | (go_at_call 26; with_reducible refine (W2.out b _ HWB.out HWS.out).mono ?_; rintro e wn ⟨rfl, hw2, hb2⟩; have n0_ := Aside0.mk (HB.out.trans (hb2.mono HWb.out)); have n1_ : Aside0 (XVl wn g ⟨x.kind, x.s, x.b, 1, x.l, x.m, x.inner, x.unk⟩) := ⟨⟨by rw [hb2.block g HG0.out]; exact HX.out.blk⟩⟩; have n2_ := Aside0.mk hw2; have n3_ := Aside0.mk (Nat.le_trans HWS.out hb2.size); clear HB HX HWB HWS hb2 hw2 x0 x3 x7; have HB := n0_; have HX := n1_; have HWB := n2_; have HWS := n3_; clear n0_ n1_ n2_ n3_; have x0 : wn.cell? ⟨g, 0, none⟩ = some (.int .i64 2) := HK.out ▸ HX.out.c0; have x3 : wn.cell? ⟨g, 3, none⟩ = some (.int .u64 1) := HX.out.c3; have x7 : wn.cell? ⟨g, 7, none⟩ = some (.string x.unk) := HX.out.c7)
    | (go_at_call 27; with_reducible refine (wstring_any b b _ _ HWB.out HWS.out).mono ?_; rintro e wn ⟨rfl, hb2⟩; have n0_ := Aside0.mk (HB.out.trans (hb2.mono HWb.out)); clear HB hb2; have HB := n0_; clear n0_))
  go_ret
  exact ⟨rfl, HB.out⟩
set_option maxHeartbeats 4000000 in
set_option maxRecDepth 100000 in
theorem pw_2f (W w : World) (x : Vl) (f : Nat) (hk : x.kind = 2) (hbb : x.b = false) (_hW : Below W.heap.size W w) (hx : VlOk W x) (hs : SmV W (f + 1) x) (_HPV : PPV W f) (_HPK : PPK W f) :
    Calls Tryz.prog 73 #[.agg (vlC x).toArray] w fun e w' => e = .returned (.string (bytV W (f + 1) x)) ∧ Below w.heap.size w w' := by
  obtain ⟨s1, s2, s3, hsL, hsM⟩ := hs.of
  have hw := hs.2
  have hR := bytV_le W (f + 1) x hx hs
  have hP : kindB x (catB (fun y => putB 1 (bytV W f y)) (vls W x.l)) (catB (fun y => putB 1 (keyB (bytV W f) y)) (kvs W x.m)) = recB 2 0 (put x.n) := by unfold kindB; rw [if_neg (by omega), if_pos hk, hbb]; rfl
  have hE : bytV W (f + 1) x = recB 2 0 (put x.n) ++ x.unk := by
    show kindB x _ _ ++ x.unk = _
    rw [hP]
  rw [hE, ByteArray.size_append] at hR
  have hn0 := hx.n.1
  have hn1 := hx.n.2
  obtain ⟨Q, hQ⟩ : ∃ Q, (recB 2 0 (put x.n) : ByteArray) = Q := ⟨_, rfl⟩
  rw [hQ] at hE hR
  rw [hE]
  have W1 := Aside0.mk (fun (b : Nat) (w2 : World) (h : WB b b ⟨#[]⟩ w2) (hb : b ≤ w2.heap.size) => (show Calls Tryz.prog 93 #[.pointer (some ⟨b, 0, none⟩), .int .i64 2, .int .u64 x.n] w2 (fun e w' => e = .returned (.tuple #[]) ∧ WB b b Q w' ∧ Below b w2 w') from by have z : (⟨#[]⟩ : ByteArray).size = 0 := rfl; have h_ := wfew_any b b ⟨#[]⟩ 2 x.n (by omega) (by omega) w2 h (by have h2 := recB_le 2 0 (put x.n); have h3 := put_le x.n (by omega); omega) hb; unfold WAdds at h_; rw [empty_app] at h_; rw [← hQ]; exact h_))
  have W2 := Aside0.mk (fun (b : Nat) (w2 : World) (h : WB b b Q w2) (hb : b ≤ w2.heap.size) => (show Calls Tryz.prog 26 #[.pointer (some ⟨b, 0, none⟩), .string x.unk] w2 (fun e w' => e = .returned (.tuple #[]) ∧ WB b b (Q ++ x.unk) w' ∧ Below b w2 w') from by exact wraw_any b b Q x.unk w2 h (by omega) hb))
  have HK := Aside0.mk hk
  have HBB := Aside0.mk hbb
  clear _hW hx hs _HPV _HPK hw hR hP hE hQ hn0 hn1 s1 s2 s3 hsL hsM hk hbb
  go_enter Tryz.func73, Tryz.ntmps73
  go_upto_region 1 with (with_reducible refine gate_dst (N := 1) rfl ?_; refine Great.wpList_boxTo rfl 57 _ rfl _ rfl w.heap.size rfl (vlC x).toArray rfl ?_)
  have HX : Aside0 (XVl (w.alloc (.cells (vlC x).toArray 57)) w.heap.size x) := ⟨⟨heap_alloc_new w _⟩⟩
  have HB : Aside0 (Below w.heap.size w (w.alloc (.cells (vlC x).toArray 57))) := ⟨(Below.refl _ _).alloc (Nat.le_refl _) _⟩
  generalize (w.alloc (.cells (vlC x).toArray 57)) = w1 at *
  obtain ⟨g, hg⟩ : ∃ g, w.heap.size = g := ⟨_, rfl⟩
  rw [hg] at HX ⊢
  have HG0 := Aside0.mk (show g < w1.heap.size from blk_lt HX.out.blk)
  have HGW := Aside0.mk (show w.heap.size ≤ g from Nat.le_of_eq hg)
  clear hg
  go_upto_region 2 with fail
  have HBn : Aside0 (Below w.heap.size w (w1.alloc (.cells #[.pointer none, .slice none 0 0] 50))) := ⟨HB.out.alloc HB.out.size _⟩
  have HXn : Aside0 (XVl (w1.alloc (.cells #[.pointer none, .slice none 0 0] 50)) g x) := ⟨HX.out.below ((Below.refl _ _).alloc (Nat.le_refl _) _)⟩
  have HWB : Aside0 (WB w1.heap.size w1.heap.size ⟨#[]⟩ (w1.alloc (.cells #[.pointer none, .slice none 0 0] 50))) := ⟨WB.new w1⟩
  have HWS : Aside0 (w1.heap.size ≤ (w1.alloc (.cells #[.pointer none, .slice none 0 0] 50)).heap.size) := ⟨by rw [World.size_alloc]; omega⟩
  have HWb : Aside0 (w.heap.size ≤ w1.heap.size) := ⟨HB.out.size⟩
  clear HB HX
  have HB := HBn
  have HX := HXn
  clear HBn HXn
  generalize (w1.alloc (.cells #[.pointer none, .slice none 0 0] 50)) = w3 at *
  generalize w1.heap.size = b at *
  have x0 : w3.cell? ⟨g, 0, none⟩ = some (.int .i64 2) := HK.out ▸ HX.out.c0
  have x1 := HX.out.c1
  have x2 : w3.cell? ⟨g, 2, none⟩ = some (.bool false) := HBB.out ▸ HX.out.c2
  have x3 := HX.out.c3
  have x4 := HX.out.c4
  have x5 := HX.out.c5
  have x6 := HX.out.c6
  have x7 := HX.out.c7
  go_wp2_with (first
    | (go_at_call 93; with_reducible refine (W1.out b _ HWB.out HWS.out).mono ?_; rintro e wn ⟨rfl, hw2, hb2⟩; have n0_ := Aside0.mk (HB.out.trans (hb2.mono HWb.out)); have n1_ : Aside0 (XVl wn g x) := ⟨⟨by rw [hb2.block g HG0.out]; exact HX.out.blk⟩⟩; have n2_ := Aside0.mk hw2; have n3_ := Aside0.mk (Nat.le_trans HWS.out hb2.size); clear HB HX HWB HWS hb2 hw2 x0 x1 x2 x3 x4 x5 x6 x7; have HB := n0_; have HX := n1_; have HWB := n2_; have HWS := n3_; clear n0_ n1_ n2_ n3_; have x0 : wn.cell? ⟨g, 0, none⟩ = some (.int .i64 2) := HK.out ▸ HX.out.c0; have x1 := HX.out.c1; have x2 : wn.cell? ⟨g, 2, none⟩ = some (.bool false) := HBB.out ▸ HX.out.c2; have x3 := HX.out.c3; have x4 := HX.out.c4; have x5 := HX.out.c5; have x6 := HX.out.c6; have x7 := HX.out.c7)
    | (go_at_call 26; with_reducible refine (W2.out b _ HWB.out HWS.out).mono ?_; rintro e wn ⟨rfl, hw2, hb2⟩; have n0_ := Aside0.mk (HB.out.trans (hb2.mono HWb.out)); have n1_ : Aside0 (XVl wn g x) := ⟨⟨by rw [hb2.block g HG0.out]; exact HX.out.blk⟩⟩; have n2_ := Aside0.mk hw2; have n3_ := Aside0.mk (Nat.le_trans HWS.out hb2.size); clear HB HX HWB HWS hb2 hw2 x0 x1 x2 x3 x4 x5 x6 x7; have HB := n0_; have HX := n1_; have HWB := n2_; have HWS := n3_; clear n0_ n1_ n2_ n3_; have x0 : wn.cell? ⟨g, 0, none⟩ = some (.int .i64 2) := HK.out ▸ HX.out.c0; have x1 := HX.out.c1; have x2 : wn.cell? ⟨g, 2, none⟩ = some (.bool false) := HBB.out ▸ HX.out.c2; have x3 := HX.out.c3; have x4 := HX.out.c4; have x5 := HX.out.c5; have x6 := HX.out.c6; have x7 := HX.out.c7)
    | (go_at_call 27; with_reducible refine (wstring_any b b _ _ HWB.out HWS.out).mono ?_; rintro e wn ⟨rfl, hb2⟩; have n0_ := Aside0.mk (HB.out.trans (hb2.mono HWb.out)); clear HB hb2; have HB := n0_; clear n0_))
  go_ret
  exact ⟨rfl, HB.out⟩
set_option maxHeartbeats 4000000 in
set_option maxRecDepth 100000 in
theorem pw_3 (W w : World) (x : Vl) (f : Nat) (hk : x.kind = 3) (_hW : Below W.heap.size W w) (hx : VlOk W x) (hs : SmV W (f + 1) x) (_HPV : PPV W f) (_HPK : PPK W f) :
    Calls Tryz.prog 73 #[.agg (vlC x).toArray] w fun e w' => e = .returned (.string (bytV W (f + 1) x)) ∧ Below w.heap.size w w' := by
  obtain ⟨s1, s2, s3, hsL, hsM⟩ := hs.of
  have hw := hs.2
  have hR := bytV_le W (f + 1) x hx hs
  have hP : kindB x (catB (fun y => putB 1 (bytV W f y)) (vls W x.l)) (catB (fun y => putB 1 (keyB (bytV W f) y)) (kvs W x.m)) = recB 3 0 (put x.n) := by unfold kindB; rw [if_neg (by omega), if_neg (by omega), if_pos hk]
  have hE : bytV W (f + 1) x = recB 3 0 (put x.n) ++ x.unk := by
    show kindB x _ _ ++ x.unk = _
    rw [hP]
  rw [hE, ByteArray.size_append] at hR
  have hn0 := hx.n.1
  have hn1 := hx.n.2
  obtain ⟨Q, hQ⟩ : ∃ Q, (recB 3 0 (put x.n) : ByteArray) = Q := ⟨_, rfl⟩
  rw [hQ] at hE hR
  rw [hE]
  have W1 := Aside0.mk (fun (b : Nat) (w2 : World) (h : WB b b ⟨#[]⟩ w2) (hb : b ≤ w2.heap.size) => (show Calls Tryz.prog 93 #[.pointer (some ⟨b, 0, none⟩), .int .i64 3, .int .u64 x.n] w2 (fun e w' => e = .returned (.tuple #[]) ∧ WB b b Q w' ∧ Below b w2 w') from by have z : (⟨#[]⟩ : ByteArray).size = 0 := rfl; have h_ := wfew_any b b ⟨#[]⟩ 3 x.n (by omega) (by omega) w2 h (by have h2 := recB_le 3 0 (put x.n); have h3 := put_le x.n (by omega); omega) hb; unfold WAdds at h_; rw [empty_app] at h_; rw [← hQ]; exact h_))
  have W2 := Aside0.mk (fun (b : Nat) (w2 : World) (h : WB b b Q w2) (hb : b ≤ w2.heap.size) => (show Calls Tryz.prog 26 #[.pointer (some ⟨b, 0, none⟩), .string x.unk] w2 (fun e w' => e = .returned (.tuple #[]) ∧ WB b b (Q ++ x.unk) w' ∧ Below b w2 w') from by exact wraw_any b b Q x.unk w2 h (by omega) hb))
  have HK := Aside0.mk hk
  clear _hW hx hs _HPV _HPK hw hR hP hE hQ hn0 hn1 s1 s2 s3 hsL hsM hk
  go_enter Tryz.func73, Tryz.ntmps73
  go_upto_region 1 with (with_reducible refine gate_dst (N := 1) rfl ?_; refine Great.wpList_boxTo rfl 57 _ rfl _ rfl w.heap.size rfl (vlC x).toArray rfl ?_)
  have HX : Aside0 (XVl (w.alloc (.cells (vlC x).toArray 57)) w.heap.size x) := ⟨⟨heap_alloc_new w _⟩⟩
  have HB : Aside0 (Below w.heap.size w (w.alloc (.cells (vlC x).toArray 57))) := ⟨(Below.refl _ _).alloc (Nat.le_refl _) _⟩
  generalize (w.alloc (.cells (vlC x).toArray 57)) = w1 at *
  obtain ⟨g, hg⟩ : ∃ g, w.heap.size = g := ⟨_, rfl⟩
  rw [hg] at HX ⊢
  have HG0 := Aside0.mk (show g < w1.heap.size from blk_lt HX.out.blk)
  have HGW := Aside0.mk (show w.heap.size ≤ g from Nat.le_of_eq hg)
  clear hg
  go_upto_region 2 with fail
  have HBn : Aside0 (Below w.heap.size w (w1.alloc (.cells #[.pointer none, .slice none 0 0] 50))) := ⟨HB.out.alloc HB.out.size _⟩
  have HXn : Aside0 (XVl (w1.alloc (.cells #[.pointer none, .slice none 0 0] 50)) g x) := ⟨HX.out.below ((Below.refl _ _).alloc (Nat.le_refl _) _)⟩
  have HWB : Aside0 (WB w1.heap.size w1.heap.size ⟨#[]⟩ (w1.alloc (.cells #[.pointer none, .slice none 0 0] 50))) := ⟨WB.new w1⟩
  have HWS : Aside0 (w1.heap.size ≤ (w1.alloc (.cells #[.pointer none, .slice none 0 0] 50)).heap.size) := ⟨by rw [World.size_alloc]; omega⟩
  have HWb : Aside0 (w.heap.size ≤ w1.heap.size) := ⟨HB.out.size⟩
  clear HB HX
  have HB := HBn
  have HX := HXn
  clear HBn HXn
  generalize (w1.alloc (.cells #[.pointer none, .slice none 0 0] 50)) = w3 at *
  generalize w1.heap.size = b at *
  have x0 : w3.cell? ⟨g, 0, none⟩ = some (.int .i64 3) := HK.out ▸ HX.out.c0
  have x1 := HX.out.c1
  have x2 := HX.out.c2
  have x3 := HX.out.c3
  have x4 := HX.out.c4
  have x5 := HX.out.c5
  have x6 := HX.out.c6
  have x7 := HX.out.c7
  go_wp2_with (first
    | (go_at_call 93; with_reducible refine (W1.out b _ HWB.out HWS.out).mono ?_; rintro e wn ⟨rfl, hw2, hb2⟩; have n0_ := Aside0.mk (HB.out.trans (hb2.mono HWb.out)); have n1_ : Aside0 (XVl wn g x) := ⟨⟨by rw [hb2.block g HG0.out]; exact HX.out.blk⟩⟩; have n2_ := Aside0.mk hw2; have n3_ := Aside0.mk (Nat.le_trans HWS.out hb2.size); clear HB HX HWB HWS hb2 hw2 x0 x1 x2 x3 x4 x5 x6 x7; have HB := n0_; have HX := n1_; have HWB := n2_; have HWS := n3_; clear n0_ n1_ n2_ n3_; have x0 : wn.cell? ⟨g, 0, none⟩ = some (.int .i64 3) := HK.out ▸ HX.out.c0; have x1 := HX.out.c1; have x2 := HX.out.c2; have x3 := HX.out.c3; have x4 := HX.out.c4; have x5 := HX.out.c5; have x6 := HX.out.c6; have x7 := HX.out.c7)
    | (go_at_call 26; with_reducible refine (W2.out b _ HWB.out HWS.out).mono ?_; rintro e wn ⟨rfl, hw2, hb2⟩; have n0_ := Aside0.mk (HB.out.trans (hb2.mono HWb.out)); have n1_ : Aside0 (XVl wn g x) := ⟨⟨by rw [hb2.block g HG0.out]; exact HX.out.blk⟩⟩; have n2_ := Aside0.mk hw2; have n3_ := Aside0.mk (Nat.le_trans HWS.out hb2.size); clear HB HX HWB HWS hb2 hw2 x0 x1 x2 x3 x4 x5 x6 x7; have HB := n0_; have HX := n1_; have HWB := n2_; have HWS := n3_; clear n0_ n1_ n2_ n3_; have x0 : wn.cell? ⟨g, 0, none⟩ = some (.int .i64 3) := HK.out ▸ HX.out.c0; have x1 := HX.out.c1; have x2 := HX.out.c2; have x3 := HX.out.c3; have x4 := HX.out.c4; have x5 := HX.out.c5; have x6 := HX.out.c6; have x7 := HX.out.c7)
    | (go_at_call 27; with_reducible refine (wstring_any b b _ _ HWB.out HWS.out).mono ?_; rintro e wn ⟨rfl, hb2⟩; have n0_ := Aside0.mk (HB.out.trans (hb2.mono HWb.out)); clear HB hb2; have HB := n0_; clear n0_))
  go_ret
  exact ⟨rfl, HB.out⟩
set_option maxHeartbeats 4000000 in
set_option maxRecDepth 100000 in
theorem pw_4 (W w : World) (x : Vl) (f : Nat) (hk : x.kind = 4) (_hW : Below W.heap.size W w) (hx : VlOk W x) (hs : SmV W (f + 1) x) (_HPV : PPV W f) (_HPK : PPK W f) :
    Calls Tryz.prog 73 #[.agg (vlC x).toArray] w fun e w' => e = .returned (.string (bytV W (f + 1) x)) ∧ Below w.heap.size w w' := by
  obtain ⟨s1, s2, s3, hsL, hsM⟩ := hs.of
  have hw := hs.2
  have hR := bytV_le W (f + 1) x hx hs
  have hP : kindB x (catB (fun y => putB 1 (bytV W f y)) (vls W x.l)) (catB (fun y => putB 1 (keyB (bytV W f) y)) (kvs W x.m)) = recB 4 1 (st (leL 8 x.n.toNat)) := by unfold kindB; rw [if_neg (by omega), if_neg (by omega), if_neg (by omega), if_pos hk]
  have hE : bytV W (f + 1) x = recB 4 1 (st (leL 8 x.n.toNat)) ++ x.unk := by
    show kindB x _ _ ++ x.unk = _
    rw [hP]
  rw [hE, ByteArray.size_append] at hR
  have hn0 := hx.n.1
  have hn1 := hx.n.2
  obtain ⟨Q, hQ⟩ : ∃ Q, (recB 4 1 (st (leL 8 x.n.toNat)) : ByteArray) = Q := ⟨_, rfl⟩
  rw [hQ] at hE hR
  rw [hE]
  have W1 := Aside0.mk (fun (b : Nat) (w2 : World) (h : WB b b ⟨#[]⟩ w2) (hb : b ≤ w2.heap.size) => (show Calls Tryz.prog 46 #[.pointer (some ⟨b, 0, none⟩), .int .i64 4, .int .u64 x.n] w2 (fun e w' => e = .returned (.tuple #[]) ∧ WB b b Q w' ∧ Below b w2 w') from by have z : (⟨#[]⟩ : ByteArray).size = 0 := rfl; have h_ := weight_any b b ⟨#[]⟩ 4 x.n.toNat (by omega) w2 h (by have h2 := recB_le 4 1 (st (leL 8 x.n.toNat)); rw [st_size, leL_length] at h2; omega) hb; rw [Int.toNat_of_nonneg hn0] at h_; unfold WAdds at h_; rw [empty_app] at h_; rw [← hQ]; exact h_))
  have W2 := Aside0.mk (fun (b : Nat) (w2 : World) (h : WB b b Q w2) (hb : b ≤ w2.heap.size) => (show Calls Tryz.prog 26 #[.pointer (some ⟨b, 0, none⟩), .string x.unk] w2 (fun e w' => e = .returned (.tuple #[]) ∧ WB b b (Q ++ x.unk) w' ∧ Below b w2 w') from by exact wraw_any b b Q x.unk w2 h (by omega) hb))
  have HK := Aside0.mk hk
  clear _hW hx hs _HPV _HPK hw hR hP hE hQ hn0 hn1 s1 s2 s3 hsL hsM hk
  go_enter Tryz.func73, Tryz.ntmps73
  go_upto_region 1 with (with_reducible refine gate_dst (N := 1) rfl ?_; refine Great.wpList_boxTo rfl 57 _ rfl _ rfl w.heap.size rfl (vlC x).toArray rfl ?_)
  have HX : Aside0 (XVl (w.alloc (.cells (vlC x).toArray 57)) w.heap.size x) := ⟨⟨heap_alloc_new w _⟩⟩
  have HB : Aside0 (Below w.heap.size w (w.alloc (.cells (vlC x).toArray 57))) := ⟨(Below.refl _ _).alloc (Nat.le_refl _) _⟩
  generalize (w.alloc (.cells (vlC x).toArray 57)) = w1 at *
  obtain ⟨g, hg⟩ : ∃ g, w.heap.size = g := ⟨_, rfl⟩
  rw [hg] at HX ⊢
  have HG0 := Aside0.mk (show g < w1.heap.size from blk_lt HX.out.blk)
  have HGW := Aside0.mk (show w.heap.size ≤ g from Nat.le_of_eq hg)
  clear hg
  go_upto_region 2 with fail
  have HBn : Aside0 (Below w.heap.size w (w1.alloc (.cells #[.pointer none, .slice none 0 0] 50))) := ⟨HB.out.alloc HB.out.size _⟩
  have HXn : Aside0 (XVl (w1.alloc (.cells #[.pointer none, .slice none 0 0] 50)) g x) := ⟨HX.out.below ((Below.refl _ _).alloc (Nat.le_refl _) _)⟩
  have HWB : Aside0 (WB w1.heap.size w1.heap.size ⟨#[]⟩ (w1.alloc (.cells #[.pointer none, .slice none 0 0] 50))) := ⟨WB.new w1⟩
  have HWS : Aside0 (w1.heap.size ≤ (w1.alloc (.cells #[.pointer none, .slice none 0 0] 50)).heap.size) := ⟨by rw [World.size_alloc]; omega⟩
  have HWb : Aside0 (w.heap.size ≤ w1.heap.size) := ⟨HB.out.size⟩
  clear HB HX
  have HB := HBn
  have HX := HXn
  clear HBn HXn
  generalize (w1.alloc (.cells #[.pointer none, .slice none 0 0] 50)) = w3 at *
  generalize w1.heap.size = b at *
  have x0 : w3.cell? ⟨g, 0, none⟩ = some (.int .i64 4) := HK.out ▸ HX.out.c0
  have x1 := HX.out.c1
  have x2 := HX.out.c2
  have x3 := HX.out.c3
  have x4 := HX.out.c4
  have x5 := HX.out.c5
  have x6 := HX.out.c6
  have x7 := HX.out.c7
  go_wp2_with (first
    | (go_at_call 46; with_reducible refine (W1.out b _ HWB.out HWS.out).mono ?_; rintro e wn ⟨rfl, hw2, hb2⟩; have n0_ := Aside0.mk (HB.out.trans (hb2.mono HWb.out)); have n1_ : Aside0 (XVl wn g x) := ⟨⟨by rw [hb2.block g HG0.out]; exact HX.out.blk⟩⟩; have n2_ := Aside0.mk hw2; have n3_ := Aside0.mk (Nat.le_trans HWS.out hb2.size); clear HB HX HWB HWS hb2 hw2 x0 x1 x2 x3 x4 x5 x6 x7; have HB := n0_; have HX := n1_; have HWB := n2_; have HWS := n3_; clear n0_ n1_ n2_ n3_; have x0 : wn.cell? ⟨g, 0, none⟩ = some (.int .i64 4) := HK.out ▸ HX.out.c0; have x1 := HX.out.c1; have x2 := HX.out.c2; have x3 := HX.out.c3; have x4 := HX.out.c4; have x5 := HX.out.c5; have x6 := HX.out.c6; have x7 := HX.out.c7)
    | (go_at_call 26; with_reducible refine (W2.out b _ HWB.out HWS.out).mono ?_; rintro e wn ⟨rfl, hw2, hb2⟩; have n0_ := Aside0.mk (HB.out.trans (hb2.mono HWb.out)); have n1_ : Aside0 (XVl wn g x) := ⟨⟨by rw [hb2.block g HG0.out]; exact HX.out.blk⟩⟩; have n2_ := Aside0.mk hw2; have n3_ := Aside0.mk (Nat.le_trans HWS.out hb2.size); clear HB HX HWB HWS hb2 hw2 x0 x1 x2 x3 x4 x5 x6 x7; have HB := n0_; have HX := n1_; have HWB := n2_; have HWS := n3_; clear n0_ n1_ n2_ n3_; have x0 : wn.cell? ⟨g, 0, none⟩ = some (.int .i64 4) := HK.out ▸ HX.out.c0; have x1 := HX.out.c1; have x2 := HX.out.c2; have x3 := HX.out.c3; have x4 := HX.out.c4; have x5 := HX.out.c5; have x6 := HX.out.c6; have x7 := HX.out.c7)
    | (go_at_call 27; with_reducible refine (wstring_any b b _ _ HWB.out HWS.out).mono ?_; rintro e wn ⟨rfl, hb2⟩; have n0_ := Aside0.mk (HB.out.trans (hb2.mono HWb.out)); clear HB hb2; have HB := n0_; clear n0_))
  go_ret
  exact ⟨rfl, HB.out⟩
set_option maxHeartbeats 4000000 in
set_option maxRecDepth 100000 in
theorem pw_5 (W w : World) (x : Vl) (f : Nat) (hk : x.kind = 5) (hW : Below W.heap.size W w) (hx : VlOk W x) (hs : SmV W (f + 1) x) (HPV : PPV W f) (_HPK : PPK W f) :
    Calls Tryz.prog 73 #[.agg (vlC x).toArray] w fun e w' => e = .returned (.string (bytV W (f + 1) x)) ∧ Below w.heap.size w w' := by
  obtain ⟨s1, s2, s3, hsL, hsM⟩ := hs.of
  have hw := hs.2
  have hR := bytV_le W (f + 1) x hx hs
  have hP : kindB x (catB (fun y => putB 1 (bytV W f y)) (vls W x.l)) (catB (fun y => putB 1 (keyB (bytV W f) y)) (kvs W x.m)) = putB 5 (catB (fun y => putB 1 (bytV W f y)) (vls W x.l) ++ x.inner) := by unfold kindB; rw [if_neg (by omega), if_neg (by omega), if_neg (by omega), if_neg (by omega), if_pos hk]
  have hE : bytV W (f + 1) x = putB 5 (catB (fun y => putB 1 (bytV W f y)) (vls W x.l) ++ x.inner) ++ x.unk := by
    show kindB x _ _ ++ x.unk = _
    rw [hP]
  rw [hE, ByteArray.size_append] at hR
  have hn0 := hx.n.1
  have hn1 := hx.n.2
  have A3 := Aside0.mk (fun w2 (hb : Below w.heap.size w w2) => HPV w2 x.l x.inner (hW.trans (hb.mono hW.size)) hx.l hsL (by rw [wtV_succ] at hw; omega) s2)
  generalize catB (fun y => putB 1 (bytV W f y)) (vls W x.l) ++ x.inner = T at *
  have hT : T.size ≤ 12000 := by have h_ : T.size ≤ (putB 5 T).size := (by unfold putB recB; rw [if_neg (by decide), ByteArray.size_append, ByteArray.size_append]; omega); omega
  unfold Sl.v at A3
  obtain ⟨Q, hQ⟩ : ∃ Q, (putB 5 T : ByteArray) = Q := ⟨_, rfl⟩
  rw [hQ] at hE hR
  rw [hE]
  have W1 := Aside0.mk (fun (b : Nat) (w2 : World) (h : WB b b ⟨#[]⟩ w2) (hb : b ≤ w2.heap.size) => (show Calls Tryz.prog 47 #[.pointer (some ⟨b, 0, none⟩), .int .i64 5, .string T] w2 (fun e w' => e = .returned (.tuple #[]) ∧ WB b b Q w' ∧ Below b w2 w') from by have z : (⟨#[]⟩ : ByteArray).size = 0 := rfl; have h_ := wpart_any b b ⟨#[]⟩ 5 T (by omega) w2 h (by have h2 := putB_le 5 T (by omega); unfold putB at h2; omega) hb; unfold WAdds at h_; rw [empty_app] at h_; rw [← hQ]; exact h_))
  have W2 := Aside0.mk (fun (b : Nat) (w2 : World) (h : WB b b Q w2) (hb : b ≤ w2.heap.size) => (show Calls Tryz.prog 26 #[.pointer (some ⟨b, 0, none⟩), .string x.unk] w2 (fun e w' => e = .returned (.tuple #[]) ∧ WB b b (Q ++ x.unk) w' ∧ Below b w2 w') from by exact wraw_any b b Q x.unk w2 h (by omega) hb))
  have HK := Aside0.mk hk
  clear hW hx hs HPV _HPK hw hR hP hE hQ hn0 hn1 s1 s2 s3 hsL hsM hk hT
  go_enter Tryz.func73, Tryz.ntmps73
  go_upto_region 1 with (with_reducible refine gate_dst (N := 1) rfl ?_; refine Great.wpList_boxTo rfl 57 _ rfl _ rfl w.heap.size rfl (vlC x).toArray rfl ?_)
  have HX : Aside0 (XVl (w.alloc (.cells (vlC x).toArray 57)) w.heap.size x) := ⟨⟨heap_alloc_new w _⟩⟩
  have HB : Aside0 (Below w.heap.size w (w.alloc (.cells (vlC x).toArray 57))) := ⟨(Below.refl _ _).alloc (Nat.le_refl _) _⟩
  generalize (w.alloc (.cells (vlC x).toArray 57)) = w1 at *
  obtain ⟨g, hg⟩ : ∃ g, w.heap.size = g := ⟨_, rfl⟩
  rw [hg] at HX ⊢
  have HG0 := Aside0.mk (show g < w1.heap.size from blk_lt HX.out.blk)
  have HGW := Aside0.mk (show w.heap.size ≤ g from Nat.le_of_eq hg)
  clear hg
  go_upto_region 2 with fail
  have HBn : Aside0 (Below w.heap.size w (w1.alloc (.cells #[.pointer none, .slice none 0 0] 50))) := ⟨HB.out.alloc HB.out.size _⟩
  have HXn : Aside0 (XVl (w1.alloc (.cells #[.pointer none, .slice none 0 0] 50)) g x) := ⟨HX.out.below ((Below.refl _ _).alloc (Nat.le_refl _) _)⟩
  have HWB : Aside0 (WB w1.heap.size w1.heap.size ⟨#[]⟩ (w1.alloc (.cells #[.pointer none, .slice none 0 0] 50))) := ⟨WB.new w1⟩
  have HWS : Aside0 (w1.heap.size ≤ (w1.alloc (.cells #[.pointer none, .slice none 0 0] 50)).heap.size) := ⟨by rw [World.size_alloc]; omega⟩
  have HWb : Aside0 (w.heap.size ≤ w1.heap.size) := ⟨HB.out.size⟩
  clear HB HX
  have HB := HBn
  have HX := HXn
  clear HBn HXn
  generalize (w1.alloc (.cells #[.pointer none, .slice none 0 0] 50)) = w3 at *
  generalize w1.heap.size = b at *
  have x0 : w3.cell? ⟨g, 0, none⟩ = some (.int .i64 5) := HK.out ▸ HX.out.c0
  have x1 := HX.out.c1
  have x2 := HX.out.c2
  have x3 := HX.out.c3
  have x4 := HX.out.c4
  have x5 := HX.out.c5
  have x6 := HX.out.c6
  have x7 := HX.out.c7
  go_wp2_with (first
    | (go_at_call 94; with_reducible refine (A3.out _ HB.out).mono ?_; rintro e wn ⟨rfl, hb2⟩; have n0_ := Aside0.mk (below_next HB.out hb2); have n1_ : Aside0 (XVl wn g x) := ⟨HX.out.below hb2⟩; have n2_ := Aside0.mk (HWB.out.below hb2); have n3_ := Aside0.mk (Nat.le_trans HWS.out hb2.size); clear HB HX HWB HWS hb2 x0 x1 x2 x3 x4 x5 x6 x7; have HB := n0_; have HX := n1_; have HWB := n2_; have HWS := n3_; clear n0_ n1_ n2_ n3_; have x0 : wn.cell? ⟨g, 0, none⟩ = some (.int .i64 5) := HK.out ▸ HX.out.c0; have x1 := HX.out.c1; have x2 := HX.out.c2; have x3 := HX.out.c3; have x4 := HX.out.c4; have x5 := HX.out.c5; have x6 := HX.out.c6; have x7 := HX.out.c7)
    | (go_at_call 47; with_reducible refine (W1.out b _ HWB.out HWS.out).mono ?_; rintro e wn ⟨rfl, hw2, hb2⟩; have n0_ := Aside0.mk (HB.out.trans (hb2.mono HWb.out)); have n1_ : Aside0 (XVl wn g x) := ⟨⟨by rw [hb2.block g HG0.out]; exact HX.out.blk⟩⟩; have n2_ := Aside0.mk hw2; have n3_ := Aside0.mk (Nat.le_trans HWS.out hb2.size); clear HB HX HWB HWS hb2 hw2 x0 x1 x2 x3 x4 x5 x6 x7; have HB := n0_; have HX := n1_; have HWB := n2_; have HWS := n3_; clear n0_ n1_ n2_ n3_; have x0 : wn.cell? ⟨g, 0, none⟩ = some (.int .i64 5) := HK.out ▸ HX.out.c0; have x1 := HX.out.c1; have x2 := HX.out.c2; have x3 := HX.out.c3; have x4 := HX.out.c4; have x5 := HX.out.c5; have x6 := HX.out.c6; have x7 := HX.out.c7)
    | (go_at_call 26; with_reducible refine (W2.out b _ HWB.out HWS.out).mono ?_; rintro e wn ⟨rfl, hw2, hb2⟩; have n0_ := Aside0.mk (HB.out.trans (hb2.mono HWb.out)); have n1_ : Aside0 (XVl wn g x) := ⟨⟨by rw [hb2.block g HG0.out]; exact HX.out.blk⟩⟩; have n2_ := Aside0.mk hw2; have n3_ := Aside0.mk (Nat.le_trans HWS.out hb2.size); clear HB HX HWB HWS hb2 hw2 x0 x1 x2 x3 x4 x5 x6 x7; have HB := n0_; have HX := n1_; have HWB := n2_; have HWS := n3_; clear n0_ n1_ n2_ n3_; have x0 : wn.cell? ⟨g, 0, none⟩ = some (.int .i64 5) := HK.out ▸ HX.out.c0; have x1 := HX.out.c1; have x2 := HX.out.c2; have x3 := HX.out.c3; have x4 := HX.out.c4; have x5 := HX.out.c5; have x6 := HX.out.c6; have x7 := HX.out.c7)
    | (go_at_call 27; with_reducible refine (wstring_any b b _ _ HWB.out HWS.out).mono ?_; rintro e wn ⟨rfl, hb2⟩; have n0_ := Aside0.mk (HB.out.trans (hb2.mono HWb.out)); clear HB hb2; have HB := n0_; clear n0_))
  go_ret
  exact ⟨rfl, HB.out⟩
set_option maxHeartbeats 4000000 in
set_option maxRecDepth 100000 in
theorem pw_6 (W w : World) (x : Vl) (f : Nat) (hk : x.kind = 6) (hW : Below W.heap.size W w) (hx : VlOk W x) (hs : SmV W (f + 1) x) (_HPV : PPV W f) (HPK : PPK W f) :
    Calls Tryz.prog 73 #[.agg (vlC x).toArray] w fun e w' => e = .returned (.string (bytV W (f + 1) x)) ∧ Below w.heap.size w w' := by
  obtain ⟨s1, s2, s3, hsL, hsM⟩ := hs.of
  have hw := hs.2
  have hR := bytV_le W (f + 1) x hx hs
  have hP : kindB x (catB (fun y => putB 1 (bytV W f y)) (vls W x.l)) (catB (fun y => putB 1 (keyB (bytV W f) y)) (kvs W x.m)) = putB 6 (catB (fun y => putB 1 (keyB (bytV W f) y)) (kvs W x.m) ++ x.inner) := by unfold kindB; rw [if_neg (by omega), if_neg (by omega), if_neg (by omega), if_neg (by omega), if_neg (by omega), if_pos hk]
  have hE : bytV W (f + 1) x = putB 6 (catB (fun y => putB 1 (keyB (bytV W f) y)) (kvs W x.m) ++ x.inner) ++ x.unk := by
    show kindB x _ _ ++ x.unk = _
    rw [hP]
  rw [hE, ByteArray.size_append] at hR
  have hn0 := hx.n.1
  have hn1 := hx.n.2
  have A3 := Aside0.mk (fun w2 (hb : Below w.heap.size w w2) => HPK w2 x.m x.inner (hW.trans (hb.mono hW.size)) hx.m hsM (by rw [wtV_succ] at hw; omega) s2)
  generalize catB (fun y => putB 1 (keyB (bytV W f) y)) (kvs W x.m) ++ x.inner = T at *
  have hT : T.size ≤ 12000 := by have h_ : T.size ≤ (putB 6 T).size := (by unfold putB recB; rw [if_neg (by decide), ByteArray.size_append, ByteArray.size_append]; omega); omega
  unfold Sl.v at A3
  obtain ⟨Q, hQ⟩ : ∃ Q, (putB 6 T : ByteArray) = Q := ⟨_, rfl⟩
  rw [hQ] at hE hR
  rw [hE]
  have W1 := Aside0.mk (fun (b : Nat) (w2 : World) (h : WB b b ⟨#[]⟩ w2) (hb : b ≤ w2.heap.size) => (show Calls Tryz.prog 47 #[.pointer (some ⟨b, 0, none⟩), .int .i64 6, .string T] w2 (fun e w' => e = .returned (.tuple #[]) ∧ WB b b Q w' ∧ Below b w2 w') from by have z : (⟨#[]⟩ : ByteArray).size = 0 := rfl; have h_ := wpart_any b b ⟨#[]⟩ 6 T (by omega) w2 h (by have h2 := putB_le 6 T (by omega); unfold putB at h2; omega) hb; unfold WAdds at h_; rw [empty_app] at h_; rw [← hQ]; exact h_))
  have W2 := Aside0.mk (fun (b : Nat) (w2 : World) (h : WB b b Q w2) (hb : b ≤ w2.heap.size) => (show Calls Tryz.prog 26 #[.pointer (some ⟨b, 0, none⟩), .string x.unk] w2 (fun e w' => e = .returned (.tuple #[]) ∧ WB b b (Q ++ x.unk) w' ∧ Below b w2 w') from by exact wraw_any b b Q x.unk w2 h (by omega) hb))
  have HK := Aside0.mk hk
  clear hW hx hs _HPV HPK hw hR hP hE hQ hn0 hn1 s1 s2 s3 hsL hsM hk hT
  go_enter Tryz.func73, Tryz.ntmps73
  go_upto_region 1 with (with_reducible refine gate_dst (N := 1) rfl ?_; refine Great.wpList_boxTo rfl 57 _ rfl _ rfl w.heap.size rfl (vlC x).toArray rfl ?_)
  have HX : Aside0 (XVl (w.alloc (.cells (vlC x).toArray 57)) w.heap.size x) := ⟨⟨heap_alloc_new w _⟩⟩
  have HB : Aside0 (Below w.heap.size w (w.alloc (.cells (vlC x).toArray 57))) := ⟨(Below.refl _ _).alloc (Nat.le_refl _) _⟩
  generalize (w.alloc (.cells (vlC x).toArray 57)) = w1 at *
  obtain ⟨g, hg⟩ : ∃ g, w.heap.size = g := ⟨_, rfl⟩
  rw [hg] at HX ⊢
  have HG0 := Aside0.mk (show g < w1.heap.size from blk_lt HX.out.blk)
  have HGW := Aside0.mk (show w.heap.size ≤ g from Nat.le_of_eq hg)
  clear hg
  go_upto_region 2 with fail
  have HBn : Aside0 (Below w.heap.size w (w1.alloc (.cells #[.pointer none, .slice none 0 0] 50))) := ⟨HB.out.alloc HB.out.size _⟩
  have HXn : Aside0 (XVl (w1.alloc (.cells #[.pointer none, .slice none 0 0] 50)) g x) := ⟨HX.out.below ((Below.refl _ _).alloc (Nat.le_refl _) _)⟩
  have HWB : Aside0 (WB w1.heap.size w1.heap.size ⟨#[]⟩ (w1.alloc (.cells #[.pointer none, .slice none 0 0] 50))) := ⟨WB.new w1⟩
  have HWS : Aside0 (w1.heap.size ≤ (w1.alloc (.cells #[.pointer none, .slice none 0 0] 50)).heap.size) := ⟨by rw [World.size_alloc]; omega⟩
  have HWb : Aside0 (w.heap.size ≤ w1.heap.size) := ⟨HB.out.size⟩
  clear HB HX
  have HB := HBn
  have HX := HXn
  clear HBn HXn
  generalize (w1.alloc (.cells #[.pointer none, .slice none 0 0] 50)) = w3 at *
  generalize w1.heap.size = b at *
  have x0 : w3.cell? ⟨g, 0, none⟩ = some (.int .i64 6) := HK.out ▸ HX.out.c0
  have x1 := HX.out.c1
  have x2 := HX.out.c2
  have x3 := HX.out.c3
  have x4 := HX.out.c4
  have x5 := HX.out.c5
  have x6 := HX.out.c6
  have x7 := HX.out.c7
  go_wp2_with (first
    | (go_at_call 95; with_reducible refine (A3.out _ HB.out).mono ?_; rintro e wn ⟨rfl, hb2⟩; have n0_ := Aside0.mk (below_next HB.out hb2); have n1_ : Aside0 (XVl wn g x) := ⟨HX.out.below hb2⟩; have n2_ := Aside0.mk (HWB.out.below hb2); have n3_ := Aside0.mk (Nat.le_trans HWS.out hb2.size); clear HB HX HWB HWS hb2 x0 x1 x2 x3 x4 x5 x6 x7; have HB := n0_; have HX := n1_; have HWB := n2_; have HWS := n3_; clear n0_ n1_ n2_ n3_; have x0 : wn.cell? ⟨g, 0, none⟩ = some (.int .i64 6) := HK.out ▸ HX.out.c0; have x1 := HX.out.c1; have x2 := HX.out.c2; have x3 := HX.out.c3; have x4 := HX.out.c4; have x5 := HX.out.c5; have x6 := HX.out.c6; have x7 := HX.out.c7)
    | (go_at_call 47; with_reducible refine (W1.out b _ HWB.out HWS.out).mono ?_; rintro e wn ⟨rfl, hw2, hb2⟩; have n0_ := Aside0.mk (HB.out.trans (hb2.mono HWb.out)); have n1_ : Aside0 (XVl wn g x) := ⟨⟨by rw [hb2.block g HG0.out]; exact HX.out.blk⟩⟩; have n2_ := Aside0.mk hw2; have n3_ := Aside0.mk (Nat.le_trans HWS.out hb2.size); clear HB HX HWB HWS hb2 hw2 x0 x1 x2 x3 x4 x5 x6 x7; have HB := n0_; have HX := n1_; have HWB := n2_; have HWS := n3_; clear n0_ n1_ n2_ n3_; have x0 : wn.cell? ⟨g, 0, none⟩ = some (.int .i64 6) := HK.out ▸ HX.out.c0; have x1 := HX.out.c1; have x2 := HX.out.c2; have x3 := HX.out.c3; have x4 := HX.out.c4; have x5 := HX.out.c5; have x6 := HX.out.c6; have x7 := HX.out.c7)
    | (go_at_call 26; with_reducible refine (W2.out b _ HWB.out HWS.out).mono ?_; rintro e wn ⟨rfl, hw2, hb2⟩; have n0_ := Aside0.mk (HB.out.trans (hb2.mono HWb.out)); have n1_ : Aside0 (XVl wn g x) := ⟨⟨by rw [hb2.block g HG0.out]; exact HX.out.blk⟩⟩; have n2_ := Aside0.mk hw2; have n3_ := Aside0.mk (Nat.le_trans HWS.out hb2.size); clear HB HX HWB HWS hb2 hw2 x0 x1 x2 x3 x4 x5 x6 x7; have HB := n0_; have HX := n1_; have HWB := n2_; have HWS := n3_; clear n0_ n1_ n2_ n3_; have x0 : wn.cell? ⟨g, 0, none⟩ = some (.int .i64 6) := HK.out ▸ HX.out.c0; have x1 := HX.out.c1; have x2 := HX.out.c2; have x3 := HX.out.c3; have x4 := HX.out.c4; have x5 := HX.out.c5; have x6 := HX.out.c6; have x7 := HX.out.c7)
    | (go_at_call 27; with_reducible refine (wstring_any b b _ _ HWB.out HWS.out).mono ?_; rintro e wn ⟨rfl, hb2⟩; have n0_ := Aside0.mk (HB.out.trans (hb2.mono HWb.out)); clear HB hb2; have HB := n0_; clear n0_))
  go_ret
  exact ⟨rfl, HB.out⟩
set_option maxHeartbeats 4000000 in
set_option maxRecDepth 100000 in
theorem pw_o (W w : World) (x : Vl) (f : Nat) (hk : ¬ (1 ≤ x.kind ∧ x.kind ≤ 7)) (_hW : Below W.heap.size W w) (hx : VlOk W x) (hs : SmV W (f + 1) x) (_HPV : PPV W f) (_HPK : PPK W f) :
    Calls Tryz.prog 73 #[.agg (vlC x).toArray] w fun e w' => e = .returned (.string (bytV W (f + 1) x)) ∧ Below w.heap.size w w' := by
  obtain ⟨s1, s2, s3, hsL, hsM⟩ := hs.of
  have hw := hs.2
  have hR := bytV_le W (f + 1) x hx hs
  have hP : kindB x (catB (fun y => putB 1 (bytV W f y)) (vls W x.l)) (catB (fun y => putB 1 (keyB (bytV W f) y)) (kvs W x.m)) = ⟨#[]⟩ := by unfold kindB; rw [if_neg (by omega), if_neg (by omega), if_neg (by omega), if_neg (by omega), if_neg (by omega), if_neg (by omega)]
  have hE : bytV W (f + 1) x = ⟨#[]⟩ ++ x.unk := by
    show kindB x _ _ ++ x.unk = _
    rw [hP]
  rw [hE, ByteArray.size_append] at hR
  have hn0 := hx.n.1
  have hn1 := hx.n.2
  obtain ⟨Q, hQ⟩ : ∃ Q, (⟨#[]⟩ : ByteArray) = Q := ⟨_, rfl⟩
  rw [hQ] at hE hR
  rw [hE]
  have W2 := Aside0.mk (fun (b : Nat) (w2 : World) (h : WB b b Q w2) (hb : b ≤ w2.heap.size) => (show Calls Tryz.prog 26 #[.pointer (some ⟨b, 0, none⟩), .string x.unk] w2 (fun e w' => e = .returned (.tuple #[]) ∧ WB b b (Q ++ x.unk) w' ∧ Below b w2 w') from by exact wraw_any b b Q x.unk w2 h (by omega) hb))
  have k1 : (x.kind == 1) = false := by rw [beq_eq_false_iff_ne]; omega
  have k7 : (x.kind == 7) = false := by rw [beq_eq_false_iff_ne]; omega
  have k2 : (x.kind == 2) = false := by rw [beq_eq_false_iff_ne]; omega
  have k3 : (x.kind == 3) = false := by rw [beq_eq_false_iff_ne]; omega
  have k4 : (x.kind == 4) = false := by rw [beq_eq_false_iff_ne]; omega
  have k5 : (x.kind == 5) = false := by rw [beq_eq_false_iff_ne]; omega
  have k6 : (x.kind == 6) = false := by rw [beq_eq_false_iff_ne]; omega
  have HQ := Aside0.mk hQ
  clear _hW hx hs _HPV _HPK hw hR hP hE hQ hn0 hn1 s1 s2 s3 hsL hsM hk
  go_enter Tryz.func73, Tryz.ntmps73
  go_upto_region 1 with (with_reducible refine gate_dst (N := 1) rfl ?_; refine Great.wpList_boxTo rfl 57 _ rfl _ rfl w.heap.size rfl (vlC x).toArray rfl ?_)
  have HX : Aside0 (XVl (w.alloc (.cells (vlC x).toArray 57)) w.heap.size x) := ⟨⟨heap_alloc_new w _⟩⟩
  have HB : Aside0 (Below w.heap.size w (w.alloc (.cells (vlC x).toArray 57))) := ⟨(Below.refl _ _).alloc (Nat.le_refl _) _⟩
  generalize (w.alloc (.cells (vlC x).toArray 57)) = w1 at *
  obtain ⟨g, hg⟩ : ∃ g, w.heap.size = g := ⟨_, rfl⟩
  rw [hg] at HX ⊢
  have HG0 := Aside0.mk (show g < w1.heap.size from blk_lt HX.out.blk)
  have HGW := Aside0.mk (show w.heap.size ≤ g from Nat.le_of_eq hg)
  clear hg
  go_upto_region 2 with fail
  have HBn : Aside0 (Below w.heap.size w (w1.alloc (.cells #[.pointer none, .slice none 0 0] 50))) := ⟨HB.out.alloc HB.out.size _⟩
  have HXn : Aside0 (XVl (w1.alloc (.cells #[.pointer none, .slice none 0 0] 50)) g x) := ⟨HX.out.below ((Below.refl _ _).alloc (Nat.le_refl _) _)⟩
  have HWB : Aside0 (WB w1.heap.size w1.heap.size ⟨#[]⟩ (w1.alloc (.cells #[.pointer none, .slice none 0 0] 50))) := ⟨WB.new w1⟩
  have HWS : Aside0 (w1.heap.size ≤ (w1.alloc (.cells #[.pointer none, .slice none 0 0] 50)).heap.size) := ⟨by rw [World.size_alloc]; omega⟩
  have HWb : Aside0 (w.heap.size ≤ w1.heap.size) := ⟨HB.out.size⟩
  clear HB HX
  have HB := HBn
  have HX := HXn
  clear HBn HXn
  generalize (w1.alloc (.cells #[.pointer none, .slice none 0 0] 50)) = w3 at *
  generalize w1.heap.size = b at *
  rw [HQ.out] at HWB
  have x0 := HX.out.c0
  have x1 := HX.out.c1
  have x2 := HX.out.c2
  have x3 := HX.out.c3
  have x4 := HX.out.c4
  have x5 := HX.out.c5
  have x6 := HX.out.c6
  have x7 := HX.out.c7
  go_wp2_with (first
    | (go_at_call 26; with_reducible refine (W2.out b _ HWB.out HWS.out).mono ?_; rintro e wn ⟨rfl, hw2, hb2⟩; have n0_ := Aside0.mk (HB.out.trans (hb2.mono HWb.out)); have n1_ : Aside0 (XVl wn g x) := ⟨⟨by rw [hb2.block g HG0.out]; exact HX.out.blk⟩⟩; have n2_ := Aside0.mk hw2; have n3_ := Aside0.mk (Nat.le_trans HWS.out hb2.size); clear HB HX HWB HWS hb2 hw2 x0 x1 x2 x3 x4 x5 x6 x7; have HB := n0_; have HX := n1_; have HWB := n2_; have HWS := n3_; clear n0_ n1_ n2_ n3_; have x0 := HX.out.c0; have x1 := HX.out.c1; have x2 := HX.out.c2; have x3 := HX.out.c3; have x4 := HX.out.c4; have x5 := HX.out.c5; have x6 := HX.out.c6; have x7 := HX.out.c7)
    | (go_at_call 27; with_reducible refine (wstring_any b b _ _ HWB.out HWS.out).mono ?_; rintro e wn ⟨rfl, hb2⟩; have n0_ := Aside0.mk (HB.out.trans (hb2.mono HWb.out)); clear HB hb2; have HB := n0_; clear n0_))
  go_ret
  exact ⟨rfl, HB.out⟩
theorem pw_next (W : World) (f : Nat) (HPV : PPV W f) (HPK : PPK W f) : PW W (f + 1) := by
  intro w x hW hx hs
  by_cases h1 : x.kind = 1
  · exact pw_1 W w x f h1 hW hx hs HPV HPK
  by_cases h7 : x.kind = 7
  · exact pw_7 W w x f h7 hW hx hs HPV HPK
  by_cases h2 : x.kind = 2
  · cases hb : x.b
    · exact pw_2f W w x f h2 hb hW hx hs HPV HPK
    · exact pw_2t W w x f h2 hb hW hx hs HPV HPK
  by_cases h3 : x.kind = 3
  · exact pw_3 W w x f h3 hW hx hs HPV HPK
  by_cases h4 : x.kind = 4
  · exact pw_4 W w x f h4 hW hx hs HPV HPK
  by_cases h5 : x.kind = 5
  · exact pw_5 W w x f h5 hW hx hs HPV HPK
  by_cases h6 : x.kind = 6
  · exact pw_6 W w x f h6 hW hx hs HPV HPK
  exact pw_o W w x f (by omega) hW hx hs HPV HPK
theorem pw_all (W : World) : ∀ f, PW W f
  | 0 => fun _ _ _ _ hs => hs.1.elim
  | f + 1 => pw_next W f (ppv_any W f (pw_all W f)) (ppk_any W f (pwk_any W f (pw_all W f)))
theorem pwk_all (W : World) (f : Nat) : PWK W f := pwk_any W f (pw_all W f)
end Go.Proofs.YtnghlkbmfhkmoaaGreatDoor
namespace Go.Proofs.YtnghlkbmfhkmoaaGreatDoor
open Go.RowKit Go.Proofs.YtnghlkbmfhkmoaaGreatDoorW.PrintWords Go.Proofs.YtnghlkbmfhkmoaaGreatDoorW.PrintLast Go.Proofs.YtnghlkbmfhkmoaaGreatDoorW.PrintMore Hy
/-! ### value.MarshalKey, msg.Parts -/
set_option maxHeartbeats 4000000 in
set_option maxRecDepth 100000 in
theorem mkey_ok (W w : World) (f : Nat) (y : Kv) (d : Int) (hW : Below W.heap.size W w) (hy : KvOk W y) (hs : SmK W f y) (hd : -9223372036854775808 ≤ d) (hd1 : d < 9223372036854775808) (hm : mayK (mayV W f) d y = true) :
    Calls Tryz.prog 25 #[.agg (kvC y).toArray, .int .i64 d] w fun e w' => e = .returned (.tuple #[.string (keyB (bytV W f) y), .nilIface]) ∧ Below w.heap.size w w' := by
  have A1 := Aside0.mk (fun w2 (hb : Below w.heap.size w w2) => pmk_all W f w2 y d (hW.trans (hb.mono hW.size)) hy hs hd hd1)
  have A2 := Aside0.mk (fun w2 (hb : Below w.heap.size w w2) => pwk_all W f w2 y (hW.trans (hb.mono hW.size)) hy hs)
  rw [hm] at A1
  generalize keyB (bytV W f) y = Q at *
  clear hW hy hs hd hd1 hm
  go_enter Tryz.func25, Tryz.ntmps25
  go_upto_region 1 with (with_reducible refine gate_dst (N := 2) rfl ?_; refine Great.wpList_boxTo rfl 59 _ rfl _ rfl w.heap.size rfl (kvC y).toArray rfl ?_)
  have HX : Aside0 (XK (w.alloc (.cells (kvC y).toArray 59)) w.heap.size y) := ⟨⟨heap_alloc_new w _⟩⟩
  have HB : Aside0 (Below w.heap.size w (w.alloc (.cells (kvC y).toArray 59))) := ⟨(Below.refl _ _).alloc (Nat.le_refl _) _⟩
  generalize (w.alloc (.cells (kvC y).toArray 59)) = w1 at *
  generalize hg : w.heap.size = g at HX ⊢
  clear hg
  go_wp2_with (first
    | (refine wpList_load_row rfl 59 _ rfl g rfl 59 (kvC y).toArray (0, 0) _ HX.out.blk Tryz.underlying59 rfl (by kernel_rfl) ?_)
    | (go_at_call 48; with_reducible refine (A1.out _ HB.out).mono ?_; rintro e wn ⟨rfl, hb2⟩; have n0_ := Aside0.mk (below_next HB.out hb2); have n1_ := Aside0.mk (HX.out.below hb2); clear HB HX hb2; have HB := n0_; have HX := n1_; clear n0_ n1_)
    | (go_at_call 49; with_reducible refine (A2.out _ HB.out).mono ?_; rintro e wn ⟨rfl, hb2⟩; have n0_ := Aside0.mk (below_next HB.out hb2); have n1_ := Aside0.mk (HX.out.below hb2); clear HB HX hb2; have HB := n0_; have HX := n1_; clear n0_ n1_))
  go_ret2
  exact ⟨rfl, HB.out⟩
set_option maxHeartbeats 4000000 in
set_option maxRecDepth 100000 in
theorem parts_any (W w : World) (f : Nat) (b : Nat) (s : ByteArray) (at_ : Sl) (num d : Int) (hW : Below W.heap.size W w) (hs : Rd Tryz.prog W 22 [at_.v]) (hf : ∀ y ∈ kvs W at_, SmK W f y) (hm : ∀ y ∈ kvs W at_, mayK (mayV W f) (d - 1) y = true) (hw : ((kvs W at_).map (kw W f)).sum ≤ 12000)
    (hd : 0 ≤ d) (hd1 : d < 9223372036854775808) (hsz : s.size ≤ 1000000000) (hWb : W.heap.size ≤ b) (hwb : WB b b s w) (hb_ : b ≤ w.heap.size) :
    WAdds 24 b b s (catB (fun y => putB num (keyB (bytV W f) y)) (kvs W at_)) [.int .i64 num, at_.v, .int .i64 d, .func (.func 25) #[] #[]] w := by
  have hl := kvs_at hs
  generalize kvs W at_ = l at *
  obtain ⟨sa, sn, sc⟩ := at_
  obtain rfl : sn = l.length := hl.1
  have hlm : l.length ≤ 9223372036854775807 := by have h := hl.2.1; have h2 := hl.2.2.1; unfold maxLen at h2; simp only at h h2; omega
  have hP : ∀ y ∈ l, ((fun y => putB num (keyB (bytV W f) y)) y).size ≤ kw W f y := fun y hy => show (putB num (keyB (bytV W f) y)).size ≤ kw W f y from by have e1 := keyB_le (hf y hy) (bytV_le W f y.v (slAt_ok hl y hy).v (hf y hy).v); have e2 := sum_mem (g := kw W f) hy; have e3 := putB_le num (keyB (bytV W f) y) (by omega); omega
  have hQ : ∀ y ∈ l, (keyB (bytV W f) y).size ≤ 12000 := fun y hy => by have e1 := keyB_le (hf y hy) (bytV_le W f y.v (slAt_ok hl y hy).v (hf y hy).v); have e2 := sum_mem (g := kw W f) hy; omega
  have HP := Aside0.mk hP
  have HQ := Aside0.mk hQ
  have HL := Aside0.mk hl
  have HW := Aside0.mk hW
  have HF := Aside0.mk hf
  have HMY := Aside0.mk hm
  have HSM := Aside0.mk hw
  have HSZ := Aside0.mk hsz
  have HD := Aside0.mk (And.intro hd hd1)
  have HBW := Aside0.mk hWb
  have w1_ : wrap64 (d - 1) = d - 1 := by unfold wrap64; omega
  have HB := Aside0.mk (Below.refl b w)
  generalize hpt : (fun y => putB num (keyB (bytV W f) y)) = pt at HP ⊢
  have HPT := Aside0.mk hpt
  have HWB := Aside0.mk (show WB b b (s ++ catB pt (l.take 0)) w by rw [show catB pt (l.take 0) = ⟨#[]⟩ from rfl, app_none]; exact hwb)
  have HWS := Aside0.mk hb_
  clear hl hW hf hs hP hQ hw hm hsz hWb hwb hb_ hpt hd hd1
  unfold WAdds Sl.v
  show Calls _ _ #[.pointer (some ⟨b, 0, none⟩), .int .i64 num, .slice sa l.length sc, .int .i64 d, .func (.func 25) #[] #[]] _ _
  go_enter Tryz.func24, Tryz.ntmps24
  go_wp2_with fail
  go_loopw [16] (fun v16 w' => ∃ i : Nat, v16 = .int .i64 (i : Int) ∧ i ≤ l.length ∧ Aside0 (WB b b (s ++ catB pt (l.take i)) w') ∧ Aside0 (b ≤ w'.heap.size) ∧ Aside0 (Below b w w')) (fun v16 _ => l.length - (intOf v16).toNat)
  case atStart => exact ⟨0, rfl, Nat.zero_le _, HWB, HWS, HB⟩
  case round =>
    clear HB HWB HWS
    obtain ⟨i, rfl, hi, HWB, HWS, HB⟩ := hrel
    by_cases hlt : i < l.length
    · obtain ⟨ad, rfl, hel⟩ := HL.out.2.2.2 (by omega)
      obtain ⟨he1, he2⟩ := hel i hlt
      have hfi := HF.out l[i] (List.getElem_mem hlt)
      have hmi := HMY.out l[i] (List.getElem_mem hlt)
      have hpi := HP.out l[i] (List.getElem_mem hlt)
      have hqi := HQ.out l[i] (List.getElem_mem hlt)
      have hsi := sum_mem (g := kw W f) (List.getElem_mem hlt)
      have hci := catB_le pt (kw W f) l i HP.out
      have hni := catB_next pt l i l[i] (List.getElem?_eq_getElem hlt)
      have hpe : pt l[i] = putB num (keyB (bytV W f) l[i]) := by rw [← HPT.out]
      generalize l[i] = y at *
      have hWr : Below W.heap.size W wr := HW.out.trans (HB.out.mono HBW.out)
      have HPX := Aside0.mk (cells_below hWr (kv_cells he1))
      have HKY := Aside0.mk (fun w2 (hb : Below wr.heap.size wr w2) => mkey_ok W w2 f y (d - 1) (hWr.trans (hb.mono hWr.size)) he2 hfi (by have := HD.out; omega) (by have := HD.out; omega) hmi)
      obtain ⟨q, hq⟩ : ∃ q, keyB (bytV W f) y = q := ⟨_, rfl⟩
      rw [hq] at HKY hpe hqi
      obtain ⟨sA, hsA⟩ : ∃ sA, s ++ catB pt (l.take i) = sA := ⟨_, rfl⟩
      obtain ⟨sB, hsB⟩ : ∃ sB, s ++ catB pt (l.take (i + 1)) = sB := ⟨_, rfl⟩
      have hAB : sA ++ putB num q = sB := by rw [← hsB, hni, hpe, ← hsA]; exact ByteArray.append_assoc
      have hAs : sA.size ≤ 1000012000 := by rw [← hsA, ByteArray.size_append]; have := HSM.out; have := HSZ.out; omega
      have HWPt := Aside0.mk (fun (w2 : World) (h : WB b b sA w2) (hb : b ≤ w2.heap.size) => (show Calls Tryz.prog 47 #[.pointer (some ⟨b, 0, none⟩), .int .i64 num, .string q] w2 (fun e w' => e = .returned (.tuple #[]) ∧ WB b b sB w' ∧ Below b w2 w') from by
        have h_ := wpart_any b b sA num q (by omega) w2 h (by have e1 := putB_le num q (by omega); unfold putB at e1; omega) hb
        rw [← hAB]
        exact h_))
      rw [hsA] at HWB
      have HBr := HB
      have HSB := Aside0.mk hsB
      clear HB he1 he2 hel hfi hmi hWr hpi hqi hsi hci hni hpe hq hsA hsB hAB hAs
      have c1 : (i : Int) < (l.length : Int) := by omega
      have c2 : (0 : Int) ≤ (i : Int) := by omega
      go_upto_region 3 with (first
        | ((with_reducible refine gate_dst (N := 19) rfl ?_); refine wpList_load_at rfl 59 _ rfl (ad.add (i * 11)) rfl (kvC y) HPX.out Tryz.underlying59 rfl (by kernel_rfl) ?_)
        | ((with_reducible refine gate_dst (N := 11) rfl ?_); refine wpList_allocZ rfl 59 rfl zcK zeroK (by kernel_rfl) rfl ?_)
        | (refine wpList_store_row rfl 59 _ _ rfl wr.heap.size (kvC y).toArray rfl rfl 59 zcK (heap_alloc_new wr _) (by kernel_rfl) zcK_sz (kvC_all _) ?_))
      have hB1 : Below wr.heap.size wr ((wr.alloc (.cells zcK 59)).setRow wr.heap.size (kvC y).toArray) := below_copy (Below.refl _ _) _ _
      have H1 := Aside0.mk (show XK ((wr.alloc (.cells zcK 59)).setRow wr.heap.size (kvC y).toArray) wr.heap.size y from ⟨copy_at _ _ _⟩)
      have HWB1 := Aside0.mk (HWB.out.below hB1)
      have HWS1 := Aside0.mk (Nat.le_trans HWS.out hB1.size)
      have HBn := Aside0.mk (HBr.out.trans (hB1.mono HWS.out))
      generalize (wr.alloc (.cells zcK 59)).setRow wr.heap.size (kvC y).toArray = w2 at *
      generalize hp1 : wr.heap.size = p1 at H1 ⊢
      clear hp1
      have HB := Aside0.mk hB1
      clear hB1 HPX HWB HWS HBr
      go_wp2_with (first
        | (refine wpList_load_row rfl 59 _ rfl p1 rfl 59 (kvC y).toArray (0, 0) _ H1.out.blk Tryz.underlying59 rfl (by kernel_rfl) ?_)
        | (go_at_call 25; with_reducible refine (HKY.out _ HB.out).mono ?_; rintro e w4 ⟨rfl, hb⟩; have n0_ := Aside0.mk (HBn.out.trans (hb.mono HWS1.out)); have n1_ := Aside0.mk (HWB1.out.below hb); have n2_ := Aside0.mk (Nat.le_trans HWS1.out hb.size); clear HB HBn HWB1 HWS1 hb H1; have HBn := n0_; have HWB1 := n1_; have HWS1 := n2_; clear n0_ n1_ n2_)
        | (go_at_call 47; with_reducible refine (HWPt.out _ HWB1.out HWS1.out).mono ?_; rintro e w5 ⟨rfl, hw5, hb⟩; have n0_ := Aside0.mk (HBn.out.trans hb); have n1_ := Aside0.mk hw5; have n2_ := Aside0.mk (Nat.le_trans HWS1.out hb.size); clear HBn HWB1 HWS1 hb hw5; have HBn := n0_; have HWB1 := n1_; have HWS1 := n2_; clear n0_ n1_ n2_))
      go_roundw
      case rel => exact ⟨i + 1, by go_num, by omega, ⟨by rw [HSB.out]; exact HWB1.out⟩, HWS1, HBn⟩
      case measure => simp [intOf]; omega
    · have hca := catB_all pt l i (by omega)
      rw [hca] at HWB
      clear hca
      go_wp2_with fail
      go_end0
      exact ⟨rfl, HWB.out, HB.out⟩
end Go.Proofs.YtnghlkbmfhkmoaaGreatDoor
