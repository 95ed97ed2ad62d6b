import Derived.Test.YtnghlkbmfhkmoaaGreatDoorMqazhvmzc
import Derived.Test.YtnghlkbmfhkmoaaGreatDoorMvowcrwyo
import Derived.Test.YtnghlkbmfhkmoaaGreatDoorMojdyrbwk
namespace Go.Proofs.YtnghlkbmfhkmoaaGreatDoor
open Go.RowKit Go.Proofs.YtnghlkbmfhkmoaaGreatDoorW.PrintWords Go.Proofs.YtnghlkbmfhkmoaaGreatDoorW.PrintLast Go.Proofs.YtnghlkbmfhkmoaaGreatDoorW.PrintMore Hy
open CExw CExr
/-! ### may an exemplar be -/
def mnB (k n : Int) : Bool := decide (0 ≤ k) && (decide (k ≤ 2) && (decide (0 < k) || decide (n = 0)))
noncomputable def mayE (W : World) (f : Nat) (d : Int) (x : Exm) : Bool := decide (0 ≤ d) && (mnB x.kind x.n && ((kvs W x.attrs).all (mayK (mayV W f) (d - 1)) && restB tbE d x.unk))
theorem maynum_f (k n : Int) : msg_MayNumber.f k n = some (mnB k n) := by
  unfold msg_MayNumber.f mnB
  by_cases h0 : k ≥ 0
  · rw [if_pos h0, decide_eq_true (show 0 ≤ k from h0)]
    by_cases h2 : k ≤ 2
    · rw [if_pos h2, decide_eq_true h2]
      by_cases h1 : k > 0
      · rw [if_pos h1, decide_eq_true (show 0 < k from h1)]; rfl
      · rw [if_neg h1, decide_eq_false (show ¬ 0 < k from h1), int_b]; rfl
    · rw [if_neg h2, decide_eq_false h2]; rfl
  · rw [if_neg h0, decide_eq_false (show ¬ 0 ≤ k from h0)]; rfl
theorem maynum_any (k n : Int) (w : World) : Calls Tryz.prog 28 #[.int .i64 k, .int .u64 n] w fun e w' => e = .returned (.bool (mnB k n)) ∧ Below w.heap.size w w' :=
  (msg_MayNumber.calls k n _ w (maynum_f k n)).mono fun _ _ ⟨h1, h2⟩ => ⟨h1, below_of_drawn h2⟩
set_option maxHeartbeats 4000000 in
set_option maxRecDepth 100000 in
theorem emay_any (W w : World) (f : Nat) (x : Exm) (d : Int) (hW : Below W.heap.size W w) (hx : ExmOk W x) (hu : x.unk.size ≤ 100000) (hs : ∀ y ∈ kvs W x.attrs, SmK W f y) (hd1 : d < 9223372036854775808) :
    Calls Tryz.prog 11 #[.agg (exmC x).toArray, .int .i64 d] w fun e w' => e = .returned (.bool (mayE W f d x)) ∧ Below w.heap.size w w' := by
  unfold mayE
  by_cases h0 : 0 ≤ d
  · have A1 := Aside0.mk (fun w2 => maynum_any x.kind x.n w2)
    have A2 := Aside0.mk (fun w2 (hb : Below w.heap.size w w2) => pmks_all W f w2 x.attrs (d - 1) (hW.trans (hb.mono hW.size)) hx.attrs hs (by omega) (by omega))
    have A3 := Aside0.mk (fun w2 => rest_E w2 x.unk d hu h0 hd1)
    have w1_ : wrap64 (d - 1) = d - 1 := by unfold wrap64; omega
    rw [decide_eq_true h0]
    unfold Sl.v at A2
    generalize mnB x.kind x.n = q1 at *
    generalize (kvs W x.attrs).all (mayK (mayV W f) (d - 1)) = q2 at *
    generalize restB tbE d x.unk = q3 at *
    clear hW hx hu hs hd1
    cases q1 <;> cases q2 <;> cases q3
    all_goals
      go_enter Tryz.func11, Tryz.ntmps11
      go_upto_region 1 with (with_reducible refine gate_dst (N := 2) rfl ?_; refine Great.wpList_boxTo rfl 25 _ rfl _ rfl w.heap.size rfl (exmC x).toArray rfl ?_)
      have HX : Aside0 (XEm (w.alloc (.cells (exmC x).toArray 25)) w.heap.size x) := ⟨⟨heap_alloc_new w _⟩⟩
      have HB : Aside0 (Below w.heap.size w (w.alloc (.cells (exmC x).toArray 25))) := ⟨(Below.refl _ _).alloc (Nat.le_refl _) _⟩
      generalize (w.alloc (.cells (exmC x).toArray 25)) = w1 at *
      generalize hg : w.heap.size = g at HX ⊢
      clear hg
      have x0 := HX.out.c0
      have x1 := HX.out.c1
      have x2 := HX.out.c2
      have x3 := HX.out.c3
      have x4 := HX.out.c4
      have x5 := HX.out.c5
      have x6 := HX.out.c6
      go_wp2_with (first
        | (go_at_call 28; with_reducible refine (A1.out _).mono ?_; rintro e wn ⟨rfl, hb2⟩; have n0_ := Aside0.mk (below_next HB.out hb2); have n1_ := Aside0.mk (HX.out.below hb2); clear HB HX hb2 x0 x1 x2 x3 x4 x5 x6; have HB := n0_; have HX := n1_; clear n0_ n1_; have x0 := HX.out.c0; have x1 := HX.out.c1; have x2 := HX.out.c2; have x3 := HX.out.c3; have x4 := HX.out.c4; have x5 := HX.out.c5; have x6 := HX.out.c6)
        | (go_at_call 29; with_reducible refine (A2.out _ HB.out).mono ?_; rintro e wn ⟨rfl, hb2⟩; have n0_ := Aside0.mk (below_next HB.out hb2); have n1_ := Aside0.mk (HX.out.below hb2); clear HB HX hb2 x0 x1 x2 x3 x4 x5 x6; have HB := n0_; have HX := n1_; clear n0_ n1_; have x0 := HX.out.c0; have x1 := HX.out.c1; have x2 := HX.out.c2; have x3 := HX.out.c3; have x4 := HX.out.c4; have x5 := HX.out.c5; have x6 := HX.out.c6)
        | (go_at_call 30; with_reducible refine (A3.out _).mono ?_; rintro e wn ⟨rfl, hb2⟩; have n0_ := Aside0.mk (below_next HB.out hb2); have n1_ := Aside0.mk (HX.out.below hb2); clear HB HX hb2 x0 x1 x2 x3 x4 x5 x6; have HB := n0_; have HX := n1_; clear n0_ n1_; have x0 := HX.out.c0; have x1 := HX.out.c1; have x2 := HX.out.c2; have x3 := HX.out.c3; have x4 := HX.out.c4; have x5 := HX.out.c5; have x6 := HX.out.c6))
      go_ret
      exact ⟨rfl, HB.out⟩
  · rw [decide_eq_false h0, Bool.false_and]
    clear hW hx hu hs hd1
    go_enter Tryz.func11, Tryz.ntmps11
    go_upto_region 1 with (with_reducible refine gate_dst (N := 2) rfl ?_; refine Great.wpList_boxTo rfl 25 _ rfl _ rfl w.heap.size rfl (exmC x).toArray rfl ?_)
    have HX : Aside0 (XEm (w.alloc (.cells (exmC x).toArray 25)) w.heap.size x) := ⟨⟨heap_alloc_new w _⟩⟩
    have HB : Aside0 (Below w.heap.size w (w.alloc (.cells (exmC x).toArray 25))) := ⟨(Below.refl _ _).alloc (Nat.le_refl _) _⟩
    generalize (w.alloc (.cells (exmC x).toArray 25)) = w1 at *
    generalize hg : w.heap.size = g at HX ⊢
    clear hg
    have x0 := HX.out.c0
    have x1 := HX.out.c1
    have x2 := HX.out.c2
    have x3 := HX.out.c3
    have x4 := HX.out.c4
    have x5 := HX.out.c5
    have x6 := HX.out.c6
    go_wp2_with fail
    go_ret
    exact ⟨rfl, HB.out⟩
theorem xekind {w : World} {g : Nat} {x : Exm} {k : Int} (h : XEm w g x) (hk : x.kind = k) : w.cell? ⟨g, 2, none⟩ = some (.int .i64 k) := by rw [← hk]; exact h.c2
theorem xen {w : World} {g : Nat} {x : Exm} {k : Int} (h : XEm w g x) (hk : x.n = k) : w.cell? ⟨g, 3, none⟩ = some (.int .u64 k) := by rw [← hk]; exact h.c3
set_option maxHeartbeats 4000000 in
set_option maxRecDepth 100000 in
theorem rmx_low (w : World) (x : Exm) (d : Int) (h0 : d < 0) : Calls Tryz.prog 9 #[.agg (exmC x).toArray, .int .i64 d] w fun e w' => e = .returned (.bool false) ∧ Below w.heap.size w w' := by
  have dl : decide (d ≥ 0) = false := decide_eq_false (by omega)
  go_enter Tryz.func9, Tryz.ntmps9
  go_upto_region 1 with (with_reducible refine gate_dst (N := 2) rfl ?_; refine Great.wpList_boxTo rfl 25 _ rfl _ rfl w.heap.size rfl (exmC x).toArray rfl ?_)
  have HX : Aside0 (XEm (w.alloc (.cells (exmC x).toArray 25)) w.heap.size x) := ⟨⟨heap_alloc_new w _⟩⟩
  have HB : Aside0 (Below w.heap.size w (w.alloc (.cells (exmC x).toArray 25))) := ⟨(Below.refl _ _).alloc (Nat.le_refl _) _⟩
  generalize (w.alloc (.cells (exmC x).toArray 25)) = w1 at *
  generalize hg : w.heap.size = g at HX ⊢
  clear hg
  have x0 := HX.out.c0
  have x1 := HX.out.c1
  have x2 := HX.out.c2
  have x3 := HX.out.c3
  have x4 := HX.out.c4
  have x5 := HX.out.c5
  have x6 := HX.out.c6
  go_quiet (fail)
  go_wp2_with fail
  go_ret
  exact ⟨rfl, pw_below_drewN HB.out _⟩
set_option maxHeartbeats 4000000 in
set_option maxRecDepth 100000 in
theorem rmx_neg (w : World) (x : Exm) (d : Int) (h0 : 0 ≤ d) (hk : x.kind < 0) : Calls Tryz.prog 9 #[.agg (exmC x).toArray, .int .i64 d] w fun e w' => e = .returned (.bool false) ∧ Below w.heap.size w w' := by
  have dl : decide (d ≥ 0) = true := decide_eq_true h0
  have e1 : decide (x.kind ≥ 0) = false := decide_eq_false (by omega)
  go_enter Tryz.func9, Tryz.ntmps9
  go_upto_region 1 with (with_reducible refine gate_dst (N := 2) rfl ?_; refine Great.wpList_boxTo rfl 25 _ rfl _ rfl w.heap.size rfl (exmC x).toArray rfl ?_)
  have HX : Aside0 (XEm (w.alloc (.cells (exmC x).toArray 25)) w.heap.size x) := ⟨⟨heap_alloc_new w _⟩⟩
  have HB : Aside0 (Below w.heap.size w (w.alloc (.cells (exmC x).toArray 25))) := ⟨(Below.refl _ _).alloc (Nat.le_refl _) _⟩
  generalize (w.alloc (.cells (exmC x).toArray 25)) = w1 at *
  generalize hg : w.heap.size = g at HX ⊢
  clear hg
  have x0 := HX.out.c0
  have x1 := HX.out.c1
  have x2 := HX.out.c2
  have x3 := HX.out.c3
  have x4 := HX.out.c4
  have x5 := HX.out.c5
  have x6 := HX.out.c6
  go_quiet (fail)
  go_wp2_with fail
  go_ret
  exact ⟨rfl, pw_below_drewN HB.out _⟩
set_option maxHeartbeats 4000000 in
set_option maxRecDepth 100000 in
theorem rmx_big (w : World) (x : Exm) (d : Int) (h0 : 0 ≤ d) (hk : 2 < x.kind) : Calls Tryz.prog 9 #[.agg (exmC x).toArray, .int .i64 d] w fun e w' => e = .returned (.bool false) ∧ Below w.heap.size w w' := by
  have dl : decide (d ≥ 0) = true := decide_eq_true h0
  have e1 : decide (x.kind ≥ 0) = true := decide_eq_true (by omega)
  have e2 : decide (x.kind ≤ 2) = false := decide_eq_false (by omega)
  go_enter Tryz.func9, Tryz.ntmps9
  go_upto_region 1 with (with_reducible refine gate_dst (N := 2) rfl ?_; refine Great.wpList_boxTo rfl 25 _ rfl _ rfl w.heap.size rfl (exmC x).toArray rfl ?_)
  have HX : Aside0 (XEm (w.alloc (.cells (exmC x).toArray 25)) w.heap.size x) := ⟨⟨heap_alloc_new w _⟩⟩
  have HB : Aside0 (Below w.heap.size w (w.alloc (.cells (exmC x).toArray 25))) := ⟨(Below.refl _ _).alloc (Nat.le_refl _) _⟩
  generalize (w.alloc (.cells (exmC x).toArray 25)) = w1 at *
  generalize hg : w.heap.size = g at HX ⊢
  clear hg
  have x0 := HX.out.c0
  have x1 := HX.out.c1
  have x2 := HX.out.c2
  have x3 := HX.out.c3
  have x4 := HX.out.c4
  have x5 := HX.out.c5
  have x6 := HX.out.c6
  go_quiet (fail)
  go_wp2_with fail
  go_ret
  exact ⟨rfl, pw_below_drewN HB.out _⟩
set_option maxHeartbeats 4000000 in
set_option maxRecDepth 100000 in
theorem rmx_n (w : World) (x : Exm) (d : Int) (h0 : 0 ≤ d) (hk : x.kind = 0) (hn : ¬ x.n = 0) : Calls Tryz.prog 9 #[.agg (exmC x).toArray, .int .i64 d] w fun e w' => e = .returned (.bool false) ∧ Below w.heap.size w w' := by
  have dl : decide (d ≥ 0) = true := decide_eq_true h0
  have e1 : decide (x.kind ≥ 0) = true := decide_eq_true (by omega)
  have e2 : decide (x.kind ≤ 2) = true := decide_eq_true (by omega)
  have e3 : decide (x.kind > 0) = false := decide_eq_false (by omega)
  have e4 : (x.n == 0) = false := by rw [beq_eq_false_iff_ne]; exact hn
  clear hk
  go_enter Tryz.func9, Tryz.ntmps9
  go_upto_region 1 with (with_reducible refine gate_dst (N := 2) rfl ?_; refine Great.wpList_boxTo rfl 25 _ rfl _ rfl w.heap.size rfl (exmC x).toArray rfl ?_)
  have HX : Aside0 (XEm (w.alloc (.cells (exmC x).toArray 25)) w.heap.size x) := ⟨⟨heap_alloc_new w _⟩⟩
  have HB : Aside0 (Below w.heap.size w (w.alloc (.cells (exmC x).toArray 25))) := ⟨(Below.refl _ _).alloc (Nat.le_refl _) _⟩
  generalize (w.alloc (.cells (exmC x).toArray 25)) = w1 at *
  generalize hg : w.heap.size = g at HX ⊢
  clear hg
  have x0 := HX.out.c0
  have x1 := HX.out.c1
  have x2 := HX.out.c2
  have x3 := HX.out.c3
  have x4 := HX.out.c4
  have x5 := HX.out.c5
  have x6 := HX.out.c6
  go_quiet (fail)
  go_wp2_with fail
  go_ret
  exact ⟨rfl, pw_below_drewN HB.out _⟩
set_option maxHeartbeats 4000000 in
set_option maxRecDepth 100000 in
theorem rmx_0 (W w : World) (f : Nat) (x : Exm) (d : Int) (h0 : 0 ≤ d) (hk : x.kind = 0) (hn : x.n = 0) (hW : Below W.heap.size W w) (hx : ExmOk W x) (hu : x.unk.size ≤ 100000) (hs : ∀ y ∈ kvs W x.attrs, SmK W f y) (hd1 : d < 9223372036854775808) :
    Calls Tryz.prog 9 #[.agg (exmC x).toArray, .int .i64 d] w fun e w' => e = .returned (.bool ((kvs W x.attrs).all (mayK (mayV W f) (d - 1)) && restB tbE d x.unk)) ∧ Below w.heap.size w w' := by
  have A3 : Aside0 (∀ (w2 : World) (A : Option Addr) (c : Nat), Kd.C (Kd.int .i64) w2 A tbE.length (tbE.map fun (x : Nat) => (x : Int)) → tbE.length ≤ c → Calls Tryz.prog 19 #[.string x.unk, .int .i64 d, .slice A tbE.length c] w2 fun e w' => e = .returned (.bool (restB tbE d x.unk)) ∧ Below w2.heap.size w2 w') := ⟨fun w2 A c hC hc => by have h := unk_any tbE tbE_ok.1 tbE_ok.2 A c x.unk d w2 hC hc hu hd1; rw [decide_eq_true h0, Bool.true_and] at h; exact h⟩
  have A2 := Aside0.mk (fun w2 (hb : Below w.heap.size w w2) => rmks_all W f w2 x.attrs (d - 1) (hW.trans (hb.mono hW.size)) hx.attrs hs (by omega) (by omega))
  rw [show d - 1 = wrap64 (d - 1) by unfold wrap64; omega] at A2 ⊢
  have dl : decide (d ≥ 0) = true := decide_eq_true h0
  unfold Sl.v at A2
  generalize (kvs W x.attrs).all (mayK (mayV W f) (wrap64 (d - 1))) = q2 at *
  generalize restB tbE d x.unk = q3 at *
  have HK := Aside0.mk hk
  have HN := Aside0.mk hn
  clear hk hW hx hu hs hd1 h0 hn
  cases q2
  · skip
    go_enter Tryz.func9, Tryz.ntmps9
    go_upto_region 1 with (with_reducible refine gate_dst (N := 2) rfl ?_; refine Great.wpList_boxTo rfl 25 _ rfl _ rfl w.heap.size rfl (exmC x).toArray rfl ?_)
    have HX : Aside0 (XEm (w.alloc (.cells (exmC x).toArray 25)) w.heap.size x) := ⟨⟨heap_alloc_new w _⟩⟩
    have HB : Aside0 (Below w.heap.size w (w.alloc (.cells (exmC x).toArray 25))) := ⟨(Below.refl _ _).alloc (Nat.le_refl _) _⟩
    generalize (w.alloc (.cells (exmC x).toArray 25)) = w1 at *
    generalize hg : w.heap.size = g at HX ⊢
    clear hg
    have HBd := Aside0.mk (below_drew1 HB.out)
    have HXd := Aside0.mk (show XEm w1.drew g x from ⟨HX.out.blk⟩)
    clear HB HX
    have HB := HBd
    have HX := HXd
    clear HBd HXd
    refine start_ (n := 37) (S := fun w' => w'.cell? ⟨g, 0, none⟩ = some (.slice x.attrs.a x.attrs.len x.attrs.cap) ∧ w'.cell? ⟨g, 2, none⟩ = some (.int .i64 0) ∧ w'.cell? ⟨g, 3, none⟩ = some (.int .u64 0) ∧ w'.cell? ⟨g, 6, none⟩ = some (.string x.unk)) (ds := []) #[false, false, false, false, false, false, false, false, false, false, false, false, false, false, false, false, false, false, false, false, false, false, false, false, false, false, false, false, false, false, false, false, false, false, false, false, false] (by kernel_rfl) rfl rfl ⟨HX.out.c0, (xekind HX.out HK.out), (xen HX.out HN.out), HX.out.c6⟩ (fun hHeld => ?_)
    refine pure_ (i := 0) (N := some 5) (v := ?_) (a' := ?_) (mkM 37 1) rfl rfl (by kernel_rfl) (fun _ _ _ h => h) (Or.inl ⟨by rfl, ?_⟩) ?_ ?_
    rotate_left
    · intro w'
      go_simp
      first | with_reducible rfl | (rw [if_neg (by omega)])
    rotate_left
    · simp only [Act.put, s1_, s2_, s3_]
      rfl
    refine pure_ (i := 1) (N := some 6) (v := ?_) (a' := ?_) (mkM 37 3) rfl rfl (by kernel_rfl) (fun _ _ _ h => h) (Or.inl ⟨by rfl, ?_⟩) ?_ ?_
    rotate_left
    · intro w'
      go_simp
      first | with_reducible rfl | (rw [if_neg (by omega)])
    rotate_left
    · simp only [Act.put, s1_, s2_, s3_]
      rfl
    refine pure_ (i := 2) (N := some 7) (v := ?_) (a' := ?_) (mkM 37 7) rfl rfl (by kernel_rfl) (fun _ _ _ h => h) (Or.inl ⟨by rfl, ?_⟩) ?_ ?_
    rotate_left
    · intro w'
      go_simp
      first | with_reducible rfl | (rw [if_neg (by omega)])
    rotate_left
    · simp only [Act.put, s1_, s2_, s3_]
      rfl
    refine pure_ (i := 3) (N := some 8) (v := ?_) (a' := ?_) (mkM 37 15) rfl rfl (by kernel_rfl) (fun _ _ _ h => h) (Or.inl ⟨by rfl, ?_⟩) ?_ ?_
    rotate_left
    · intro w'
      go_simp
      first | with_reducible rfl | (rw [if_neg (by omega)])
    rotate_left
    · simp only [Act.put, s1_, s2_, s3_]
      rfl
    refine take_ (i := 4) (N := some 9) (v := ?_) (a' := ?_) (mkM 37 31) rfl rfl (by kernel_rfl) (fun _ _ _ h => h) (Or.inl ⟨by rfl, ?_⟩) hHeld ?_ ?_
    rotate_left
    · rintro w' ⟨s0, s1, s2, s3⟩
      go_simp
      first | with_reducible rfl | (rw [if_neg (by omega)])
    rotate_left
    · simp only [Act.put, s1_, s2_, s3_]
      rfl
    refine pure_ (i := 5) (N := some 10) (v := ?_) (a' := ?_) (mkM 37 63) rfl rfl (by kernel_rfl) (fun _ _ _ h => h) (Or.inl ⟨by rfl, ?_⟩) ?_ ?_
    rotate_left
    · intro w'
      go_simp
      first | with_reducible rfl | (rw [if_neg (by omega)])
    rotate_left
    · simp only [Act.put, s1_, s2_, s3_]
      rfl
    refine pure_ (i := 6) (N := some 11) (v := ?_) (a' := ?_) (mkM 37 127) rfl rfl (by kernel_rfl) (fun _ _ _ h => h) (Or.inl ⟨by rfl, ?_⟩) ?_ ?_
    rotate_left
    · intro w'
      go_simp
      first | with_reducible rfl | (rw [if_neg (by omega)])
    rotate_left
    · simp only [Act.put, s1_, s2_, s3_]
      rfl
    refine pure_ (i := 7) (N := some 12) (v := ?_) (a' := ?_) (mkM 37 255) rfl rfl (by kernel_rfl) (fun _ _ _ h => h) (Or.inl ⟨by rfl, ?_⟩) ?_ ?_
    rotate_left
    · intro w'
      go_simp
      first | with_reducible rfl | (rw [if_neg (by omega)])
    rotate_left
    · simp only [Act.put, s1_, s2_, s3_]
      rfl
    refine pure_ (i := 8) (N := some 13) (v := ?_) (a' := ?_) (mkM 37 511) rfl rfl (by kernel_rfl) (fun _ _ _ h => h) (Or.inl ⟨by rfl, ?_⟩) ?_ ?_
    rotate_left
    · intro w'
      go_simp
      first | with_reducible rfl | (rw [if_neg (by omega)])
    rotate_left
    · simp only [Act.put, s1_, s2_, s3_]
      rfl
    refine take_ (i := 9) (N := some 14) (v := ?_) (a' := ?_) (mkM 37 1023) rfl rfl (by kernel_rfl) (fun _ _ _ h => h) (Or.inl ⟨by rfl, ?_⟩) hHeld ?_ ?_
    rotate_left
    · rintro w' ⟨s0, s1, s2, s3⟩
      go_simp
      first | with_reducible rfl | (rw [if_neg (by omega)])
    rotate_left
    · simp only [Act.put, s1_, s2_, s3_]
      rfl
    refine pure_ (i := 10) (N := some 15) (v := ?_) (a' := ?_) (mkM 37 2047) rfl rfl (by kernel_rfl) (fun _ _ _ h => h) (Or.inl ⟨by rfl, ?_⟩) ?_ ?_
    rotate_left
    · intro w'
      go_simp
      first | with_reducible rfl | (rw [if_neg (by omega)])
    rotate_left
    · simp only [Act.put, s1_, s2_, s3_]
      rfl
    refine pure_ (i := 11) (N := some 16) (v := ?_) (a' := ?_) (mkM 37 4095) rfl rfl (by kernel_rfl) (fun _ _ _ h => h) (Or.inl ⟨by rfl, ?_⟩) ?_ ?_
    rotate_left
    · intro w'
      go_simp
      first | with_reducible rfl | (rw [if_neg (by omega)])
    rotate_left
    · simp only [Act.put, s1_, s2_, s3_]
      rfl
    refine pure_ (i := 12) (N := some 17) (v := ?_) (a' := ?_) (mkM 37 8191) rfl rfl (by kernel_rfl) (fun _ _ _ h => h) (Or.inl ⟨by rfl, ?_⟩) ?_ ?_
    rotate_left
    · intro w'
      go_simp
      first | with_reducible rfl | (rw [if_neg (by omega)])
    rotate_left
    · simp only [Act.put, s1_, s2_, s3_]
      rfl
    refine pure_ (i := 13) (N := some 18) (v := ?_) (a' := ?_) (mkM 37 16383) rfl rfl (by kernel_rfl) (fun _ _ _ h => h) (Or.inl ⟨by rfl, ?_⟩) ?_ ?_
    rotate_left
    · intro w'
      go_simp
      first | with_reducible rfl | (rw [if_neg (by omega)])
    rotate_left
    · simp only [Act.put, s1_, s2_, s3_]
      rfl
    refine take_ (i := 14) (N := some 19) (v := ?_) (a' := ?_) (mkM 37 32767) rfl rfl (by kernel_rfl) (fun _ _ _ h => h) (Or.inl ⟨by rfl, ?_⟩) hHeld ?_ ?_
    rotate_left
    · rintro w' ⟨s0, s1, s2, s3⟩
      go_simp
      first | with_reducible rfl | (rw [if_neg (by omega)])
    rotate_left
    · simp only [Act.put, s1_, s2_, s3_]
      rfl
    refine pure_ (i := 15) (N := some 20) (v := ?_) (a' := ?_) (mkM 37 65535) rfl rfl (by kernel_rfl) (fun _ _ _ h => h) (Or.inl ⟨by rfl, ?_⟩) ?_ ?_
    rotate_left
    · intro w'
      go_simp
      first | with_reducible rfl | (rw [if_neg (by omega)])
    rotate_left
    · simp only [Act.put, s1_, s2_, s3_]
      rfl
    refine pure_ (i := 16) (N := some 21) (v := ?_) (a' := ?_) (mkM 37 131071) rfl rfl (by kernel_rfl) (fun _ _ _ h => h) (Or.inl ⟨by rfl, ?_⟩) ?_ ?_
    rotate_left
    · intro w'
      go_simp
      first | with_reducible rfl | (rw [if_neg (by omega)])
    rotate_left
    · simp only [Act.put, s1_, s2_, s3_]
      rfl
    refine pure_ (i := 17) (N := some 22) (v := ?_) (a' := ?_) (mkM 37 262143) rfl rfl (by kernel_rfl) (fun _ _ _ h => h) (Or.inl ⟨by rfl, ?_⟩) ?_ ?_
    rotate_left
    · intro w'
      go_simp
      first | with_reducible rfl | (rw [if_neg (by omega)])
    rotate_left
    · simp only [Act.put, s1_, s2_, s3_]
      rfl
    refine take_ (i := 18) (N := some 23) (v := ?_) (a' := ?_) (mkM 37 524287) rfl rfl (by kernel_rfl) (fun _ _ _ h => h) (Or.inl ⟨by rfl, ?_⟩) hHeld ?_ ?_
    rotate_left
    · rintro w' ⟨s0, s1, s2, s3⟩
      go_simp
      first | with_reducible rfl | (rw [if_neg (by omega)])
    rotate_left
    · simp only [Act.put, s1_, s2_, s3_]
      rfl
    refine pure_ (i := 19) (N := some 24) (v := ?_) (a' := ?_) (mkM 37 1048575) rfl rfl (by kernel_rfl) (fun _ _ _ h => h) (Or.inl ⟨by rfl, ?_⟩) ?_ ?_
    rotate_left
    · intro w'
      go_simp
      first | with_reducible rfl | (rw [if_neg (by omega)])
    rotate_left
    · simp only [Act.put, s1_, s2_, s3_]
      rfl
    refine pure_ (i := 20) (N := some 25) (v := ?_) (a' := ?_) (mkM 37 2097151) rfl rfl (by kernel_rfl) (fun _ _ _ h => h) (Or.inl ⟨by rfl, ?_⟩) ?_ ?_
    rotate_left
    · intro w'
      go_simp
      first | with_reducible rfl | (rw [if_neg (by omega)])
    rotate_left
    · simp only [Act.put, s1_, s2_, s3_]
      rfl
    refine pure_ (i := 21) (N := some 26) (v := ?_) (a' := ?_) (mkM 37 4194303) rfl rfl (by kernel_rfl) (fun _ _ _ h => h) (Or.inl ⟨by rfl, ?_⟩) ?_ ?_
    rotate_left
    · intro w'
      go_simp
      first | with_reducible rfl | (rw [if_neg (by omega)])
    rotate_left
    · simp only [Act.put, s1_, s2_, s3_]
      rfl
    refine pure_ (i := 22) (N := some 27) (v := ?_) (a' := ?_) (mkM 37 8388607) rfl rfl (by kernel_rfl) (fun _ _ _ h => h) (Or.inl ⟨by rfl, ?_⟩) ?_ ?_
    rotate_left
    · intro w'
      go_simp
      first | with_reducible rfl | (rw [if_neg (by omega)])
    rotate_left
    · simp only [Act.put, s1_, s2_, s3_]
      rfl
    refine pure_ (i := 23) (N := some 28) (v := ?_) (a' := ?_) (mkM 37 16777215) rfl rfl (by kernel_rfl) (fun _ _ _ h => h) (Or.inl ⟨by rfl, ?_⟩) ?_ ?_
    rotate_left
    · intro w'
      go_simp
      first | with_reducible rfl | (rw [if_neg (by omega)])
    rotate_left
    · simp only [Act.put, s1_, s2_, s3_]
      rfl
    refine pure_ (i := 25) (N := some 30) (v := ?_) (a' := ?_) (mkM 37 50331647) rfl rfl (by kernel_rfl) (fun _ _ _ h => h) (Or.inl ⟨by rfl, ?_⟩) ?_ ?_
    rotate_left
    · intro w'
      go_simp
      first | with_reducible rfl | (rw [if_neg (by omega)])
    rotate_left
    · simp only [Act.put, s1_, s2_, s3_]
      rfl
    refine pure_ (i := 26) (N := some 31) (v := ?_) (a' := ?_) (mkM 37 117440511) rfl rfl (by kernel_rfl) (fun _ _ _ h => h) (Or.inl ⟨by rfl, ?_⟩) ?_ ?_
    rotate_left
    · intro w'
      go_simp
      first | with_reducible rfl | (rw [if_neg (by omega)])
    rotate_left
    · simp only [Act.put, s1_, s2_, s3_, i64_w]
      rfl
    refine take_ (i := 24) (N := some 29) (v := ?_) (a' := ?_) (mkM 37 134217727) rfl rfl (by kernel_rfl) (fun _ _ _ h => h) (Or.inl ⟨by rfl, ?_⟩) hHeld ?_ ?_
    rotate_left
    · rintro w' ⟨s0, s1, s2, s3⟩
      go_simp
      first | with_reducible rfl | (rw [if_neg (by omega)])
    rotate_left
    · simp only [Act.put, s1_, s2_, s3_]
      rfl
    refine one_ (i := 27) (N := some 32) (mkM 37 268435455) rfl rfl (by kernel_rfl) (by decide) (fun K hK => ?_)
    refine goes_ Tryz.func18 (by kernel_rfl) rfl #[.slice x.attrs.a x.attrs.len x.attrs.cap, .int .i64 (wrap64 (d - 1))] (by rfl) rfl rfl (by simp only [List.map_toArray, List.map_cons, List.map_nil]; rfl) ?_
    with_reducible refine (A2.out _ HB.out).mono ?_
    rintro e w2 ⟨rfl, hb⟩
    refine ⟨_, rfl, ?_⟩
    replace HB := Aside0.mk (below_next HB.out hb)
    replace HX := Aside0.mk (HX.out.below hb)
    clear hb
    refine hK.out _ _ ⟨HX.out.c0, (xekind HX.out HK.out), (xen HX.out HN.out), HX.out.c6⟩ (fun hHeld => ?_)
    clear hK K
    refine norm_ (a' := ?_) ?_ ?_
    rotate_left
    · show Act.put _ (some 32) _ = _
      simp only [Act.put, s1_, s2_, s3_]
      rfl
    refine pure_ (i := 28) (N := some 33) (v := ?_) (a' := ?_) (mkM 37 536870911) rfl rfl (by kernel_rfl) (fun _ _ _ h => h) (Or.inl ⟨by rfl, ?_⟩) ?_ ?_
    rotate_left
    · intro w'
      go_simp
      first | with_reducible rfl | (rw [if_neg (by omega)])
    rotate_left
    · simp only [Act.put, s1_, s2_, s3_]
      rfl
    refine pure_ (i := 29) (N := some 34) (v := ?_) (a' := ?_) (mkM 37 1073741823) rfl rfl (by kernel_rfl) (fun _ _ _ h => h) (Or.inl ⟨by rfl, ?_⟩) ?_ ?_
    rotate_left
    · intro w'
      go_simp
      first | with_reducible rfl | (rw [if_neg (by omega)])
    rotate_left
    · simp only [Act.put, s1_, s2_, s3_]
      rfl
    refine pure_ (i := 30) (N := some 35) (v := undef) (a' := ?_) (mkM 37 2147483647) rfl rfl (by kernel_rfl) (fun _ _ _ h => h) (Or.inr ⟨by rfl, rfl⟩) ?_ ?_
    rotate_left
    · simp only [Act.put, s1_, s2_, s3_]
      rfl
    refine pure_ (i := 31) (N := some 36) (v := undef) (a' := ?_) (mkM 37 4294967295) rfl rfl (by kernel_rfl) (fun _ _ _ h => h) (Or.inr ⟨by rfl, rfl⟩) ?_ ?_
    rotate_left
    · simp only [Act.put, s1_, s2_, s3_]
      rfl
    refine pure_ (i := 32) (N := some 37) (v := undef) (a' := ?_) (mkM 37 8589934591) rfl rfl (by kernel_rfl) (fun _ _ _ h => h) (Or.inr ⟨by rfl, rfl⟩) ?_ ?_
    rotate_left
    · simp only [Act.put, s1_, s2_, s3_]
      rfl
    refine pure_ (i := 33) (N := some 38) (v := undef) (a' := ?_) (mkM 37 17179869183) rfl rfl (by kernel_rfl) (fun _ _ _ h => h) (Or.inr ⟨by rfl, rfl⟩) ?_ ?_
    rotate_left
    · simp only [Act.put, s1_, s2_, s3_]
      rfl
    refine pure_ (i := 34) (N := some 39) (v := undef) (a' := ?_) (mkM 37 34359738367) rfl rfl (by kernel_rfl) (fun _ _ _ h => h) (Or.inr ⟨by rfl, rfl⟩) ?_ ?_
    rotate_left
    · simp only [Act.put, s1_, s2_, s3_]
      rfl
    refine pure_ (i := 35) (N := some 40) (v := ?_) (a' := ?_) (mkM 37 68719476735) rfl rfl (by kernel_rfl) (fun _ _ _ h => h) (Or.inl ⟨by rfl, ?_⟩) ?_ ?_
    rotate_left
    · intro w'
      go_simp
      first | with_reducible rfl | (rw [if_neg (by omega)])
    rotate_left
    · simp only [Act.put, s1_, s2_, s3_]
      rfl
    refine pure_ (i := 36) (N := some 4) (v := ?_) (a' := ?_) (mkM 37 137438953471) rfl rfl (by kernel_rfl) (fun _ _ _ h => h) (Or.inl ⟨by rfl, ?_⟩) ?_ ?_
    rotate_left
    · intro w'
      go_simp
      first | with_reducible rfl | (rw [if_neg (by omega)])
    rotate_left
    · simp only [Act.put, s1_, s2_, s3_]
      rfl
    refine done_ (by kernel_rfl) ?_
    go_wp2_with fail
    go_ret
    exact ⟨rfl, HB.out⟩
  · skip
    go_enter Tryz.func9, Tryz.ntmps9
    go_upto_region 1 with (with_reducible refine gate_dst (N := 2) rfl ?_; refine Great.wpList_boxTo rfl 25 _ rfl _ rfl w.heap.size rfl (exmC x).toArray rfl ?_)
    have HX : Aside0 (XEm (w.alloc (.cells (exmC x).toArray 25)) w.heap.size x) := ⟨⟨heap_alloc_new w _⟩⟩
    have HB : Aside0 (Below w.heap.size w (w.alloc (.cells (exmC x).toArray 25))) := ⟨(Below.refl _ _).alloc (Nat.le_refl _) _⟩
    generalize (w.alloc (.cells (exmC x).toArray 25)) = w1 at *
    generalize hg : w.heap.size = g at HX ⊢
    clear hg
    have HBd := Aside0.mk (below_drew1 HB.out)
    have HXd := Aside0.mk (show XEm w1.drew g x from ⟨HX.out.blk⟩)
    clear HB HX
    have HB := HBd
    have HX := HXd
    clear HBd HXd
    refine start_ (n := 37) (S := fun w' => w'.cell? ⟨g, 0, none⟩ = some (.slice x.attrs.a x.attrs.len x.attrs.cap) ∧ w'.cell? ⟨g, 2, none⟩ = some (.int .i64 0) ∧ w'.cell? ⟨g, 3, none⟩ = some (.int .u64 0) ∧ w'.cell? ⟨g, 6, none⟩ = some (.string x.unk)) (ds := []) #[false, false, false, false, false, false, false, false, false, false, false, false, false, false, false, false, false, false, false, false, false, false, false, false, false, false, false, false, false, false, false, false, false, false, false, false, false] (by kernel_rfl) rfl rfl ⟨HX.out.c0, (xekind HX.out HK.out), (xen HX.out HN.out), HX.out.c6⟩ (fun hHeld => ?_)
    refine pure_ (i := 0) (N := some 5) (v := ?_) (a' := ?_) (mkM 37 1) rfl rfl (by kernel_rfl) (fun _ _ _ h => h) (Or.inl ⟨by rfl, ?_⟩) ?_ ?_
    rotate_left
    · intro w'
      go_simp
      first | with_reducible rfl | (rw [if_neg (by omega)])
    rotate_left
    · simp only [Act.put, s1_, s2_, s3_]
      rfl
    refine pure_ (i := 1) (N := some 6) (v := ?_) (a' := ?_) (mkM 37 3) rfl rfl (by kernel_rfl) (fun _ _ _ h => h) (Or.inl ⟨by rfl, ?_⟩) ?_ ?_
    rotate_left
    · intro w'
      go_simp
      first | with_reducible rfl | (rw [if_neg (by omega)])
    rotate_left
    · simp only [Act.put, s1_, s2_, s3_]
      rfl
    refine pure_ (i := 2) (N := some 7) (v := ?_) (a' := ?_) (mkM 37 7) rfl rfl (by kernel_rfl) (fun _ _ _ h => h) (Or.inl ⟨by rfl, ?_⟩) ?_ ?_
    rotate_left
    · intro w'
      go_simp
      first | with_reducible rfl | (rw [if_neg (by omega)])
    rotate_left
    · simp only [Act.put, s1_, s2_, s3_]
      rfl
    refine pure_ (i := 3) (N := some 8) (v := ?_) (a' := ?_) (mkM 37 15) rfl rfl (by kernel_rfl) (fun _ _ _ h => h) (Or.inl ⟨by rfl, ?_⟩) ?_ ?_
    rotate_left
    · intro w'
      go_simp
      first | with_reducible rfl | (rw [if_neg (by omega)])
    rotate_left
    · simp only [Act.put, s1_, s2_, s3_]
      rfl
    refine take_ (i := 4) (N := some 9) (v := ?_) (a' := ?_) (mkM 37 31) rfl rfl (by kernel_rfl) (fun _ _ _ h => h) (Or.inl ⟨by rfl, ?_⟩) hHeld ?_ ?_
    rotate_left
    · rintro w' ⟨s0, s1, s2, s3⟩
      go_simp
      first | with_reducible rfl | (rw [if_neg (by omega)])
    rotate_left
    · simp only [Act.put, s1_, s2_, s3_]
      rfl
    refine pure_ (i := 5) (N := some 10) (v := ?_) (a' := ?_) (mkM 37 63) rfl rfl (by kernel_rfl) (fun _ _ _ h => h) (Or.inl ⟨by rfl, ?_⟩) ?_ ?_
    rotate_left
    · intro w'
      go_simp
      first | with_reducible rfl | (rw [if_neg (by omega)])
    rotate_left
    · simp only [Act.put, s1_, s2_, s3_]
      rfl
    refine pure_ (i := 6) (N := some 11) (v := ?_) (a' := ?_) (mkM 37 127) rfl rfl (by kernel_rfl) (fun _ _ _ h => h) (Or.inl ⟨by rfl, ?_⟩) ?_ ?_
    rotate_left
    · intro w'
      go_simp
      first | with_reducible rfl | (rw [if_neg (by omega)])
    rotate_left
    · simp only [Act.put, s1_, s2_, s3_]
      rfl
    refine pure_ (i := 7) (N := some 12) (v := ?_) (a' := ?_) (mkM 37 255) rfl rfl (by kernel_rfl) (fun _ _ _ h => h) (Or.inl ⟨by rfl, ?_⟩) ?_ ?_
    rotate_left
    · intro w'
      go_simp
      first | with_reducible rfl | (rw [if_neg (by omega)])
    rotate_left
    · simp only [Act.put, s1_, s2_, s3_]
      rfl
    refine pure_ (i := 8) (N := some 13) (v := ?_) (a' := ?_) (mkM 37 511) rfl rfl (by kernel_rfl) (fun _ _ _ h => h) (Or.inl ⟨by rfl, ?_⟩) ?_ ?_
    rotate_left
    · intro w'
      go_simp
      first | with_reducible rfl | (rw [if_neg (by omega)])
    rotate_left
    · simp only [Act.put, s1_, s2_, s3_]
      rfl
    refine take_ (i := 9) (N := some 14) (v := ?_) (a' := ?_) (mkM 37 1023) rfl rfl (by kernel_rfl) (fun _ _ _ h => h) (Or.inl ⟨by rfl, ?_⟩) hHeld ?_ ?_
    rotate_left
    · rintro w' ⟨s0, s1, s2, s3⟩
      go_simp
      first | with_reducible rfl | (rw [if_neg (by omega)])
    rotate_left
    · simp only [Act.put, s1_, s2_, s3_]
      rfl
    refine pure_ (i := 10) (N := some 15) (v := ?_) (a' := ?_) (mkM 37 2047) rfl rfl (by kernel_rfl) (fun _ _ _ h => h) (Or.inl ⟨by rfl, ?_⟩) ?_ ?_
    rotate_left
    · intro w'
      go_simp
      first | with_reducible rfl | (rw [if_neg (by omega)])
    rotate_left
    · simp only [Act.put, s1_, s2_, s3_]
      rfl
    refine pure_ (i := 11) (N := some 16) (v := ?_) (a' := ?_) (mkM 37 4095) rfl rfl (by kernel_rfl) (fun _ _ _ h => h) (Or.inl ⟨by rfl, ?_⟩) ?_ ?_
    rotate_left
    · intro w'
      go_simp
      first | with_reducible rfl | (rw [if_neg (by omega)])
    rotate_left
    · simp only [Act.put, s1_, s2_, s3_]
      rfl
    refine pure_ (i := 12) (N := some 17) (v := ?_) (a' := ?_) (mkM 37 8191) rfl rfl (by kernel_rfl) (fun _ _ _ h => h) (Or.inl ⟨by rfl, ?_⟩) ?_ ?_
    rotate_left
    · intro w'
      go_simp
      first | with_reducible rfl | (rw [if_neg (by omega)])
    rotate_left
    · simp only [Act.put, s1_, s2_, s3_]
      rfl
    refine pure_ (i := 13) (N := some 18) (v := ?_) (a' := ?_) (mkM 37 16383) rfl rfl (by kernel_rfl) (fun _ _ _ h => h) (Or.inl ⟨by rfl, ?_⟩) ?_ ?_
    rotate_left
    · intro w'
      go_simp
      first | with_reducible rfl | (rw [if_neg (by omega)])
    rotate_left
    · simp only [Act.put, s1_, s2_, s3_]
      rfl
    refine take_ (i := 14) (N := some 19) (v := ?_) (a' := ?_) (mkM 37 32767) rfl rfl (by kernel_rfl) (fun _ _ _ h => h) (Or.inl ⟨by rfl, ?_⟩) hHeld ?_ ?_
    rotate_left
    · rintro w' ⟨s0, s1, s2, s3⟩
      go_simp
      first | with_reducible rfl | (rw [if_neg (by omega)])
    rotate_left
    · simp only [Act.put, s1_, s2_, s3_]
      rfl
    refine pure_ (i := 15) (N := some 20) (v := ?_) (a' := ?_) (mkM 37 65535) rfl rfl (by kernel_rfl) (fun _ _ _ h => h) (Or.inl ⟨by rfl, ?_⟩) ?_ ?_
    rotate_left
    · intro w'
      go_simp
      first | with_reducible rfl | (rw [if_neg (by omega)])
    rotate_left
    · simp only [Act.put, s1_, s2_, s3_]
      rfl
    refine pure_ (i := 16) (N := some 21) (v := ?_) (a' := ?_) (mkM 37 131071) rfl rfl (by kernel_rfl) (fun _ _ _ h => h) (Or.inl ⟨by rfl, ?_⟩) ?_ ?_
    rotate_left
    · intro w'
      go_simp
      first | with_reducible rfl | (rw [if_neg (by omega)])
    rotate_left
    · simp only [Act.put, s1_, s2_, s3_]
      rfl
    refine pure_ (i := 17) (N := some 22) (v := ?_) (a' := ?_) (mkM 37 262143) rfl rfl (by kernel_rfl) (fun _ _ _ h => h) (Or.inl ⟨by rfl, ?_⟩) ?_ ?_
    rotate_left
    · intro w'
      go_simp
      first | with_reducible rfl | (rw [if_neg (by omega)])
    rotate_left
    · simp only [Act.put, s1_, s2_, s3_]
      rfl
    refine take_ (i := 18) (N := some 23) (v := ?_) (a' := ?_) (mkM 37 524287) rfl rfl (by kernel_rfl) (fun _ _ _ h => h) (Or.inl ⟨by rfl, ?_⟩) hHeld ?_ ?_
    rotate_left
    · rintro w' ⟨s0, s1, s2, s3⟩
      go_simp
      first | with_reducible rfl | (rw [if_neg (by omega)])
    rotate_left
    · simp only [Act.put, s1_, s2_, s3_]
      rfl
    refine pure_ (i := 19) (N := some 24) (v := ?_) (a' := ?_) (mkM 37 1048575) rfl rfl (by kernel_rfl) (fun _ _ _ h => h) (Or.inl ⟨by rfl, ?_⟩) ?_ ?_
    rotate_left
    · intro w'
      go_simp
      first | with_reducible rfl | (rw [if_neg (by omega)])
    rotate_left
    · simp only [Act.put, s1_, s2_, s3_]
      rfl
    refine pure_ (i := 20) (N := some 25) (v := ?_) (a' := ?_) (mkM 37 2097151) rfl rfl (by kernel_rfl) (fun _ _ _ h => h) (Or.inl ⟨by rfl, ?_⟩) ?_ ?_
    rotate_left
    · intro w'
      go_simp
      first | with_reducible rfl | (rw [if_neg (by omega)])
    rotate_left
    · simp only [Act.put, s1_, s2_, s3_]
      rfl
    refine pure_ (i := 21) (N := some 26) (v := ?_) (a' := ?_) (mkM 37 4194303) rfl rfl (by kernel_rfl) (fun _ _ _ h => h) (Or.inl ⟨by rfl, ?_⟩) ?_ ?_
    rotate_left
    · intro w'
      go_simp
      first | with_reducible rfl | (rw [if_neg (by omega)])
    rotate_left
    · simp only [Act.put, s1_, s2_, s3_]
      rfl
    refine pure_ (i := 22) (N := some 27) (v := ?_) (a' := ?_) (mkM 37 8388607) rfl rfl (by kernel_rfl) (fun _ _ _ h => h) (Or.inl ⟨by rfl, ?_⟩) ?_ ?_
    rotate_left
    · intro w'
      go_simp
      first | with_reducible rfl | (rw [if_neg (by omega)])
    rotate_left
    · simp only [Act.put, s1_, s2_, s3_]
      rfl
    refine pure_ (i := 23) (N := some 28) (v := ?_) (a' := ?_) (mkM 37 16777215) rfl rfl (by kernel_rfl) (fun _ _ _ h => h) (Or.inl ⟨by rfl, ?_⟩) ?_ ?_
    rotate_left
    · intro w'
      go_simp
      first | with_reducible rfl | (rw [if_neg (by omega)])
    rotate_left
    · simp only [Act.put, s1_, s2_, s3_]
      rfl
    refine pure_ (i := 25) (N := some 30) (v := ?_) (a' := ?_) (mkM 37 50331647) rfl rfl (by kernel_rfl) (fun _ _ _ h => h) (Or.inl ⟨by rfl, ?_⟩) ?_ ?_
    rotate_left
    · intro w'
      go_simp
      first | with_reducible rfl | (rw [if_neg (by omega)])
    rotate_left
    · simp only [Act.put, s1_, s2_, s3_]
      rfl
    refine pure_ (i := 26) (N := some 31) (v := ?_) (a' := ?_) (mkM 37 117440511) rfl rfl (by kernel_rfl) (fun _ _ _ h => h) (Or.inl ⟨by rfl, ?_⟩) ?_ ?_
    rotate_left
    · intro w'
      go_simp
      first | with_reducible rfl | (rw [if_neg (by omega)])
    rotate_left
    · simp only [Act.put, s1_, s2_, s3_, i64_w]
      rfl
    refine take_ (i := 24) (N := some 29) (v := ?_) (a' := ?_) (mkM 37 134217727) rfl rfl (by kernel_rfl) (fun _ _ _ h => h) (Or.inl ⟨by rfl, ?_⟩) hHeld ?_ ?_
    rotate_left
    · rintro w' ⟨s0, s1, s2, s3⟩
      go_simp
      first | with_reducible rfl | (rw [if_neg (by omega)])
    rotate_left
    · simp only [Act.put, s1_, s2_, s3_]
      rfl
    refine one_ (i := 27) (N := some 32) (mkM 37 268435455) rfl rfl (by kernel_rfl) (by decide) (fun K hK => ?_)
    refine goes_ Tryz.func18 (by kernel_rfl) rfl #[.slice x.attrs.a x.attrs.len x.attrs.cap, .int .i64 (wrap64 (d - 1))] (by rfl) rfl rfl (by simp only [List.map_toArray, List.map_cons, List.map_nil]; rfl) ?_
    with_reducible refine (A2.out _ HB.out).mono ?_
    rintro e w2 ⟨rfl, hb⟩
    refine ⟨_, rfl, ?_⟩
    replace HB := Aside0.mk (below_next HB.out hb)
    replace HX := Aside0.mk (HX.out.below hb)
    clear hb
    refine hK.out _ _ ⟨HX.out.c0, (xekind HX.out HK.out), (xen HX.out HN.out), HX.out.c6⟩ (fun hHeld => ?_)
    clear hK K
    refine norm_ (a' := ?_) ?_ ?_
    rotate_left
    · show Act.put _ (some 32) _ = _
      simp only [Act.put, s1_, s2_, s3_]
      rfl
    refine pure_ (i := 28) (N := some 33) (v := ?_) (a' := ?_) (mkM 37 536870911) rfl rfl (by kernel_rfl) (fun _ _ _ h => h) (Or.inl ⟨by rfl, ?_⟩) ?_ ?_
    rotate_left
    · intro w'
      go_simp
      first | with_reducible rfl | (rw [if_neg (by omega)])
    rotate_left
    · simp only [Act.put, s1_, s2_, s3_]
      rfl
    refine pure_ (i := 29) (N := some 34) (v := ?_) (a' := ?_) (mkM 37 1073741823) rfl rfl (by kernel_rfl) (fun _ _ _ h => h) (Or.inl ⟨by rfl, ?_⟩) ?_ ?_
    rotate_left
    · intro w'
      go_simp
      first | with_reducible rfl | (rw [if_neg (by omega)])
    rotate_left
    · simp only [Act.put, s1_, s2_, s3_]
      rfl
    refine pure_ (i := 30) (N := some 35) (v := ?_) (a' := ?_) (mkM 37 2147483647) rfl rfl (by kernel_rfl) (fun _ _ _ h => h) (Or.inl ⟨by rfl, ?_⟩) ?_ ?_
    rotate_left
    · intro w'
      go_simp
      first | with_reducible rfl | (rw [if_neg (by omega)])
    rotate_left
    · simp only [Act.put, s1_, s2_, s3_]
      rfl
    refine pure_ (i := 32) (N := some 37) (v := ?_) (a' := ?_) (mkM 37 6442450943) rfl rfl (by kernel_rfl) (fun _ _ _ h => h) (Or.inl ⟨by rfl, ?_⟩) ?_ ?_
    rotate_left
    · intro w'
      go_simp
      first | with_reducible rfl | (rw [if_neg (by omega)])
    rotate_left
    · simp only [Act.put, s1_, s2_, s3_]
      rfl
    refine take_ (i := 31) (N := some 36) (v := ?_) (a' := ?_) (mkM 37 8589934591) rfl rfl (by kernel_rfl) (fun _ _ _ h => h) (Or.inl ⟨by rfl, ?_⟩) hHeld ?_ ?_
    rotate_left
    · rintro w' ⟨s0, s1, s2, s3⟩
      go_simp
      first | with_reducible rfl | (rw [if_neg (by omega)])
    rotate_left
    · simp only [Act.put, s1_, s2_, s3_]
      rfl
    refine one_ (i := 33) (N := some 38) (mkM 37 17179869183) rfl rfl (by kernel_rfl) (by decide) (fun K hK => ?_)
    refine goes_ Tryz.func20 (by kernel_rfl) rfl #[] (by rfl) rfl rfl (by simp only [List.map_toArray, List.map_nil]) ?_
    with_reducible refine (hygref8_exemplars_at _).mono ?_
    rintro e w3 ⟨A, c, rfl, hC, hc, hb⟩
    refine ⟨_, rfl, ?_⟩
    have HT := Aside0.mk (And.intro hC hc)
    clear hC hc
    replace HB := Aside0.mk (below_next HB.out hb)
    replace HX := Aside0.mk (HX.out.below hb)
    clear hb
    refine hK.out _ _ ⟨HX.out.c0, (xekind HX.out HK.out), (xen HX.out HN.out), HX.out.c6⟩ (fun hHeld => ?_)
    clear hK K
    refine norm_ (a' := ?_) ?_ ?_
    rotate_left
    · show Act.put _ (some 38) _ = _
      simp only [Act.put, s1_, s2_, s3_]
      rfl
    refine one_ (i := 34) (N := some 39) (mkM 37 34359738367) rfl rfl (by kernel_rfl) (by decide) (fun K hK => ?_)
    refine goes_ Tryz.func19 (by kernel_rfl) rfl #[.string x.unk, .int .i64 d, .slice A tbE.length c] (by rfl) rfl rfl (by simp only [List.map_toArray, List.map_cons, List.map_nil]; rfl) ?_
    with_reducible refine (A3.out _ _ _ HT.out.1 HT.out.2).mono ?_
    rintro e w4 ⟨rfl, hb⟩
    refine ⟨_, rfl, ?_⟩
    clear HT
    replace HB := Aside0.mk (below_next HB.out hb)
    replace HX := Aside0.mk (HX.out.below hb)
    clear hb
    refine hK.out _ _ ⟨HX.out.c0, (xekind HX.out HK.out), (xen HX.out HN.out), HX.out.c6⟩ (fun hHeld => ?_)
    clear hK K
    refine norm_ (a' := ?_) ?_ ?_
    rotate_left
    · show Act.put _ (some 39) _ = _
      simp only [Act.put, s1_, s2_, s3_]
      rfl
    refine pure_ (i := 35) (N := some 40) (v := ?_) (a' := ?_) (mkM 37 68719476735) rfl rfl (by kernel_rfl) (fun _ _ _ h => h) (Or.inl ⟨by rfl, ?_⟩) ?_ ?_
    rotate_left
    · intro w'
      go_simp
      first | with_reducible rfl | (rw [if_neg (by omega)])
    rotate_left
    · simp only [Act.put, s1_, s2_, s3_]
      rfl
    refine pure_ (i := 36) (N := some 4) (v := ?_) (a' := ?_) (mkM 37 137438953471) rfl rfl (by kernel_rfl) (fun _ _ _ h => h) (Or.inl ⟨by rfl, ?_⟩) ?_ ?_
    rotate_left
    · intro w'
      go_simp
      first | with_reducible rfl | (rw [if_neg (by omega)])
    rotate_left
    · simp only [Act.put, s1_, s2_, s3_]
      rfl
    refine done_ (by kernel_rfl) ?_
    go_wp2_with fail
    go_ret
    exact ⟨rfl, HB.out⟩
set_option maxHeartbeats 4000000 in
set_option maxRecDepth 100000 in
theorem rmx_1 (W w : World) (f : Nat) (x : Exm) (d : Int) (h0 : 0 ≤ d) (hk : x.kind = 1) (hW : Below W.heap.size W w) (hx : ExmOk W x) (hu : x.unk.size ≤ 100000) (hs : ∀ y ∈ kvs W x.attrs, SmK W f y) (hd1 : d < 9223372036854775808) :
    Calls Tryz.prog 9 #[.agg (exmC x).toArray, .int .i64 d] w fun e w' => e = .returned (.bool ((kvs W x.attrs).all (mayK (mayV W f) (d - 1)) && restB tbE d x.unk)) ∧ Below w.heap.size w w' := by
  have A3 : Aside0 (∀ (w2 : World) (A : Option Addr) (c : Nat), Kd.C (Kd.int .i64) w2 A tbE.length (tbE.map fun (x : Nat) => (x : Int)) → tbE.length ≤ c → Calls Tryz.prog 19 #[.string x.unk, .int .i64 d, .slice A tbE.length c] w2 fun e w' => e = .returned (.bool (restB tbE d x.unk)) ∧ Below w2.heap.size w2 w') := ⟨fun w2 A c hC hc => by have h := unk_any tbE tbE_ok.1 tbE_ok.2 A c x.unk d w2 hC hc hu hd1; rw [decide_eq_true h0, Bool.true_and] at h; exact h⟩
  have A2 := Aside0.mk (fun w2 (hb : Below w.heap.size w w2) => rmks_all W f w2 x.attrs (d - 1) (hW.trans (hb.mono hW.size)) hx.attrs hs (by omega) (by omega))
  rw [show d - 1 = wrap64 (d - 1) by unfold wrap64; omega] at A2 ⊢
  have dl : decide (d ≥ 0) = true := decide_eq_true h0
  unfold Sl.v at A2
  generalize (kvs W x.attrs).all (mayK (mayV W f) (wrap64 (d - 1))) = q2 at *
  generalize restB tbE d x.unk = q3 at *
  have HK := Aside0.mk hk
  clear hk hW hx hu hs hd1 h0
  cases q2
  · skip
    go_enter Tryz.func9, Tryz.ntmps9
    go_upto_region 1 with (with_reducible refine gate_dst (N := 2) rfl ?_; refine Great.wpList_boxTo rfl 25 _ rfl _ rfl w.heap.size rfl (exmC x).toArray rfl ?_)
    have HX : Aside0 (XEm (w.alloc (.cells (exmC x).toArray 25)) w.heap.size x) := ⟨⟨heap_alloc_new w _⟩⟩
    have HB : Aside0 (Below w.heap.size w (w.alloc (.cells (exmC x).toArray 25))) := ⟨(Below.refl _ _).alloc (Nat.le_refl _) _⟩
    generalize (w.alloc (.cells (exmC x).toArray 25)) = w1 at *
    generalize hg : w.heap.size = g at HX ⊢
    clear hg
    have HBd := Aside0.mk (below_drew1 HB.out)
    have HXd := Aside0.mk (show XEm w1.drew g x from ⟨HX.out.blk⟩)
    clear HB HX
    have HB := HBd
    have HX := HXd
    clear HBd HXd
    refine start_ (n := 37) (S := fun w' => w'.cell? ⟨g, 0, none⟩ = some (.slice x.attrs.a x.attrs.len x.attrs.cap) ∧ w'.cell? ⟨g, 2, none⟩ = some (.int .i64 1) ∧ w'.cell? ⟨g, 3, none⟩ = some (.int .u64 x.n) ∧ w'.cell? ⟨g, 6, none⟩ = some (.string x.unk)) (ds := []) #[false, false, false, false, false, false, false, false, false, false, false, false, false, false, false, false, false, false, false, false, false, false, false, false, false, false, false, false, false, false, false, false, false, false, false, false, false] (by kernel_rfl) rfl rfl ⟨HX.out.c0, (xekind HX.out HK.out), HX.out.c3, HX.out.c6⟩ (fun hHeld => ?_)
    refine pure_ (i := 0) (N := some 5) (v := ?_) (a' := ?_) (mkM 37 1) rfl rfl (by kernel_rfl) (fun _ _ _ h => h) (Or.inl ⟨by rfl, ?_⟩) ?_ ?_
    rotate_left
    · intro w'
      go_simp
      first | with_reducible rfl | (rw [if_neg (by omega)])
    rotate_left
    · simp only [Act.put, s1_, s2_, s3_]
      rfl
    refine pure_ (i := 1) (N := some 6) (v := ?_) (a' := ?_) (mkM 37 3) rfl rfl (by kernel_rfl) (fun _ _ _ h => h) (Or.inl ⟨by rfl, ?_⟩) ?_ ?_
    rotate_left
    · intro w'
      go_simp
      first | with_reducible rfl | (rw [if_neg (by omega)])
    rotate_left
    · simp only [Act.put, s1_, s2_, s3_]
      rfl
    refine pure_ (i := 2) (N := some 7) (v := ?_) (a' := ?_) (mkM 37 7) rfl rfl (by kernel_rfl) (fun _ _ _ h => h) (Or.inl ⟨by rfl, ?_⟩) ?_ ?_
    rotate_left
    · intro w'
      go_simp
      first | with_reducible rfl | (rw [if_neg (by omega)])
    rotate_left
    · simp only [Act.put, s1_, s2_, s3_]
      rfl
    refine pure_ (i := 3) (N := some 8) (v := ?_) (a' := ?_) (mkM 37 15) rfl rfl (by kernel_rfl) (fun _ _ _ h => h) (Or.inl ⟨by rfl, ?_⟩) ?_ ?_
    rotate_left
    · intro w'
      go_simp
      first | with_reducible rfl | (rw [if_neg (by omega)])
    rotate_left
    · simp only [Act.put, s1_, s2_, s3_]
      rfl
    refine take_ (i := 4) (N := some 9) (v := ?_) (a' := ?_) (mkM 37 31) rfl rfl (by kernel_rfl) (fun _ _ _ h => h) (Or.inl ⟨by rfl, ?_⟩) hHeld ?_ ?_
    rotate_left
    · rintro w' ⟨s0, s1, s2, s3⟩
      go_simp
      first | with_reducible rfl | (rw [if_neg (by omega)])
    rotate_left
    · simp only [Act.put, s1_, s2_, s3_]
      rfl
    refine pure_ (i := 5) (N := some 10) (v := ?_) (a' := ?_) (mkM 37 63) rfl rfl (by kernel_rfl) (fun _ _ _ h => h) (Or.inl ⟨by rfl, ?_⟩) ?_ ?_
    rotate_left
    · intro w'
      go_simp
      first | with_reducible rfl | (rw [if_neg (by omega)])
    rotate_left
    · simp only [Act.put, s1_, s2_, s3_]
      rfl
    refine pure_ (i := 6) (N := some 11) (v := ?_) (a' := ?_) (mkM 37 127) rfl rfl (by kernel_rfl) (fun _ _ _ h => h) (Or.inl ⟨by rfl, ?_⟩) ?_ ?_
    rotate_left
    · intro w'
      go_simp
      first | with_reducible rfl | (rw [if_neg (by omega)])
    rotate_left
    · simp only [Act.put, s1_, s2_, s3_]
      rfl
    refine pure_ (i := 7) (N := some 12) (v := ?_) (a' := ?_) (mkM 37 255) rfl rfl (by kernel_rfl) (fun _ _ _ h => h) (Or.inl ⟨by rfl, ?_⟩) ?_ ?_
    rotate_left
    · intro w'
      go_simp
      first | with_reducible rfl | (rw [if_neg (by omega)])
    rotate_left
    · simp only [Act.put, s1_, s2_, s3_]
      rfl
    refine pure_ (i := 8) (N := some 13) (v := ?_) (a' := ?_) (mkM 37 511) rfl rfl (by kernel_rfl) (fun _ _ _ h => h) (Or.inl ⟨by rfl, ?_⟩) ?_ ?_
    rotate_left
    · intro w'
      go_simp
      first | with_reducible rfl | (rw [if_neg (by omega)])
    rotate_left
    · simp only [Act.put, s1_, s2_, s3_]
      rfl
    refine take_ (i := 9) (N := some 14) (v := ?_) (a' := ?_) (mkM 37 1023) rfl rfl (by kernel_rfl) (fun _ _ _ h => h) (Or.inl ⟨by rfl, ?_⟩) hHeld ?_ ?_
    rotate_left
    · rintro w' ⟨s0, s1, s2, s3⟩
      go_simp
      first | with_reducible rfl | (rw [if_neg (by omega)])
    rotate_left
    · simp only [Act.put, s1_, s2_, s3_]
      rfl
    refine pure_ (i := 10) (N := some 15) (v := ?_) (a' := ?_) (mkM 37 2047) rfl rfl (by kernel_rfl) (fun _ _ _ h => h) (Or.inl ⟨by rfl, ?_⟩) ?_ ?_
    rotate_left
    · intro w'
      go_simp
      first | with_reducible rfl | (rw [if_neg (by omega)])
    rotate_left
    · simp only [Act.put, s1_, s2_, s3_]
      rfl
    refine pure_ (i := 11) (N := some 16) (v := ?_) (a' := ?_) (mkM 37 4095) rfl rfl (by kernel_rfl) (fun _ _ _ h => h) (Or.inl ⟨by rfl, ?_⟩) ?_ ?_
    rotate_left
    · intro w'
      go_simp
      first | with_reducible rfl | (rw [if_neg (by omega)])
    rotate_left
    · simp only [Act.put, s1_, s2_, s3_]
      rfl
    refine pure_ (i := 12) (N := some 17) (v := ?_) (a' := ?_) (mkM 37 8191) rfl rfl (by kernel_rfl) (fun _ _ _ h => h) (Or.inl ⟨by rfl, ?_⟩) ?_ ?_
    rotate_left
    · intro w'
      go_simp
      first | with_reducible rfl | (rw [if_neg (by omega)])
    rotate_left
    · simp only [Act.put, s1_, s2_, s3_]
      rfl
    refine pure_ (i := 13) (N := some 18) (v := ?_) (a' := ?_) (mkM 37 16383) rfl rfl (by kernel_rfl) (fun _ _ _ h => h) (Or.inl ⟨by rfl, ?_⟩) ?_ ?_
    rotate_left
    · intro w'
      go_simp
      first | with_reducible rfl | (rw [if_neg (by omega)])
    rotate_left
    · simp only [Act.put, s1_, s2_, s3_]
      rfl
    refine take_ (i := 14) (N := some 19) (v := ?_) (a' := ?_) (mkM 37 32767) rfl rfl (by kernel_rfl) (fun _ _ _ h => h) (Or.inl ⟨by rfl, ?_⟩) hHeld ?_ ?_
    rotate_left
    · rintro w' ⟨s0, s1, s2, s3⟩
      go_simp
      first | with_reducible rfl | (rw [if_neg (by omega)])
    rotate_left
    · simp only [Act.put, s1_, s2_, s3_]
      rfl
    refine pure_ (i := 15) (N := some 20) (v := ?_) (a' := ?_) (mkM 37 65535) rfl rfl (by kernel_rfl) (fun _ _ _ h => h) (Or.inl ⟨by rfl, ?_⟩) ?_ ?_
    rotate_left
    · intro w'
      go_simp
      first | with_reducible rfl | (rw [if_neg (by omega)])
    rotate_left
    · simp only [Act.put, s1_, s2_, s3_]
      rfl
    refine pure_ (i := 16) (N := some 21) (v := ?_) (a' := ?_) (mkM 37 131071) rfl rfl (by kernel_rfl) (fun _ _ _ h => h) (Or.inl ⟨by rfl, ?_⟩) ?_ ?_
    rotate_left
    · intro w'
      go_simp
      first | with_reducible rfl | (rw [if_neg (by omega)])
    rotate_left
    · simp only [Act.put, s1_, s2_, s3_]
      rfl
    refine pure_ (i := 17) (N := some 22) (v := undef) (a' := ?_) (mkM 37 262143) rfl rfl (by kernel_rfl) (fun _ _ _ h => h) (Or.inr ⟨by rfl, rfl⟩) ?_ ?_
    rotate_left
    · simp only [Act.put, s1_, s2_, s3_]
      rfl
    refine pure_ (i := 18) (N := some 23) (v := undef) (a' := ?_) (mkM 37 524287) rfl rfl (by kernel_rfl) (fun _ _ _ h => h) (Or.inr ⟨by rfl, rfl⟩) ?_ ?_
    rotate_left
    · simp only [Act.put, s1_, s2_, s3_]
      rfl
    refine pure_ (i := 19) (N := some 24) (v := undef) (a' := ?_) (mkM 37 1048575) rfl rfl (by kernel_rfl) (fun _ _ _ h => h) (Or.inr ⟨by rfl, rfl⟩) ?_ ?_
    rotate_left
    · simp only [Act.put, s1_, s2_, s3_]
      rfl
    refine pure_ (i := 20) (N := some 25) (v := ?_) (a' := ?_) (mkM 37 2097151) rfl rfl (by kernel_rfl) (fun _ _ _ h => h) (Or.inl ⟨by rfl, ?_⟩) ?_ ?_
    rotate_left
    · intro w'
      go_simp
      first | with_reducible rfl | (rw [if_neg (by omega)])
    rotate_left
    · simp only [Act.put, s1_, s2_, s3_]
      rfl
    refine pure_ (i := 21) (N := some 26) (v := ?_) (a' := ?_) (mkM 37 4194303) rfl rfl (by kernel_rfl) (fun _ _ _ h => h) (Or.inl ⟨by rfl, ?_⟩) ?_ ?_
    rotate_left
    · intro w'
      go_simp
      first | with_reducible rfl | (rw [if_neg (by omega)])
    rotate_left
    · simp only [Act.put, s1_, s2_, s3_]
      rfl
    refine pure_ (i := 22) (N := some 27) (v := ?_) (a' := ?_) (mkM 37 8388607) rfl rfl (by kernel_rfl) (fun _ _ _ h => h) (Or.inl ⟨by rfl, ?_⟩) ?_ ?_
    rotate_left
    · intro w'
      go_simp
      first | with_reducible rfl | (rw [if_neg (by omega)])
    rotate_left
    · simp only [Act.put, s1_, s2_, s3_]
      rfl
    refine pure_ (i := 23) (N := some 28) (v := ?_) (a' := ?_) (mkM 37 16777215) rfl rfl (by kernel_rfl) (fun _ _ _ h => h) (Or.inl ⟨by rfl, ?_⟩) ?_ ?_
    rotate_left
    · intro w'
      go_simp
      first | with_reducible rfl | (rw [if_neg (by omega)])
    rotate_left
    · simp only [Act.put, s1_, s2_, s3_]
      rfl
    refine pure_ (i := 25) (N := some 30) (v := ?_) (a' := ?_) (mkM 37 50331647) rfl rfl (by kernel_rfl) (fun _ _ _ h => h) (Or.inl ⟨by rfl, ?_⟩) ?_ ?_
    rotate_left
    · intro w'
      go_simp
      first | with_reducible rfl | (rw [if_neg (by omega)])
    rotate_left
    · simp only [Act.put, s1_, s2_, s3_]
      rfl
    refine pure_ (i := 26) (N := some 31) (v := ?_) (a' := ?_) (mkM 37 117440511) rfl rfl (by kernel_rfl) (fun _ _ _ h => h) (Or.inl ⟨by rfl, ?_⟩) ?_ ?_
    rotate_left
    · intro w'
      go_simp
      first | with_reducible rfl | (rw [if_neg (by omega)])
    rotate_left
    · simp only [Act.put, s1_, s2_, s3_, i64_w]
      rfl
    refine take_ (i := 24) (N := some 29) (v := ?_) (a' := ?_) (mkM 37 134217727) rfl rfl (by kernel_rfl) (fun _ _ _ h => h) (Or.inl ⟨by rfl, ?_⟩) hHeld ?_ ?_
    rotate_left
    · rintro w' ⟨s0, s1, s2, s3⟩
      go_simp
      first | with_reducible rfl | (rw [if_neg (by omega)])
    rotate_left
    · simp only [Act.put, s1_, s2_, s3_]
      rfl
    refine one_ (i := 27) (N := some 32) (mkM 37 268435455) rfl rfl (by kernel_rfl) (by decide) (fun K hK => ?_)
    refine goes_ Tryz.func18 (by kernel_rfl) rfl #[.slice x.attrs.a x.attrs.len x.attrs.cap, .int .i64 (wrap64 (d - 1))] (by rfl) rfl rfl (by simp only [List.map_toArray, List.map_cons, List.map_nil]; rfl) ?_
    with_reducible refine (A2.out _ HB.out).mono ?_
    rintro e w2 ⟨rfl, hb⟩
    refine ⟨_, rfl, ?_⟩
    replace HB := Aside0.mk (below_next HB.out hb)
    replace HX := Aside0.mk (HX.out.below hb)
    clear hb
    refine hK.out _ _ ⟨HX.out.c0, (xekind HX.out HK.out), HX.out.c3, HX.out.c6⟩ (fun hHeld => ?_)
    clear hK K
    refine norm_ (a' := ?_) ?_ ?_
    rotate_left
    · show Act.put _ (some 32) _ = _
      simp only [Act.put, s1_, s2_, s3_]
      rfl
    refine pure_ (i := 28) (N := some 33) (v := ?_) (a' := ?_) (mkM 37 536870911) rfl rfl (by kernel_rfl) (fun _ _ _ h => h) (Or.inl ⟨by rfl, ?_⟩) ?_ ?_
    rotate_left
    · intro w'
      go_simp
      first | with_reducible rfl | (rw [if_neg (by omega)])
    rotate_left
    · simp only [Act.put, s1_, s2_, s3_]
      rfl
    refine pure_ (i := 29) (N := some 34) (v := ?_) (a' := ?_) (mkM 37 1073741823) rfl rfl (by kernel_rfl) (fun _ _ _ h => h) (Or.inl ⟨by rfl, ?_⟩) ?_ ?_
    rotate_left
    · intro w'
      go_simp
      first | with_reducible rfl | (rw [if_neg (by omega)])
    rotate_left
    · simp only [Act.put, s1_, s2_, s3_]
      rfl
    refine pure_ (i := 30) (N := some 35) (v := undef) (a' := ?_) (mkM 37 2147483647) rfl rfl (by kernel_rfl) (fun _ _ _ h => h) (Or.inr ⟨by rfl, rfl⟩) ?_ ?_
    rotate_left
    · simp only [Act.put, s1_, s2_, s3_]
      rfl
    refine pure_ (i := 31) (N := some 36) (v := undef) (a' := ?_) (mkM 37 4294967295) rfl rfl (by kernel_rfl) (fun _ _ _ h => h) (Or.inr ⟨by rfl, rfl⟩) ?_ ?_
    rotate_left
    · simp only [Act.put, s1_, s2_, s3_]
      rfl
    refine pure_ (i := 32) (N := some 37) (v := undef) (a' := ?_) (mkM 37 8589934591) rfl rfl (by kernel_rfl) (fun _ _ _ h => h) (Or.inr ⟨by rfl, rfl⟩) ?_ ?_
    rotate_left
    · simp only [Act.put, s1_, s2_, s3_]
      rfl
    refine pure_ (i := 33) (N := some 38) (v := undef) (a' := ?_) (mkM 37 17179869183) rfl rfl (by kernel_rfl) (fun _ _ _ h => h) (Or.inr ⟨by rfl, rfl⟩) ?_ ?_
    rotate_left
    · simp only [Act.put, s1_, s2_, s3_]
      rfl
    refine pure_ (i := 34) (N := some 39) (v := undef) (a' := ?_) (mkM 37 34359738367) rfl rfl (by kernel_rfl) (fun _ _ _ h => h) (Or.inr ⟨by rfl, rfl⟩) ?_ ?_
    rotate_left
    · simp only [Act.put, s1_, s2_, s3_]
      rfl
    refine pure_ (i := 35) (N := some 40) (v := ?_) (a' := ?_) (mkM 37 68719476735) rfl rfl (by kernel_rfl) (fun _ _ _ h => h) (Or.inl ⟨by rfl, ?_⟩) ?_ ?_
    rotate_left
    · intro w'
      go_simp
      first | with_reducible rfl | (rw [if_neg (by omega)])
    rotate_left
    · simp only [Act.put, s1_, s2_, s3_]
      rfl
    refine pure_ (i := 36) (N := some 4) (v := ?_) (a' := ?_) (mkM 37 137438953471) rfl rfl (by kernel_rfl) (fun _ _ _ h => h) (Or.inl ⟨by rfl, ?_⟩) ?_ ?_
    rotate_left
    · intro w'
      go_simp
      first | with_reducible rfl | (rw [if_neg (by omega)])
    rotate_left
    · simp only [Act.put, s1_, s2_, s3_]
      rfl
    refine done_ (by kernel_rfl) ?_
    go_wp2_with fail
    go_ret
    exact ⟨rfl, HB.out⟩
  · skip
    go_enter Tryz.func9, Tryz.ntmps9
    go_upto_region 1 with (with_reducible refine gate_dst (N := 2) rfl ?_; refine Great.wpList_boxTo rfl 25 _ rfl _ rfl w.heap.size rfl (exmC x).toArray rfl ?_)
    have HX : Aside0 (XEm (w.alloc (.cells (exmC x).toArray 25)) w.heap.size x) := ⟨⟨heap_alloc_new w _⟩⟩
    have HB : Aside0 (Below w.heap.size w (w.alloc (.cells (exmC x).toArray 25))) := ⟨(Below.refl _ _).alloc (Nat.le_refl _) _⟩
    generalize (w.alloc (.cells (exmC x).toArray 25)) = w1 at *
    generalize hg : w.heap.size = g at HX ⊢
    clear hg
    have HBd := Aside0.mk (below_drew1 HB.out)
    have HXd := Aside0.mk (show XEm w1.drew g x from ⟨HX.out.blk⟩)
    clear HB HX
    have HB := HBd
    have HX := HXd
    clear HBd HXd
    refine start_ (n := 37) (S := fun w' => w'.cell? ⟨g, 0, none⟩ = some (.slice x.attrs.a x.attrs.len x.attrs.cap) ∧ w'.cell? ⟨g, 2, none⟩ = some (.int .i64 1) ∧ w'.cell? ⟨g, 3, none⟩ = some (.int .u64 x.n) ∧ w'.cell? ⟨g, 6, none⟩ = some (.string x.unk)) (ds := []) #[false, false, false, false, false, false, false, false, false, false, false, false, false, false, false, false, false, false, false, false, false, false, false, false, false, false, false, false, false, false, false, false, false, false, false, false, false] (by kernel_rfl) rfl rfl ⟨HX.out.c0, (xekind HX.out HK.out), HX.out.c3, HX.out.c6⟩ (fun hHeld => ?_)
    refine pure_ (i := 0) (N := some 5) (v := ?_) (a' := ?_) (mkM 37 1) rfl rfl (by kernel_rfl) (fun _ _ _ h => h) (Or.inl ⟨by rfl, ?_⟩) ?_ ?_
    rotate_left
    · intro w'
      go_simp
      first | with_reducible rfl | (rw [if_neg (by omega)])
    rotate_left
    · simp only [Act.put, s1_, s2_, s3_]
      rfl
    refine pure_ (i := 1) (N := some 6) (v := ?_) (a' := ?_) (mkM 37 3) rfl rfl (by kernel_rfl) (fun _ _ _ h => h) (Or.inl ⟨by rfl, ?_⟩) ?_ ?_
    rotate_left
    · intro w'
      go_simp
      first | with_reducible rfl | (rw [if_neg (by omega)])
    rotate_left
    · simp only [Act.put, s1_, s2_, s3_]
      rfl
    refine pure_ (i := 2) (N := some 7) (v := ?_) (a' := ?_) (mkM 37 7) rfl rfl (by kernel_rfl) (fun _ _ _ h => h) (Or.inl ⟨by rfl, ?_⟩) ?_ ?_
    rotate_left
    · intro w'
      go_simp
      first | with_reducible rfl | (rw [if_neg (by omega)])
    rotate_left
    · simp only [Act.put, s1_, s2_, s3_]
      rfl
    refine pure_ (i := 3) (N := some 8) (v := ?_) (a' := ?_) (mkM 37 15) rfl rfl (by kernel_rfl) (fun _ _ _ h => h) (Or.inl ⟨by rfl, ?_⟩) ?_ ?_
    rotate_left
    · intro w'
      go_simp
      first | with_reducible rfl | (rw [if_neg (by omega)])
    rotate_left
    · simp only [Act.put, s1_, s2_, s3_]
      rfl
    refine take_ (i := 4) (N := some 9) (v := ?_) (a' := ?_) (mkM 37 31) rfl rfl (by kernel_rfl) (fun _ _ _ h => h) (Or.inl ⟨by rfl, ?_⟩) hHeld ?_ ?_
    rotate_left
    · rintro w' ⟨s0, s1, s2, s3⟩
      go_simp
      first | with_reducible rfl | (rw [if_neg (by omega)])
    rotate_left
    · simp only [Act.put, s1_, s2_, s3_]
      rfl
    refine pure_ (i := 5) (N := some 10) (v := ?_) (a' := ?_) (mkM 37 63) rfl rfl (by kernel_rfl) (fun _ _ _ h => h) (Or.inl ⟨by rfl, ?_⟩) ?_ ?_
    rotate_left
    · intro w'
      go_simp
      first | with_reducible rfl | (rw [if_neg (by omega)])
    rotate_left
    · simp only [Act.put, s1_, s2_, s3_]
      rfl
    refine pure_ (i := 6) (N := some 11) (v := ?_) (a' := ?_) (mkM 37 127) rfl rfl (by kernel_rfl) (fun _ _ _ h => h) (Or.inl ⟨by rfl, ?_⟩) ?_ ?_
    rotate_left
    · intro w'
      go_simp
      first | with_reducible rfl | (rw [if_neg (by omega)])
    rotate_left
    · simp only [Act.put, s1_, s2_, s3_]
      rfl
    refine pure_ (i := 7) (N := some 12) (v := ?_) (a' := ?_) (mkM 37 255) rfl rfl (by kernel_rfl) (fun _ _ _ h => h) (Or.inl ⟨by rfl, ?_⟩) ?_ ?_
    rotate_left
    · intro w'
      go_simp
      first | with_reducible rfl | (rw [if_neg (by omega)])
    rotate_left
    · simp only [Act.put, s1_, s2_, s3_]
      rfl
    refine pure_ (i := 8) (N := some 13) (v := ?_) (a' := ?_) (mkM 37 511) rfl rfl (by kernel_rfl) (fun _ _ _ h => h) (Or.inl ⟨by rfl, ?_⟩) ?_ ?_
    rotate_left
    · intro w'
      go_simp
      first | with_reducible rfl | (rw [if_neg (by omega)])
    rotate_left
    · simp only [Act.put, s1_, s2_, s3_]
      rfl
    refine take_ (i := 9) (N := some 14) (v := ?_) (a' := ?_) (mkM 37 1023) rfl rfl (by kernel_rfl) (fun _ _ _ h => h) (Or.inl ⟨by rfl, ?_⟩) hHeld ?_ ?_
    rotate_left
    · rintro w' ⟨s0, s1, s2, s3⟩
      go_simp
      first | with_reducible rfl | (rw [if_neg (by omega)])
    rotate_left
    · simp only [Act.put, s1_, s2_, s3_]
      rfl
    refine pure_ (i := 10) (N := some 15) (v := ?_) (a' := ?_) (mkM 37 2047) rfl rfl (by kernel_rfl) (fun _ _ _ h => h) (Or.inl ⟨by rfl, ?_⟩) ?_ ?_
    rotate_left
    · intro w'
      go_simp
      first | with_reducible rfl | (rw [if_neg (by omega)])
    rotate_left
    · simp only [Act.put, s1_, s2_, s3_]
      rfl
    refine pure_ (i := 11) (N := some 16) (v := ?_) (a' := ?_) (mkM 37 4095) rfl rfl (by kernel_rfl) (fun _ _ _ h => h) (Or.inl ⟨by rfl, ?_⟩) ?_ ?_
    rotate_left
    · intro w'
      go_simp
      first | with_reducible rfl | (rw [if_neg (by omega)])
    rotate_left
    · simp only [Act.put, s1_, s2_, s3_]
      rfl
    refine pure_ (i := 12) (N := some 17) (v := ?_) (a' := ?_) (mkM 37 8191) rfl rfl (by kernel_rfl) (fun _ _ _ h => h) (Or.inl ⟨by rfl, ?_⟩) ?_ ?_
    rotate_left
    · intro w'
      go_simp
      first | with_reducible rfl | (rw [if_neg (by omega)])
    rotate_left
    · simp only [Act.put, s1_, s2_, s3_]
      rfl
    refine pure_ (i := 13) (N := some 18) (v := ?_) (a' := ?_) (mkM 37 16383) rfl rfl (by kernel_rfl) (fun _ _ _ h => h) (Or.inl ⟨by rfl, ?_⟩) ?_ ?_
    rotate_left
    · intro w'
      go_simp
      first | with_reducible rfl | (rw [if_neg (by omega)])
    rotate_left
    · simp only [Act.put, s1_, s2_, s3_]
      rfl
    refine take_ (i := 14) (N := some 19) (v := ?_) (a' := ?_) (mkM 37 32767) rfl rfl (by kernel_rfl) (fun _ _ _ h => h) (Or.inl ⟨by rfl, ?_⟩) hHeld ?_ ?_
    rotate_left
    · rintro w' ⟨s0, s1, s2, s3⟩
      go_simp
      first | with_reducible rfl | (rw [if_neg (by omega)])
    rotate_left
    · simp only [Act.put, s1_, s2_, s3_]
      rfl
    refine pure_ (i := 15) (N := some 20) (v := ?_) (a' := ?_) (mkM 37 65535) rfl rfl (by kernel_rfl) (fun _ _ _ h => h) (Or.inl ⟨by rfl, ?_⟩) ?_ ?_
    rotate_left
    · intro w'
      go_simp
      first | with_reducible rfl | (rw [if_neg (by omega)])
    rotate_left
    · simp only [Act.put, s1_, s2_, s3_]
      rfl
    refine pure_ (i := 16) (N := some 21) (v := ?_) (a' := ?_) (mkM 37 131071) rfl rfl (by kernel_rfl) (fun _ _ _ h => h) (Or.inl ⟨by rfl, ?_⟩) ?_ ?_
    rotate_left
    · intro w'
      go_simp
      first | with_reducible rfl | (rw [if_neg (by omega)])
    rotate_left
    · simp only [Act.put, s1_, s2_, s3_]
      rfl
    refine pure_ (i := 17) (N := some 22) (v := undef) (a' := ?_) (mkM 37 262143) rfl rfl (by kernel_rfl) (fun _ _ _ h => h) (Or.inr ⟨by rfl, rfl⟩) ?_ ?_
    rotate_left
    · simp only [Act.put, s1_, s2_, s3_]
      rfl
    refine pure_ (i := 18) (N := some 23) (v := undef) (a' := ?_) (mkM 37 524287) rfl rfl (by kernel_rfl) (fun _ _ _ h => h) (Or.inr ⟨by rfl, rfl⟩) ?_ ?_
    rotate_left
    · simp only [Act.put, s1_, s2_, s3_]
      rfl
    refine pure_ (i := 19) (N := some 24) (v := undef) (a' := ?_) (mkM 37 1048575) rfl rfl (by kernel_rfl) (fun _ _ _ h => h) (Or.inr ⟨by rfl, rfl⟩) ?_ ?_
    rotate_left
    · simp only [Act.put, s1_, s2_, s3_]
      rfl
    refine pure_ (i := 20) (N := some 25) (v := ?_) (a' := ?_) (mkM 37 2097151) rfl rfl (by kernel_rfl) (fun _ _ _ h => h) (Or.inl ⟨by rfl, ?_⟩) ?_ ?_
    rotate_left
    · intro w'
      go_simp
      first | with_reducible rfl | (rw [if_neg (by omega)])
    rotate_left
    · simp only [Act.put, s1_, s2_, s3_]
      rfl
    refine pure_ (i := 21) (N := some 26) (v := ?_) (a' := ?_) (mkM 37 4194303) rfl rfl (by kernel_rfl) (fun _ _ _ h => h) (Or.inl ⟨by rfl, ?_⟩) ?_ ?_
    rotate_left
    · intro w'
      go_simp
      first | with_reducible rfl | (rw [if_neg (by omega)])
    rotate_left
    · simp only [Act.put, s1_, s2_, s3_]
      rfl
    refine pure_ (i := 22) (N := some 27) (v := ?_) (a' := ?_) (mkM 37 8388607) rfl rfl (by kernel_rfl) (fun _ _ _ h => h) (Or.inl ⟨by rfl, ?_⟩) ?_ ?_
    rotate_left
    · intro w'
      go_simp
      first | with_reducible rfl | (rw [if_neg (by omega)])
    rotate_left
    · simp only [Act.put, s1_, s2_, s3_]
      rfl
    refine pure_ (i := 23) (N := some 28) (v := ?_) (a' := ?_) (mkM 37 16777215) rfl rfl (by kernel_rfl) (fun _ _ _ h => h) (Or.inl ⟨by rfl, ?_⟩) ?_ ?_
    rotate_left
    · intro w'
      go_simp
      first | with_reducible rfl | (rw [if_neg (by omega)])
    rotate_left
    · simp only [Act.put, s1_, s2_, s3_]
      rfl
    refine pure_ (i := 25) (N := some 30) (v := ?_) (a' := ?_) (mkM 37 50331647) rfl rfl (by kernel_rfl) (fun _ _ _ h => h) (Or.inl ⟨by rfl, ?_⟩) ?_ ?_
    rotate_left
    · intro w'
      go_simp
      first | with_reducible rfl | (rw [if_neg (by omega)])
    rotate_left
    · simp only [Act.put, s1_, s2_, s3_]
      rfl
    refine pure_ (i := 26) (N := some 31) (v := ?_) (a' := ?_) (mkM 37 117440511) rfl rfl (by kernel_rfl) (fun _ _ _ h => h) (Or.inl ⟨by rfl, ?_⟩) ?_ ?_
    rotate_left
    · intro w'
      go_simp
      first | with_reducible rfl | (rw [if_neg (by omega)])
    rotate_left
    · simp only [Act.put, s1_, s2_, s3_, i64_w]
      rfl
    refine take_ (i := 24) (N := some 29) (v := ?_) (a' := ?_) (mkM 37 134217727) rfl rfl (by kernel_rfl) (fun _ _ _ h => h) (Or.inl ⟨by rfl, ?_⟩) hHeld ?_ ?_
    rotate_left
    · rintro w' ⟨s0, s1, s2, s3⟩
      go_simp
      first | with_reducible rfl | (rw [if_neg (by omega)])
    rotate_left
    · simp only [Act.put, s1_, s2_, s3_]
      rfl
    refine one_ (i := 27) (N := some 32) (mkM 37 268435455) rfl rfl (by kernel_rfl) (by decide) (fun K hK => ?_)
    refine goes_ Tryz.func18 (by kernel_rfl) rfl #[.slice x.attrs.a x.attrs.len x.attrs.cap, .int .i64 (wrap64 (d - 1))] (by rfl) rfl rfl (by simp only [List.map_toArray, List.map_cons, List.map_nil]; rfl) ?_
    with_reducible refine (A2.out _ HB.out).mono ?_
    rintro e w2 ⟨rfl, hb⟩
    refine ⟨_, rfl, ?_⟩
    replace HB := Aside0.mk (below_next HB.out hb)
    replace HX := Aside0.mk (HX.out.below hb)
    clear hb
    refine hK.out _ _ ⟨HX.out.c0, (xekind HX.out HK.out), HX.out.c3, HX.out.c6⟩ (fun hHeld => ?_)
    clear hK K
    refine norm_ (a' := ?_) ?_ ?_
    rotate_left
    · show Act.put _ (some 32) _ = _
      simp only [Act.put, s1_, s2_, s3_]
      rfl
    refine pure_ (i := 28) (N := some 33) (v := ?_) (a' := ?_) (mkM 37 536870911) rfl rfl (by kernel_rfl) (fun _ _ _ h => h) (Or.inl ⟨by rfl, ?_⟩) ?_ ?_
    rotate_left
    · intro w'
      go_simp
      first | with_reducible rfl | (rw [if_neg (by omega)])
    rotate_left
    · simp only [Act.put, s1_, s2_, s3_]
      rfl
    refine pure_ (i := 29) (N := some 34) (v := ?_) (a' := ?_) (mkM 37 1073741823) rfl rfl (by kernel_rfl) (fun _ _ _ h => h) (Or.inl ⟨by rfl, ?_⟩) ?_ ?_
    rotate_left
    · intro w'
      go_simp
      first | with_reducible rfl | (rw [if_neg (by omega)])
    rotate_left
    · simp only [Act.put, s1_, s2_, s3_]
      rfl
    refine pure_ (i := 30) (N := some 35) (v := ?_) (a' := ?_) (mkM 37 2147483647) rfl rfl (by kernel_rfl) (fun _ _ _ h => h) (Or.inl ⟨by rfl, ?_⟩) ?_ ?_
    rotate_left
    · intro w'
      go_simp
      first | with_reducible rfl | (rw [if_neg (by omega)])
    rotate_left
    · simp only [Act.put, s1_, s2_, s3_]
      rfl
    refine pure_ (i := 32) (N := some 37) (v := ?_) (a' := ?_) (mkM 37 6442450943) rfl rfl (by kernel_rfl) (fun _ _ _ h => h) (Or.inl ⟨by rfl, ?_⟩) ?_ ?_
    rotate_left
    · intro w'
      go_simp
      first | with_reducible rfl | (rw [if_neg (by omega)])
    rotate_left
    · simp only [Act.put, s1_, s2_, s3_]
      rfl
    refine take_ (i := 31) (N := some 36) (v := ?_) (a' := ?_) (mkM 37 8589934591) rfl rfl (by kernel_rfl) (fun _ _ _ h => h) (Or.inl ⟨by rfl, ?_⟩) hHeld ?_ ?_
    rotate_left
    · rintro w' ⟨s0, s1, s2, s3⟩
      go_simp
      first | with_reducible rfl | (rw [if_neg (by omega)])
    rotate_left
    · simp only [Act.put, s1_, s2_, s3_]
      rfl
    refine one_ (i := 33) (N := some 38) (mkM 37 17179869183) rfl rfl (by kernel_rfl) (by decide) (fun K hK => ?_)
    refine goes_ Tryz.func20 (by kernel_rfl) rfl #[] (by rfl) rfl rfl (by simp only [List.map_toArray, List.map_nil]) ?_
    with_reducible refine (hygref8_exemplars_at _).mono ?_
    rintro e w3 ⟨A, c, rfl, hC, hc, hb⟩
    refine ⟨_, rfl, ?_⟩
    have HT := Aside0.mk (And.intro hC hc)
    clear hC hc
    replace HB := Aside0.mk (below_next HB.out hb)
    replace HX := Aside0.mk (HX.out.below hb)
    clear hb
    refine hK.out _ _ ⟨HX.out.c0, (xekind HX.out HK.out), HX.out.c3, HX.out.c6⟩ (fun hHeld => ?_)
    clear hK K
    refine norm_ (a' := ?_) ?_ ?_
    rotate_left
    · show Act.put _ (some 38) _ = _
      simp only [Act.put, s1_, s2_, s3_]
      rfl
    refine one_ (i := 34) (N := some 39) (mkM 37 34359738367) rfl rfl (by kernel_rfl) (by decide) (fun K hK => ?_)
    refine goes_ Tryz.func19 (by kernel_rfl) rfl #[.string x.unk, .int .i64 d, .slice A tbE.length c] (by rfl) rfl rfl (by simp only [List.map_toArray, List.map_cons, List.map_nil]; rfl) ?_
    with_reducible refine (A3.out _ _ _ HT.out.1 HT.out.2).mono ?_
    rintro e w4 ⟨rfl, hb⟩
    refine ⟨_, rfl, ?_⟩
    clear HT
    replace HB := Aside0.mk (below_next HB.out hb)
    replace HX := Aside0.mk (HX.out.below hb)
    clear hb
    refine hK.out _ _ ⟨HX.out.c0, (xekind HX.out HK.out), HX.out.c3, HX.out.c6⟩ (fun hHeld => ?_)
    clear hK K
    refine norm_ (a' := ?_) ?_ ?_
    rotate_left
    · show Act.put _ (some 39) _ = _
      simp only [Act.put, s1_, s2_, s3_]
      rfl
    refine pure_ (i := 35) (N := some 40) (v := ?_) (a' := ?_) (mkM 37 68719476735) rfl rfl (by kernel_rfl) (fun _ _ _ h => h) (Or.inl ⟨by rfl, ?_⟩) ?_ ?_
    rotate_left
    · intro w'
      go_simp
      first | with_reducible rfl | (rw [if_neg (by omega)])
    rotate_left
    · simp only [Act.put, s1_, s2_, s3_]
      rfl
    refine pure_ (i := 36) (N := some 4) (v := ?_) (a' := ?_) (mkM 37 137438953471) rfl rfl (by kernel_rfl) (fun _ _ _ h => h) (Or.inl ⟨by rfl, ?_⟩) ?_ ?_
    rotate_left
    · intro w'
      go_simp
      first | with_reducible rfl | (rw [if_neg (by omega)])
    rotate_left
    · simp only [Act.put, s1_, s2_, s3_]
      rfl
    refine done_ (by kernel_rfl) ?_
    go_wp2_with fail
    go_ret
    exact ⟨rfl, HB.out⟩
set_option maxHeartbeats 4000000 in
set_option maxRecDepth 100000 in
theorem rmx_2 (W w : World) (f : Nat) (x : Exm) (d : Int) (h0 : 0 ≤ d) (hk : x.kind = 2) (hW : Below W.heap.size W w) (hx : ExmOk W x) (hu : x.unk.size ≤ 100000) (hs : ∀ y ∈ kvs W x.attrs, SmK W f y) (hd1 : d < 9223372036854775808) :
    Calls Tryz.prog 9 #[.agg (exmC x).toArray, .int .i64 d] w fun e w' => e = .returned (.bool ((kvs W x.attrs).all (mayK (mayV W f) (d - 1)) && restB tbE d x.unk)) ∧ Below w.heap.size w w' := by
  have A3 : Aside0 (∀ (w2 : World) (A : Option Addr) (c : Nat), Kd.C (Kd.int .i64) w2 A tbE.length (tbE.map fun (x : Nat) => (x : Int)) → tbE.length ≤ c → Calls Tryz.prog 19 #[.string x.unk, .int .i64 d, .slice A tbE.length c] w2 fun e w' => e = .returned (.bool (restB tbE d x.unk)) ∧ Below w2.heap.size w2 w') := ⟨fun w2 A c hC hc => by have h := unk_any tbE tbE_ok.1 tbE_ok.2 A c x.unk d w2 hC hc hu hd1; rw [decide_eq_true h0, Bool.true_and] at h; exact h⟩
  have A2 := Aside0.mk (fun w2 (hb : Below w.heap.size w w2) => rmks_all W f w2 x.attrs (d - 1) (hW.trans (hb.mono hW.size)) hx.attrs hs (by omega) (by omega))
  rw [show d - 1 = wrap64 (d - 1) by unfold wrap64; omega] at A2 ⊢
  have dl : decide (d ≥ 0) = true := decide_eq_true h0
  unfold Sl.v at A2
  generalize (kvs W x.attrs).all (mayK (mayV W f) (wrap64 (d - 1))) = q2 at *
  generalize restB tbE d x.unk = q3 at *
  have HK := Aside0.mk hk
  clear hk hW hx hu hs hd1 h0
  cases q2
  · skip
    go_enter Tryz.func9, Tryz.ntmps9
    go_upto_region 1 with (with_reducible refine gate_dst (N := 2) rfl ?_; refine Great.wpList_boxTo rfl 25 _ rfl _ rfl w.heap.size rfl (exmC x).toArray rfl ?_)
    have HX : Aside0 (XEm (w.alloc (.cells (exmC x).toArray 25)) w.heap.size x) := ⟨⟨heap_alloc_new w _⟩⟩
    have HB : Aside0 (Below w.heap.size w (w.alloc (.cells (exmC x).toArray 25))) := ⟨(Below.refl _ _).alloc (Nat.le_refl _) _⟩
    generalize (w.alloc (.cells (exmC x).toArray 25)) = w1 at *
    generalize hg : w.heap.size = g at HX ⊢
    clear hg
    have HBd := Aside0.mk (below_drew1 HB.out)
    have HXd := Aside0.mk (show XEm w1.drew g x from ⟨HX.out.blk⟩)
    clear HB HX
    have HB := HBd
    have HX := HXd
    clear HBd HXd
    refine start_ (n := 37) (S := fun w' => w'.cell? ⟨g, 0, none⟩ = some (.slice x.attrs.a x.attrs.len x.attrs.cap) ∧ w'.cell? ⟨g, 2, none⟩ = some (.int .i64 2) ∧ w'.cell? ⟨g, 3, none⟩ = some (.int .u64 x.n) ∧ w'.cell? ⟨g, 6, none⟩ = some (.string x.unk)) (ds := []) #[false, false, false, false, false, false, false, false, false, false, false, false, false, false, false, false, false, false, false, false, false, false, false, false, false, false, false, false, false, false, false, false, false, false, false, false, false] (by kernel_rfl) rfl rfl ⟨HX.out.c0, (xekind HX.out HK.out), HX.out.c3, HX.out.c6⟩ (fun hHeld => ?_)
    refine pure_ (i := 0) (N := some 5) (v := ?_) (a' := ?_) (mkM 37 1) rfl rfl (by kernel_rfl) (fun _ _ _ h => h) (Or.inl ⟨by rfl, ?_⟩) ?_ ?_
    rotate_left
    · intro w'
      go_simp
      first | with_reducible rfl | (rw [if_neg (by omega)])
    rotate_left
    · simp only [Act.put, s1_, s2_, s3_]
      rfl
    refine pure_ (i := 1) (N := some 6) (v := ?_) (a' := ?_) (mkM 37 3) rfl rfl (by kernel_rfl) (fun _ _ _ h => h) (Or.inl ⟨by rfl, ?_⟩) ?_ ?_
    rotate_left
    · intro w'
      go_simp
      first | with_reducible rfl | (rw [if_neg (by omega)])
    rotate_left
    · simp only [Act.put, s1_, s2_, s3_]
      rfl
    refine pure_ (i := 2) (N := some 7) (v := ?_) (a' := ?_) (mkM 37 7) rfl rfl (by kernel_rfl) (fun _ _ _ h => h) (Or.inl ⟨by rfl, ?_⟩) ?_ ?_
    rotate_left
    · intro w'
      go_simp
      first | with_reducible rfl | (rw [if_neg (by omega)])
    rotate_left
    · simp only [Act.put, s1_, s2_, s3_]
      rfl
    refine pure_ (i := 3) (N := some 8) (v := ?_) (a' := ?_) (mkM 37 15) rfl rfl (by kernel_rfl) (fun _ _ _ h => h) (Or.inl ⟨by rfl, ?_⟩) ?_ ?_
    rotate_left
    · intro w'
      go_simp
      first | with_reducible rfl | (rw [if_neg (by omega)])
    rotate_left
    · simp only [Act.put, s1_, s2_, s3_]
      rfl
    refine take_ (i := 4) (N := some 9) (v := ?_) (a' := ?_) (mkM 37 31) rfl rfl (by kernel_rfl) (fun _ _ _ h => h) (Or.inl ⟨by rfl, ?_⟩) hHeld ?_ ?_
    rotate_left
    · rintro w' ⟨s0, s1, s2, s3⟩
      go_simp
      first | with_reducible rfl | (rw [if_neg (by omega)])
    rotate_left
    · simp only [Act.put, s1_, s2_, s3_]
      rfl
    refine pure_ (i := 5) (N := some 10) (v := ?_) (a' := ?_) (mkM 37 63) rfl rfl (by kernel_rfl) (fun _ _ _ h => h) (Or.inl ⟨by rfl, ?_⟩) ?_ ?_
    rotate_left
    · intro w'
      go_simp
      first | with_reducible rfl | (rw [if_neg (by omega)])
    rotate_left
    · simp only [Act.put, s1_, s2_, s3_]
      rfl
    refine pure_ (i := 6) (N := some 11) (v := ?_) (a' := ?_) (mkM 37 127) rfl rfl (by kernel_rfl) (fun _ _ _ h => h) (Or.inl ⟨by rfl, ?_⟩) ?_ ?_
    rotate_left
    · intro w'
      go_simp
      first | with_reducible rfl | (rw [if_neg (by omega)])
    rotate_left
    · simp only [Act.put, s1_, s2_, s3_]
      rfl
    refine pure_ (i := 7) (N := some 12) (v := ?_) (a' := ?_) (mkM 37 255) rfl rfl (by kernel_rfl) (fun _ _ _ h => h) (Or.inl ⟨by rfl, ?_⟩) ?_ ?_
    rotate_left
    · intro w'
      go_simp
      first | with_reducible rfl | (rw [if_neg (by omega)])
    rotate_left
    · simp only [Act.put, s1_, s2_, s3_]
      rfl
    refine pure_ (i := 8) (N := some 13) (v := ?_) (a' := ?_) (mkM 37 511) rfl rfl (by kernel_rfl) (fun _ _ _ h => h) (Or.inl ⟨by rfl, ?_⟩) ?_ ?_
    rotate_left
    · intro w'
      go_simp
      first | with_reducible rfl | (rw [if_neg (by omega)])
    rotate_left
    · simp only [Act.put, s1_, s2_, s3_]
      rfl
    refine take_ (i := 9) (N := some 14) (v := ?_) (a' := ?_) (mkM 37 1023) rfl rfl (by kernel_rfl) (fun _ _ _ h => h) (Or.inl ⟨by rfl, ?_⟩) hHeld ?_ ?_
    rotate_left
    · rintro w' ⟨s0, s1, s2, s3⟩
      go_simp
      first | with_reducible rfl | (rw [if_neg (by omega)])
    rotate_left
    · simp only [Act.put, s1_, s2_, s3_]
      rfl
    refine pure_ (i := 10) (N := some 15) (v := ?_) (a' := ?_) (mkM 37 2047) rfl rfl (by kernel_rfl) (fun _ _ _ h => h) (Or.inl ⟨by rfl, ?_⟩) ?_ ?_
    rotate_left
    · intro w'
      go_simp
      first | with_reducible rfl | (rw [if_neg (by omega)])
    rotate_left
    · simp only [Act.put, s1_, s2_, s3_]
      rfl
    refine pure_ (i := 11) (N := some 16) (v := ?_) (a' := ?_) (mkM 37 4095) rfl rfl (by kernel_rfl) (fun _ _ _ h => h) (Or.inl ⟨by rfl, ?_⟩) ?_ ?_
    rotate_left
    · intro w'
      go_simp
      first | with_reducible rfl | (rw [if_neg (by omega)])
    rotate_left
    · simp only [Act.put, s1_, s2_, s3_]
      rfl
    refine pure_ (i := 12) (N := some 17) (v := ?_) (a' := ?_) (mkM 37 8191) rfl rfl (by kernel_rfl) (fun _ _ _ h => h) (Or.inl ⟨by rfl, ?_⟩) ?_ ?_
    rotate_left
    · intro w'
      go_simp
      first | with_reducible rfl | (rw [if_neg (by omega)])
    rotate_left
    · simp only [Act.put, s1_, s2_, s3_]
      rfl
    refine pure_ (i := 13) (N := some 18) (v := ?_) (a' := ?_) (mkM 37 16383) rfl rfl (by kernel_rfl) (fun _ _ _ h => h) (Or.inl ⟨by rfl, ?_⟩) ?_ ?_
    rotate_left
    · intro w'
      go_simp
      first | with_reducible rfl | (rw [if_neg (by omega)])
    rotate_left
    · simp only [Act.put, s1_, s2_, s3_]
      rfl
    refine take_ (i := 14) (N := some 19) (v := ?_) (a' := ?_) (mkM 37 32767) rfl rfl (by kernel_rfl) (fun _ _ _ h => h) (Or.inl ⟨by rfl, ?_⟩) hHeld ?_ ?_
    rotate_left
    · rintro w' ⟨s0, s1, s2, s3⟩
      go_simp
      first | with_reducible rfl | (rw [if_neg (by omega)])
    rotate_left
    · simp only [Act.put, s1_, s2_, s3_]
      rfl
    refine pure_ (i := 15) (N := some 20) (v := ?_) (a' := ?_) (mkM 37 65535) rfl rfl (by kernel_rfl) (fun _ _ _ h => h) (Or.inl ⟨by rfl, ?_⟩) ?_ ?_
    rotate_left
    · intro w'
      go_simp
      first | with_reducible rfl | (rw [if_neg (by omega)])
    rotate_left
    · simp only [Act.put, s1_, s2_, s3_]
      rfl
    refine pure_ (i := 16) (N := some 21) (v := ?_) (a' := ?_) (mkM 37 131071) rfl rfl (by kernel_rfl) (fun _ _ _ h => h) (Or.inl ⟨by rfl, ?_⟩) ?_ ?_
    rotate_left
    · intro w'
      go_simp
      first | with_reducible rfl | (rw [if_neg (by omega)])
    rotate_left
    · simp only [Act.put, s1_, s2_, s3_]
      rfl
    refine pure_ (i := 17) (N := some 22) (v := undef) (a' := ?_) (mkM 37 262143) rfl rfl (by kernel_rfl) (fun _ _ _ h => h) (Or.inr ⟨by rfl, rfl⟩) ?_ ?_
    rotate_left
    · simp only [Act.put, s1_, s2_, s3_]
      rfl
    refine pure_ (i := 18) (N := some 23) (v := undef) (a' := ?_) (mkM 37 524287) rfl rfl (by kernel_rfl) (fun _ _ _ h => h) (Or.inr ⟨by rfl, rfl⟩) ?_ ?_
    rotate_left
    · simp only [Act.put, s1_, s2_, s3_]
      rfl
    refine pure_ (i := 19) (N := some 24) (v := undef) (a' := ?_) (mkM 37 1048575) rfl rfl (by kernel_rfl) (fun _ _ _ h => h) (Or.inr ⟨by rfl, rfl⟩) ?_ ?_
    rotate_left
    · simp only [Act.put, s1_, s2_, s3_]
      rfl
    refine pure_ (i := 20) (N := some 25) (v := ?_) (a' := ?_) (mkM 37 2097151) rfl rfl (by kernel_rfl) (fun _ _ _ h => h) (Or.inl ⟨by rfl, ?_⟩) ?_ ?_
    rotate_left
    · intro w'
      go_simp
      first | with_reducible rfl | (rw [if_neg (by omega)])
    rotate_left
    · simp only [Act.put, s1_, s2_, s3_]
      rfl
    refine pure_ (i := 21) (N := some 26) (v := ?_) (a' := ?_) (mkM 37 4194303) rfl rfl (by kernel_rfl) (fun _ _ _ h => h) (Or.inl ⟨by rfl, ?_⟩) ?_ ?_
    rotate_left
    · intro w'
      go_simp
      first | with_reducible rfl | (rw [if_neg (by omega)])
    rotate_left
    · simp only [Act.put, s1_, s2_, s3_]
      rfl
    refine pure_ (i := 22) (N := some 27) (v := ?_) (a' := ?_) (mkM 37 8388607) rfl rfl (by kernel_rfl) (fun _ _ _ h => h) (Or.inl ⟨by rfl, ?_⟩) ?_ ?_
    rotate_left
    · intro w'
      go_simp
      first | with_reducible rfl | (rw [if_neg (by omega)])
    rotate_left
    · simp only [Act.put, s1_, s2_, s3_]
      rfl
    refine pure_ (i := 23) (N := some 28) (v := ?_) (a' := ?_) (mkM 37 16777215) rfl rfl (by kernel_rfl) (fun _ _ _ h => h) (Or.inl ⟨by rfl, ?_⟩) ?_ ?_
    rotate_left
    · intro w'
      go_simp
      first | with_reducible rfl | (rw [if_neg (by omega)])
    rotate_left
    · simp only [Act.put, s1_, s2_, s3_]
      rfl
    refine pure_ (i := 25) (N := some 30) (v := ?_) (a' := ?_) (mkM 37 50331647) rfl rfl (by kernel_rfl) (fun _ _ _ h => h) (Or.inl ⟨by rfl, ?_⟩) ?_ ?_
    rotate_left
    · intro w'
      go_simp
      first | with_reducible rfl | (rw [if_neg (by omega)])
    rotate_left
    · simp only [Act.put, s1_, s2_, s3_]
      rfl
    refine pure_ (i := 26) (N := some 31) (v := ?_) (a' := ?_) (mkM 37 117440511) rfl rfl (by kernel_rfl) (fun _ _ _ h => h) (Or.inl ⟨by rfl, ?_⟩) ?_ ?_
    rotate_left
    · intro w'
      go_simp
      first | with_reducible rfl | (rw [if_neg (by omega)])
    rotate_left
    · simp only [Act.put, s1_, s2_, s3_, i64_w]
      rfl
    refine take_ (i := 24) (N := some 29) (v := ?_) (a' := ?_) (mkM 37 134217727) rfl rfl (by kernel_rfl) (fun _ _ _ h => h) (Or.inl ⟨by rfl, ?_⟩) hHeld ?_ ?_
    rotate_left
    · rintro w' ⟨s0, s1, s2, s3⟩
      go_simp
      first | with_reducible rfl | (rw [if_neg (by omega)])
    rotate_left
    · simp only [Act.put, s1_, s2_, s3_]
      rfl
    refine one_ (i := 27) (N := some 32) (mkM 37 268435455) rfl rfl (by kernel_rfl) (by decide) (fun K hK => ?_)
    refine goes_ Tryz.func18 (by kernel_rfl) rfl #[.slice x.attrs.a x.attrs.len x.attrs.cap, .int .i64 (wrap64 (d - 1))] (by rfl) rfl rfl (by simp only [List.map_toArray, List.map_cons, List.map_nil]; rfl) ?_
    with_reducible refine (A2.out _ HB.out).mono ?_
    rintro e w2 ⟨rfl, hb⟩
    refine ⟨_, rfl, ?_⟩
    replace HB := Aside0.mk (below_next HB.out hb)
    replace HX := Aside0.mk (HX.out.below hb)
    clear hb
    refine hK.out _ _ ⟨HX.out.c0, (xekind HX.out HK.out), HX.out.c3, HX.out.c6⟩ (fun hHeld => ?_)
    clear hK K
    refine norm_ (a' := ?_) ?_ ?_
    rotate_left
    · show Act.put _ (some 32) _ = _
      simp only [Act.put, s1_, s2_, s3_]
      rfl
    refine pure_ (i := 28) (N := some 33) (v := ?_) (a' := ?_) (mkM 37 536870911) rfl rfl (by kernel_rfl) (fun _ _ _ h => h) (Or.inl ⟨by rfl, ?_⟩) ?_ ?_
    rotate_left
    · intro w'
      go_simp
      first | with_reducible rfl | (rw [if_neg (by omega)])
    rotate_left
    · simp only [Act.put, s1_, s2_, s3_]
      rfl
    refine pure_ (i := 29) (N := some 34) (v := ?_) (a' := ?_) (mkM 37 1073741823) rfl rfl (by kernel_rfl) (fun _ _ _ h => h) (Or.inl ⟨by rfl, ?_⟩) ?_ ?_
    rotate_left
    · intro w'
      go_simp
      first | with_reducible rfl | (rw [if_neg (by omega)])
    rotate_left
    · simp only [Act.put, s1_, s2_, s3_]
      rfl
    refine pure_ (i := 30) (N := some 35) (v := undef) (a' := ?_) (mkM 37 2147483647) rfl rfl (by kernel_rfl) (fun _ _ _ h => h) (Or.inr ⟨by rfl, rfl⟩) ?_ ?_
    rotate_left
    · simp only [Act.put, s1_, s2_, s3_]
      rfl
    refine pure_ (i := 31) (N := some 36) (v := undef) (a' := ?_) (mkM 37 4294967295) rfl rfl (by kernel_rfl) (fun _ _ _ h => h) (Or.inr ⟨by rfl, rfl⟩) ?_ ?_
    rotate_left
    · simp only [Act.put, s1_, s2_, s3_]
      rfl
    refine pure_ (i := 32) (N := some 37) (v := undef) (a' := ?_) (mkM 37 8589934591) rfl rfl (by kernel_rfl) (fun _ _ _ h => h) (Or.inr ⟨by rfl, rfl⟩) ?_ ?_
    rotate_left
    · simp only [Act.put, s1_, s2_, s3_]
      rfl
    refine pure_ (i := 33) (N := some 38) (v := undef) (a' := ?_) (mkM 37 17179869183) rfl rfl (by kernel_rfl) (fun _ _ _ h => h) (Or.inr ⟨by rfl, rfl⟩) ?_ ?_
    rotate_left
    · simp only [Act.put, s1_, s2_, s3_]
      rfl
    refine pure_ (i := 34) (N := some 39) (v := undef) (a' := ?_) (mkM 37 34359738367) rfl rfl (by kernel_rfl) (fun _ _ _ h => h) (Or.inr ⟨by rfl, rfl⟩) ?_ ?_
    rotate_left
    · simp only [Act.put, s1_, s2_, s3_]
      rfl
    refine pure_ (i := 35) (N := some 40) (v := ?_) (a' := ?_) (mkM 37 68719476735) rfl rfl (by kernel_rfl) (fun _ _ _ h => h) (Or.inl ⟨by rfl, ?_⟩) ?_ ?_
    rotate_left
    · intro w'
      go_simp
      first | with_reducible rfl | (rw [if_neg (by omega)])
    rotate_left
    · simp only [Act.put, s1_, s2_, s3_]
      rfl
    refine pure_ (i := 36) (N := some 4) (v := ?_) (a' := ?_) (mkM 37 137438953471) rfl rfl (by kernel_rfl) (fun _ _ _ h => h) (Or.inl ⟨by rfl, ?_⟩) ?_ ?_
    rotate_left
    · intro w'
      go_simp
      first | with_reducible rfl | (rw [if_neg (by omega)])
    rotate_left
    · simp only [Act.put, s1_, s2_, s3_]
      rfl
    refine done_ (by kernel_rfl) ?_
    go_wp2_with fail
    go_ret
    exact ⟨rfl, HB.out⟩
  · skip
    go_enter Tryz.func9, Tryz.ntmps9
    go_upto_region 1 with (with_reducible refine gate_dst (N := 2) rfl ?_; refine Great.wpList_boxTo rfl 25 _ rfl _ rfl w.heap.size rfl (exmC x).toArray rfl ?_)
    have HX : Aside0 (XEm (w.alloc (.cells (exmC x).toArray 25)) w.heap.size x) := ⟨⟨heap_alloc_new w _⟩⟩
    have HB : Aside0 (Below w.heap.size w (w.alloc (.cells (exmC x).toArray 25))) := ⟨(Below.refl _ _).alloc (Nat.le_refl _) _⟩
    generalize (w.alloc (.cells (exmC x).toArray 25)) = w1 at *
    generalize hg : w.heap.size = g at HX ⊢
    clear hg
    have HBd := Aside0.mk (below_drew1 HB.out)
    have HXd := Aside0.mk (show XEm w1.drew g x from ⟨HX.out.blk⟩)
    clear HB HX
    have HB := HBd
    have HX := HXd
    clear HBd HXd
    refine start_ (n := 37) (S := fun w' => w'.cell? ⟨g, 0, none⟩ = some (.slice x.attrs.a x.attrs.len x.attrs.cap) ∧ w'.cell? ⟨g, 2, none⟩ = some (.int .i64 2) ∧ w'.cell? ⟨g, 3, none⟩ = some (.int .u64 x.n) ∧ w'.cell? ⟨g, 6, none⟩ = some (.string x.unk)) (ds := []) #[false, false, false, false, false, false, false, false, false, false, false, false, false, false, false, false, false, false, false, false, false, false, false, false, false, false, false, false, false, false, false, false, false, false, false, false, false] (by kernel_rfl) rfl rfl ⟨HX.out.c0, (xekind HX.out HK.out), HX.out.c3, HX.out.c6⟩ (fun hHeld => ?_)
    refine pure_ (i := 0) (N := some 5) (v := ?_) (a' := ?_) (mkM 37 1) rfl rfl (by kernel_rfl) (fun _ _ _ h => h) (Or.inl ⟨by rfl, ?_⟩) ?_ ?_
    rotate_left
    · intro w'
      go_simp
      first | with_reducible rfl | (rw [if_neg (by omega)])
    rotate_left
    · simp only [Act.put, s1_, s2_, s3_]
      rfl
    refine pure_ (i := 1) (N := some 6) (v := ?_) (a' := ?_) (mkM 37 3) rfl rfl (by kernel_rfl) (fun _ _ _ h => h) (Or.inl ⟨by rfl, ?_⟩) ?_ ?_
    rotate_left
    · intro w'
      go_simp
      first | with_reducible rfl | (rw [if_neg (by omega)])
    rotate_left
    · simp only [Act.put, s1_, s2_, s3_]
      rfl
    refine pure_ (i := 2) (N := some 7) (v := ?_) (a' := ?_) (mkM 37 7) rfl rfl (by kernel_rfl) (fun _ _ _ h => h) (Or.inl ⟨by rfl, ?_⟩) ?_ ?_
    rotate_left
    · intro w'
      go_simp
      first | with_reducible rfl | (rw [if_neg (by omega)])
    rotate_left
    · simp only [Act.put, s1_, s2_, s3_]
      rfl
    refine pure_ (i := 3) (N := some 8) (v := ?_) (a' := ?_) (mkM 37 15) rfl rfl (by kernel_rfl) (fun _ _ _ h => h) (Or.inl ⟨by rfl, ?_⟩) ?_ ?_
    rotate_left
    · intro w'
      go_simp
      first | with_reducible rfl | (rw [if_neg (by omega)])
    rotate_left
    · simp only [Act.put, s1_, s2_, s3_]
      rfl
    refine take_ (i := 4) (N := some 9) (v := ?_) (a' := ?_) (mkM 37 31) rfl rfl (by kernel_rfl) (fun _ _ _ h => h) (Or.inl ⟨by rfl, ?_⟩) hHeld ?_ ?_
    rotate_left
    · rintro w' ⟨s0, s1, s2, s3⟩
      go_simp
      first | with_reducible rfl | (rw [if_neg (by omega)])
    rotate_left
    · simp only [Act.put, s1_, s2_, s3_]
      rfl
    refine pure_ (i := 5) (N := some 10) (v := ?_) (a' := ?_) (mkM 37 63) rfl rfl (by kernel_rfl) (fun _ _ _ h => h) (Or.inl ⟨by rfl, ?_⟩) ?_ ?_
    rotate_left
    · intro w'
      go_simp
      first | with_reducible rfl | (rw [if_neg (by omega)])
    rotate_left
    · simp only [Act.put, s1_, s2_, s3_]
      rfl
    refine pure_ (i := 6) (N := some 11) (v := ?_) (a' := ?_) (mkM 37 127) rfl rfl (by kernel_rfl) (fun _ _ _ h => h) (Or.inl ⟨by rfl, ?_⟩) ?_ ?_
    rotate_left
    · intro w'
      go_simp
      first | with_reducible rfl | (rw [if_neg (by omega)])
    rotate_left
    · simp only [Act.put, s1_, s2_, s3_]
      rfl
    refine pure_ (i := 7) (N := some 12) (v := ?_) (a' := ?_) (mkM 37 255) rfl rfl (by kernel_rfl) (fun _ _ _ h => h) (Or.inl ⟨by rfl, ?_⟩) ?_ ?_
    rotate_left
    · intro w'
      go_simp
      first | with_reducible rfl | (rw [if_neg (by omega)])
    rotate_left
    · simp only [Act.put, s1_, s2_, s3_]
      rfl
    refine pure_ (i := 8) (N := some 13) (v := ?_) (a' := ?_) (mkM 37 511) rfl rfl (by kernel_rfl) (fun _ _ _ h => h) (Or.inl ⟨by rfl, ?_⟩) ?_ ?_
    rotate_left
    · intro w'
      go_simp
      first | with_reducible rfl | (rw [if_neg (by omega)])
    rotate_left
    · simp only [Act.put, s1_, s2_, s3_]
      rfl
    refine take_ (i := 9) (N := some 14) (v := ?_) (a' := ?_) (mkM 37 1023) rfl rfl (by kernel_rfl) (fun _ _ _ h => h) (Or.inl ⟨by rfl, ?_⟩) hHeld ?_ ?_
    rotate_left
    · rintro w' ⟨s0, s1, s2, s3⟩
      go_simp
      first | with_reducible rfl | (rw [if_neg (by omega)])
    rotate_left
    · simp only [Act.put, s1_, s2_, s3_]
      rfl
    refine pure_ (i := 10) (N := some 15) (v := ?_) (a' := ?_) (mkM 37 2047) rfl rfl (by kernel_rfl) (fun _ _ _ h => h) (Or.inl ⟨by rfl, ?_⟩) ?_ ?_
    rotate_left
    · intro w'
      go_simp
      first | with_reducible rfl | (rw [if_neg (by omega)])
    rotate_left
    · simp only [Act.put, s1_, s2_, s3_]
      rfl
    refine pure_ (i := 11) (N := some 16) (v := ?_) (a' := ?_) (mkM 37 4095) rfl rfl (by kernel_rfl) (fun _ _ _ h => h) (Or.inl ⟨by rfl, ?_⟩) ?_ ?_
    rotate_left
    · intro w'
      go_simp
      first | with_reducible rfl | (rw [if_neg (by omega)])
    rotate_left
    · simp only [Act.put, s1_, s2_, s3_]
      rfl
    refine pure_ (i := 12) (N := some 17) (v := ?_) (a' := ?_) (mkM 37 8191) rfl rfl (by kernel_rfl) (fun _ _ _ h => h) (Or.inl ⟨by rfl, ?_⟩) ?_ ?_
    rotate_left
    · intro w'
      go_simp
      first | with_reducible rfl | (rw [if_neg (by omega)])
    rotate_left
    · simp only [Act.put, s1_, s2_, s3_]
      rfl
    refine pure_ (i := 13) (N := some 18) (v := ?_) (a' := ?_) (mkM 37 16383) rfl rfl (by kernel_rfl) (fun _ _ _ h => h) (Or.inl ⟨by rfl, ?_⟩) ?_ ?_
    rotate_left
    · intro w'
      go_simp
      first | with_reducible rfl | (rw [if_neg (by omega)])
    rotate_left
    · simp only [Act.put, s1_, s2_, s3_]
      rfl
    refine take_ (i := 14) (N := some 19) (v := ?_) (a' := ?_) (mkM 37 32767) rfl rfl (by kernel_rfl) (fun _ _ _ h => h) (Or.inl ⟨by rfl, ?_⟩) hHeld ?_ ?_
    rotate_left
    · rintro w' ⟨s0, s1, s2, s3⟩
      go_simp
      first | with_reducible rfl | (rw [if_neg (by omega)])
    rotate_left
    · simp only [Act.put, s1_, s2_, s3_]
      rfl
    refine pure_ (i := 15) (N := some 20) (v := ?_) (a' := ?_) (mkM 37 65535) rfl rfl (by kernel_rfl) (fun _ _ _ h => h) (Or.inl ⟨by rfl, ?_⟩) ?_ ?_
    rotate_left
    · intro w'
      go_simp
      first | with_reducible rfl | (rw [if_neg (by omega)])
    rotate_left
    · simp only [Act.put, s1_, s2_, s3_]
      rfl
    refine pure_ (i := 16) (N := some 21) (v := ?_) (a' := ?_) (mkM 37 131071) rfl rfl (by kernel_rfl) (fun _ _ _ h => h) (Or.inl ⟨by rfl, ?_⟩) ?_ ?_
    rotate_left
    · intro w'
      go_simp
      first | with_reducible rfl | (rw [if_neg (by omega)])
    rotate_left
    · simp only [Act.put, s1_, s2_, s3_]
      rfl
    refine pure_ (i := 17) (N := some 22) (v := undef) (a' := ?_) (mkM 37 262143) rfl rfl (by kernel_rfl) (fun _ _ _ h => h) (Or.inr ⟨by rfl, rfl⟩) ?_ ?_
    rotate_left
    · simp only [Act.put, s1_, s2_, s3_]
      rfl
    refine pure_ (i := 18) (N := some 23) (v := undef) (a' := ?_) (mkM 37 524287) rfl rfl (by kernel_rfl) (fun _ _ _ h => h) (Or.inr ⟨by rfl, rfl⟩) ?_ ?_
    rotate_left
    · simp only [Act.put, s1_, s2_, s3_]
      rfl
    refine pure_ (i := 19) (N := some 24) (v := undef) (a' := ?_) (mkM 37 1048575) rfl rfl (by kernel_rfl) (fun _ _ _ h => h) (Or.inr ⟨by rfl, rfl⟩) ?_ ?_
    rotate_left
    · simp only [Act.put, s1_, s2_, s3_]
      rfl
    refine pure_ (i := 20) (N := some 25) (v := ?_) (a' := ?_) (mkM 37 2097151) rfl rfl (by kernel_rfl) (fun _ _ _ h => h) (Or.inl ⟨by rfl, ?_⟩) ?_ ?_
    rotate_left
    · intro w'
      go_simp
      first | with_reducible rfl | (rw [if_neg (by omega)])
    rotate_left
    · simp only [Act.put, s1_, s2_, s3_]
      rfl
    refine pure_ (i := 21) (N := some 26) (v := ?_) (a' := ?_) (mkM 37 4194303) rfl rfl (by kernel_rfl) (fun _ _ _ h => h) (Or.inl ⟨by rfl, ?_⟩) ?_ ?_
    rotate_left
    · intro w'
      go_simp
      first | with_reducible rfl | (rw [if_neg (by omega)])
    rotate_left
    · simp only [Act.put, s1_, s2_, s3_]
      rfl
    refine pure_ (i := 22) (N := some 27) (v := ?_) (a' := ?_) (mkM 37 8388607) rfl rfl (by kernel_rfl) (fun _ _ _ h => h) (Or.inl ⟨by rfl, ?_⟩) ?_ ?_
    rotate_left
    · intro w'
      go_simp
      first | with_reducible rfl | (rw [if_neg (by omega)])
    rotate_left
    · simp only [Act.put, s1_, s2_, s3_]
      rfl
    refine pure_ (i := 23) (N := some 28) (v := ?_) (a' := ?_) (mkM 37 16777215) rfl rfl (by kernel_rfl) (fun _ _ _ h => h) (Or.inl ⟨by rfl, ?_⟩) ?_ ?_
    rotate_left
    · intro w'
      go_simp
      first | with_reducible rfl | (rw [if_neg (by omega)])
    rotate_left
    · simp only [Act.put, s1_, s2_, s3_]
      rfl
    refine pure_ (i := 25) (N := some 30) (v := ?_) (a' := ?_) (mkM 37 50331647) rfl rfl (by kernel_rfl) (fun _ _ _ h => h) (Or.inl ⟨by rfl, ?_⟩) ?_ ?_
    rotate_left
    · intro w'
      go_simp
      first | with_reducible rfl | (rw [if_neg (by omega)])
    rotate_left
    · simp only [Act.put, s1_, s2_, s3_]
      rfl
    refine pure_ (i := 26) (N := some 31) (v := ?_) (a' := ?_) (mkM 37 117440511) rfl rfl (by kernel_rfl) (fun _ _ _ h => h) (Or.inl ⟨by rfl, ?_⟩) ?_ ?_
    rotate_left
    · intro w'
      go_simp
      first | with_reducible rfl | (rw [if_neg (by omega)])
    rotate_left
    · simp only [Act.put, s1_, s2_, s3_, i64_w]
      rfl
    refine take_ (i := 24) (N := some 29) (v := ?_) (a' := ?_) (mkM 37 134217727) rfl rfl (by kernel_rfl) (fun _ _ _ h => h) (Or.inl ⟨by rfl, ?_⟩) hHeld ?_ ?_
    rotate_left
    · rintro w' ⟨s0, s1, s2, s3⟩
      go_simp
      first | with_reducible rfl | (rw [if_neg (by omega)])
    rotate_left
    · simp only [Act.put, s1_, s2_, s3_]
      rfl
    refine one_ (i := 27) (N := some 32) (mkM 37 268435455) rfl rfl (by kernel_rfl) (by decide) (fun K hK => ?_)
    refine goes_ Tryz.func18 (by kernel_rfl) rfl #[.slice x.attrs.a x.attrs.len x.attrs.cap, .int .i64 (wrap64 (d - 1))] (by rfl) rfl rfl (by simp only [List.map_toArray, List.map_cons, List.map_nil]; rfl) ?_
    with_reducible refine (A2.out _ HB.out).mono ?_
    rintro e w2 ⟨rfl, hb⟩
    refine ⟨_, rfl, ?_⟩
    replace HB := Aside0.mk (below_next HB.out hb)
    replace HX := Aside0.mk (HX.out.below hb)
    clear hb
    refine hK.out _ _ ⟨HX.out.c0, (xekind HX.out HK.out), HX.out.c3, HX.out.c6⟩ (fun hHeld => ?_)
    clear hK K
    refine norm_ (a' := ?_) ?_ ?_
    rotate_left
    · show Act.put _ (some 32) _ = _
      simp only [Act.put, s1_, s2_, s3_]
      rfl
    refine pure_ (i := 28) (N := some 33) (v := ?_) (a' := ?_) (mkM 37 536870911) rfl rfl (by kernel_rfl) (fun _ _ _ h => h) (Or.inl ⟨by rfl, ?_⟩) ?_ ?_
    rotate_left
    · intro w'
      go_simp
      first | with_reducible rfl | (rw [if_neg (by omega)])
    rotate_left
    · simp only [Act.put, s1_, s2_, s3_]
      rfl
    refine pure_ (i := 29) (N := some 34) (v := ?_) (a' := ?_) (mkM 37 1073741823) rfl rfl (by kernel_rfl) (fun _ _ _ h => h) (Or.inl ⟨by rfl, ?_⟩) ?_ ?_
    rotate_left
    · intro w'
      go_simp
      first | with_reducible rfl | (rw [if_neg (by omega)])
    rotate_left
    · simp only [Act.put, s1_, s2_, s3_]
      rfl
    refine pure_ (i := 30) (N := some 35) (v := ?_) (a' := ?_) (mkM 37 2147483647) rfl rfl (by kernel_rfl) (fun _ _ _ h => h) (Or.inl ⟨by rfl, ?_⟩) ?_ ?_
    rotate_left
    · intro w'
      go_simp
      first | with_reducible rfl | (rw [if_neg (by omega)])
    rotate_left
    · simp only [Act.put, s1_, s2_, s3_]
      rfl
    refine pure_ (i := 32) (N := some 37) (v := ?_) (a' := ?_) (mkM 37 6442450943) rfl rfl (by kernel_rfl) (fun _ _ _ h => h) (Or.inl ⟨by rfl, ?_⟩) ?_ ?_
    rotate_left
    · intro w'
      go_simp
      first | with_reducible rfl | (rw [if_neg (by omega)])
    rotate_left
    · simp only [Act.put, s1_, s2_, s3_]
      rfl
    refine take_ (i := 31) (N := some 36) (v := ?_) (a' := ?_) (mkM 37 8589934591) rfl rfl (by kernel_rfl) (fun _ _ _ h => h) (Or.inl ⟨by rfl, ?_⟩) hHeld ?_ ?_
    rotate_left
    · rintro w' ⟨s0, s1, s2, s3⟩
      go_simp
      first | with_reducible rfl | (rw [if_neg (by omega)])
    rotate_left
    · simp only [Act.put, s1_, s2_, s3_]
      rfl
    refine one_ (i := 33) (N := some 38) (mkM 37 17179869183) rfl rfl (by kernel_rfl) (by decide) (fun K hK => ?_)
    refine goes_ Tryz.func20 (by kernel_rfl) rfl #[] (by rfl) rfl rfl (by simp only [List.map_toArray, List.map_nil]) ?_
    with_reducible refine (hygref8_exemplars_at _).mono ?_
    rintro e w3 ⟨A, c, rfl, hC, hc, hb⟩
    refine ⟨_, rfl, ?_⟩
    have HT := Aside0.mk (And.intro hC hc)
    clear hC hc
    replace HB := Aside0.mk (below_next HB.out hb)
    replace HX := Aside0.mk (HX.out.below hb)
    clear hb
    refine hK.out _ _ ⟨HX.out.c0, (xekind HX.out HK.out), HX.out.c3, HX.out.c6⟩ (fun hHeld => ?_)
    clear hK K
    refine norm_ (a' := ?_) ?_ ?_
    rotate_left
    · show Act.put _ (some 38) _ = _
      simp only [Act.put, s1_, s2_, s3_]
      rfl
    refine one_ (i := 34) (N := some 39) (mkM 37 34359738367) rfl rfl (by kernel_rfl) (by decide) (fun K hK => ?_)
    refine goes_ Tryz.func19 (by kernel_rfl) rfl #[.string x.unk, .int .i64 d, .slice A tbE.length c] (by rfl) rfl rfl (by simp only [List.map_toArray, List.map_cons, List.map_nil]; rfl) ?_
    with_reducible refine (A3.out _ _ _ HT.out.1 HT.out.2).mono ?_
    rintro e w4 ⟨rfl, hb⟩
    refine ⟨_, rfl, ?_⟩
    clear HT
    replace HB := Aside0.mk (below_next HB.out hb)
    replace HX := Aside0.mk (HX.out.below hb)
    clear hb
    refine hK.out _ _ ⟨HX.out.c0, (xekind HX.out HK.out), HX.out.c3, HX.out.c6⟩ (fun hHeld => ?_)
    clear hK K
    refine norm_ (a' := ?_) ?_ ?_
    rotate_left
    · show Act.put _ (some 39) _ = _
      simp only [Act.put, s1_, s2_, s3_]
      rfl
    refine pure_ (i := 35) (N := some 40) (v := ?_) (a' := ?_) (mkM 37 68719476735) rfl rfl (by kernel_rfl) (fun _ _ _ h => h) (Or.inl ⟨by rfl, ?_⟩) ?_ ?_
    rotate_left
    · intro w'
      go_simp
      first | with_reducible rfl | (rw [if_neg (by omega)])
    rotate_left
    · simp only [Act.put, s1_, s2_, s3_]
      rfl
    refine pure_ (i := 36) (N := some 4) (v := ?_) (a' := ?_) (mkM 37 137438953471) rfl rfl (by kernel_rfl) (fun _ _ _ h => h) (Or.inl ⟨by rfl, ?_⟩) ?_ ?_
    rotate_left
    · intro w'
      go_simp
      first | with_reducible rfl | (rw [if_neg (by omega)])
    rotate_left
    · simp only [Act.put, s1_, s2_, s3_]
      rfl
    refine done_ (by kernel_rfl) ?_
    go_wp2_with fail
    go_ret
    exact ⟨rfl, HB.out⟩
theorem rmx_any (W w : World) (f : Nat) (x : Exm) (d : Int) (hW : Below W.heap.size W w) (hx : ExmOk W x) (hu : x.unk.size ≤ 100000) (hs : ∀ y ∈ kvs W x.attrs, SmK W f y) (hd1 : d < 9223372036854775808) :
    Calls Tryz.prog 9 #[.agg (exmC x).toArray, .int .i64 d] w fun e w' => e = .returned (.bool (mayE W f d x)) ∧ Below w.heap.size w w' := by
  unfold mayE
  by_cases h0 : 0 ≤ d
  · rw [decide_eq_true h0, Bool.true_and]
    by_cases hn : x.kind < 0
    · have : mnB x.kind x.n = false := by unfold mnB; rw [decide_eq_false (by omega)]; rfl
      rw [this, Bool.false_and]
      exact rmx_neg w x d h0 hn
    by_cases hb : 2 < x.kind
    · have : mnB x.kind x.n = false := by unfold mnB; rw [decide_eq_false (show ¬ x.kind ≤ 2 by omega)]; simp
      rw [this, Bool.false_and]
      exact rmx_big w x d h0 hb
    by_cases hk : x.kind = 0
    · by_cases hz : x.n = 0
      · have : mnB x.kind x.n = true := by unfold mnB; rw [hk, hz]; rfl
        rw [this, Bool.true_and]
        exact rmx_0 W w f x d h0 hk hz hW hx hu hs hd1
      · have : mnB x.kind x.n = false := by unfold mnB; rw [hk, decide_eq_false hz]; rfl
        rw [this, Bool.false_and]
        exact rmx_n w x d h0 hk hz
    · have : mnB x.kind x.n = true := by unfold mnB; rw [decide_eq_true (show 0 ≤ x.kind by omega), decide_eq_true (show x.kind ≤ 2 by omega), decide_eq_true (show 0 < x.kind by omega)]; rfl
      rw [this, Bool.true_and]
      have hc : x.kind = 1 ∨ x.kind = 2 := by omega
      rcases hc with hc | hc
      · exact rmx_1 W w f x d h0 hc hW hx hu hs hd1
      · exact rmx_2 W w f x d h0 hc hW hx hu hs hd1
  · rw [decide_eq_false h0, Bool.false_and]
    exact rmx_low w x d (by omega)
set_option maxHeartbeats 4000000 in
set_option maxRecDepth 100000 in
theorem rputnum_any (n : Int) (v : Nat) (w : World) : Calls Tryz.prog 32 #[.int .i64 n, .int .u64 (v : Int)] w fun e w' => e = .returned (.string (whenB (decide (0 < v)) (recB n 1 (st (leL 8 v))))) ∧ Below w.heap.size w w' := by
  have H := Aside0.mk (rfixed_any n v w)
  generalize recB n 1 (st (leL 8 v)) = t at *
  by_cases h : 0 < v
  · rw [decide_eq_true h]
    have h1 : ¬ (v : Int) = 0 := by omega
    have h2 : ((v : Int) == 0) = false := by rw [beq_eq_false_iff_ne]; exact h1
    clear h
    go_enter Tryz.func32, Tryz.ntmps32
    go_wp2_with (go_at_call 34; with_reducible refine H.out.mono ?_; rintro e w2 ⟨rfl, hb⟩; have HB := Aside0.mk hb; clear hb)
    go_ret
    exact ⟨rfl, HB.out⟩
  · obtain rfl : v = 0 := by omega
    go_enter Tryz.func32, Tryz.ntmps32
    go_wp2_with fail
    go_ret
    exact ⟨rfl, Below.refl _ _⟩
theorem rif1_any (b : Bool) (s : ByteArray) (w : World) : Calls Tryz.prog 33 #[.bool b, .string s] w fun e w' => e = .returned (.string (whenB b s)) ∧ Below w.heap.size w w' :=
  (hygref8_if1.calls b s (whenB b s) w (by unfold hygref8_if1.f whenB; cases b <;> rfl)).mono fun _ _ ⟨h1, h2⟩ => ⟨h1, below_of_drawn h2⟩
set_option maxHeartbeats 4000000 in
set_option maxRecDepth 100000 in
theorem rexm_bytes (W w : World) (f : Nat) (x : Exm) (hW : Below W.heap.size W w) (hx : ExmOk W x) (h1 : x.span.size ≤ 12000) (h2 : x.trace.size ≤ 12000) (h3 : x.unk.size ≤ 12000) (hs : ∀ y ∈ kvs W x.attrs, SmK W f y) (hg : ∀ y ∈ kvs W x.attrs, GdK W f y) (hw : ((kvs W x.attrs).map (kw W f)).sum ≤ 12000) (ht : 0 ≤ x.time) (hn : 0 ≤ x.n) :
    Calls Tryz.prog 12 #[.agg (exmC x).toArray] w fun e w' => e = .returned (.string (exmB x.time.toNat x.n.toNat x.kind x.span x.trace x.unk (catB (fun y => putB 7 (keyB (bytV W f) y)) (kvs W x.attrs)))) ∧ Below w.heap.size w w' := by
  have A1 := fun w2 => rputnum_any 2 x.time.toNat w2
  have A2 := fun w2 => rfixed_any 3 x.n.toNat w2
  have A6 := fun w2 => rfixed_any 6 x.n.toNat w2
  rw [Int.toNat_of_nonneg ht] at A1
  rw [Int.toNat_of_nonneg hn] at A2 A6
  have A4 := fun w2 => rputtext_any 4 x.span w2 (by omega)
  have A5 := fun w2 => rputtext_any 5 x.trace w2 (by omega)
  have A8 := Aside0.mk (fun w2 (hb : Below w.heap.size w w2) => rpk_all W f w2 x.attrs 7 (hW.trans (hb.mono hW.size)) hx.attrs hs hg hw)
  have hP := keysB_le W f (kvs W x.attrs) (slAt_ok (kvs_at hx.attrs)) hs 7
  unfold exmB
  rw [empty_app]
  unfold Sl.v at A8
  unfold putB at A4 A5
  unfold emB at A4 A5
  generalize catB (fun y => putB 7 (keyB (bytV W f) y)) (kvs W x.attrs) = s6 at *
  have e1 := whenB_le (decide (0 < x.time.toNat)) (recB 2 1 (st (leL 8 x.time.toNat)))
  have g1 := recB_le 2 1 (st (leL 8 x.time.toNat))
  have g2 := recB_le 3 1 (st (leL 8 x.n.toNat))
  have e2 := whenB_le (x.kind == 1) (recB 3 1 (st (leL 8 x.n.toNat)))
  have e3 := whenB_le (!(x.span.toList == [])) (recB 4 2 (put (x.span.size : Int) ++ x.span))
  have g3 := putB_le 4 x.span (by omega)
  have e4 := whenB_le (!(x.trace.toList == [])) (recB 5 2 (put (x.trace.size : Int) ++ x.trace))
  have g4 := putB_le 5 x.trace (by omega)
  have g5 := recB_le 6 1 (st (leL 8 x.n.toNat))
  have e5 := whenB_le (x.kind == 2) (recB 6 1 (st (leL 8 x.n.toNat)))
  unfold putB at g3 g4
  rw [st_size, leL_length] at g1 g2 g5
  generalize whenB (decide (0 < x.time.toNat)) (recB 2 1 (st (leL 8 x.time.toNat))) = s1 at *
  generalize whenB (!(x.span.toList == [])) (recB 4 2 (put (x.span.size : Int) ++ x.span)) = s3 at *
  generalize whenB (!(x.trace.toList == [])) (recB 5 2 (put (x.trace.size : Int) ++ x.trace)) = s4 at *
  generalize recB 3 1 (st (leL 8 x.n.toNat)) = t2 at *
  generalize recB 6 1 (st (leL 8 x.n.toNat)) = t5 at *
  have A3 := fun w2 => rif1_any (x.kind == 1) t2 w2
  have A7 := fun w2 => rif1_any (x.kind == 2) t5 w2
  generalize whenB (x.kind == 1) t2 = s2 at *
  generalize whenB (x.kind == 2) t5 = s5 at *
  have b1 : (s1 ++ s2).size ≤ 1000 := by rw [ByteArray.size_append]; omega
  have b2 : (s1 ++ s2 ++ s3).size ≤ 20000 := by rw [ByteArray.size_append]; omega
  have b3 : (s1 ++ s2 ++ s3 ++ s4).size ≤ 40000 := by rw [ByteArray.size_append]; omega
  have b4 : (s1 ++ s2 ++ s3 ++ s4 ++ s5).size ≤ 50000 := by rw [ByteArray.size_append]; omega
  have b5 : (s1 ++ s2 ++ s3 ++ s4 ++ s5 ++ s6).size ≤ 70000 := by rw [ByteArray.size_append]; omega
  have u1 : s1.size ≤ 20000 := by omega
  have u2 : s2.size ≤ 20000 := by omega
  have u3 : s3.size ≤ 20000 := by omega
  have u4 : s4.size ≤ 20000 := by omega
  have u5 : s5.size ≤ 20000 := by omega
  have u6 : s6.size ≤ 20000 := by omega
  have A1 := Aside0.mk A1
  have A2 := Aside0.mk A2
  have A3 := Aside0.mk A3
  have A4 := Aside0.mk A4
  have A5 := Aside0.mk A5
  have A6 := Aside0.mk A6
  have A7 := Aside0.mk A7
  clear hW hx hs hg hw ht hn h1 h2 hP e1 e2 e3 e4 e5 g1 g2 g3 g4 g5
  go_enter Tryz.func12, Tryz.ntmps12
  go_upto_region 1 with (with_reducible refine gate_dst (N := 1) rfl ?_; refine Great.wpList_boxTo rfl 25 _ rfl _ rfl w.heap.size rfl (exmC x).toArray rfl ?_)
  have HX : Aside0 (XEm (w.alloc (.cells (exmC x).toArray 25)) w.heap.size x) := ⟨⟨heap_alloc_new w _⟩⟩
  have HB : Aside0 (Below w.heap.size w (w.alloc (.cells (exmC x).toArray 25))) := ⟨(Below.refl _ _).alloc (Nat.le_refl _) _⟩
  generalize (w.alloc (.cells (exmC x).toArray 25)) = w1 at *
  generalize hg : w.heap.size = g at HX ⊢
  clear hg
  have HBd := Aside0.mk (below_drew1 HB.out)
  have HXd := Aside0.mk (show XEm w1.drew g x from ⟨HX.out.blk⟩)
  clear HB HX
  have HB := HBd
  have HX := HXd
  clear HBd HXd
  refine start_ (n := 35) (S := fun w' => w'.cell? ⟨g, 0, none⟩ = some (.slice x.attrs.a x.attrs.len x.attrs.cap) ∧ w'.cell? ⟨g, 1, none⟩ = some (.int .u64 x.time) ∧ w'.cell? ⟨g, 2, none⟩ = some (.int .i64 x.kind) ∧ w'.cell? ⟨g, 3, none⟩ = some (.int .u64 x.n) ∧ w'.cell? ⟨g, 4, none⟩ = some (.string x.span) ∧ w'.cell? ⟨g, 5, none⟩ = some (.string x.trace) ∧ w'.cell? ⟨g, 6, none⟩ = some (.string x.unk)) (ds := []) #[false, false, false, false, false, false, false, false, false, false, false, false, false, false, false, false, false, false, false, false, false, false, false, false, false, false, false, false, false, false, false, false, false, false, false] (by kernel_rfl) rfl rfl ⟨HX.out.c0, HX.out.c1, HX.out.c2, HX.out.c3, HX.out.c4, HX.out.c5, HX.out.c6⟩ (fun hHeld => ?_)
  refine pure_ (i := 0) (N := some 3) (v := ?_) (a' := ?_) (mkM 35 1) rfl rfl (by kernel_rfl) (fun _ _ _ h => h) (Or.inl ⟨by rfl, ?_⟩) ?_ ?_
  rotate_left
  · intro w'
    go_simp
    first | with_reducible rfl | (rw [if_neg (by omega)])
  rotate_left
  · simp only [Act.put, s1_, s2_, s3_]
    rfl
  refine pure_ (i := 3) (N := some 6) (v := ?_) (a' := ?_) (mkM 35 9) rfl rfl (by kernel_rfl) (fun _ _ _ h => h) (Or.inl ⟨by rfl, ?_⟩) ?_ ?_
  rotate_left
  · intro w'
    go_simp
    first | with_reducible rfl | (rw [if_neg (by omega)])
  rotate_left
  · simp only [Act.put, s1_, s2_, s3_]
    rfl
  refine pure_ (i := 6) (N := some 9) (v := ?_) (a' := ?_) (mkM 35 73) rfl rfl (by kernel_rfl) (fun _ _ _ h => h) (Or.inl ⟨by rfl, ?_⟩) ?_ ?_
  rotate_left
  · intro w'
    go_simp
    first | with_reducible rfl | (rw [if_neg (by omega)])
  rotate_left
  · simp only [Act.put, s1_, s2_, s3_]
    rfl
  refine pure_ (i := 11) (N := some 14) (v := ?_) (a' := ?_) (mkM 35 2121) rfl rfl (by kernel_rfl) (fun _ _ _ h => h) (Or.inl ⟨by rfl, ?_⟩) ?_ ?_
  rotate_left
  · intro w'
    go_simp
    first | with_reducible rfl | (rw [if_neg (by omega)])
  rotate_left
  · simp only [Act.put, s1_, s2_, s3_]
    rfl
  refine pure_ (i := 15) (N := some 18) (v := ?_) (a' := ?_) (mkM 35 34889) rfl rfl (by kernel_rfl) (fun _ _ _ h => h) (Or.inl ⟨by rfl, ?_⟩) ?_ ?_
  rotate_left
  · intro w'
    go_simp
    first | with_reducible rfl | (rw [if_neg (by omega)])
  rotate_left
  · simp only [Act.put, s1_, s2_, s3_]
    rfl
  refine pure_ (i := 19) (N := some 22) (v := ?_) (a' := ?_) (mkM 35 559177) rfl rfl (by kernel_rfl) (fun _ _ _ h => h) (Or.inl ⟨by rfl, ?_⟩) ?_ ?_
  rotate_left
  · intro w'
    go_simp
    first | with_reducible rfl | (rw [if_neg (by omega)])
  rotate_left
  · simp only [Act.put, s1_, s2_, s3_]
    rfl
  refine pure_ (i := 22) (N := some 25) (v := ?_) (a' := ?_) (mkM 35 4753481) rfl rfl (by kernel_rfl) (fun _ _ _ h => h) (Or.inl ⟨by rfl, ?_⟩) ?_ ?_
  rotate_left
  · intro w'
    go_simp
    first | with_reducible rfl | (rw [if_neg (by omega)])
  rotate_left
  · simp only [Act.put, s1_, s2_, s3_]
    rfl
  refine pure_ (i := 27) (N := some 30) (v := ?_) (a' := ?_) (mkM 35 138971209) rfl rfl (by kernel_rfl) (fun _ _ _ h => h) (Or.inl ⟨by rfl, ?_⟩) ?_ ?_
  rotate_left
  · intro w'
    go_simp
    first | with_reducible rfl | (rw [if_neg (by omega)])
  rotate_left
  · simp only [Act.put, s1_, s2_, s3_]
    rfl
  refine pure_ (i := 31) (N := some 34) (v := ?_) (a' := ?_) (mkM 35 2286454857) rfl rfl (by kernel_rfl) (fun _ _ _ h => h) (Or.inl ⟨by rfl, ?_⟩) ?_ ?_
  rotate_left
  · intro w'
    go_simp
    first | with_reducible rfl | (rw [if_neg (by omega)])
  rotate_left
  · simp only [Act.put, s1_, s2_, s3_]
    rfl
  refine take_ (i := 1) (N := some 4) (v := ?_) (a' := ?_) (mkM 35 2286454859) rfl rfl (by kernel_rfl) (fun _ _ _ h => h) (Or.inl ⟨by rfl, ?_⟩) hHeld ?_ ?_
  rotate_left
  · rintro w' ⟨s0, s1, s2, s3, s4, s5, s6⟩
    go_simp
    first | with_reducible rfl | (rw [if_neg (by omega)])
  rotate_left
  · simp only [Act.put, s1_, s2_, s3_]
    rfl
  refine take_ (i := 4) (N := some 7) (v := ?_) (a' := ?_) (mkM 35 2286454875) rfl rfl (by kernel_rfl) (fun _ _ _ h => h) (Or.inl ⟨by rfl, ?_⟩) hHeld ?_ ?_
  rotate_left
  · rintro w' ⟨s0, s1, s2, s3, s4, s5, s6⟩
    go_simp
    first | with_reducible rfl | (rw [if_neg (by omega)])
  rotate_left
  · simp only [Act.put, s1_, s2_, s3_]
    rfl
  refine pure_ (i := 5) (N := some 8) (v := ?_) (a' := ?_) (mkM 35 2286454907) rfl rfl (by kernel_rfl) (fun _ _ _ h => h) (Or.inl ⟨by rfl, ?_⟩) ?_ ?_
  rotate_left
  · intro w'
    go_simp
    first | with_reducible rfl | (rw [if_neg (by omega)])
  rotate_left
  · simp only [Act.put, s1_, s2_, s3_]
    rfl
  refine take_ (i := 7) (N := some 10) (v := ?_) (a' := ?_) (mkM 35 2286455035) rfl rfl (by kernel_rfl) (fun _ _ _ h => h) (Or.inl ⟨by rfl, ?_⟩) hHeld ?_ ?_
  rotate_left
  · rintro w' ⟨s0, s1, s2, s3, s4, s5, s6⟩
    go_simp
    first | with_reducible rfl | (rw [if_neg (by omega)])
  rotate_left
  · simp only [Act.put, s1_, s2_, s3_]
    rfl
  refine take_ (i := 12) (N := some 15) (v := ?_) (a' := ?_) (mkM 35 2286459131) rfl rfl (by kernel_rfl) (fun _ _ _ h => h) (Or.inl ⟨by rfl, ?_⟩) hHeld ?_ ?_
  rotate_left
  · rintro w' ⟨s0, s1, s2, s3, s4, s5, s6⟩
    go_simp
    first | with_reducible rfl | (rw [if_neg (by omega)])
  rotate_left
  · simp only [Act.put, s1_, s2_, s3_]
    rfl
  refine take_ (i := 16) (N := some 19) (v := ?_) (a' := ?_) (mkM 35 2286524667) rfl rfl (by kernel_rfl) (fun _ _ _ h => h) (Or.inl ⟨by rfl, ?_⟩) hHeld ?_ ?_
  rotate_left
  · rintro w' ⟨s0, s1, s2, s3, s4, s5, s6⟩
    go_simp
    first | with_reducible rfl | (rw [if_neg (by omega)])
  rotate_left
  · simp only [Act.put, s1_, s2_, s3_]
    rfl
  refine take_ (i := 20) (N := some 23) (v := ?_) (a' := ?_) (mkM 35 2287573243) rfl rfl (by kernel_rfl) (fun _ _ _ h => h) (Or.inl ⟨by rfl, ?_⟩) hHeld ?_ ?_
  rotate_left
  · rintro w' ⟨s0, s1, s2, s3, s4, s5, s6⟩
    go_simp
    first | with_reducible rfl | (rw [if_neg (by omega)])
  rotate_left
  · simp only [Act.put, s1_, s2_, s3_]
    rfl
  refine pure_ (i := 21) (N := some 24) (v := ?_) (a' := ?_) (mkM 35 2289670395) rfl rfl (by kernel_rfl) (fun _ _ _ h => h) (Or.inl ⟨by rfl, ?_⟩) ?_ ?_
  rotate_left
  · intro w'
    go_simp
    first | with_reducible rfl | (rw [if_neg (by omega)])
  rotate_left
  · simp only [Act.put, s1_, s2_, s3_]
    rfl
  refine take_ (i := 23) (N := some 26) (v := ?_) (a' := ?_) (mkM 35 2298059003) rfl rfl (by kernel_rfl) (fun _ _ _ h => h) (Or.inl ⟨by rfl, ?_⟩) hHeld ?_ ?_
  rotate_left
  · rintro w' ⟨s0, s1, s2, s3, s4, s5, s6⟩
    go_simp
    first | with_reducible rfl | (rw [if_neg (by omega)])
  rotate_left
  · simp only [Act.put, s1_, s2_, s3_]
    rfl
  refine take_ (i := 28) (N := some 31) (v := ?_) (a' := ?_) (mkM 35 2566494459) rfl rfl (by kernel_rfl) (fun _ _ _ h => h) (Or.inl ⟨by rfl, ?_⟩) hHeld ?_ ?_
  rotate_left
  · rintro w' ⟨s0, s1, s2, s3, s4, s5, s6⟩
    go_simp
    first | with_reducible rfl | (rw [if_neg (by omega)])
  rotate_left
  · simp only [Act.put, s1_, s2_, s3_]
    rfl
  refine take_ (i := 32) (N := some 35) (v := ?_) (a' := ?_) (mkM 35 6861461755) rfl rfl (by kernel_rfl) (fun _ _ _ h => h) (Or.inl ⟨by rfl, ?_⟩) hHeld ?_ ?_
  rotate_left
  · rintro w' ⟨s0, s1, s2, s3, s4, s5, s6⟩
    go_simp
    first | with_reducible rfl | (rw [if_neg (by omega)])
  rotate_left
  · simp only [Act.put, s1_, s2_, s3_]
    rfl
  refine one_ (i := 2) (N := some 5) (mkM 35 6861461759) rfl rfl (by kernel_rfl) (by decide) (fun K hK => ?_)
  refine goes_ Tryz.func32 (by kernel_rfl) rfl #[.int .i64 2, .int .u64 x.time] (by rfl) rfl rfl (by simp only [List.map_toArray, List.map_cons, List.map_nil]; rfl) ?_
  with_reducible refine (A1.out _).mono ?_
  rintro e w2 ⟨rfl, hb⟩
  refine ⟨_, rfl, ?_⟩
  replace HB := Aside0.mk (below_next HB.out hb)
  replace HX := Aside0.mk (HX.out.below hb)
  clear hb
  refine hK.out _ _ ⟨HX.out.c0, HX.out.c1, HX.out.c2, HX.out.c3, HX.out.c4, HX.out.c5, HX.out.c6⟩ (fun hHeld => ?_)
  clear hK K
  refine norm_ (a' := ?_) ?_ ?_
  rotate_left
  · show Act.put _ (some 5) _ = _
    simp only [Act.put, s1_, s2_, s3_]
    rfl
  refine one_ (i := 8) (N := some 11) (mkM 35 6861462015) rfl rfl (by kernel_rfl) (by decide) (fun K hK => ?_)
  refine goes_ Tryz.func34 (by kernel_rfl) rfl #[.int .i64 3, .int .u64 x.n] (by rfl) rfl rfl (by simp only [List.map_toArray, List.map_cons, List.map_nil]; rfl) ?_
  with_reducible refine (A2.out _).mono ?_
  rintro e w3 ⟨rfl, hb⟩
  refine ⟨_, rfl, ?_⟩
  replace HB := Aside0.mk (below_next HB.out hb)
  replace HX := Aside0.mk (HX.out.below hb)
  clear hb
  refine hK.out _ _ ⟨HX.out.c0, HX.out.c1, HX.out.c2, HX.out.c3, HX.out.c4, HX.out.c5, HX.out.c6⟩ (fun hHeld => ?_)
  clear hK K
  refine norm_ (a' := ?_) ?_ ?_
  rotate_left
  · show Act.put _ (some 11) _ = _
    simp only [Act.put, s1_, s2_, s3_]
    rfl
  refine one_ (i := 9) (N := some 12) (mkM 35 6861462527) rfl rfl (by kernel_rfl) (by decide) (fun K hK => ?_)
  refine goes_ Tryz.func33 (by kernel_rfl) rfl #[.bool (x.kind == 1), .string t2] (by rfl) rfl rfl (by simp only [List.map_toArray, List.map_cons, List.map_nil]; rfl) ?_
  with_reducible refine (A3.out _).mono ?_
  rintro e w4 ⟨rfl, hb⟩
  refine ⟨_, rfl, ?_⟩
  replace HB := Aside0.mk (below_next HB.out hb)
  replace HX := Aside0.mk (HX.out.below hb)
  clear hb
  refine hK.out _ _ ⟨HX.out.c0, HX.out.c1, HX.out.c2, HX.out.c3, HX.out.c4, HX.out.c5, HX.out.c6⟩ (fun hHeld => ?_)
  clear hK K
  refine norm_ (a' := ?_) ?_ ?_
  rotate_left
  · show Act.put _ (some 12) _ = _
    simp only [Act.put, s1_, s2_, s3_]
    rfl
  refine pure_ (i := 10) (N := some 13) (v := ?_) (a' := ?_) (mkM 35 6861463551) rfl rfl (by kernel_rfl) (fun _ _ _ h => h) (Or.inl ⟨by rfl, ?_⟩) ?_ ?_
  rotate_left
  · intro w'
    go_simp
    first | with_reducible rfl | (rw [if_neg (by omega)])
  rotate_left
  · simp only [Act.put, s1_, s2_, s3_]
    rfl
  refine one_ (i := 13) (N := some 16) (mkM 35 6861471743) rfl rfl (by kernel_rfl) (by decide) (fun K hK => ?_)
  refine goes_ Tryz.func35 (by kernel_rfl) rfl #[.int .i64 4, .string x.span] (by rfl) rfl rfl (by simp only [List.map_toArray, List.map_cons, List.map_nil]; rfl) ?_
  with_reducible refine (A4.out _).mono ?_
  rintro e w5 ⟨rfl, hb⟩
  refine ⟨_, rfl, ?_⟩
  replace HB := Aside0.mk (below_next HB.out hb)
  replace HX := Aside0.mk (HX.out.below hb)
  clear hb
  refine hK.out _ _ ⟨HX.out.c0, HX.out.c1, HX.out.c2, HX.out.c3, HX.out.c4, HX.out.c5, HX.out.c6⟩ (fun hHeld => ?_)
  clear hK K
  refine norm_ (a' := ?_) ?_ ?_
  rotate_left
  · show Act.put _ (some 16) _ = _
    simp only [Act.put, s1_, s2_, s3_]
    rfl
  refine pure_ (i := 14) (N := some 17) (v := ?_) (a' := ?_) (mkM 35 6861488127) rfl rfl (by kernel_rfl) (fun _ _ _ h => h) (Or.inl ⟨by rfl, ?_⟩) ?_ ?_
  rotate_left
  · intro w'
    go_simp
    first | with_reducible rfl | (rw [if_neg (by omega)])
  rotate_left
  · simp only [Act.put, s1_, s2_, s3_]
    rfl
  refine one_ (i := 17) (N := some 20) (mkM 35 6861619199) rfl rfl (by kernel_rfl) (by decide) (fun K hK => ?_)
  refine goes_ Tryz.func35 (by kernel_rfl) rfl #[.int .i64 5, .string x.trace] (by rfl) rfl rfl (by simp only [List.map_toArray, List.map_cons, List.map_nil]; rfl) ?_
  with_reducible refine (A5.out _).mono ?_
  rintro e w6 ⟨rfl, hb⟩
  refine ⟨_, rfl, ?_⟩
  replace HB := Aside0.mk (below_next HB.out hb)
  replace HX := Aside0.mk (HX.out.below hb)
  clear hb
  refine hK.out _ _ ⟨HX.out.c0, HX.out.c1, HX.out.c2, HX.out.c3, HX.out.c4, HX.out.c5, HX.out.c6⟩ (fun hHeld => ?_)
  clear hK K
  refine norm_ (a' := ?_) ?_ ?_
  rotate_left
  · show Act.put _ (some 20) _ = _
    simp only [Act.put, s1_, s2_, s3_]
    rfl
  refine pure_ (i := 18) (N := some 21) (v := ?_) (a' := ?_) (mkM 35 6861881343) rfl rfl (by kernel_rfl) (fun _ _ _ h => h) (Or.inl ⟨by rfl, ?_⟩) ?_ ?_
  rotate_left
  · intro w'
    go_simp
    first | with_reducible rfl | (rw [if_neg (by omega)])
  rotate_left
  · simp only [Act.put, s1_, s2_, s3_]
    rfl
  refine one_ (i := 24) (N := some 27) (mkM 35 6878658559) rfl rfl (by kernel_rfl) (by decide) (fun K hK => ?_)
  refine goes_ Tryz.func34 (by kernel_rfl) rfl #[.int .i64 6, .int .u64 x.n] (by rfl) rfl rfl (by simp only [List.map_toArray, List.map_cons, List.map_nil]; rfl) ?_
  with_reducible refine (A6.out _).mono ?_
  rintro e w7 ⟨rfl, hb⟩
  refine ⟨_, rfl, ?_⟩
  replace HB := Aside0.mk (below_next HB.out hb)
  replace HX := Aside0.mk (HX.out.below hb)
  clear hb
  refine hK.out _ _ ⟨HX.out.c0, HX.out.c1, HX.out.c2, HX.out.c3, HX.out.c4, HX.out.c5, HX.out.c6⟩ (fun hHeld => ?_)
  clear hK K
  refine norm_ (a' := ?_) ?_ ?_
  rotate_left
  · show Act.put _ (some 27) _ = _
    simp only [Act.put, s1_, s2_, s3_]
    rfl
  refine one_ (i := 25) (N := some 28) (mkM 35 6912212991) rfl rfl (by kernel_rfl) (by decide) (fun K hK => ?_)
  refine goes_ Tryz.func33 (by kernel_rfl) rfl #[.bool (x.kind == 2), .string t5] (by rfl) rfl rfl (by simp only [List.map_toArray, List.map_cons, List.map_nil]; rfl) ?_
  with_reducible refine (A7.out _).mono ?_
  rintro e w8 ⟨rfl, hb⟩
  refine ⟨_, rfl, ?_⟩
  replace HB := Aside0.mk (below_next HB.out hb)
  replace HX := Aside0.mk (HX.out.below hb)
  clear hb
  refine hK.out _ _ ⟨HX.out.c0, HX.out.c1, HX.out.c2, HX.out.c3, HX.out.c4, HX.out.c5, HX.out.c6⟩ (fun hHeld => ?_)
  clear hK K
  refine norm_ (a' := ?_) ?_ ?_
  rotate_left
  · show Act.put _ (some 28) _ = _
    simp only [Act.put, s1_, s2_, s3_]
    rfl
  refine pure_ (i := 26) (N := some 29) (v := ?_) (a' := ?_) (mkM 35 6979321855) rfl rfl (by kernel_rfl) (fun _ _ _ h => h) (Or.inl ⟨by rfl, ?_⟩) ?_ ?_
  rotate_left
  · intro w'
    go_simp
    first | with_reducible rfl | (rw [if_neg (by omega)])
  rotate_left
  · simp only [Act.put, s1_, s2_, s3_]
    rfl
  refine one_ (i := 29) (N := some 32) (mkM 35 7516192767) rfl rfl (by kernel_rfl) (by decide) (fun K hK => ?_)
  refine goes_ Tryz.func36 (by kernel_rfl) rfl #[.int .i64 7, .slice x.attrs.a x.attrs.len x.attrs.cap] (by rfl) rfl rfl (by simp only [List.map_toArray, List.map_cons, List.map_nil]; rfl) ?_
  with_reducible refine (A8.out _ HB.out).mono ?_
  rintro e w9 ⟨rfl, hb⟩
  refine ⟨_, rfl, ?_⟩
  replace HB := Aside0.mk (below_next HB.out hb)
  replace HX := Aside0.mk (HX.out.below hb)
  clear hb
  refine hK.out _ _ ⟨HX.out.c0, HX.out.c1, HX.out.c2, HX.out.c3, HX.out.c4, HX.out.c5, HX.out.c6⟩ (fun hHeld => ?_)
  clear hK K
  refine norm_ (a' := ?_) ?_ ?_
  rotate_left
  · show Act.put _ (some 32) _ = _
    simp only [Act.put, s1_, s2_, s3_]
    rfl
  refine pure_ (i := 30) (N := some 33) (v := ?_) (a' := ?_) (mkM 35 8589934591) rfl rfl (by kernel_rfl) (fun _ _ _ h => h) (Or.inl ⟨by rfl, ?_⟩) ?_ ?_
  rotate_left
  · intro w'
    go_simp
    first | with_reducible rfl | (rw [if_neg (by omega)])
  rotate_left
  · simp only [Act.put, s1_, s2_, s3_]
    rfl
  refine pure_ (i := 33) (N := some 36) (v := ?_) (a' := ?_) (mkM 35 17179869183) rfl rfl (by kernel_rfl) (fun _ _ _ h => h) (Or.inl ⟨by rfl, ?_⟩) ?_ ?_
  rotate_left
  · intro w'
    go_simp
    first | with_reducible rfl | (rw [if_neg (by omega)])
  rotate_left
  · simp only [Act.put, s1_, s2_, s3_]
    rfl
  refine pure_ (i := 34) (N := some 2) (v := ?_) (a' := ?_) (mkM 35 34359738367) rfl rfl (by kernel_rfl) (fun _ _ _ h => h) (Or.inl ⟨by rfl, ?_⟩) ?_ ?_
  rotate_left
  · intro w'
    go_simp
    first | with_reducible rfl | (rw [if_neg (by omega)])
  rotate_left
  · simp only [Act.put, s1_, s2_, s3_]
    rfl
  refine done_ (by kernel_rfl) ?_
  go_wp2_with fail
  go_ret
  exact ⟨rfl, HB.out⟩
end Go.Proofs.YtnghlkbmfhkmoaaGreatDoor
