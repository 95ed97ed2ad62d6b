import Derived.Test.YtnghlkbmfhkmoaaGreatDoorMophrpqnn
import Derived.Test.YtnghlkbmfhkmoaaGreatDoorMetdhhfhb
import Derived.Test.YtnghlkbmfhkmoaaGreatDoorMuoncifmu
namespace Go.Proofs.YtnghlkbmfhkmoaaGreatDoor
open Go.RowKit Go.Proofs.YtnghlkbmfhkmoaaGreatDoorW.PrintWords Go.Proofs.YtnghlkbmfhkmoaaGreatDoorW.PrintLast Go.Proofs.YtnghlkbmfhkmoaaGreatDoorW.PrintMore Hy
/-! ### may it be -/
def PMV (W : World) (f : Nat) : Prop := ∀ (w : World) (x : Vl) (d : Int), Below W.heap.size W w → VlOk W x → SmV W f x → -9223372036854775808 ≤ d → d < 9223372036854775808 →
  Calls Tryz.prog 72 #[.agg (vlC x).toArray, .int .i64 d] w fun e w' => e = .returned (.bool (mayV W f d x)) ∧ Below w.heap.size w w'
def PMK (W : World) (f : Nat) : Prop := ∀ (w : World) (y : Kv) (d : Int), Below W.heap.size W w → KvOk W y → SmK W f y → -9223372036854775808 ≤ d → d < 9223372036854775808 →
  Calls Tryz.prog 48 #[.agg (kvC y).toArray, .int .i64 d] w fun e w' => e = .returned (.bool (mayK (mayV W f) d y)) ∧ Below w.heap.size w w'
def PMKs (W : World) (f : Nat) : Prop := ∀ (w : World) (s : Sl) (d : Int), Below W.heap.size W w → Rd Tryz.prog W 22 [s.v] → (∀ y ∈ kvs W s, SmK W f y) → -9223372036854775808 ≤ d → d < 9223372036854775808 →
  Calls Tryz.prog 29 #[s.v, .int .i64 d] w fun e w' => e = .returned (.bool ((kvs W s).all (mayK (mayV W f) d))) ∧ Below w.heap.size w w'
set_option maxHeartbeats 4000000 in
set_option maxRecDepth 100000 in
theorem pmk_any (W : World) (f : Nat) (HV : PMV W f) : PMK W f := by
  intro w y d hW hy hs hd hd1
  unfold mayK
  by_cases h0 : 0 ≤ d
  · have A1 := Aside0.mk (fun w2 => (valid_any y.key w2 (by have := hs.key; omega)).mono (R' := fun e w' => e = .returned (.bool (vld (bs y.key))) ∧ Below w2.heap.size w2 w') (by rintro e w' ⟨h1, ⟨nd, rfl⟩⟩; exact ⟨h1, pw_below_drewN (Below.refl _ _) nd⟩))
    have A2 := Aside0.mk (fun w2 => rest_K w2 y.unk d (by have := hs.unk; omega) h0 hd1)
    have A3 := Aside0.mk (fun w2 (hb : Below w.heap.size w w2) => HV w2 y.v (d - 1) (hW.trans (hb.mono hW.size)) hy.v hs.v (by omega) (by omega))
    have A4 := Aside0.mk (fun w2 => samez_any w2 y.v)
    have w1 : wrap64 (d - 1) = d - 1 := by unfold wrap64; omega
    rw [decide_eq_true h0]
    unfold zV vlC Sl.v at A4
    unfold vlC Sl.v at A3
    generalize vld (bs y.key) = q1 at *
    generalize restB tbK d y.unk = q2 at *
    generalize mayV W f (d - 1) y.v = q3 at *
    generalize zeroB y.v = q4 at *
    obtain ⟨h, eh⟩ : ∃ q, y.has = q := ⟨_, rfl⟩
    rw [eh]
    have EH := Aside0.mk eh
    clear eh HV hW hy hs hd hd1
    cases q1 <;> cases q2 <;> cases h
    all_goals
      go_enter Tryz.func48, Tryz.ntmps48
      go_upto_region 1 with (with_reducible refine gate_dst (N := 2) rfl ?_; refine Great.wpList_boxTo rfl 59 _ rfl _ rfl w.heap.size rfl (kvC y).toArray rfl ?_)
      have HX : Aside0 (XK (w.alloc (.cells (kvC y).toArray 59)) w.heap.size y) := ⟨⟨heap_alloc_new w _⟩⟩
      have HB : Aside0 (Below w.heap.size w (w.alloc (.cells (kvC y).toArray 59))) := ⟨(Below.refl _ _).alloc (Nat.le_refl _) _⟩
      generalize (w.alloc (.cells (kvC y).toArray 59)) = w1 at *
      generalize hg : w.heap.size = g at HX ⊢
      clear hg
      have a0 := HX.out.c0
      have a1 := HX.out.c1
      have a2 := HX.out.c2
      have a3 := HX.out.c3
      have a4 := HX.out.c4
      have a5 := HX.out.c5
      have a6 := HX.out.c6
      have a7 := HX.out.c7
      have a8 := HX.out.c8
      have a9 := HX.out.c9
      have a10 := HX.out.c10
      rw [EH.out] at a1
      have z := Tryz.sizeOf57
      go_wp2_with (first
        | (go_at_call 70; with_reducible refine (A1.out _).mono ?_; rintro e w2 ⟨rfl, hb2⟩; have n0_ := Aside0.mk (below_next HB.out hb2); have n1_ := Aside0.mk (HX.out.below hb2); clear HB HX hb2 a0 a1 a2 a3 a4 a5 a6 a7 a8 a9 a10; have HB := n0_; have HX := n1_; clear n0_ n1_; have a0 := HX.out.c0; have a1 := HX.out.c1; have a2 := HX.out.c2; have a3 := HX.out.c3; have a4 := HX.out.c4; have a5 := HX.out.c5; have a6 := HX.out.c6; have a7 := HX.out.c7; have a8 := HX.out.c8; have a9 := HX.out.c9; have a10 := HX.out.c10; rw [EH.out] at a1)
        | (go_at_call 30; with_reducible refine (A2.out _).mono ?_; rintro e w2 ⟨rfl, hb2⟩; have n0_ := Aside0.mk (below_next HB.out hb2); have n1_ := Aside0.mk (HX.out.below hb2); clear HB HX hb2 a0 a1 a2 a3 a4 a5 a6 a7 a8 a9 a10; have HB := n0_; have HX := n1_; clear n0_ n1_; have a0 := HX.out.c0; have a1 := HX.out.c1; have a2 := HX.out.c2; have a3 := HX.out.c3; have a4 := HX.out.c4; have a5 := HX.out.c5; have a6 := HX.out.c6; have a7 := HX.out.c7; have a8 := HX.out.c8; have a9 := HX.out.c9; have a10 := HX.out.c10; rw [EH.out] at a1)
        | (go_at_call 72; with_reducible refine (A3.out _ HB.out).mono ?_; rintro e w2 ⟨rfl, hb2⟩; have n0_ := Aside0.mk (below_next HB.out hb2); have n1_ := Aside0.mk (HX.out.below hb2); clear HB HX hb2 a0 a1 a2 a3 a4 a5 a6 a7 a8 a9 a10; have HB := n0_; have HX := n1_; clear n0_ n1_; have a0 := HX.out.c0; have a1 := HX.out.c1; have a2 := HX.out.c2; have a3 := HX.out.c3; have a4 := HX.out.c4; have a5 := HX.out.c5; have a6 := HX.out.c6; have a7 := HX.out.c7; have a8 := HX.out.c8; have a9 := HX.out.c9; have a10 := HX.out.c10; rw [EH.out] at a1)
        | (go_at_call 62; with_reducible refine (A4.out _).mono ?_; rintro e w2 ⟨rfl, hb2⟩; have n0_ := Aside0.mk (below_next HB.out hb2); have n1_ := Aside0.mk (HX.out.below hb2); clear HB HX hb2 a0 a1 a2 a3 a4 a5 a6 a7 a8 a9 a10; have HB := n0_; have HX := n1_; clear n0_ n1_; have a0 := HX.out.c0; have a1 := HX.out.c1; have a2 := HX.out.c2; have a3 := HX.out.c3; have a4 := HX.out.c4; have a5 := HX.out.c5; have a6 := HX.out.c6; have a7 := HX.out.c7; have a8 := HX.out.c8; have a9 := HX.out.c9; have a10 := HX.out.c10; rw [EH.out] at a1))
      go_ret
      exact ⟨rfl, HB.out⟩
  · rw [decide_eq_false h0]
    have h1 : d < 0 := by omega
    have EH := Aside0.mk (rfl : y.has = y.has)
    clear HV hW hy hs hd hd1 h0
    go_enter Tryz.func48, Tryz.ntmps48
    go_upto_region 1 with (with_reducible refine gate_dst (N := 2) rfl ?_; refine Great.wpList_boxTo rfl 59 _ rfl _ rfl w.heap.size rfl (kvC y).toArray rfl ?_)
    have HX : Aside0 (XK (w.alloc (.cells (kvC y).toArray 59)) w.heap.size y) := ⟨⟨heap_alloc_new w _⟩⟩
    have HB : Aside0 (Below w.heap.size w (w.alloc (.cells (kvC y).toArray 59))) := ⟨(Below.refl _ _).alloc (Nat.le_refl _) _⟩
    generalize (w.alloc (.cells (kvC y).toArray 59)) = w1 at *
    generalize hg : w.heap.size = g at HX ⊢
    clear hg
    have a0 := HX.out.c0
    have a1 := HX.out.c1
    have a2 := HX.out.c2
    have a3 := HX.out.c3
    have a4 := HX.out.c4
    have a5 := HX.out.c5
    have a6 := HX.out.c6
    have a7 := HX.out.c7
    have a8 := HX.out.c8
    have a9 := HX.out.c9
    have a10 := HX.out.c10
    have z := Tryz.sizeOf57
    go_wp2_with fail
    go_ret
    exact ⟨rfl, HB.out⟩
set_option maxHeartbeats 4000000 in
set_option maxRecDepth 100000 in
theorem pmks_any (W : World) (f : Nat) (HK : PMK W f) : PMKs W f := by
  intro w s d hW hs hf hd hd1
  have hl := kvs_at hs
  generalize kvs W s = l at *
  obtain ⟨sa, sn, sc⟩ := s
  obtain rfl : sn = l.length := hl.1
  have hlm : l.length ≤ 9223372036854775807 := by have h := hl.2.1; have h2 := hl.2.2.1; unfold maxLen at h2; simp only at h h2; omega
  have HL := Aside0.mk hl
  have HW := Aside0.mk hW
  have HF := Aside0.mk hf
  have HKK := Aside0.mk HK
  have HD := Aside0.mk (And.intro hd hd1)
  have HB := Aside0.mk (Below.refl w.heap.size w)
  unfold Sl.v
  clear hl hW hf HK hs hd hd1
  go_enter Tryz.func29, Tryz.ntmps29
  go_wp2_with fail
  go_loopw [9] (fun v9 w' => ∃ i : Nat, v9 = .int .i64 (i : Int) ∧ i ≤ l.length ∧ Aside0 ((l.take i).all (mayK (mayV W f) d) = true) ∧ Aside0 (Below w.heap.size w w')) (fun v9 _ => l.length - (intOf v9).toNat)
  case atStart => exact ⟨0, rfl, Nat.zero_le _, ⟨rfl⟩, HB⟩
  case round =>
    clear HB
    obtain ⟨i, rfl, hi, HA, HB⟩ := hrel
    by_cases hlt : i < l.length
    · obtain ⟨ad, rfl, hel⟩ := HL.out.2.2.2 (by omega)
      obtain ⟨he1, he2⟩ := hel i hlt
      have hfi := HF.out l[i] (List.getElem_mem hlt)
      have HN := Aside0.mk (fun hp : mayK (mayV W f) d l[i] = true => all_next hlt HA.out hp)
      have HM := Aside0.mk (fun hp : mayK (mayV W f) d l[i] = false => all_none (p := mayK (mayV W f) d) hlt hp)
      generalize l[i] = y at *
      have hWr : Below W.heap.size W wr := HW.out.trans (HB.out.mono HW.out.size)
      have HPX := Aside0.mk (cells_below hWr (kv_cells he1))
      have HKY := Aside0.mk (fun w2 (hb : Below wr.heap.size wr w2) => HKK.out w2 y d (hWr.trans (hb.mono hWr.size)) he2 hfi HD.out.1 HD.out.2)
      generalize mayK (mayV W f) d y = q at *
      have HBr := HB
      clear HA HB he1 he2 hel hfi hWr
      have c1 : (i : Int) < (l.length : Int) := by omega
      have c2 : (0 : Int) ≤ (i : Int) := by omega
      go_upto_region 4 with (first
        | ((with_reducible refine gate_dst (N := 12) rfl ?_); refine wpList_load_at rfl 59 _ rfl (ad.add (i * 11)) rfl (kvC y) HPX.out Tryz.underlying59 rfl (by kernel_rfl) ?_)
        | ((with_reducible refine gate_dst (N := 6) rfl ?_); refine wpList_allocZ rfl 59 rfl zcK zeroK (by kernel_rfl) rfl ?_)
        | (refine wpList_store_row rfl 59 _ _ rfl wr.heap.size (kvC y).toArray rfl rfl 59 zcK (heap_alloc_new wr _) (by kernel_rfl) zcK_sz (kvC_all _) ?_))
      have hB1 : Below wr.heap.size wr ((wr.alloc (.cells zcK 59)).setRow wr.heap.size (kvC y).toArray) := below_copy (Below.refl _ _) _ _
      have H1 := Aside0.mk (show XK ((wr.alloc (.cells zcK 59)).setRow wr.heap.size (kvC y).toArray) wr.heap.size y from ⟨copy_at _ _ _⟩)
      generalize (wr.alloc (.cells zcK 59)).setRow wr.heap.size (kvC y).toArray = w2 at *
      generalize hp1 : wr.heap.size = p1 at H1 ⊢
      clear hp1
      have HB := Aside0.mk hB1
      clear hB1 HPX
      cases q
      · go_wp2_with (first
          | (refine wpList_load_row rfl 59 _ rfl p1 rfl 59 (kvC y).toArray (0, 0) _ H1.out.blk Tryz.underlying59 rfl (by kernel_rfl) ?_)
          | (go_at_call 48; with_reducible refine (HKY.out _ HB.out).mono ?_; rintro e w4 ⟨rfl, hb⟩; have HBn := Aside0.mk (below_next HB.out hb); clear HB hb H1; have HB := HBn; clear HBn))
        go_ret
        exact ⟨by rw [HM.out (by trivial)]; rfl, below_next HBr.out HB.out⟩
      · go_wp2_with (first
          | (refine wpList_load_row rfl 59 _ rfl p1 rfl 59 (kvC y).toArray (0, 0) _ H1.out.blk Tryz.underlying59 rfl (by kernel_rfl) ?_)
          | (go_at_call 48; with_reducible refine (HKY.out _ HB.out).mono ?_; rintro e w4 ⟨rfl, hb⟩; have HBn := Aside0.mk (below_next HB.out hb); clear HB hb H1; have HB := HBn; clear HBn))
        go_roundw
        case rel => exact ⟨i + 1, by go_num, by omega, ⟨HN.out (by trivial)⟩, ⟨below_next HBr.out HB.out⟩⟩
        case measure => simp [intOf]; omega
    · have hr : l.all (mayK (mayV W f) d) = true := by have h := HA.out; rw [List.take_of_length_le (by omega)] at h; exact h
      have HR := Aside0.mk hr
      clear hr
      go_wp2_with fail
      go_ret
      exact ⟨by rw [HR.out]; rfl, HB.out⟩
set_option maxHeartbeats 4000000 in
set_option maxRecDepth 100000 in
theorem pmv_low (w : World) (x : Vl) (d : Int) (h0 : d < 0) : Calls Tryz.prog 72 #[.agg (vlC x).toArray, .int .i64 d] w fun e w' => e = .returned (.bool false) ∧ Below w.heap.size w w' := by
  go_enter Tryz.func72, Tryz.ntmps72
  go_upto_region 1 with (with_reducible refine gate_dst (N := 2) rfl ?_; refine Great.wpList_boxTo rfl 57 _ rfl _ rfl w.heap.size rfl (vlC x).toArray rfl ?_)
  have HX : Aside0 (XVl (w.alloc (.cells (vlC x).toArray 57)) w.heap.size x) := ⟨⟨heap_alloc_new w _⟩⟩
  have HB : Aside0 (Below w.heap.size w (w.alloc (.cells (vlC x).toArray 57))) := ⟨(Below.refl _ _).alloc (Nat.le_refl _) _⟩
  generalize (w.alloc (.cells (vlC x).toArray 57)) = w1 at *
  generalize hg : w.heap.size = g at HX ⊢
  clear hg
  have x0 := HX.out.c0
  have x1 := HX.out.c1
  have x2 := HX.out.c2
  have x3 := HX.out.c3
  have x4 := HX.out.c4
  have x5 := HX.out.c5
  have x6 := HX.out.c6
  have x7 := HX.out.c7
  go_wp2_with fail
  go_ret
  exact ⟨rfl, HB.out⟩
set_option maxHeartbeats 4000000 in
set_option maxRecDepth 100000 in
theorem pmv_2 (w : World) (x : Vl) (d : Int) (h0 : 0 ≤ d) (q1 q2 : Bool) (hq : (q1 && q2) = false) (hA1 : ∀ w2, Calls Tryz.prog 90 #[.agg (vlC x).toArray] w2 fun e w' => e = .returned (.bool q1) ∧ Below w2.heap.size w2 w')
    (hA2 : ∀ w2, Calls Tryz.prog 30 #[.string x.unk, .int .i64 d, .func (.func 91) #[] #[]] w2 fun e w' => e = .returned (.bool q2) ∧ Below w2.heap.size w2 w') :
    Calls Tryz.prog 72 #[.agg (vlC x).toArray, .int .i64 d] w fun e w' => e = .returned (.bool false) ∧ Below w.heap.size w w' := by
  unfold vlC Sl.v at hA1
  have A1 := Aside0.mk hA1
  have A2 := Aside0.mk hA2
  clear hA1 hA2
  cases q1 <;> cases q2 <;> first | (exact absurd hq (by decide)) | skip
  all_goals
    clear hq
    go_enter Tryz.func72, Tryz.ntmps72
    go_upto_region 1 with (with_reducible refine gate_dst (N := 2) rfl ?_; refine Great.wpList_boxTo rfl 57 _ rfl _ rfl w.heap.size rfl (vlC x).toArray rfl ?_)
    have HX : Aside0 (XVl (w.alloc (.cells (vlC x).toArray 57)) w.heap.size x) := ⟨⟨heap_alloc_new w _⟩⟩
    have HB : Aside0 (Below w.heap.size w (w.alloc (.cells (vlC x).toArray 57))) := ⟨(Below.refl _ _).alloc (Nat.le_refl _) _⟩
    generalize (w.alloc (.cells (vlC x).toArray 57)) = w1 at *
    generalize hg : w.heap.size = g at HX ⊢
    clear hg
    have x0 := HX.out.c0
    have x1 := HX.out.c1
    have x2 := HX.out.c2
    have x3 := HX.out.c3
    have x4 := HX.out.c4
    have x5 := HX.out.c5
    have x6 := HX.out.c6
    have x7 := HX.out.c7
    go_wp2_with (first
      | (go_at_call 90; with_reducible refine (A1.out _).mono ?_; rintro e w2 ⟨rfl, hb2⟩; have n0_ := Aside0.mk (below_next HB.out hb2); have n1_ := Aside0.mk (HX.out.below hb2); clear HB HX hb2 x0 x1 x2 x3 x4 x5 x6 x7; have HB := n0_; have HX := n1_; clear n0_ n1_; have x0 := HX.out.c0; have x1 := HX.out.c1; have x2 := HX.out.c2; have x3 := HX.out.c3; have x4 := HX.out.c4; have x5 := HX.out.c5; have x6 := HX.out.c6; have x7 := HX.out.c7)
      | (go_at_call 30; with_reducible refine (A2.out _).mono ?_; rintro e w2 ⟨rfl, hb2⟩; have n0_ := Aside0.mk (below_next HB.out hb2); have n1_ := Aside0.mk (HX.out.below hb2); clear HB HX hb2 x0 x1 x2 x3 x4 x5 x6 x7; have HB := n0_; have HX := n1_; clear n0_ n1_; have x0 := HX.out.c0; have x1 := HX.out.c1; have x2 := HX.out.c2; have x3 := HX.out.c3; have x4 := HX.out.c4; have x5 := HX.out.c5; have x6 := HX.out.c6; have x7 := HX.out.c7))
    go_ret
    exact ⟨rfl, HB.out⟩
set_option maxHeartbeats 4000000 in
set_option maxRecDepth 100000 in
theorem pmv_other (w : World) (x : Vl) (d : Int) (h0 : 0 ≤ d) (k5 : ¬ x.kind = 5) (k6 : ¬ x.kind = 6) (hA1 : ∀ w2, Calls Tryz.prog 90 #[.agg (vlC x).toArray] w2 fun e w' => e = .returned (.bool true) ∧ Below w2.heap.size w2 w')
    (hA2 : ∀ w2, Calls Tryz.prog 30 #[.string x.unk, .int .i64 d, .func (.func 91) #[] #[]] w2 fun e w' => e = .returned (.bool true) ∧ Below w2.heap.size w2 w') :
    Calls Tryz.prog 72 #[.agg (vlC x).toArray, .int .i64 d] w fun e w' => e = .returned (.bool true) ∧ Below w.heap.size w w' := by
  unfold vlC Sl.v at hA1
  have A1 := Aside0.mk hA1
  have A2 := Aside0.mk hA2
  clear hA1 hA2
  have e5 : (x.kind != 5) = true := bne_iff_ne.2 k5
  have e6 : (x.kind != 6) = true := bne_iff_ne.2 k6
  go_enter Tryz.func72, Tryz.ntmps72
  go_upto_region 1 with (with_reducible refine gate_dst (N := 2) rfl ?_; refine Great.wpList_boxTo rfl 57 _ rfl _ rfl w.heap.size rfl (vlC x).toArray rfl ?_)
  have HX : Aside0 (XVl (w.alloc (.cells (vlC x).toArray 57)) w.heap.size x) := ⟨⟨heap_alloc_new w _⟩⟩
  have HB : Aside0 (Below w.heap.size w (w.alloc (.cells (vlC x).toArray 57))) := ⟨(Below.refl _ _).alloc (Nat.le_refl _) _⟩
  generalize (w.alloc (.cells (vlC x).toArray 57)) = w1 at *
  generalize hg : w.heap.size = g at HX ⊢
  clear hg
  have x0 := HX.out.c0
  have x1 := HX.out.c1
  have x2 := HX.out.c2
  have x3 := HX.out.c3
  have x4 := HX.out.c4
  have x5 := HX.out.c5
  have x6 := HX.out.c6
  have x7 := HX.out.c7
  go_wp2_with (first
    | (go_at_call 90; with_reducible refine (A1.out _).mono ?_; rintro e w2 ⟨rfl, hb2⟩; have n0_ := Aside0.mk (below_next HB.out hb2); have n1_ := Aside0.mk (HX.out.below hb2); clear HB HX hb2 x0 x1 x2 x3 x4 x5 x6 x7; have HB := n0_; have HX := n1_; clear n0_ n1_; have x0 := HX.out.c0; have x1 := HX.out.c1; have x2 := HX.out.c2; have x3 := HX.out.c3; have x4 := HX.out.c4; have x5 := HX.out.c5; have x6 := HX.out.c6; have x7 := HX.out.c7)
    | (go_at_call 30; with_reducible refine (A2.out _).mono ?_; rintro e w2 ⟨rfl, hb2⟩; have n0_ := Aside0.mk (below_next HB.out hb2); have n1_ := Aside0.mk (HX.out.below hb2); clear HB HX hb2 x0 x1 x2 x3 x4 x5 x6 x7; have HB := n0_; have HX := n1_; clear n0_ n1_; have x0 := HX.out.c0; have x1 := HX.out.c1; have x2 := HX.out.c2; have x3 := HX.out.c3; have x4 := HX.out.c4; have x5 := HX.out.c5; have x6 := HX.out.c6; have x7 := HX.out.c7))
  go_ret
  exact ⟨rfl, HB.out⟩
set_option maxHeartbeats 4000000 in
set_option maxRecDepth 100000 in
theorem pmv_zero5 (w : World) (x : Vl) (hk : x.kind = 5) (d : Int) (h0 : 0 ≤ d) (h1 : d < 1) (hA1 : ∀ w2, Calls Tryz.prog 90 #[.agg (vlC x).toArray] w2 fun e w' => e = .returned (.bool true) ∧ Below w2.heap.size w2 w')
    (hA2 : ∀ w2, Calls Tryz.prog 30 #[.string x.unk, .int .i64 d, .func (.func 91) #[] #[]] w2 fun e w' => e = .returned (.bool true) ∧ Below w2.heap.size w2 w') :
    Calls Tryz.prog 72 #[.agg (vlC x).toArray, .int .i64 d] w fun e w' => e = .returned (.bool false) ∧ Below w.heap.size w w' := by
  unfold vlC Sl.v at hA1
  have A1 := Aside0.mk hA1
  have A2 := Aside0.mk hA2
  clear hA1 hA2
  have e5 : (x.kind != 5) = false := by rw [hk]; rfl
  clear hk
  go_enter Tryz.func72, Tryz.ntmps72
  go_upto_region 1 with (with_reducible refine gate_dst (N := 2) rfl ?_; refine Great.wpList_boxTo rfl 57 _ rfl _ rfl w.heap.size rfl (vlC x).toArray rfl ?_)
  have HX : Aside0 (XVl (w.alloc (.cells (vlC x).toArray 57)) w.heap.size x) := ⟨⟨heap_alloc_new w _⟩⟩
  have HB : Aside0 (Below w.heap.size w (w.alloc (.cells (vlC x).toArray 57))) := ⟨(Below.refl _ _).alloc (Nat.le_refl _) _⟩
  generalize (w.alloc (.cells (vlC x).toArray 57)) = w1 at *
  generalize hg : w.heap.size = g at HX ⊢
  clear hg
  have x0 := HX.out.c0
  have x1 := HX.out.c1
  have x2 := HX.out.c2
  have x3 := HX.out.c3
  have x4 := HX.out.c4
  have x5 := HX.out.c5
  have x6 := HX.out.c6
  have x7 := HX.out.c7
  go_wp2_with (first
    | (go_at_call 90; with_reducible refine (A1.out _).mono ?_; rintro e w2 ⟨rfl, hb2⟩; have n0_ := Aside0.mk (below_next HB.out hb2); have n1_ := Aside0.mk (HX.out.below hb2); clear HB HX hb2 x0 x1 x2 x3 x4 x5 x6 x7; have HB := n0_; have HX := n1_; clear n0_ n1_; have x0 := HX.out.c0; have x1 := HX.out.c1; have x2 := HX.out.c2; have x3 := HX.out.c3; have x4 := HX.out.c4; have x5 := HX.out.c5; have x6 := HX.out.c6; have x7 := HX.out.c7)
    | (go_at_call 30; with_reducible refine (A2.out _).mono ?_; rintro e w2 ⟨rfl, hb2⟩; have n0_ := Aside0.mk (below_next HB.out hb2); have n1_ := Aside0.mk (HX.out.below hb2); clear HB HX hb2 x0 x1 x2 x3 x4 x5 x6 x7; have HB := n0_; have HX := n1_; clear n0_ n1_; have x0 := HX.out.c0; have x1 := HX.out.c1; have x2 := HX.out.c2; have x3 := HX.out.c3; have x4 := HX.out.c4; have x5 := HX.out.c5; have x6 := HX.out.c6; have x7 := HX.out.c7))
  go_ret
  exact ⟨rfl, HB.out⟩
set_option maxHeartbeats 4000000 in
set_option maxRecDepth 100000 in
theorem pmv_bad5 (w : World) (x : Vl) (hk : x.kind = 5) (d : Int) (h0 : 1 ≤ d) (hd1 : d < 9223372036854775808) (hA1 : ∀ w2, Calls Tryz.prog 90 #[.agg (vlC x).toArray] w2 fun e w' => e = .returned (.bool true) ∧ Below w2.heap.size w2 w')
    (hA2 : ∀ w2, Calls Tryz.prog 30 #[.string x.unk, .int .i64 d, .func (.func 91) #[] #[]] w2 fun e w' => e = .returned (.bool true) ∧ Below w2.heap.size w2 w')
    (hA3 : ∀ w2, Calls Tryz.prog 30 #[.string x.inner, .int .i64 (d - 1), .func (.func 92) #[] #[]] w2 fun e w' => e = .returned (.bool false) ∧ Below w2.heap.size w2 w') :
    Calls Tryz.prog 72 #[.agg (vlC x).toArray, .int .i64 d] w fun e w' => e = .returned (.bool false) ∧ Below w.heap.size w w' := by
  unfold vlC Sl.v at hA1
  have A1 := Aside0.mk hA1
  have A2 := Aside0.mk hA2
  clear hA1 hA2
  have e5 : (x.kind != 5) = false := by rw [hk]; rfl
  clear hk
  have A3 := Aside0.mk hA3
  clear hA3
  have w1 : wrap64 (d - 1) = d - 1 := by unfold wrap64; omega
  go_enter Tryz.func72, Tryz.ntmps72
  go_upto_region 1 with (with_reducible refine gate_dst (N := 2) rfl ?_; refine Great.wpList_boxTo rfl 57 _ rfl _ rfl w.heap.size rfl (vlC x).toArray rfl ?_)
  have HX : Aside0 (XVl (w.alloc (.cells (vlC x).toArray 57)) w.heap.size x) := ⟨⟨heap_alloc_new w _⟩⟩
  have HB : Aside0 (Below w.heap.size w (w.alloc (.cells (vlC x).toArray 57))) := ⟨(Below.refl _ _).alloc (Nat.le_refl _) _⟩
  generalize (w.alloc (.cells (vlC x).toArray 57)) = w1 at *
  generalize hg : w.heap.size = g at HX ⊢
  clear hg
  have x0 := HX.out.c0
  have x1 := HX.out.c1
  have x2 := HX.out.c2
  have x3 := HX.out.c3
  have x4 := HX.out.c4
  have x5 := HX.out.c5
  have x6 := HX.out.c6
  have x7 := HX.out.c7
  go_wp2_with (first
    | (go_at_call 90; with_reducible refine (A1.out _).mono ?_; rintro e w2 ⟨rfl, hb2⟩; have n0_ := Aside0.mk (below_next HB.out hb2); have n1_ := Aside0.mk (HX.out.below hb2); clear HB HX hb2 x0 x1 x2 x3 x4 x5 x6 x7; have HB := n0_; have HX := n1_; clear n0_ n1_; have x0 := HX.out.c0; have x1 := HX.out.c1; have x2 := HX.out.c2; have x3 := HX.out.c3; have x4 := HX.out.c4; have x5 := HX.out.c5; have x6 := HX.out.c6; have x7 := HX.out.c7)
    | (go_at_call 30; with_reducible refine (A2.out _).mono ?_; rintro e w2 ⟨rfl, hb2⟩; have n0_ := Aside0.mk (below_next HB.out hb2); have n1_ := Aside0.mk (HX.out.below hb2); clear HB HX hb2 x0 x1 x2 x3 x4 x5 x6 x7; have HB := n0_; have HX := n1_; clear n0_ n1_; have x0 := HX.out.c0; have x1 := HX.out.c1; have x2 := HX.out.c2; have x3 := HX.out.c3; have x4 := HX.out.c4; have x5 := HX.out.c5; have x6 := HX.out.c6; have x7 := HX.out.c7)
    | (go_at_call 30; with_reducible refine (A3.out _).mono ?_; rintro e w2 ⟨rfl, hb2⟩; have n0_ := Aside0.mk (below_next HB.out hb2); have n1_ := Aside0.mk (HX.out.below hb2); clear HB HX hb2 x0 x1 x2 x3 x4 x5 x6 x7; have HB := n0_; have HX := n1_; clear n0_ n1_; have x0 := HX.out.c0; have x1 := HX.out.c1; have x2 := HX.out.c2; have x3 := HX.out.c3; have x4 := HX.out.c4; have x5 := HX.out.c5; have x6 := HX.out.c6; have x7 := HX.out.c7))
  go_ret
  exact ⟨rfl, HB.out⟩
set_option maxHeartbeats 4000000 in
set_option maxRecDepth 100000 in
theorem pmv_in5 (W w : World) (x : Vl) (hk : x.kind = 5) (d : Int) (h0 : 1 ≤ d) (hd1 : d < 9223372036854775808) (f : Nat) (HV : PMV W f) (hW : Below W.heap.size W w) (hx : VlOk W x) (hs : ∀ y ∈ vls W x.l, SmV W f y) (q5 : Bool) (hA1 : ∀ w2, Calls Tryz.prog 90 #[.agg (vlC x).toArray] w2 fun e w' => e = .returned (.bool true) ∧ Below w2.heap.size w2 w')
    (hA2 : ∀ w2, Calls Tryz.prog 30 #[.string x.unk, .int .i64 d, .func (.func 91) #[] #[]] w2 fun e w' => e = .returned (.bool true) ∧ Below w2.heap.size w2 w')
    (hA3 : ∀ w2, Calls Tryz.prog 30 #[.string x.inner, .int .i64 (d - 1), .func (.func 92) #[] #[]] w2 fun e w' => e = .returned (.bool true) ∧ Below w2.heap.size w2 w')
    (hA5 : ∀ w2, Below w.heap.size w w2 → Calls Tryz.prog 29 #[.slice x.m.a x.m.len x.m.cap, .int .i64 (d - 2)] w2 fun e w' => e = .returned (.bool q5) ∧ Below w2.heap.size w2 w') :
    Calls Tryz.prog 72 #[.agg (vlC x).toArray, .int .i64 d] w fun e w' => e = .returned (.bool ((vls W x.l).all (mayV W f (d - 2)) && q5)) ∧ Below w.heap.size w w' := by
  have hl := vls_at hx.l
  have hok := VlOk.ls hx
  generalize vls W x.l = l at *
  have hln : x.l.len = l.length := hl.1
  have hlm : l.length ≤ 9223372036854775807 := by have h := hl.2.1; have h2 := hl.2.2.1; unfold maxLen at h2; omega
  have HL := Aside0.mk hl
  have HLN := Aside0.mk hln
  have HW := Aside0.mk hW
  have HF := Aside0.mk hs
  have HVV := Aside0.mk HV
  have A5 := Aside0.mk hA5
  have A3 := Aside0.mk hA3
  have w1 : wrap64 (d - 1) = d - 1 := by unfold wrap64; omega
  have w2_ : wrap64 (d - 2) = d - 2 := by unfold wrap64; omega
  clear hl hW hs HV hA5 hA3 hx hln hok
  unfold vlC Sl.v at hA1
  have A1 := Aside0.mk hA1
  have A2 := Aside0.mk hA2
  clear hA1 hA2
  have e5 : (x.kind != 5) = false := by rw [hk]; rfl
  clear hk
  go_enter Tryz.func72, Tryz.ntmps72
  go_upto_region 1 with (with_reducible refine gate_dst (N := 2) rfl ?_; refine Great.wpList_boxTo rfl 57 _ rfl _ rfl w.heap.size rfl (vlC x).toArray rfl ?_)
  have HX : Aside0 (XVl (w.alloc (.cells (vlC x).toArray 57)) w.heap.size x) := ⟨⟨heap_alloc_new w _⟩⟩
  have HB : Aside0 (Below w.heap.size w (w.alloc (.cells (vlC x).toArray 57))) := ⟨(Below.refl _ _).alloc (Nat.le_refl _) _⟩
  generalize (w.alloc (.cells (vlC x).toArray 57)) = w1 at *
  generalize hg : w.heap.size = g at HX ⊢
  clear hg
  have x0 := HX.out.c0
  have x1 := HX.out.c1
  have x2 := HX.out.c2
  have x3 := HX.out.c3
  have x4 := HX.out.c4
  have x5 := HX.out.c5
  have x6 := HX.out.c6
  have x7 := HX.out.c7
  go_upto_region 7 with (first
    | (go_at_call 90; with_reducible refine (A1.out _).mono ?_; rintro e w2 ⟨rfl, hb2⟩; have n0_ := Aside0.mk (below_next HB.out hb2); have n1_ := Aside0.mk (HX.out.below hb2); clear HB HX hb2 x0 x1 x2 x3 x4 x5 x6 x7; have HB := n0_; have HX := n1_; clear n0_ n1_; have x0 := HX.out.c0; have x1 := HX.out.c1; have x2 := HX.out.c2; have x3 := HX.out.c3; have x4 := HX.out.c4; have x5 := HX.out.c5; have x6 := HX.out.c6; have x7 := HX.out.c7)
    | (go_at_call 30; with_reducible refine (A2.out _).mono ?_; rintro e w2 ⟨rfl, hb2⟩; have n0_ := Aside0.mk (below_next HB.out hb2); have n1_ := Aside0.mk (HX.out.below hb2); clear HB HX hb2 x0 x1 x2 x3 x4 x5 x6 x7; have HB := n0_; have HX := n1_; clear n0_ n1_; have x0 := HX.out.c0; have x1 := HX.out.c1; have x2 := HX.out.c2; have x3 := HX.out.c3; have x4 := HX.out.c4; have x5 := HX.out.c5; have x6 := HX.out.c6; have x7 := HX.out.c7)
    | (go_at_call 30; with_reducible refine (A3.out _).mono ?_; rintro e w2 ⟨rfl, hb2⟩; have n0_ := Aside0.mk (below_next HB.out hb2); have n1_ := Aside0.mk (HX.out.below hb2); clear HB HX hb2 x0 x1 x2 x3 x4 x5 x6 x7; have HB := n0_; have HX := n1_; clear n0_ n1_; have x0 := HX.out.c0; have x1 := HX.out.c1; have x2 := HX.out.c2; have x3 := HX.out.c3; have x4 := HX.out.c4; have x5 := HX.out.c5; have x6 := HX.out.c6; have x7 := HX.out.c7))
  go_wp2_with fail
  go_loopw [42] (fun v42 w' => ∃ i : Nat, v42 = .int .i64 (i : Int) ∧ i ≤ l.length ∧ Aside0 ((l.take i).all (mayV W f (d - 2)) = true) ∧ Aside0 (XVl w' g x) ∧ Aside0 (Below w.heap.size w w')) (fun v42 _ => l.length - (intOf v42).toNat)
  case atStart => exact ⟨0, rfl, Nat.zero_le _, ⟨rfl⟩, HX, HB⟩
  case round =>
    clear HB HX x0 x1 x2 x3 x4 x5 x6 x7
    obtain ⟨i, rfl, hi, HA, HX, HB⟩ := hrel
    have hln := HLN.out
    by_cases hlt : i < l.length
    · obtain ⟨ad, hla, hel⟩ := HL.out.2.2.2 (by omega)
      obtain ⟨he1, he2⟩ := hel i hlt
      have hfi := HF.out l[i] (List.getElem_mem hlt)
      have HN := Aside0.mk (fun hp : mayV W f (d - 2) l[i] = true => all_next hlt HA.out hp)
      have HM := Aside0.mk (fun hp : mayV W f (d - 2) l[i] = false => all_none (p := mayV W f (d - 2)) hlt hp)
      generalize l[i] = y at *
      have hWr : Below W.heap.size W wr := HW.out.trans (HB.out.mono HW.out.size)
      have HPX := Aside0.mk (cells_below hWr (vl_cells he1))
      have HKY := Aside0.mk (fun w2 (hb : Below wr.heap.size wr w2) => HVV.out w2 y (d - 2) (hWr.trans (hb.mono hWr.size)) he2 hfi (by omega) (by omega))
      generalize mayV W f (d - 2) y = q at *
      have HBr := HB
      clear HA HB he1 he2 hel hfi hWr
      have c1 : (i : Int) < (x.l.len : Int) := by omega
      have c2 : (0 : Int) ≤ (i : Int) := by omega
      clear hln
      rw [hla]
      clear hla
      go_upto_region 10 with (first
        | ((with_reducible refine gate_dst (N := 45) rfl ?_); refine wpList_load_at rfl 57 _ rfl (ad.add (i * 8)) rfl (vlC y) HPX.out Tryz.underlying57 rfl (by kernel_rfl) ?_)
        | ((with_reducible refine gate_dst (N := 6) rfl ?_); refine wpList_allocZ rfl 57 rfl zcV zeroV (by kernel_rfl) rfl ?_)
        | (refine wpList_store_row rfl 57 _ _ rfl wr.heap.size (vlC y).toArray rfl rfl 57 zcV (heap_alloc_new wr _) (by kernel_rfl) zcV_sz (vlC_all _) ?_))
      have hB1 : Below wr.heap.size wr ((wr.alloc (.cells zcV 57)).setRow wr.heap.size (vlC y).toArray) := below_copy (Below.refl _ _) _ _
      have H1 := Aside0.mk (show XVl ((wr.alloc (.cells zcV 57)).setRow wr.heap.size (vlC y).toArray) wr.heap.size y from ⟨copy_at _ _ _⟩)
      have HX1 := Aside0.mk (HX.out.below hB1)
      generalize (wr.alloc (.cells zcV 57)).setRow wr.heap.size (vlC y).toArray = w2 at *
      generalize hp1 : wr.heap.size = p1 at H1 ⊢
      clear hp1
      have HB := Aside0.mk hB1
      clear hB1 HPX HX
      cases q
      · go_wp2_with (first
          | (refine wpList_load_row rfl 57 _ rfl p1 rfl 57 (vlC y).toArray (0, 0) _ H1.out.blk Tryz.underlying57 rfl (by kernel_rfl) ?_)
          | (go_at_call 72; with_reducible refine (HKY.out _ HB.out).mono ?_; rintro e w4 ⟨rfl, hb⟩; have HBn := Aside0.mk (below_next HB.out hb); clear HB hb H1 HX1; have HB := HBn; clear HBn))
        go_ret
        exact ⟨by rw [HM.out (by trivial)]; rfl, below_next HBr.out HB.out⟩
      · go_wp2_with (first
          | (refine wpList_load_row rfl 57 _ rfl p1 rfl 57 (vlC y).toArray (0, 0) _ H1.out.blk Tryz.underlying57 rfl (by kernel_rfl) ?_)
          | (go_at_call 72; with_reducible refine (HKY.out _ HB.out).mono ?_; rintro e w4 ⟨rfl, hb⟩; have HBn := Aside0.mk (below_next HB.out hb); have HXn := Aside0.mk (HX1.out.below hb); clear HB hb H1 HX1; have HB := HBn; have HX1 := HXn; clear HBn HXn))
        go_roundw
        case rel => exact ⟨i + 1, by go_num, by omega, ⟨HN.out (by trivial)⟩, HX1, ⟨below_next HBr.out HB.out⟩⟩
        case measure => simp [intOf]; omega
    · have hr : l.all (mayV W f (d - 2)) = true := by have h := HA.out; rw [List.take_of_length_le (by omega)] at h; exact h
      have HR := Aside0.mk hr
      have x5 := HX.out.c5
      have c1 : ¬ (i : Int) < (x.l.len : Int) := by omega
      clear hr hln HX
      go_wp2_with (go_at_call 29; with_reducible refine (A5.out _ HB.out).mono ?_; rintro e w2 ⟨rfl, hb2⟩; have n0_ := Aside0.mk (below_next HB.out hb2); clear HB hb2 x5; have HB := n0_; clear n0_)
      go_ret
      exact ⟨by rw [HR.out]; rfl, HB.out⟩
set_option maxHeartbeats 4000000 in
set_option maxRecDepth 100000 in
theorem pmv_zero6 (w : World) (x : Vl) (hk : x.kind = 6) (d : Int) (h0 : 0 ≤ d) (h1 : d < 1) (hA1 : ∀ w2, Calls Tryz.prog 90 #[.agg (vlC x).toArray] w2 fun e w' => e = .returned (.bool true) ∧ Below w2.heap.size w2 w')
    (hA2 : ∀ w2, Calls Tryz.prog 30 #[.string x.unk, .int .i64 d, .func (.func 91) #[] #[]] w2 fun e w' => e = .returned (.bool true) ∧ Below w2.heap.size w2 w') :
    Calls Tryz.prog 72 #[.agg (vlC x).toArray, .int .i64 d] w fun e w' => e = .returned (.bool false) ∧ Below w.heap.size w w' := by
  unfold vlC Sl.v at hA1
  have A1 := Aside0.mk hA1
  have A2 := Aside0.mk hA2
  clear hA1 hA2
  have e5 : (x.kind != 5) = true := by rw [hk]; rfl
  have e6 : (x.kind != 6) = false := by rw [hk]; rfl
  clear hk
  go_enter Tryz.func72, Tryz.ntmps72
  go_upto_region 1 with (with_reducible refine gate_dst (N := 2) rfl ?_; refine Great.wpList_boxTo rfl 57 _ rfl _ rfl w.heap.size rfl (vlC x).toArray rfl ?_)
  have HX : Aside0 (XVl (w.alloc (.cells (vlC x).toArray 57)) w.heap.size x) := ⟨⟨heap_alloc_new w _⟩⟩
  have HB : Aside0 (Below w.heap.size w (w.alloc (.cells (vlC x).toArray 57))) := ⟨(Below.refl _ _).alloc (Nat.le_refl _) _⟩
  generalize (w.alloc (.cells (vlC x).toArray 57)) = w1 at *
  generalize hg : w.heap.size = g at HX ⊢
  clear hg
  have x0 := HX.out.c0
  have x1 := HX.out.c1
  have x2 := HX.out.c2
  have x3 := HX.out.c3
  have x4 := HX.out.c4
  have x5 := HX.out.c5
  have x6 := HX.out.c6
  have x7 := HX.out.c7
  go_wp2_with (first
    | (go_at_call 90; with_reducible refine (A1.out _).mono ?_; rintro e w2 ⟨rfl, hb2⟩; have n0_ := Aside0.mk (below_next HB.out hb2); have n1_ := Aside0.mk (HX.out.below hb2); clear HB HX hb2 x0 x1 x2 x3 x4 x5 x6 x7; have HB := n0_; have HX := n1_; clear n0_ n1_; have x0 := HX.out.c0; have x1 := HX.out.c1; have x2 := HX.out.c2; have x3 := HX.out.c3; have x4 := HX.out.c4; have x5 := HX.out.c5; have x6 := HX.out.c6; have x7 := HX.out.c7)
    | (go_at_call 30; with_reducible refine (A2.out _).mono ?_; rintro e w2 ⟨rfl, hb2⟩; have n0_ := Aside0.mk (below_next HB.out hb2); have n1_ := Aside0.mk (HX.out.below hb2); clear HB HX hb2 x0 x1 x2 x3 x4 x5 x6 x7; have HB := n0_; have HX := n1_; clear n0_ n1_; have x0 := HX.out.c0; have x1 := HX.out.c1; have x2 := HX.out.c2; have x3 := HX.out.c3; have x4 := HX.out.c4; have x5 := HX.out.c5; have x6 := HX.out.c6; have x7 := HX.out.c7))
  go_ret
  exact ⟨rfl, HB.out⟩
set_option maxHeartbeats 4000000 in
set_option maxRecDepth 100000 in
theorem pmv_bad6 (w : World) (x : Vl) (hk : x.kind = 6) (d : Int) (h0 : 1 ≤ d) (hd1 : d < 9223372036854775808) (hA1 : ∀ w2, Calls Tryz.prog 90 #[.agg (vlC x).toArray] w2 fun e w' => e = .returned (.bool true) ∧ Below w2.heap.size w2 w')
    (hA2 : ∀ w2, Calls Tryz.prog 30 #[.string x.unk, .int .i64 d, .func (.func 91) #[] #[]] w2 fun e w' => e = .returned (.bool true) ∧ Below w2.heap.size w2 w')
    (hA3 : ∀ w2, Calls Tryz.prog 30 #[.string x.inner, .int .i64 (d - 1), .func (.func 92) #[] #[]] w2 fun e w' => e = .returned (.bool false) ∧ Below w2.heap.size w2 w') :
    Calls Tryz.prog 72 #[.agg (vlC x).toArray, .int .i64 d] w fun e w' => e = .returned (.bool false) ∧ Below w.heap.size w w' := by
  unfold vlC Sl.v at hA1
  have A1 := Aside0.mk hA1
  have A2 := Aside0.mk hA2
  clear hA1 hA2
  have e5 : (x.kind != 5) = true := by rw [hk]; rfl
  have e6 : (x.kind != 6) = false := by rw [hk]; rfl
  clear hk
  have A3 := Aside0.mk hA3
  clear hA3
  have w1 : wrap64 (d - 1) = d - 1 := by unfold wrap64; omega
  go_enter Tryz.func72, Tryz.ntmps72
  go_upto_region 1 with (with_reducible refine gate_dst (N := 2) rfl ?_; refine Great.wpList_boxTo rfl 57 _ rfl _ rfl w.heap.size rfl (vlC x).toArray rfl ?_)
  have HX : Aside0 (XVl (w.alloc (.cells (vlC x).toArray 57)) w.heap.size x) := ⟨⟨heap_alloc_new w _⟩⟩
  have HB : Aside0 (Below w.heap.size w (w.alloc (.cells (vlC x).toArray 57))) := ⟨(Below.refl _ _).alloc (Nat.le_refl _) _⟩
  generalize (w.alloc (.cells (vlC x).toArray 57)) = w1 at *
  generalize hg : w.heap.size = g at HX ⊢
  clear hg
  have x0 := HX.out.c0
  have x1 := HX.out.c1
  have x2 := HX.out.c2
  have x3 := HX.out.c3
  have x4 := HX.out.c4
  have x5 := HX.out.c5
  have x6 := HX.out.c6
  have x7 := HX.out.c7
  go_wp2_with (first
    | (go_at_call 90; with_reducible refine (A1.out _).mono ?_; rintro e w2 ⟨rfl, hb2⟩; have n0_ := Aside0.mk (below_next HB.out hb2); have n1_ := Aside0.mk (HX.out.below hb2); clear HB HX hb2 x0 x1 x2 x3 x4 x5 x6 x7; have HB := n0_; have HX := n1_; clear n0_ n1_; have x0 := HX.out.c0; have x1 := HX.out.c1; have x2 := HX.out.c2; have x3 := HX.out.c3; have x4 := HX.out.c4; have x5 := HX.out.c5; have x6 := HX.out.c6; have x7 := HX.out.c7)
    | (go_at_call 30; with_reducible refine (A2.out _).mono ?_; rintro e w2 ⟨rfl, hb2⟩; have n0_ := Aside0.mk (below_next HB.out hb2); have n1_ := Aside0.mk (HX.out.below hb2); clear HB HX hb2 x0 x1 x2 x3 x4 x5 x6 x7; have HB := n0_; have HX := n1_; clear n0_ n1_; have x0 := HX.out.c0; have x1 := HX.out.c1; have x2 := HX.out.c2; have x3 := HX.out.c3; have x4 := HX.out.c4; have x5 := HX.out.c5; have x6 := HX.out.c6; have x7 := HX.out.c7)
    | (go_at_call 30; with_reducible refine (A3.out _).mono ?_; rintro e w2 ⟨rfl, hb2⟩; have n0_ := Aside0.mk (below_next HB.out hb2); have n1_ := Aside0.mk (HX.out.below hb2); clear HB HX hb2 x0 x1 x2 x3 x4 x5 x6 x7; have HB := n0_; have HX := n1_; clear n0_ n1_; have x0 := HX.out.c0; have x1 := HX.out.c1; have x2 := HX.out.c2; have x3 := HX.out.c3; have x4 := HX.out.c4; have x5 := HX.out.c5; have x6 := HX.out.c6; have x7 := HX.out.c7))
  go_ret
  exact ⟨rfl, HB.out⟩
set_option maxHeartbeats 4000000 in
set_option maxRecDepth 100000 in
theorem pmv_in6 (W w : World) (x : Vl) (hk : x.kind = 6) (d : Int) (h0 : 1 ≤ d) (hd1 : d < 9223372036854775808) (f : Nat) (HV : PMV W f) (hW : Below W.heap.size W w) (hx : VlOk W x) (hs : ∀ y ∈ vls W x.l, SmV W f y) (q5 : Bool) (hA1 : ∀ w2, Calls Tryz.prog 90 #[.agg (vlC x).toArray] w2 fun e w' => e = .returned (.bool true) ∧ Below w2.heap.size w2 w')
    (hA2 : ∀ w2, Calls Tryz.prog 30 #[.string x.unk, .int .i64 d, .func (.func 91) #[] #[]] w2 fun e w' => e = .returned (.bool true) ∧ Below w2.heap.size w2 w')
    (hA3 : ∀ w2, Calls Tryz.prog 30 #[.string x.inner, .int .i64 (d - 1), .func (.func 92) #[] #[]] w2 fun e w' => e = .returned (.bool true) ∧ Below w2.heap.size w2 w')
    (hA5 : ∀ w2, Below w.heap.size w w2 → Calls Tryz.prog 29 #[.slice x.m.a x.m.len x.m.cap, .int .i64 (d - 2)] w2 fun e w' => e = .returned (.bool q5) ∧ Below w2.heap.size w2 w') :
    Calls Tryz.prog 72 #[.agg (vlC x).toArray, .int .i64 d] w fun e w' => e = .returned (.bool ((vls W x.l).all (mayV W f (d - 2)) && q5)) ∧ Below w.heap.size w w' := by
  have hl := vls_at hx.l
  have hok := VlOk.ls hx
  generalize vls W x.l = l at *
  have hln : x.l.len = l.length := hl.1
  have hlm : l.length ≤ 9223372036854775807 := by have h := hl.2.1; have h2 := hl.2.2.1; unfold maxLen at h2; omega
  have HL := Aside0.mk hl
  have HLN := Aside0.mk hln
  have HW := Aside0.mk hW
  have HF := Aside0.mk hs
  have HVV := Aside0.mk HV
  have A5 := Aside0.mk hA5
  have A3 := Aside0.mk hA3
  have w1 : wrap64 (d - 1) = d - 1 := by unfold wrap64; omega
  have w2_ : wrap64 (d - 2) = d - 2 := by unfold wrap64; omega
  clear hl hW hs HV hA5 hA3 hx hln hok
  unfold vlC Sl.v at hA1
  have A1 := Aside0.mk hA1
  have A2 := Aside0.mk hA2
  clear hA1 hA2
  have e5 : (x.kind != 5) = true := by rw [hk]; rfl
  have e6 : (x.kind != 6) = false := by rw [hk]; rfl
  clear hk
  go_enter Tryz.func72, Tryz.ntmps72
  go_upto_region 1 with (with_reducible refine gate_dst (N := 2) rfl ?_; refine Great.wpList_boxTo rfl 57 _ rfl _ rfl w.heap.size rfl (vlC x).toArray rfl ?_)
  have HX : Aside0 (XVl (w.alloc (.cells (vlC x).toArray 57)) w.heap.size x) := ⟨⟨heap_alloc_new w _⟩⟩
  have HB : Aside0 (Below w.heap.size w (w.alloc (.cells (vlC x).toArray 57))) := ⟨(Below.refl _ _).alloc (Nat.le_refl _) _⟩
  generalize (w.alloc (.cells (vlC x).toArray 57)) = w1 at *
  generalize hg : w.heap.size = g at HX ⊢
  clear hg
  have x0 := HX.out.c0
  have x1 := HX.out.c1
  have x2 := HX.out.c2
  have x3 := HX.out.c3
  have x4 := HX.out.c4
  have x5 := HX.out.c5
  have x6 := HX.out.c6
  have x7 := HX.out.c7
  go_upto_region 7 with (first
    | (go_at_call 90; with_reducible refine (A1.out _).mono ?_; rintro e w2 ⟨rfl, hb2⟩; have n0_ := Aside0.mk (below_next HB.out hb2); have n1_ := Aside0.mk (HX.out.below hb2); clear HB HX hb2 x0 x1 x2 x3 x4 x5 x6 x7; have HB := n0_; have HX := n1_; clear n0_ n1_; have x0 := HX.out.c0; have x1 := HX.out.c1; have x2 := HX.out.c2; have x3 := HX.out.c3; have x4 := HX.out.c4; have x5 := HX.out.c5; have x6 := HX.out.c6; have x7 := HX.out.c7)
    | (go_at_call 30; with_reducible refine (A2.out _).mono ?_; rintro e w2 ⟨rfl, hb2⟩; have n0_ := Aside0.mk (below_next HB.out hb2); have n1_ := Aside0.mk (HX.out.below hb2); clear HB HX hb2 x0 x1 x2 x3 x4 x5 x6 x7; have HB := n0_; have HX := n1_; clear n0_ n1_; have x0 := HX.out.c0; have x1 := HX.out.c1; have x2 := HX.out.c2; have x3 := HX.out.c3; have x4 := HX.out.c4; have x5 := HX.out.c5; have x6 := HX.out.c6; have x7 := HX.out.c7)
    | (go_at_call 30; with_reducible refine (A3.out _).mono ?_; rintro e w2 ⟨rfl, hb2⟩; have n0_ := Aside0.mk (below_next HB.out hb2); have n1_ := Aside0.mk (HX.out.below hb2); clear HB HX hb2 x0 x1 x2 x3 x4 x5 x6 x7; have HB := n0_; have HX := n1_; clear n0_ n1_; have x0 := HX.out.c0; have x1 := HX.out.c1; have x2 := HX.out.c2; have x3 := HX.out.c3; have x4 := HX.out.c4; have x5 := HX.out.c5; have x6 := HX.out.c6; have x7 := HX.out.c7))
  go_wp2_with fail
  go_loopw [42] (fun v42 w' => ∃ i : Nat, v42 = .int .i64 (i : Int) ∧ i ≤ l.length ∧ Aside0 ((l.take i).all (mayV W f (d - 2)) = true) ∧ Aside0 (XVl w' g x) ∧ Aside0 (Below w.heap.size w w')) (fun v42 _ => l.length - (intOf v42).toNat)
  case atStart => exact ⟨0, rfl, Nat.zero_le _, ⟨rfl⟩, HX, HB⟩
  case round =>
    clear HB HX x0 x1 x2 x3 x4 x5 x6 x7
    obtain ⟨i, rfl, hi, HA, HX, HB⟩ := hrel
    have hln := HLN.out
    by_cases hlt : i < l.length
    · obtain ⟨ad, hla, hel⟩ := HL.out.2.2.2 (by omega)
      obtain ⟨he1, he2⟩ := hel i hlt
      have hfi := HF.out l[i] (List.getElem_mem hlt)
      have HN := Aside0.mk (fun hp : mayV W f (d - 2) l[i] = true => all_next hlt HA.out hp)
      have HM := Aside0.mk (fun hp : mayV W f (d - 2) l[i] = false => all_none (p := mayV W f (d - 2)) hlt hp)
      generalize l[i] = y at *
      have hWr : Below W.heap.size W wr := HW.out.trans (HB.out.mono HW.out.size)
      have HPX := Aside0.mk (cells_below hWr (vl_cells he1))
      have HKY := Aside0.mk (fun w2 (hb : Below wr.heap.size wr w2) => HVV.out w2 y (d - 2) (hWr.trans (hb.mono hWr.size)) he2 hfi (by omega) (by omega))
      generalize mayV W f (d - 2) y = q at *
      have HBr := HB
      clear HA HB he1 he2 hel hfi hWr
      have c1 : (i : Int) < (x.l.len : Int) := by omega
      have c2 : (0 : Int) ≤ (i : Int) := by omega
      clear hln
      rw [hla]
      clear hla
      go_upto_region 10 with (first
        | ((with_reducible refine gate_dst (N := 45) rfl ?_); refine wpList_load_at rfl 57 _ rfl (ad.add (i * 8)) rfl (vlC y) HPX.out Tryz.underlying57 rfl (by kernel_rfl) ?_)
        | ((with_reducible refine gate_dst (N := 6) rfl ?_); refine wpList_allocZ rfl 57 rfl zcV zeroV (by kernel_rfl) rfl ?_)
        | (refine wpList_store_row rfl 57 _ _ rfl wr.heap.size (vlC y).toArray rfl rfl 57 zcV (heap_alloc_new wr _) (by kernel_rfl) zcV_sz (vlC_all _) ?_))
      have hB1 : Below wr.heap.size wr ((wr.alloc (.cells zcV 57)).setRow wr.heap.size (vlC y).toArray) := below_copy (Below.refl _ _) _ _
      have H1 := Aside0.mk (show XVl ((wr.alloc (.cells zcV 57)).setRow wr.heap.size (vlC y).toArray) wr.heap.size y from ⟨copy_at _ _ _⟩)
      have HX1 := Aside0.mk (HX.out.below hB1)
      generalize (wr.alloc (.cells zcV 57)).setRow wr.heap.size (vlC y).toArray = w2 at *
      generalize hp1 : wr.heap.size = p1 at H1 ⊢
      clear hp1
      have HB := Aside0.mk hB1
      clear hB1 HPX HX
      cases q
      · go_wp2_with (first
          | (refine wpList_load_row rfl 57 _ rfl p1 rfl 57 (vlC y).toArray (0, 0) _ H1.out.blk Tryz.underlying57 rfl (by kernel_rfl) ?_)
          | (go_at_call 72; with_reducible refine (HKY.out _ HB.out).mono ?_; rintro e w4 ⟨rfl, hb⟩; have HBn := Aside0.mk (below_next HB.out hb); clear HB hb H1 HX1; have HB := HBn; clear HBn))
        go_ret
        exact ⟨by rw [HM.out (by trivial)]; rfl, below_next HBr.out HB.out⟩
      · go_wp2_with (first
          | (refine wpList_load_row rfl 57 _ rfl p1 rfl 57 (vlC y).toArray (0, 0) _ H1.out.blk Tryz.underlying57 rfl (by kernel_rfl) ?_)
          | (go_at_call 72; with_reducible refine (HKY.out _ HB.out).mono ?_; rintro e w4 ⟨rfl, hb⟩; have HBn := Aside0.mk (below_next HB.out hb); have HXn := Aside0.mk (HX1.out.below hb); clear HB hb H1 HX1; have HB := HBn; have HX1 := HXn; clear HBn HXn))
        go_roundw
        case rel => exact ⟨i + 1, by go_num, by omega, ⟨HN.out (by trivial)⟩, HX1, ⟨below_next HBr.out HB.out⟩⟩
        case measure => simp [intOf]; omega
    · have hr : l.all (mayV W f (d - 2)) = true := by have h := HA.out; rw [List.take_of_length_le (by omega)] at h; exact h
      have HR := Aside0.mk hr
      have x5 := HX.out.c5
      have c1 : ¬ (i : Int) < (x.l.len : Int) := by omega
      clear hr hln HX
      go_wp2_with (go_at_call 29; with_reducible refine (A5.out _ HB.out).mono ?_; rintro e w2 ⟨rfl, hb2⟩; have n0_ := Aside0.mk (below_next HB.out hb2); clear HB hb2 x5; have HB := n0_; clear n0_)
      go_ret
      exact ⟨by rw [HR.out]; rfl, HB.out⟩
theorem pmv_next (W : World) (f : Nat) (HV : PMV W f) (HK : PMKs W f) : PMV W (f + 1) := by
  intro w x d hW hx hs hd hd1
  obtain ⟨s1, s2, s3, hsL, hsM⟩ := hs.of
  have he : mayV W (f + 1) d x = (decide (0 ≤ d) && (bareB x && (restB tbV d x.unk && (if x.kind = 5 ∨ x.kind = 6 then decide (1 ≤ d) && (restB tbL (d - 1) x.inner && ((vls W x.l).all (mayV W f (d - 2)) && (kvs W x.m).all (mayK (mayV W f) (d - 2)))) else true)))) := rfl
  rw [he]
  clear he
  by_cases h0 : 0 ≤ d
  · rw [decide_eq_true h0, Bool.true_and]
    have A1 := fun w2 => bare_any w2 x (by omega)
    have A2 := fun w2 => rest_V w2 x.unk d (by omega) h0 hd1
    cases e1 : bareB x && restB tbV d x.unk
    · have h := pmv_2 w x d h0 _ _ e1 A1 A2
      rw [← Bool.and_assoc, e1, Bool.false_and]
      exact h
    · obtain ⟨e2, e3⟩ := Bool.and_eq_true_iff.1 e1
      rw [e2] at A1
      rw [e3] at A2
      rw [e2, e3, Bool.true_and, Bool.true_and]
      by_cases hk : x.kind = 5 ∨ x.kind = 6
      · rw [if_pos hk]
        by_cases h1 : 1 ≤ d
        · rw [decide_eq_true h1, Bool.true_and]
          have A3 := fun w2 => rest_L w2 x.inner (d - 1) (by omega) (by omega) (by omega)
          cases e4 : restB tbL (d - 1) x.inner
          · rw [e4] at A3
            rw [Bool.false_and]
            rcases hk with hk | hk
            · exact pmv_bad5 w x hk d h1 hd1 A1 A2 A3
            · exact pmv_bad6 w x hk d h1 hd1 A1 A2 A3
          · rw [e4] at A3
            rw [Bool.true_and]
            have A5 := fun w2 (hb : Below w.heap.size w w2) => HK w2 x.m (d - 2) (hW.trans (hb.mono hW.size)) hx.m hsM (by omega) (by omega)
            rcases hk with hk | hk
            · exact pmv_in5 W w x hk d h1 hd1 f HV hW hx hsL _ A1 A2 A3 A5
            · exact pmv_in6 W w x hk d h1 hd1 f HV hW hx hsL _ A1 A2 A3 A5
        · rw [decide_eq_false h1, Bool.false_and]
          rcases hk with hk | hk
          · exact pmv_zero5 w x hk d h0 (by omega) A1 A2
          · exact pmv_zero6 w x hk d h0 (by omega) A1 A2
      · rw [if_neg hk]
        exact pmv_other w x d h0 (fun h => hk (.inl h)) (fun h => hk (.inr h)) A1 A2
  · rw [decide_eq_false h0, Bool.false_and]
    exact pmv_low w x d (by omega)
theorem pmv_all (W : World) : ∀ f, PMV W f
  | 0 => fun _ _ _ _ _ hs _ _ => hs.1.elim
  | f + 1 => pmv_next W f (pmv_all W f) (pmks_any W f (pmk_any W f (pmv_all W f)))
theorem pmk_all (W : World) (f : Nat) : PMK W f := pmk_any W f (pmv_all W f)
theorem pmks_all (W : World) (f : Nat) : PMKs W f := pmks_any W f (pmk_all W f)
end Go.Proofs.YtnghlkbmfhkmoaaGreatDoor
