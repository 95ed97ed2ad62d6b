import Derived.Test.YtnghlkbmfhkmoaaGreatDoorMuoncifmu
import Derived.Test.YtnghlkbmfhkmoaaGreatDoorMetdhhfhb
import Derived.Test.YtnghlkbmfhkmoaaGreatDoorMophrpqnn
namespace Go.Proofs.YtnghlkbmfhkmoaaGreatDoor
open Go.RowKit Go.Proofs.YtnghlkbmfhkmoaaGreatDoorW.PrintWords Go.Proofs.YtnghlkbmfhkmoaaGreatDoorW.PrintLast Go.Proofs.YtnghlkbmfhkmoaaGreatDoorW.PrintMore Hy
/-! ### hygref8.Unknown -/
theorem text_same (s : ByteArray) (w : World) (hs : s.size ≤ 100000) : Calls Tryz.prog 64 #[.string s] w fun e w' => e = .returned (.bool (vld (bs s))) ∧ w' = w := by
  have H := Aside0.mk (rbad_any s w hs)
  have hv : vld (bs s) = decide (badI (bs s) < 0) := by
    unfold vld badI
    by_cases h : whl (bs s) (bs s).length = (bs s).length
    · rw [if_pos h, decide_eq_true h]; rfl
    · rw [if_neg h, decide_eq_false h, decide_eq_false (by omega)]
  rw [hv]
  clear hv hs
  unfold rbadV at H
  generalize badI (bs s) = q at *
  go_enter Tryz.func64, Tryz.ntmps64
  go_wp2_with (go_at_call 82; with_reducible refine H.out.mono ?_; rintro e w2 ⟨rfl, rfl⟩)
  go_ret
  exact ⟨rfl, rfl⟩
set_option maxHeartbeats 4000000 in
set_option maxRecDepth 100000 in
theorem unk_any (T : List Nat) (hT : T.length ≤ 100) (hk : ∀ k ∈ T, k ≤ 1000) (A0 : Option Addr) (c0 : Nat) (s : ByteArray) (d : Int) (w : World) (hA : Kd.C (Kd.int .i64) w A0 T.length (T.map fun (x : Nat) => (x : Int))) (hc0 : T.length ≤ c0) (hs : s.size ≤ 100000) (hd1 : d < 9223372036854775808) :
    Calls Tryz.prog 19 #[.string s, .int .i64 d, .slice A0 T.length c0] w fun e w' => e = .returned (.bool (decide (0 ≤ d) && restB T d s)) ∧ Below w.heap.size w w' := by
  have HTT := Aside0.mk (And.intro hT hk)
  have HC0 := Aside0.mk hc0
  have HA0 := Aside0.mk hA
  by_cases h0 : 0 ≤ d
  · have H := Aside0.mk (fields_at s d w hs h0 hd1)
    rw [decide_eq_true h0, Bool.true_and]
    clear hd1 hT hk hA hc0 h0
    go_enter Tryz.func19, Tryz.ntmps19
    go_wp2_with fail
    refine H.out.mono ?_
    rintro e w2 (⟨L, A, c, hL, rfl, hC, hc, hb⟩ | ⟨hN, rfl, hb⟩)
    · have hr : restB T d s = L.all fun R => !tkn T R.num R.type := by unfold restB; rw [hL]
      have hlm : L.length ≤ 100000 := Nat.le_trans (recsL_len hL) hs
      have HR := Aside0.mk hr
      have HB := Aside0.mk hb
      have HC := Aside0.mk hC
      have HAn := Aside0.mk (Kd.C_below HA0.out hb)
      clear hL hC hc hb H hr hs HA0
      go_wp2_with fail
      go_loopw [9] (fun v9 w' => ∃ i : Nat, v9 = .int .i64 (i : Int) ∧ i ≤ L.length ∧ Aside0 ((L.take i).all (fun R => !tkn T R.num R.type) = true) ∧ Aside0 (Kd.C Rc w' A L.length L) ∧ Aside0 (Kd.C (Kd.int .i64) w' A0 T.length (T.map fun (x : Nat) => (x : Int))) ∧ Aside0 (Below w.heap.size w w')) (fun v9 _ => L.length - (intOf v9).toNat)
      case atStart => exact ⟨0, rfl, Nat.zero_le _, ⟨rfl⟩, HC, HAn, HB⟩
      case round =>
        clear HB HC HAn
        obtain ⟨i, rfl, hi, HQ, HC, HAn, HB⟩ := hrel
        by_cases hlt : i < L.length
        · obtain ⟨ad, rfl, hrc⟩ := recCells HC.out i hlt
          have HPX := Aside0.mk (recAll hrc)
          have HN := Aside0.mk (fun hp : (!tkn T L[i].num L[i].type) = true => all_next hlt HQ.out hp)
          have HM := Aside0.mk (fun hp : (!tkn T L[i].num L[i].type) = false => all_none (p := fun R => !tkn T R.num R.type) hlt hp)
          generalize L[i] = R at *
          have HKY := Aside0.mk (takes_at T HTT.out.1 HTT.out.2 A0 c0 R wr HAn.out HC0.out)
          generalize tkn T R.num R.type = q at *
          clear HQ hrc
          have c1 : (i : Int) < (L.length : Int) := by omega
          have c2 : (0 : Int) ≤ (i : Int) := by omega
          cases q
          · go_wp2_with (first
              | ((with_reducible refine gate_dst (N := 26) rfl ?_); refine wpList_load_at rfl 83 _ rfl (ad.add (i * 5)) rfl (recC R) HPX.out Tryz.underlying83 rfl (by kernel_rfl) ?_)
              | (go_at_call 45; with_reducible refine HKY.out.mono ?_; rintro e w4 ⟨rfl, hb⟩; have HCn := Aside0.mk (Kd.C_below HC.out hb); have HAm := Aside0.mk (Kd.C_below HAn.out hb); have HBn := Aside0.mk (below_next HB.out hb); clear HB HC HAn hb HPX HKY; have HB := HBn; have HC := HCn; have HAn := HAm; clear HBn HCn HAm))
            go_roundw
            case rel => exact ⟨i + 1, by go_num, by omega, ⟨HN.out (by trivial)⟩, HC, HAn, HB⟩
            case measure => simp [intOf]; omega
          · go_wp2_with (first
              | ((with_reducible refine gate_dst (N := 26) rfl ?_); refine wpList_load_at rfl 83 _ rfl (ad.add (i * 5)) rfl (recC R) HPX.out Tryz.underlying83 rfl (by kernel_rfl) ?_)
              | (go_at_call 45; with_reducible refine HKY.out.mono ?_; rintro e w4 ⟨rfl, hb⟩; have HBn := Aside0.mk (below_next HB.out hb); clear HB HC HAn hb HPX HKY; have HB := HBn; clear HBn))
            go_ret
            exact ⟨by rw [HR.out, HM.out (by trivial)]; rfl, HB.out⟩
        · have hr : (L.all fun R => !tkn T R.num R.type) = true := by have h := HQ.out; rw [List.take_of_length_le (by omega)] at h; exact h
          have HR2 := Aside0.mk hr
          clear hr
          go_wp2_with fail
          go_ret
          exact ⟨by rw [HR.out, HR2.out]; rfl, HB.out⟩
    · have HR := Aside0.mk (show restB T d s = false by unfold restB; rw [hN])
      have HB := Aside0.mk hb
      clear hN hb H hs HA0
      go_wp2_with fail
      go_loopw [9] (fun v9 w' => v9 = .int .i64 0 ∧ Aside0 (Below w.heap.size w w')) (fun _ _ => 0)
      case atStart => exact ⟨rfl, HB⟩
      case round =>
        clear HB
        obtain ⟨rfl, HB⟩ := hrel
        go_wp2_with fail
        go_ret
        exact ⟨by rw [HR.out]; rfl, HB.out⟩
  · have H := Aside0.mk (fields_low s d w (by omega))
    have HR := Aside0.mk (show (decide (0 ≤ d) && restB T d s) = false by rw [decide_eq_false h0]; rfl)
    have HB := Aside0.mk (Below.refl w.heap.size w)
    clear hd1 hT hk hA hc0 h0 hs HA0
    go_enter Tryz.func19, Tryz.ntmps19
    go_wp2_with (go_at_call 44; with_reducible refine H.out.mono ?_; rintro e w2 ⟨rfl, hw2⟩; subst w2)
    go_loopw [9] (fun v9 w' => v9 = .int .i64 0 ∧ Aside0 (Below w.heap.size w w')) (fun _ _ => 0)
    case atStart => exact ⟨rfl, HB⟩
    case round =>
      clear HB
      obtain ⟨rfl, HB⟩ := hrel
      go_wp2_with fail
      go_ret
      exact ⟨by rw [HR.out]; rfl, HB.out⟩
end Go.Proofs.YtnghlkbmfhkmoaaGreatDoor
namespace Go.Proofs.YtnghlkbmfhkmoaaGreatDoor
open Go.RowKit Go.Proofs.YtnghlkbmfhkmoaaGreatDoorW.PrintWords Go.Proofs.YtnghlkbmfhkmoaaGreatDoorW.PrintLast Go.Proofs.YtnghlkbmfhkmoaaGreatDoorW.PrintMore Hy
/-! ### may it be, by the document -/
def RMV (W : World) (f : Nat) : Prop := ∀ (w : World) (x : Vl) (d : Int), Below W.heap.size W w → VlOk W x → SmV W f x → -9223372036854775800 ≤ d → d < 9223372036854775808 →
  Calls Tryz.prog 66 #[.agg (vlC x).toArray, .int .i64 d] w fun e w' => e = .returned (.bool (mayV W f d x)) ∧ Below w.heap.size w w'
def RMK (W : World) (f : Nat) : Prop := ∀ (w : World) (y : Kv) (d : Int), Below W.heap.size W w → KvOk W y → SmK W f y → -9223372036854775800 ≤ d → d < 9223372036854775808 →
  Calls Tryz.prog 43 #[.agg (kvC y).toArray, .int .i64 d] w fun e w' => e = .returned (.bool (mayK (mayV W f) d y)) ∧ Below w.heap.size w w'
def RMKs (W : World) (f : Nat) : Prop := ∀ (w : World) (s : Sl) (d : Int), Below W.heap.size W w → Rd Tryz.prog W 22 [s.v] → (∀ y ∈ kvs W s, SmK W f y) → -9223372036854775800 ≤ d → d < 9223372036854775808 →
  Calls Tryz.prog 18 #[s.v, .int .i64 d] w fun e w' => e = .returned (.bool ((kvs W s).all (mayK (mayV W f) d))) ∧ Below w.heap.size w w'
theorem tbK_ok : tbK.length ≤ 100 ∧ ∀ k ∈ tbK, k ≤ 1000 := by unfold tbK; simp
theorem tbV_ok : tbV.length ≤ 100 ∧ ∀ k ∈ tbV, k ≤ 1000 := by unfold tbV; simp
theorem tbL_ok : tbL.length ≤ 100 ∧ ∀ k ∈ tbL, k ≤ 1000 := by unfold tbL; simp
theorem tbE_ok : tbE.length ≤ 100 ∧ ∀ k ∈ tbE, k ≤ 1000 := by unfold tbE; simp
theorem rest_empty (T : List Nat) (d : Int) (s : ByteArray) (h : emB s = true) : restB T d s = true := by
  have hb : bs s = [] := by
    have h1 : s.toList = [] := by unfold emB at h; exact List.isEmpty_iff.1 (by simpa using h)
    unfold bs
    rw [← ByteArray.toList_eq, h1]
    rfl
  unfold restB
  rw [hb]
  rfl
theorem em_b (s : ByteArray) : emB s = s.toList.isEmpty := by
  unfold emB
  cases s.toList <;> rfl
theorem zero_may (W : World) (f : Nat) (x : Vl) (h : FinV W f x) : (mayV W f 0 x && (decide (x.kind = 0) && emB x.unk)) = zeroB x := by
  cases f with
  | zero => exact h.elim
  | succ f =>
    by_cases hk : x.kind = 0
    · have hb : bareB x = (emB x.s && (decide (x.n = 0) && (!x.b && nestB x))) := by unfold bareB; rw [if_neg (by omega), if_neg (by omega), if_neg (by omega), if_neg (by omega), if_pos hk]
      cases hu : emB x.unk
      · unfold zeroB; rw [hu]; simp
      · have hr := rest_empty tbV 0 x.unk hu
        have he : mayV W (f + 1) 0 x = (bareB x && (restB tbV 0 x.unk && true)) := by
          show (decide ((0 : Int) ≤ 0) && (bareB x && (restB tbV 0 x.unk && (if x.kind = 5 ∨ x.kind = 6 then _ else true)))) = _
          rw [if_neg (by omega)]
          rfl
        rw [he, hb, hr, decide_eq_true hk]
        unfold nestB zeroB
        rw [hu, decide_eq_true hk]
        generalize emB x.s = a
        generalize decide (x.n = 0) = b
        generalize x.b = c
        generalize decide (x.l.len = 0) = d
        generalize decide (x.m.len = 0) = e
        generalize emB x.inner = g
        cases a <;> cases b <;> cases c <;> cases d <;> cases e <;> cases g <;> rfl
    · unfold zeroB; rw [decide_eq_false hk]; simp
set_option maxHeartbeats 4000000 in
set_option maxRecDepth 100000 in
theorem rmk_any (W : World) (f : Nat) (HV : RMV W f) : RMK W f := by
  intro w y d hW hy hs hd hd1
  unfold mayK
  by_cases h0 : 0 ≤ d
  · have A1 := Aside0.mk (fun w2 => text_at y.key w2 (by have := hs.key; omega))
    have A1s := Aside0.mk (fun w2 => text_same y.key w2 (by have := hs.key; omega))
    have A2 : Aside0 (∀ (w2 : World) (A : Option Addr) (c : Nat), Kd.C (Kd.int .i64) w2 A tbK.length (tbK.map fun (x : Nat) => (x : Int)) → tbK.length ≤ c → Calls Tryz.prog 19 #[.string y.unk, .int .i64 d, .slice A tbK.length c] w2 fun e w' => e = .returned (.bool (restB tbK d y.unk)) ∧ Below w2.heap.size w2 w') := ⟨fun w2 A c hC hc => by have h := unk_any tbK tbK_ok.1 tbK_ok.2 A c y.unk d w2 hC hc (by have := hs.unk; omega) hd1; rw [decide_eq_true h0, Bool.true_and] at h; exact h⟩
    have A3 := Aside0.mk (fun w2 (hb : Below w.heap.size w w2) => HV w2 y.v (d - 1) (hW.trans (hb.mono hW.size)) hy.v hs.v (by omega) (by omega))
    have A4 := Aside0.mk (fun w2 (hb : Below w.heap.size w w2) => HV w2 y.v 0 (hW.trans (hb.mono hW.size)) hy.v hs.v (by omega) (by omega))
    have hz := zero_may W f y.v hs.v.1
    have w1_ : wrap64 (d - 1) = d - 1 := by unfold wrap64; omega
    have dl : decide (d < 0) = false := decide_eq_false (by omega)
    rw [decide_eq_true h0]
    unfold vlC Sl.v at A3 A4
    generalize vld (bs y.key) = q1 at *
    generalize restB tbK d y.unk = q2 at *
    generalize mayV W f (d - 1) y.v = q3 at *
    generalize mayV W f 0 y.v = q4 at *
    rw [← hz]
    obtain ⟨h, eh⟩ : ∃ q, y.has = q := ⟨_, rfl⟩
    rw [eh]
    have EH := Aside0.mk eh
    have HZ := Aside0.mk (int_b y.v.kind)
    obtain ⟨q6, hq6⟩ : ∃ q6, q6 = (if h = true then q3 else (q4 && (decide (y.v.kind = 0) && emB y.v.unk))) := ⟨_, rfl⟩
    rw [← hq6]
    have HQ6 := Aside0.mk hq6
    clear eh HV hW hy hs hd hd1 hz hq6
    cases q1
    · skip
      go_enter Tryz.func43, Tryz.ntmps43
      go_upto_region 1 with (with_reducible refine gate_dst (N := 2) rfl ?_; refine Great.wpList_boxTo rfl 59 _ rfl _ rfl w.heap.size rfl (kvC y).toArray rfl ?_)
      have HX : Aside0 (XK (w.alloc (.cells (kvC y).toArray 59)) w.heap.size y) := ⟨⟨heap_alloc_new w _⟩⟩
      have HB : Aside0 (Below w.heap.size w (w.alloc (.cells (kvC y).toArray 59))) := ⟨(Below.refl _ _).alloc (Nat.le_refl _) _⟩
      generalize (w.alloc (.cells (kvC y).toArray 59)) = w1 at *
      generalize hg : w.heap.size = g at HX ⊢
      clear hg
      have a0 := HX.out.c0
      have a10 := HX.out.c10
      go_quiet ((go_at_call 64; exact Calls.quiet_of_same (A1s.out _)))
      go_wp2_with fail
      go_ret
      exact ⟨rfl, pw_below_drewN HB.out _⟩
    · skip
      go_enter Tryz.func43, Tryz.ntmps43
      go_upto_region 1 with (with_reducible refine gate_dst (N := 2) rfl ?_; refine Great.wpList_boxTo rfl 59 _ rfl _ rfl w.heap.size rfl (kvC y).toArray rfl ?_)
      have HX : Aside0 (XK (w.alloc (.cells (kvC y).toArray 59)) w.heap.size y) := ⟨⟨heap_alloc_new w _⟩⟩
      have HB : Aside0 (Below w.heap.size w (w.alloc (.cells (kvC y).toArray 59))) := ⟨(Below.refl _ _).alloc (Nat.le_refl _) _⟩
      generalize (w.alloc (.cells (kvC y).toArray 59)) = w1 at *
      generalize hg : w.heap.size = g at HX ⊢
      clear hg
      have HBd := Aside0.mk (below_drew1 HB.out)
      have HXd := Aside0.mk (show XK w1.drew g y from ⟨HX.out.blk⟩)
      clear HB HX
      have HB := HBd
      have HX := HXd
      clear HBd HXd
      refine start_ (n := 16) (S := fun w' => w'.cell? ⟨g, 0, none⟩ = some (.string y.key) ∧ w'.cell? ⟨g, 10, none⟩ = some (.string y.unk)) (ds := []) #[false, false, false, false, false, false, false, false, false, false, false, false, false, false, false, false] (by kernel_rfl) rfl rfl ⟨HX.out.c0, HX.out.c10⟩ (fun hHeld => ?_)
      refine pure_ (i := 0) (N := some 5) (v := ?_) (a' := ?_) (mkM 16 1) rfl rfl (by kernel_rfl) (fun _ _ _ h => h) (Or.inl ⟨by rfl, ?_⟩) ?_ ?_
      rotate_left
      · intro w'
        go_simp
        with_reducible rfl
      rotate_left
      · simp only [Act.put, s1_, s2_, s3_]
        rfl
      refine pure_ (i := 1) (N := some 6) (v := ?_) (a' := ?_) (mkM 16 3) rfl rfl (by kernel_rfl) (fun _ _ _ h => h) (Or.inl ⟨by rfl, ?_⟩) ?_ ?_
      rotate_left
      · intro w'
        go_simp
        with_reducible rfl
      rotate_left
      · simp only [Act.put, s1_, s2_, s3_]
        rfl
      refine pure_ (i := 2) (N := some 7) (v := ?_) (a' := ?_) (mkM 16 7) rfl rfl (by kernel_rfl) (fun _ _ _ h => h) (Or.inl ⟨by rfl, ?_⟩) ?_ ?_
      rotate_left
      · intro w'
        go_simp
        with_reducible rfl
      rotate_left
      · simp only [Act.put, s1_, s2_, s3_]
        rfl
      refine pure_ (i := 3) (N := some 8) (v := ?_) (a' := ?_) (mkM 16 15) rfl rfl (by kernel_rfl) (fun _ _ _ h => h) (Or.inl ⟨by rfl, ?_⟩) ?_ ?_
      rotate_left
      · intro w'
        go_simp
        with_reducible rfl
      rotate_left
      · simp only [Act.put, s1_, s2_, s3_]
        rfl
      refine take_ (i := 4) (N := some 9) (v := ?_) (a' := ?_) (mkM 16 31) rfl rfl (by kernel_rfl) (fun _ _ _ h => h) (Or.inl ⟨by rfl, ?_⟩) hHeld ?_ ?_
      rotate_left
      · rintro w' ⟨s0, s1⟩
        go_simp
        with_reducible rfl
      rotate_left
      · simp only [Act.put, s1_, s2_, s3_]
        rfl
      refine one_ (i := 5) (N := some 10) (mkM 16 63) rfl rfl (by kernel_rfl) (by decide) (fun K hK => ?_)
      refine goes_ Tryz.func64 (by kernel_rfl) rfl #[.string y.key] (by rfl) rfl rfl (by simp only [List.map_toArray, List.map_cons, List.map_nil]; rfl) ?_
      with_reducible refine (A1.out _).mono ?_
      rintro e w2 ⟨rfl, hb⟩
      refine ⟨_, rfl, ?_⟩
      replace HB := Aside0.mk (below_next HB.out hb)
      replace HX := Aside0.mk (HX.out.below hb)
      clear hb
      refine hK.out _ _ ⟨HX.out.c0, HX.out.c10⟩ (fun hHeld => ?_)
      clear hK K
      refine norm_ (a' := ?_) ?_ ?_
      rotate_left
      · show Act.put _ (some 10) _ = _
        simp only [Act.put, s1_, s2_, s3_]
        rfl
      refine pure_ (i := 6) (N := some 11) (v := ?_) (a' := ?_) (mkM 16 127) rfl rfl (by kernel_rfl) (fun _ _ _ h => h) (Or.inl ⟨by rfl, ?_⟩) ?_ ?_
      rotate_left
      · intro w'
        go_simp
        with_reducible rfl
      rotate_left
      · simp only [Act.put, s1_, s2_, s3_]
        rfl
      refine pure_ (i := 7) (N := some 12) (v := ?_) (a' := ?_) (mkM 16 255) rfl rfl (by kernel_rfl) (fun _ _ _ h => h) (Or.inl ⟨by rfl, ?_⟩) ?_ ?_
      rotate_left
      · intro w'
        go_simp
        with_reducible rfl
      rotate_left
      · simp only [Act.put, s1_, s2_, s3_]
        rfl
      refine pure_ (i := 8) (N := some 13) (v := ?_) (a' := ?_) (mkM 16 511) rfl rfl (by kernel_rfl) (fun _ _ _ h => h) (Or.inl ⟨by rfl, ?_⟩) ?_ ?_
      rotate_left
      · intro w'
        go_simp
        with_reducible rfl
      rotate_left
      · simp only [Act.put, s1_, s2_, s3_]
        rfl
      refine pure_ (i := 9) (N := some 14) (v := ?_) (a' := ?_) (mkM 16 1023) rfl rfl (by kernel_rfl) (fun _ _ _ h => h) (Or.inl ⟨by rfl, ?_⟩) ?_ ?_
      rotate_left
      · intro w'
        go_simp
        with_reducible rfl
      rotate_left
      · simp only [Act.put, s1_, s2_, s3_]
        rfl
      refine pure_ (i := 11) (N := some 16) (v := ?_) (a' := ?_) (mkM 16 3071) rfl rfl (by kernel_rfl) (fun _ _ _ h => h) (Or.inl ⟨by rfl, ?_⟩) ?_ ?_
      rotate_left
      · intro w'
        go_simp
        with_reducible rfl
      rotate_left
      · simp only [Act.put, s1_, s2_, s3_]
        rfl
      refine take_ (i := 10) (N := some 15) (v := ?_) (a' := ?_) (mkM 16 4095) rfl rfl (by kernel_rfl) (fun _ _ _ h => h) (Or.inl ⟨by rfl, ?_⟩) hHeld ?_ ?_
      rotate_left
      · rintro w' ⟨s0, s1⟩
        go_simp
        with_reducible rfl
      rotate_left
      · simp only [Act.put, s1_, s2_, s3_]
        rfl
      refine one_ (i := 12) (N := some 17) (mkM 16 8191) rfl rfl (by kernel_rfl) (by decide) (fun K hK => ?_)
      refine goes_ Tryz.func65 (by kernel_rfl) rfl #[] (by rfl) rfl rfl (by simp only [List.map_toArray, List.map_nil]) ?_
      with_reducible refine (hygref8_pairs_at _).mono ?_
      rintro e w3 ⟨A, c, rfl, hC, hc, hb⟩
      refine ⟨_, rfl, ?_⟩
      have HT := Aside0.mk (And.intro hC hc)
      clear hC hc
      replace HB := Aside0.mk (below_next HB.out hb)
      replace HX := Aside0.mk (HX.out.below hb)
      clear hb
      refine hK.out _ _ ⟨HX.out.c0, HX.out.c10⟩ (fun hHeld => ?_)
      clear hK K
      refine norm_ (a' := ?_) ?_ ?_
      rotate_left
      · show Act.put _ (some 17) _ = _
        simp only [Act.put, s1_, s2_, s3_]
        rfl
      refine one_ (i := 13) (N := some 18) (mkM 16 16383) rfl rfl (by kernel_rfl) (by decide) (fun K hK => ?_)
      refine goes_ Tryz.func19 (by kernel_rfl) rfl #[.string y.unk, .int .i64 d, .slice A tbK.length c] (by rfl) rfl rfl (by simp only [List.map_toArray, List.map_cons, List.map_nil]; rfl) ?_
      with_reducible refine (A2.out _ _ _ HT.out.1 HT.out.2).mono ?_
      rintro e w4 ⟨rfl, hb⟩
      refine ⟨_, rfl, ?_⟩
      clear HT
      replace HB := Aside0.mk (below_next HB.out hb)
      replace HX := Aside0.mk (HX.out.below hb)
      clear hb
      refine hK.out _ _ ⟨HX.out.c0, HX.out.c10⟩ (fun hHeld => ?_)
      clear hK K
      refine norm_ (a' := ?_) ?_ ?_
      rotate_left
      · show Act.put _ (some 18) _ = _
        simp only [Act.put, s1_, s2_, s3_]
        rfl
      refine pure_ (i := 14) (N := some 19) (v := ?_) (a' := ?_) (mkM 16 32767) rfl rfl (by kernel_rfl) (fun _ _ _ h => h) (Or.inl ⟨by rfl, ?_⟩) ?_ ?_
      rotate_left
      · intro w'
        go_simp
        with_reducible rfl
      rotate_left
      · simp only [Act.put, s1_, s2_, s3_]
        rfl
      refine pure_ (i := 15) (N := some 20) (v := ?_) (a' := ?_) (mkM 16 65535) rfl rfl (by kernel_rfl) (fun _ _ _ h => h) (Or.inl ⟨by rfl, ?_⟩) ?_ ?_
      rotate_left
      · intro w'
        go_simp
        with_reducible rfl
      rotate_left
      · simp only [Act.put, s1_, s2_, s3_]
        rfl
      refine done_ (by kernel_rfl) ?_
      have a1 := HX.out.c1
      rw [EH.out] at a1
      have a2 := HX.out.c2
      have a3 := HX.out.c3
      have a4 := HX.out.c4
      have a5 := HX.out.c5
      have a6 := HX.out.c6
      have a7 := HX.out.c7
      have a8 := HX.out.c8
      have a9 := HX.out.c9
      have z := Tryz.sizeOf57
      cases q2
      · go_wp2_with fail
        go_ret
        exact ⟨rfl, HB.out⟩
      · cases h
        · cases q4
          · go_wp2_with (go_at_call 66; with_reducible refine (A4.out _ HB.out).mono ?_; rintro e w2 ⟨rfl, hb2⟩; have n0_ := Aside0.mk (below_next HB.out hb2); have n1_ := Aside0.mk (HX.out.below hb2); clear HB HX hb2 a1 a2 a3 a4 a5 a6 a7 a8 a9; have HB := n0_; have HX := n1_; clear n0_ n1_; have a2 := HX.out.c2; have a9 := HX.out.c9)
            go_ret
            exact ⟨by rw [HQ6.out]; rfl, HB.out⟩
          · cases e1 : (y.v.kind == 0)
            · have HE1 := Aside0.mk e1
              go_wp2_with (go_at_call 66; with_reducible refine (A4.out _ HB.out).mono ?_; rintro e w2 ⟨rfl, hb2⟩; have n0_ := Aside0.mk (below_next HB.out hb2); have n1_ := Aside0.mk (HX.out.below hb2); clear HB HX hb2 a1 a2 a3 a4 a5 a6 a7 a8 a9; have HB := n0_; have HX := n1_; clear n0_ n1_; have a2 := HX.out.c2; have a9 := HX.out.c9)
              go_ret
              exact ⟨by rw [HQ6.out, ← HZ.out, HE1.out]; rfl, HB.out⟩
            · have HE1 := Aside0.mk e1
              go_wp2_with (go_at_call 66; with_reducible refine (A4.out _ HB.out).mono ?_; rintro e w2 ⟨rfl, hb2⟩; have n0_ := Aside0.mk (below_next HB.out hb2); have n1_ := Aside0.mk (HX.out.below hb2); clear HB HX hb2 a1 a2 a3 a4 a5 a6 a7 a8 a9; have HB := n0_; have HX := n1_; clear n0_ n1_; have a2 := HX.out.c2; have a9 := HX.out.c9)
              go_ret
              exact ⟨by rw [HQ6.out, ← HZ.out, HE1.out, em_b]; rfl, HB.out⟩
        · go_wp2_with (go_at_call 66; with_reducible refine (A3.out _ HB.out).mono ?_; rintro e w2 ⟨rfl, hb2⟩; have n0_ := Aside0.mk (below_next HB.out hb2); clear HB hb2; have HB := n0_; clear n0_)
          go_ret
          exact ⟨by rw [HQ6.out]; rfl, HB.out⟩
  · rw [decide_eq_false h0, Bool.false_and]
    have h1 : d < 0 := by omega
    clear HV hW hy hs hd hd1 h0
    go_enter Tryz.func43, Tryz.ntmps43
    go_upto_region 1 with (with_reducible refine gate_dst (N := 2) rfl ?_; refine Great.wpList_boxTo rfl 59 _ rfl _ rfl w.heap.size rfl (kvC y).toArray rfl ?_)
    have HX : Aside0 (XK (w.alloc (.cells (kvC y).toArray 59)) w.heap.size y) := ⟨⟨heap_alloc_new w _⟩⟩
    have HB : Aside0 (Below w.heap.size w (w.alloc (.cells (kvC y).toArray 59))) := ⟨(Below.refl _ _).alloc (Nat.le_refl _) _⟩
    generalize (w.alloc (.cells (kvC y).toArray 59)) = w1 at *
    generalize hg : w.heap.size = g at HX ⊢
    clear hg
    go_quiet (fail)
    go_wp2_with fail
    go_ret
    exact ⟨rfl, pw_below_drewN HB.out _⟩
set_option maxHeartbeats 4000000 in
set_option maxRecDepth 100000 in
theorem rmks_any (W : World) (f : Nat) (HK : RMK W f) : RMKs W f := by
  intro w s d hW hs hf hd hd1
  have hl := kvs_at hs
  generalize kvs W s = l at *
  obtain ⟨sa, sn, sc⟩ := s
  obtain rfl : sn = l.length := hl.1
  have hlm : l.length ≤ 9223372036854775807 := by have h := hl.2.1; have h2 := hl.2.2.1; unfold maxLen at h2; simp only at h h2; omega
  have HL := Aside0.mk hl
  have HW := Aside0.mk hW
  have HF := Aside0.mk hf
  have HKK := Aside0.mk HK
  have HD := Aside0.mk (And.intro hd hd1)
  have HB := Aside0.mk (Below.refl w.heap.size w)
  unfold Sl.v
  clear hl hW hf HK hs hd hd1
  go_enter Tryz.func18, Tryz.ntmps18
  go_wp2_with fail
  go_loopw [5] (fun v5 w' => ∃ i : Nat, v5 = .int .i64 (i : Int) ∧ i ≤ l.length ∧ Aside0 ((l.take i).all (mayK (mayV W f) d) = true) ∧ Aside0 (Below w.heap.size w w')) (fun v5 _ => l.length - (intOf v5).toNat)
  case atStart => exact ⟨0, rfl, Nat.zero_le _, ⟨rfl⟩, HB⟩
  case round =>
    clear HB
    obtain ⟨i, rfl, hi, HA, HB⟩ := hrel
    by_cases hlt : i < l.length
    · obtain ⟨ad, rfl, hel⟩ := HL.out.2.2.2 (by omega)
      obtain ⟨he1, he2⟩ := hel i hlt
      have hfi := HF.out l[i] (List.getElem_mem hlt)
      have HN := Aside0.mk (fun hp : mayK (mayV W f) d l[i] = true => all_next hlt HA.out hp)
      have HM := Aside0.mk (fun hp : mayK (mayV W f) d l[i] = false => all_none (p := mayK (mayV W f) d) hlt hp)
      generalize l[i] = y at *
      have hWr : Below W.heap.size W wr := HW.out.trans (HB.out.mono HW.out.size)
      have HPX := Aside0.mk (cells_below hWr (kv_cells he1))
      have HKY := Aside0.mk (HKK.out wr y d hWr he2 hfi HD.out.1 HD.out.2)
      generalize mayK (mayV W f) d y = q at *
      clear HA he1 he2 hel hfi hWr
      have c1 : (i : Int) < (l.length : Int) := by omega
      have c2 : (0 : Int) ≤ (i : Int) := by omega
      cases q
      · go_wp2_with (first
          | ((with_reducible refine gate_dst (N := 15) rfl ?_); refine wpList_load_at rfl 59 _ rfl (ad.add (i * 11)) rfl (kvC y) HPX.out Tryz.underlying59 rfl (by kernel_rfl) ?_)
          | (go_at_call 43; with_reducible refine HKY.out.mono ?_; rintro e w4 ⟨rfl, hb⟩; have HBn := Aside0.mk (below_next HB.out hb); clear HB hb HPX HKY; have HB := HBn; clear HBn))
        go_ret
        exact ⟨by rw [HM.out (by trivial)]; rfl, HB.out⟩
      · go_wp2_with (first
          | ((with_reducible refine gate_dst (N := 15) rfl ?_); refine wpList_load_at rfl 59 _ rfl (ad.add (i * 11)) rfl (kvC y) HPX.out Tryz.underlying59 rfl (by kernel_rfl) ?_)
          | (go_at_call 43; with_reducible refine HKY.out.mono ?_; rintro e w4 ⟨rfl, hb⟩; have HBn := Aside0.mk (below_next HB.out hb); clear HB hb HPX HKY; have HB := HBn; clear HBn))
        go_roundw
        case rel => exact ⟨i + 1, by go_num, by omega, ⟨HN.out (by trivial)⟩, HB⟩
        case measure => simp [intOf]; omega
    · have hr : l.all (mayK (mayV W f) d) = true := by have h := HA.out; rw [List.take_of_length_le (by omega)] at h; exact h
      have HR := Aside0.mk hr
      clear hr
      go_wp2_with fail
      go_ret
      exact ⟨by rw [HR.out]; rfl, HB.out⟩
theorem xkind {w : World} {g : Nat} {x : Vl} {k : Int} (h : XVl w g x) (hk : x.kind = k) : w.cell? ⟨g, 0, none⟩ = some (.int .i64 k) := by rw [← hk]; exact h.c0
set_option maxHeartbeats 4000000 in
set_option maxRecDepth 100000 in
theorem rmv_low (w : World) (x : Vl) (d : Int) (h0 : d < 0) : Calls Tryz.prog 66 #[.agg (vlC x).toArray, .int .i64 d] w fun e w' => e = .returned (.bool false) ∧ Below w.heap.size w w' := by
  go_enter Tryz.func66, Tryz.ntmps66
  go_upto_region 1 with (with_reducible refine gate_dst (N := 2) rfl ?_; refine Great.wpList_boxTo rfl 57 _ rfl _ rfl w.heap.size rfl (vlC x).toArray rfl ?_)
  have HX : Aside0 (XVl (w.alloc (.cells (vlC x).toArray 57)) w.heap.size x) := ⟨⟨heap_alloc_new w _⟩⟩
  have HB : Aside0 (Below w.heap.size w (w.alloc (.cells (vlC x).toArray 57))) := ⟨(Below.refl _ _).alloc (Nat.le_refl _) _⟩
  generalize (w.alloc (.cells (vlC x).toArray 57)) = w1 at *
  generalize hg : w.heap.size = g at HX ⊢
  clear hg
  have x0 := HX.out.c0
  have x1 := HX.out.c1
  have x2 := HX.out.c2
  have x3 := HX.out.c3
  have x4 := HX.out.c4
  have x5 := HX.out.c5
  have x6 := HX.out.c6
  have x7 := HX.out.c7
  go_quiet (fail)
  go_wp2_with fail
  go_ret
  exact ⟨rfl, pw_below_drewN HB.out _⟩
set_option maxHeartbeats 4000000 in
set_option maxRecDepth 100000 in
theorem rmv_neg (w : World) (x : Vl) (d : Int) (h0 : 0 ≤ d) (hk : x.kind < 0) : Calls Tryz.prog 66 #[.agg (vlC x).toArray, .int .i64 d] w fun e w' => e = .returned (.bool false) ∧ Below w.heap.size w w' := by
  have dl : decide (d < 0) = false := decide_eq_false (by omega)
  have e1 : decide (x.kind < 0) = true := decide_eq_true hk
  clear h0
  go_enter Tryz.func66, Tryz.ntmps66
  go_upto_region 1 with (with_reducible refine gate_dst (N := 2) rfl ?_; refine Great.wpList_boxTo rfl 57 _ rfl _ rfl w.heap.size rfl (vlC x).toArray rfl ?_)
  have HX : Aside0 (XVl (w.alloc (.cells (vlC x).toArray 57)) w.heap.size x) := ⟨⟨heap_alloc_new w _⟩⟩
  have HB : Aside0 (Below w.heap.size w (w.alloc (.cells (vlC x).toArray 57))) := ⟨(Below.refl _ _).alloc (Nat.le_refl _) _⟩
  generalize (w.alloc (.cells (vlC x).toArray 57)) = w1 at *
  generalize hg : w.heap.size = g at HX ⊢
  clear hg
  have x0 := HX.out.c0
  have x1 := HX.out.c1
  have x2 := HX.out.c2
  have x3 := HX.out.c3
  have x4 := HX.out.c4
  have x5 := HX.out.c5
  have x6 := HX.out.c6
  have x7 := HX.out.c7
  go_quiet (fail)
  go_wp2_with fail
  go_ret
  exact ⟨rfl, pw_below_drewN HB.out _⟩
set_option maxHeartbeats 4000000 in
set_option maxRecDepth 100000 in
theorem rmv_big (w : World) (x : Vl) (d : Int) (h0 : 0 ≤ d) (hk : 7 < x.kind) : Calls Tryz.prog 66 #[.agg (vlC x).toArray, .int .i64 d] w fun e w' => e = .returned (.bool false) ∧ Below w.heap.size w w' := by
  have dl : decide (d < 0) = false := decide_eq_false (by omega)
  have e1 : decide (x.kind < 0) = false := decide_eq_false (by omega)
  have e2 : decide (x.kind > 7) = true := decide_eq_true hk
  clear h0
  go_enter Tryz.func66, Tryz.ntmps66
  go_upto_region 1 with (with_reducible refine gate_dst (N := 2) rfl ?_; refine Great.wpList_boxTo rfl 57 _ rfl _ rfl w.heap.size rfl (vlC x).toArray rfl ?_)
  have HX : Aside0 (XVl (w.alloc (.cells (vlC x).toArray 57)) w.heap.size x) := ⟨⟨heap_alloc_new w _⟩⟩
  have HB : Aside0 (Below w.heap.size w (w.alloc (.cells (vlC x).toArray 57))) := ⟨(Below.refl _ _).alloc (Nat.le_refl _) _⟩
  generalize (w.alloc (.cells (vlC x).toArray 57)) = w1 at *
  generalize hg : w.heap.size = g at HX ⊢
  clear hg
  have x0 := HX.out.c0
  have x1 := HX.out.c1
  have x2 := HX.out.c2
  have x3 := HX.out.c3
  have x4 := HX.out.c4
  have x5 := HX.out.c5
  have x6 := HX.out.c6
  have x7 := HX.out.c7
  go_quiet (fail)
  go_wp2_with fail
  go_ret
  exact ⟨rfl, pw_below_drewN HB.out _⟩
end Go.Proofs.YtnghlkbmfhkmoaaGreatDoor
namespace Go.Proofs.YtnghlkbmfhkmoaaGreatDoor
open Go.RowKit Go.Proofs.YtnghlkbmfhkmoaaGreatDoorW.PrintWords Go.Proofs.YtnghlkbmfhkmoaaGreatDoorW.PrintLast Go.Proofs.YtnghlkbmfhkmoaaGreatDoorW.PrintMore Hy
set_option maxHeartbeats 4000000 in
set_option maxRecDepth 100000 in
theorem rmv_0 (W w : World) (x : Vl) (d : Int) (f : Nat) (hk : x.kind = 0) (h0 : 0 ≤ d) (hd1 : d < 9223372036854775808) (hx : VlOk W x) (hs : SmV W (f + 1) x) (hW : Below W.heap.size W w) (_HV : RMV W f) (HKs : RMKs W f) :
    Calls Tryz.prog 66 #[.agg (vlC x).toArray, .int .i64 d] w fun e w' => e = .returned (.bool (mayV W (f + 1) d x)) ∧ Below w.heap.size w w' := by
  obtain ⟨s1, s2, s3, hsL, hsM⟩ := hs.of
  have he : mayV W (f + 1) d x = (bareB x && (restB tbV d x.unk && true)) := by
    show (decide (0 ≤ d) && (bareB x && (restB tbV d x.unk && (if x.kind = 5 ∨ x.kind = 6 then _ else true)))) = _
    rw [decide_eq_true h0, if_neg (by omega)]
    rfl
  have A2 : Aside0 (∀ (w2 : World) (A : Option Addr) (c : Nat), Kd.C (Kd.int .i64) w2 A tbV.length (tbV.map fun (x : Nat) => (x : Int)) → tbV.length ≤ c → Calls Tryz.prog 19 #[.string x.unk, .int .i64 d, .slice A tbV.length c] w2 fun e w' => e = .returned (.bool (restB tbV d x.unk)) ∧ Below w2.heap.size w2 w') := ⟨fun w2 A c hC hc => by have h := unk_any tbV tbV_ok.1 tbV_ok.2 A c x.unk d w2 hC hc (by omega) hd1; rw [decide_eq_true h0, Bool.true_and] at h; exact h⟩
  have dl : decide (d < 0) = false := decide_eq_false (by omega)
  have w2_ : wrap64 (d - 2) = d - 2 := by unfold wrap64; omega
  have A5 := Aside0.mk (fun w2 (hb : Below w.heap.size w w2) => HKs w2 x.m (d - 2) (hW.trans (hb.mono hW.size)) hx.m hsM (by omega) (by omega))
  have hm0 : x.m.len = 0 → (kvs W x.m).all (mayK (mayV W f) (d - 2)) = true := fun h => by rw [List.length_eq_zero_iff.1 (((kvs_at hx.m).1).symm.trans h)]; rfl
  have HM0 := Aside0.mk hm0
  clear hm0
  have HW := Aside0.mk hW
  unfold Sl.v at A5
  generalize mayV W (f + 1) d x = R at *
  generalize hq2 : restB tbV d x.unk = q2 at *
  generalize hq5 : (kvs W x.m).all (mayK (mayV W f) (d - 2)) = q5 at *
  have HE := Aside0.mk he
  have HK := Aside0.mk hk
  clear he hk hx hs hW _HV HKs s1 s2 s3 hsL hsM hd1 hq2 hq5
  go_enter Tryz.func66, Tryz.ntmps66
  go_upto_region 1 with (with_reducible refine gate_dst (N := 2) rfl ?_; refine Great.wpList_boxTo rfl 57 _ rfl _ rfl w.heap.size rfl (vlC x).toArray rfl ?_)
  have HX : Aside0 (XVl (w.alloc (.cells (vlC x).toArray 57)) w.heap.size x) := ⟨⟨heap_alloc_new w _⟩⟩
  have HB : Aside0 (Below w.heap.size w (w.alloc (.cells (vlC x).toArray 57))) := ⟨(Below.refl _ _).alloc (Nat.le_refl _) _⟩
  generalize (w.alloc (.cells (vlC x).toArray 57)) = w1 at *
  generalize hg : w.heap.size = g at HX ⊢
  clear hg
  have HBd := Aside0.mk (below_drew1 HB.out)
  have HXd := Aside0.mk (show XVl w1.drew g x from ⟨HX.out.blk⟩)
  clear HB HX
  have HB := HBd
  have HX := HXd
  clear HBd HXd
  refine start_ (n := 20) (S := fun w' => w'.cell? ⟨g, 0, none⟩ = some (.int .i64 0) ∧ w'.cell? ⟨g, 7, none⟩ = some (.string x.unk)) (ds := []) #[false, false, false, false, false, false, false, false, false, false, false, false, false, false, false, false, false, false, false, false] (by kernel_rfl) rfl rfl ⟨(xkind HX.out HK.out), HX.out.c7⟩ (fun hHeld => ?_)
  refine pure_ (i := 0) (N := some 7) (v := ?_) (a' := ?_) (mkM 20 1) rfl rfl (by kernel_rfl) (fun _ _ _ h => h) (Or.inl ⟨by rfl, ?_⟩) ?_ ?_
  rotate_left
  · intro w'
    go_simp
    with_reducible rfl
  rotate_left
  · simp only [Act.put, s1_, s2_, s3_]
    rfl
  refine pure_ (i := 1) (N := some 8) (v := ?_) (a' := ?_) (mkM 20 3) rfl rfl (by kernel_rfl) (fun _ _ _ h => h) (Or.inl ⟨by rfl, ?_⟩) ?_ ?_
  rotate_left
  · intro w'
    go_simp
    with_reducible rfl
  rotate_left
  · simp only [Act.put, s1_, s2_, s3_]
    rfl
  refine pure_ (i := 2) (N := some 9) (v := ?_) (a' := ?_) (mkM 20 7) rfl rfl (by kernel_rfl) (fun _ _ _ h => h) (Or.inl ⟨by rfl, ?_⟩) ?_ ?_
  rotate_left
  · intro w'
    go_simp
    with_reducible rfl
  rotate_left
  · simp only [Act.put, s1_, s2_, s3_]
    rfl
  refine pure_ (i := 3) (N := some 10) (v := ?_) (a' := ?_) (mkM 20 15) rfl rfl (by kernel_rfl) (fun _ _ _ h => h) (Or.inl ⟨by rfl, ?_⟩) ?_ ?_
  rotate_left
  · intro w'
    go_simp
    with_reducible rfl
  rotate_left
  · simp only [Act.put, s1_, s2_, s3_]
    rfl
  refine take_ (i := 4) (N := some 11) (v := ?_) (a' := ?_) (mkM 20 31) rfl rfl (by kernel_rfl) (fun _ _ _ h => h) (Or.inl ⟨by rfl, ?_⟩) hHeld ?_ ?_
  rotate_left
  · rintro w' ⟨s0, s1⟩
    go_simp
    with_reducible rfl
  rotate_left
  · simp only [Act.put, s1_, s2_, s3_]
    rfl
  refine pure_ (i := 5) (N := some 12) (v := ?_) (a' := ?_) (mkM 20 63) rfl rfl (by kernel_rfl) (fun _ _ _ h => h) (Or.inl ⟨by rfl, ?_⟩) ?_ ?_
  rotate_left
  · intro w'
    go_simp
    with_reducible rfl
  rotate_left
  · simp only [Act.put, s1_, s2_, s3_]
    rfl
  refine pure_ (i := 6) (N := some 13) (v := ?_) (a' := ?_) (mkM 20 127) rfl rfl (by kernel_rfl) (fun _ _ _ h => h) (Or.inl ⟨by rfl, ?_⟩) ?_ ?_
  rotate_left
  · intro w'
    go_simp
    with_reducible rfl
  rotate_left
  · simp only [Act.put, s1_, s2_, s3_]
    rfl
  refine pure_ (i := 7) (N := some 14) (v := ?_) (a' := ?_) (mkM 20 255) rfl rfl (by kernel_rfl) (fun _ _ _ h => h) (Or.inl ⟨by rfl, ?_⟩) ?_ ?_
  rotate_left
  · intro w'
    go_simp
    with_reducible rfl
  rotate_left
  · simp only [Act.put, s1_, s2_, s3_]
    rfl
  refine pure_ (i := 8) (N := some 15) (v := ?_) (a' := ?_) (mkM 20 511) rfl rfl (by kernel_rfl) (fun _ _ _ h => h) (Or.inl ⟨by rfl, ?_⟩) ?_ ?_
  rotate_left
  · intro w'
    go_simp
    with_reducible rfl
  rotate_left
  · simp only [Act.put, s1_, s2_, s3_]
    rfl
  refine take_ (i := 9) (N := some 16) (v := ?_) (a' := ?_) (mkM 20 1023) rfl rfl (by kernel_rfl) (fun _ _ _ h => h) (Or.inl ⟨by rfl, ?_⟩) hHeld ?_ ?_
  rotate_left
  · rintro w' ⟨s0, s1⟩
    go_simp
    with_reducible rfl
  rotate_left
  · simp only [Act.put, s1_, s2_, s3_]
    rfl
  refine pure_ (i := 10) (N := some 17) (v := ?_) (a' := ?_) (mkM 20 2047) rfl rfl (by kernel_rfl) (fun _ _ _ h => h) (Or.inl ⟨by rfl, ?_⟩) ?_ ?_
  rotate_left
  · intro w'
    go_simp
    with_reducible rfl
  rotate_left
  · simp only [Act.put, s1_, s2_, s3_]
    rfl
  refine pure_ (i := 11) (N := some 18) (v := ?_) (a' := ?_) (mkM 20 4095) rfl rfl (by kernel_rfl) (fun _ _ _ h => h) (Or.inl ⟨by rfl, ?_⟩) ?_ ?_
  rotate_left
  · intro w'
    go_simp
    with_reducible rfl
  rotate_left
  · simp only [Act.put, s1_, s2_, s3_]
    rfl
  refine pure_ (i := 12) (N := some 19) (v := ?_) (a' := ?_) (mkM 20 8191) rfl rfl (by kernel_rfl) (fun _ _ _ h => h) (Or.inl ⟨by rfl, ?_⟩) ?_ ?_
  rotate_left
  · intro w'
    go_simp
    with_reducible rfl
  rotate_left
  · simp only [Act.put, s1_, s2_, s3_]
    rfl
  refine pure_ (i := 13) (N := some 20) (v := ?_) (a' := ?_) (mkM 20 16383) rfl rfl (by kernel_rfl) (fun _ _ _ h => h) (Or.inl ⟨by rfl, ?_⟩) ?_ ?_
  rotate_left
  · intro w'
    go_simp
    with_reducible rfl
  rotate_left
  · simp only [Act.put, s1_, s2_, s3_]
    rfl
  refine pure_ (i := 15) (N := some 22) (v := ?_) (a' := ?_) (mkM 20 49151) rfl rfl (by kernel_rfl) (fun _ _ _ h => h) (Or.inl ⟨by rfl, ?_⟩) ?_ ?_
  rotate_left
  · intro w'
    go_simp
    with_reducible rfl
  rotate_left
  · simp only [Act.put, s1_, s2_, s3_]
    rfl
  refine take_ (i := 14) (N := some 21) (v := ?_) (a' := ?_) (mkM 20 65535) rfl rfl (by kernel_rfl) (fun _ _ _ h => h) (Or.inl ⟨by rfl, ?_⟩) hHeld ?_ ?_
  rotate_left
  · rintro w' ⟨s0, s1⟩
    go_simp
    with_reducible rfl
  rotate_left
  · simp only [Act.put, s1_, s2_, s3_]
    rfl
  refine one_ (i := 16) (N := some 23) (mkM 20 131071) rfl rfl (by kernel_rfl) (by decide) (fun K hK => ?_)
  refine goes_ Tryz.func83 (by kernel_rfl) rfl #[] (by rfl) rfl rfl (by simp only [List.map_toArray, List.map_nil]) ?_
  with_reducible refine (hygref8_values_at _).mono ?_
  rintro e w3 ⟨A, c, rfl, hC, hc, hb⟩
  refine ⟨_, rfl, ?_⟩
  have HT := Aside0.mk (And.intro hC hc)
  clear hC hc
  replace HB := Aside0.mk (below_next HB.out hb)
  replace HX := Aside0.mk (HX.out.below hb)
  clear hb
  refine hK.out _ _ ⟨(xkind HX.out HK.out), HX.out.c7⟩ (fun hHeld => ?_)
  clear hK K
  refine norm_ (a' := ?_) ?_ ?_
  rotate_left
  · show Act.put _ (some 23) _ = _
    simp only [Act.put, s1_, s2_, s3_]
    rfl
  refine one_ (i := 17) (N := some 24) (mkM 20 262143) rfl rfl (by kernel_rfl) (by decide) (fun K hK => ?_)
  refine goes_ Tryz.func19 (by kernel_rfl) rfl #[.string x.unk, .int .i64 d, .slice A tbV.length c] (by rfl) rfl rfl (by simp only [List.map_toArray, List.map_cons, List.map_nil]; rfl) ?_
  with_reducible refine (A2.out _ _ _ HT.out.1 HT.out.2).mono ?_
  rintro e w4 ⟨rfl, hb⟩
  refine ⟨_, rfl, ?_⟩
  clear HT
  replace HB := Aside0.mk (below_next HB.out hb)
  replace HX := Aside0.mk (HX.out.below hb)
  clear hb
  refine hK.out _ _ ⟨(xkind HX.out HK.out), HX.out.c7⟩ (fun hHeld => ?_)
  clear hK K
  refine norm_ (a' := ?_) ?_ ?_
  rotate_left
  · show Act.put _ (some 24) _ = _
    simp only [Act.put, s1_, s2_, s3_]
    rfl
  refine pure_ (i := 18) (N := some 25) (v := ?_) (a' := ?_) (mkM 20 524287) rfl rfl (by kernel_rfl) (fun _ _ _ h => h) (Or.inl ⟨by rfl, ?_⟩) ?_ ?_
  rotate_left
  · intro w'
    go_simp
    with_reducible rfl
  rotate_left
  · simp only [Act.put, s1_, s2_, s3_]
    rfl
  refine pure_ (i := 19) (N := some 26) (v := ?_) (a' := ?_) (mkM 20 1048575) rfl rfl (by kernel_rfl) (fun _ _ _ h => h) (Or.inl ⟨by rfl, ?_⟩) ?_ ?_
  rotate_left
  · intro w'
    go_simp
    with_reducible rfl
  rotate_left
  · simp only [Act.put, s1_, s2_, s3_]
    rfl
  refine done_ (by kernel_rfl) ?_
  cases q2
  · have HR : Aside0 (R = false) := ⟨by rw [HE.out]; simp⟩
    go_wp2_with fail
    go_ret
    exact ⟨by rw [HR.out]; rfl, HB.out⟩
  · skip
    have x0 := xkind HX.out HK.out
    have x1 := HX.out.c1
    have x2 := HX.out.c2
    have x3 := HX.out.c3
    have x4 := HX.out.c4
    have x5 := HX.out.c5
    have x6 := HX.out.c6
    have x7 := HX.out.c7
    go_upto_region 4 with fail
    simp only [List.append_eq, List.cons_append, List.nil_append]
    cases f0 : emB x.s
    · skip
      have hb : bareB x = false := by unfold bareB plainB nestB; rw [HK.out]; simp only [f0, Bool.false_and]; rfl
      have HR : Aside0 (R = false) := ⟨by rw [HE.out, hb]; rfl⟩
      clear hb
      have g0 : (x.s.toList == []) = false := f0
      go_wp2_with fail
      go_ret
      exact ⟨by rw [HR.out]; rfl, HB.out⟩
    · skip
      cases f1 : x.b
      · skip
        cases f2 : decide (x.n = 0)
        · skip
          have hb : bareB x = false := by unfold bareB plainB nestB; rw [HK.out]; simp only [f2, Bool.and_false, Bool.false_and]; rfl
          have HR : Aside0 (R = false) := ⟨by rw [HE.out, hb]; rfl⟩
          clear hb
          have g0 : (x.s.toList == []) = true := f0
          rw [f1] at x2
          have g2 : (x.n != 0) = true := by rw [bne, int_b, f2]; rfl
          go_wp2_with fail
          go_ret
          exact ⟨by rw [HR.out]; rfl, HB.out⟩
        · skip
          cases f3 : decide (x.l.len = 0)
          · skip
            have hb : bareB x = false := by unfold bareB plainB nestB; rw [HK.out]; simp only [f3, Bool.and_false, Bool.false_and]; rfl
            have HR : Aside0 (R = false) := ⟨by rw [HE.out, hb]; rfl⟩
            clear hb
            have g0 : (x.s.toList == []) = true := f0
            rw [f1] at x2
            have g2 : (x.n != 0) = false := by rw [bne, int_b, f2]; rfl
            have g3 : (x.l.len : Int) > 0 := by have h_ := of_decide_eq_false f3; omega
            have k3 : decide ((x.l.len : Int) > 0) = true := decide_eq_true g3
            go_wp2_with fail
            go_ret
            exact ⟨by rw [HR.out]; rfl, HB.out⟩
          · skip
            cases f4 : decide (x.m.len = 0)
            · skip
              have hb : bareB x = false := by unfold bareB plainB nestB; rw [HK.out]; simp only [f4, Bool.and_false, Bool.false_and]; rfl
              have HR : Aside0 (R = false) := ⟨by rw [HE.out, hb]; rfl⟩
              clear hb
              have g0 : (x.s.toList == []) = true := f0
              rw [f1] at x2
              have g2 : (x.n != 0) = false := by rw [bne, int_b, f2]; rfl
              have g3 : ¬ (x.l.len : Int) > 0 := by have h_ := of_decide_eq_true f3; omega
              have k3 : decide ((x.l.len : Int) > 0) = false := decide_eq_false g3
              have g4 : (x.m.len : Int) > 0 := by have h_ := of_decide_eq_false f4; omega
              have k4 : decide ((x.m.len : Int) > 0) = true := decide_eq_true g4
              go_wp2_with fail
              go_ret
              exact ⟨by rw [HR.out]; rfl, HB.out⟩
            · skip
              cases f5 : emB x.inner
              · skip
                have hb : bareB x = false := by unfold bareB plainB nestB; rw [HK.out]; simp only [f5, Bool.and_false]; rfl
                have HR : Aside0 (R = false) := ⟨by rw [HE.out, hb]; rfl⟩
                clear hb
                have g0 : (x.s.toList == []) = true := f0
                rw [f1] at x2
                have g2 : (x.n != 0) = false := by rw [bne, int_b, f2]; rfl
                have g3 : ¬ (x.l.len : Int) > 0 := by have h_ := of_decide_eq_true f3; omega
                have k3 : decide ((x.l.len : Int) > 0) = false := decide_eq_false g3
                have g4 : ¬ (x.m.len : Int) > 0 := by have h_ := of_decide_eq_true f4; omega
                have k4 : decide ((x.m.len : Int) > 0) = false := decide_eq_false g4
                have g5 : (x.inner.toList == []) = false := f5
                go_wp2_with fail
                go_ret
                exact ⟨by rw [HR.out]; rfl, HB.out⟩
              · skip
                have hb : bareB x = true := by unfold bareB plainB nestB; rw [HK.out]; simp only [f0, f1, f2, f3, f4, f5, Bool.not_false]; rfl
                have HB_ := Aside0.mk hb
                clear hb
                have HQ5 : Aside0 (q5 = true) := ⟨HM0.out (of_decide_eq_true f4)⟩
                have HC1 := Aside0.mk (show ¬ (0 : Int) < (x.l.len : Int) by have h_ := of_decide_eq_true f3; omega)
                have g0 : (x.s.toList == []) = true := f0
                rw [f1] at x2
                have g2 : (x.n != 0) = false := by rw [bne, int_b, f2]; rfl
                have g3 : ¬ (x.l.len : Int) > 0 := by have h_ := of_decide_eq_true f3; omega
                have k3 : decide ((x.l.len : Int) > 0) = false := decide_eq_false g3
                have g4 : ¬ (x.m.len : Int) > 0 := by have h_ := of_decide_eq_true f4; omega
                have k4 : decide ((x.m.len : Int) > 0) = false := decide_eq_false g4
                have g5 : (x.inner.toList == []) = true := f5
                go_upto_region 6 with fail
                try clear k3
                try clear g3
                try clear f3
                try clear k4
                try clear g4
                try clear f4
                rw [show x.m.len = 0 by assumption] at A5
                go_quiet (fail)
                have HR : Aside0 (R = true) := ⟨by rw [HE.out, HB_.out]; rfl⟩
                have HBd : Aside0 (Below w.heap.size w (w4.drewN nq)) := ⟨pw_below_drewN HB.out _⟩
                have HXd := Aside0.mk (show XVl (w4.drewN nq) g x from ⟨HX.out.blk⟩)
                clear HB HX x0 x1 x2 x3 x4 x5 x6 x7
                have HB := HBd
                have HX := HXd
                clear HBd HXd
                generalize w4.drewN nq = w5 at *
                rw [HQ5.out] at A5
                go_wp2_with fail
                go_loopw [6] (fun v6 w' => v6 = .int .i64 0 ∧ Aside0 (XVl w' g x) ∧ Aside0 (Below w.heap.size w w')) (fun _ _ => 0)
                case atStart => exact ⟨rfl, HX, HB⟩
                case round =>
                  clear HB HX
                  obtain ⟨rfl, HX, HB⟩ := hrel
                  have x4 := HX.out.c4
                  have x5 := HX.out.c5
                  have c1 := HC1.out
                  clear HX
                  go_wp2_with (go_at_call 18; with_reducible refine (A5.out _ HB.out).mono ?_; rintro e w6 ⟨rfl, hb2⟩; have n0_ := Aside0.mk (below_next HB.out hb2); clear HB hb2 x4 x5; have HB := n0_; clear n0_)
                  go_ret
                  exact ⟨by rw [HR.out]; rfl, HB.out⟩
      · skip
        have hb : bareB x = false := by unfold bareB plainB nestB; rw [HK.out]; simp only [f1, Bool.and_false, Bool.false_and, Bool.not_true]; rfl
        have HR : Aside0 (R = false) := ⟨by rw [HE.out, hb]; rfl⟩
        clear hb
        have g0 : (x.s.toList == []) = true := f0
        rw [f1] at x2
        go_wp2_with fail
        go_ret
        exact ⟨by rw [HR.out]; rfl, HB.out⟩
end Go.Proofs.YtnghlkbmfhkmoaaGreatDoor
namespace Go.Proofs.YtnghlkbmfhkmoaaGreatDoor
open Go.RowKit Go.Proofs.YtnghlkbmfhkmoaaGreatDoorW.PrintWords Go.Proofs.YtnghlkbmfhkmoaaGreatDoorW.PrintLast Go.Proofs.YtnghlkbmfhkmoaaGreatDoorW.PrintMore Hy
set_option maxHeartbeats 4000000 in
set_option maxRecDepth 100000 in
theorem rmv_1 (W w : World) (x : Vl) (d : Int) (f : Nat) (hk : x.kind = 1) (h0 : 0 ≤ d) (hd1 : d < 9223372036854775808) (hx : VlOk W x) (hs : SmV W (f + 1) x) (hW : Below W.heap.size W w) (_HV : RMV W f) (HKs : RMKs W f) :
    Calls Tryz.prog 66 #[.agg (vlC x).toArray, .int .i64 d] w fun e w' => e = .returned (.bool (mayV W (f + 1) d x)) ∧ Below w.heap.size w w' := by
  obtain ⟨s1, s2, s3, hsL, hsM⟩ := hs.of
  have he : mayV W (f + 1) d x = (bareB x && (restB tbV d x.unk && true)) := by
    show (decide (0 ≤ d) && (bareB x && (restB tbV d x.unk && (if x.kind = 5 ∨ x.kind = 6 then _ else true)))) = _
    rw [decide_eq_true h0, if_neg (by omega)]
    rfl
  have A2 : Aside0 (∀ (w2 : World) (A : Option Addr) (c : Nat), Kd.C (Kd.int .i64) w2 A tbV.length (tbV.map fun (x : Nat) => (x : Int)) → tbV.length ≤ c → Calls Tryz.prog 19 #[.string x.unk, .int .i64 d, .slice A tbV.length c] w2 fun e w' => e = .returned (.bool (restB tbV d x.unk)) ∧ Below w2.heap.size w2 w') := ⟨fun w2 A c hC hc => by have h := unk_any tbV tbV_ok.1 tbV_ok.2 A c x.unk d w2 hC hc (by omega) hd1; rw [decide_eq_true h0, Bool.true_and] at h; exact h⟩
  have dl : decide (d < 0) = false := decide_eq_false (by omega)
  have w2_ : wrap64 (d - 2) = d - 2 := by unfold wrap64; omega
  have A5 := Aside0.mk (fun w2 (hb : Below w.heap.size w w2) => HKs w2 x.m (d - 2) (hW.trans (hb.mono hW.size)) hx.m hsM (by omega) (by omega))
  have hm0 : x.m.len = 0 → (kvs W x.m).all (mayK (mayV W f) (d - 2)) = true := fun h => by rw [List.length_eq_zero_iff.1 (((kvs_at hx.m).1).symm.trans h)]; rfl
  have HM0 := Aside0.mk hm0
  clear hm0
  have A1s := Aside0.mk (fun w2 => text_same x.s w2 (by omega))
  have HW := Aside0.mk hW
  unfold Sl.v at A5
  generalize mayV W (f + 1) d x = R at *
  generalize hq2 : restB tbV d x.unk = q2 at *
  generalize hq1 : vld (bs x.s) = q1 at *
  generalize hq5 : (kvs W x.m).all (mayK (mayV W f) (d - 2)) = q5 at *
  have HE := Aside0.mk he
  have HK := Aside0.mk hk
  have HQ1 := Aside0.mk hq1
  clear he hk hx hs hW _HV HKs s1 s2 s3 hsL hsM hd1 hq2 hq5 hq1
  go_enter Tryz.func66, Tryz.ntmps66
  go_upto_region 1 with (with_reducible refine gate_dst (N := 2) rfl ?_; refine Great.wpList_boxTo rfl 57 _ rfl _ rfl w.heap.size rfl (vlC x).toArray rfl ?_)
  have HX : Aside0 (XVl (w.alloc (.cells (vlC x).toArray 57)) w.heap.size x) := ⟨⟨heap_alloc_new w _⟩⟩
  have HB : Aside0 (Below w.heap.size w (w.alloc (.cells (vlC x).toArray 57))) := ⟨(Below.refl _ _).alloc (Nat.le_refl _) _⟩
  generalize (w.alloc (.cells (vlC x).toArray 57)) = w1 at *
  generalize hg : w.heap.size = g at HX ⊢
  clear hg
  have HBd := Aside0.mk (below_drew1 HB.out)
  have HXd := Aside0.mk (show XVl w1.drew g x from ⟨HX.out.blk⟩)
  clear HB HX
  have HB := HBd
  have HX := HXd
  clear HBd HXd
  refine start_ (n := 20) (S := fun w' => w'.cell? ⟨g, 0, none⟩ = some (.int .i64 1) ∧ w'.cell? ⟨g, 7, none⟩ = some (.string x.unk)) (ds := []) #[false, false, false, false, false, false, false, false, false, false, false, false, false, false, false, false, false, false, false, false] (by kernel_rfl) rfl rfl ⟨(xkind HX.out HK.out), HX.out.c7⟩ (fun hHeld => ?_)
  refine pure_ (i := 0) (N := some 7) (v := ?_) (a' := ?_) (mkM 20 1) rfl rfl (by kernel_rfl) (fun _ _ _ h => h) (Or.inl ⟨by rfl, ?_⟩) ?_ ?_
  rotate_left
  · intro w'
    go_simp
    with_reducible rfl
  rotate_left
  · simp only [Act.put, s1_, s2_, s3_]
    rfl
  refine pure_ (i := 1) (N := some 8) (v := ?_) (a' := ?_) (mkM 20 3) rfl rfl (by kernel_rfl) (fun _ _ _ h => h) (Or.inl ⟨by rfl, ?_⟩) ?_ ?_
  rotate_left
  · intro w'
    go_simp
    with_reducible rfl
  rotate_left
  · simp only [Act.put, s1_, s2_, s3_]
    rfl
  refine pure_ (i := 2) (N := some 9) (v := ?_) (a' := ?_) (mkM 20 7) rfl rfl (by kernel_rfl) (fun _ _ _ h => h) (Or.inl ⟨by rfl, ?_⟩) ?_ ?_
  rotate_left
  · intro w'
    go_simp
    with_reducible rfl
  rotate_left
  · simp only [Act.put, s1_, s2_, s3_]
    rfl
  refine pure_ (i := 3) (N := some 10) (v := ?_) (a' := ?_) (mkM 20 15) rfl rfl (by kernel_rfl) (fun _ _ _ h => h) (Or.inl ⟨by rfl, ?_⟩) ?_ ?_
  rotate_left
  · intro w'
    go_simp
    with_reducible rfl
  rotate_left
  · simp only [Act.put, s1_, s2_, s3_]
    rfl
  refine take_ (i := 4) (N := some 11) (v := ?_) (a' := ?_) (mkM 20 31) rfl rfl (by kernel_rfl) (fun _ _ _ h => h) (Or.inl ⟨by rfl, ?_⟩) hHeld ?_ ?_
  rotate_left
  · rintro w' ⟨s0, s1⟩
    go_simp
    with_reducible rfl
  rotate_left
  · simp only [Act.put, s1_, s2_, s3_]
    rfl
  refine pure_ (i := 5) (N := some 12) (v := ?_) (a' := ?_) (mkM 20 63) rfl rfl (by kernel_rfl) (fun _ _ _ h => h) (Or.inl ⟨by rfl, ?_⟩) ?_ ?_
  rotate_left
  · intro w'
    go_simp
    with_reducible rfl
  rotate_left
  · simp only [Act.put, s1_, s2_, s3_]
    rfl
  refine pure_ (i := 6) (N := some 13) (v := ?_) (a' := ?_) (mkM 20 127) rfl rfl (by kernel_rfl) (fun _ _ _ h => h) (Or.inl ⟨by rfl, ?_⟩) ?_ ?_
  rotate_left
  · intro w'
    go_simp
    with_reducible rfl
  rotate_left
  · simp only [Act.put, s1_, s2_, s3_]
    rfl
  refine pure_ (i := 7) (N := some 14) (v := ?_) (a' := ?_) (mkM 20 255) rfl rfl (by kernel_rfl) (fun _ _ _ h => h) (Or.inl ⟨by rfl, ?_⟩) ?_ ?_
  rotate_left
  · intro w'
    go_simp
    with_reducible rfl
  rotate_left
  · simp only [Act.put, s1_, s2_, s3_]
    rfl
  refine pure_ (i := 8) (N := some 15) (v := ?_) (a' := ?_) (mkM 20 511) rfl rfl (by kernel_rfl) (fun _ _ _ h => h) (Or.inl ⟨by rfl, ?_⟩) ?_ ?_
  rotate_left
  · intro w'
    go_simp
    with_reducible rfl
  rotate_left
  · simp only [Act.put, s1_, s2_, s3_]
    rfl
  refine take_ (i := 9) (N := some 16) (v := ?_) (a' := ?_) (mkM 20 1023) rfl rfl (by kernel_rfl) (fun _ _ _ h => h) (Or.inl ⟨by rfl, ?_⟩) hHeld ?_ ?_
  rotate_left
  · rintro w' ⟨s0, s1⟩
    go_simp
    with_reducible rfl
  rotate_left
  · simp only [Act.put, s1_, s2_, s3_]
    rfl
  refine pure_ (i := 10) (N := some 17) (v := ?_) (a' := ?_) (mkM 20 2047) rfl rfl (by kernel_rfl) (fun _ _ _ h => h) (Or.inl ⟨by rfl, ?_⟩) ?_ ?_
  rotate_left
  · intro w'
    go_simp
    with_reducible rfl
  rotate_left
  · simp only [Act.put, s1_, s2_, s3_]
    rfl
  refine pure_ (i := 11) (N := some 18) (v := ?_) (a' := ?_) (mkM 20 4095) rfl rfl (by kernel_rfl) (fun _ _ _ h => h) (Or.inl ⟨by rfl, ?_⟩) ?_ ?_
  rotate_left
  · intro w'
    go_simp
    with_reducible rfl
  rotate_left
  · simp only [Act.put, s1_, s2_, s3_]
    rfl
  refine pure_ (i := 12) (N := some 19) (v := ?_) (a' := ?_) (mkM 20 8191) rfl rfl (by kernel_rfl) (fun _ _ _ h => h) (Or.inl ⟨by rfl, ?_⟩) ?_ ?_
  rotate_left
  · intro w'
    go_simp
    with_reducible rfl
  rotate_left
  · simp only [Act.put, s1_, s2_, s3_]
    rfl
  refine pure_ (i := 13) (N := some 20) (v := ?_) (a' := ?_) (mkM 20 16383) rfl rfl (by kernel_rfl) (fun _ _ _ h => h) (Or.inl ⟨by rfl, ?_⟩) ?_ ?_
  rotate_left
  · intro w'
    go_simp
    with_reducible rfl
  rotate_left
  · simp only [Act.put, s1_, s2_, s3_]
    rfl
  refine pure_ (i := 15) (N := some 22) (v := ?_) (a' := ?_) (mkM 20 49151) rfl rfl (by kernel_rfl) (fun _ _ _ h => h) (Or.inl ⟨by rfl, ?_⟩) ?_ ?_
  rotate_left
  · intro w'
    go_simp
    with_reducible rfl
  rotate_left
  · simp only [Act.put, s1_, s2_, s3_]
    rfl
  refine take_ (i := 14) (N := some 21) (v := ?_) (a' := ?_) (mkM 20 65535) rfl rfl (by kernel_rfl) (fun _ _ _ h => h) (Or.inl ⟨by rfl, ?_⟩) hHeld ?_ ?_
  rotate_left
  · rintro w' ⟨s0, s1⟩
    go_simp
    with_reducible rfl
  rotate_left
  · simp only [Act.put, s1_, s2_, s3_]
    rfl
  refine one_ (i := 16) (N := some 23) (mkM 20 131071) rfl rfl (by kernel_rfl) (by decide) (fun K hK => ?_)
  refine goes_ Tryz.func83 (by kernel_rfl) rfl #[] (by rfl) rfl rfl (by simp only [List.map_toArray, List.map_nil]) ?_
  with_reducible refine (hygref8_values_at _).mono ?_
  rintro e w3 ⟨A, c, rfl, hC, hc, hb⟩
  refine ⟨_, rfl, ?_⟩
  have HT := Aside0.mk (And.intro hC hc)
  clear hC hc
  replace HB := Aside0.mk (below_next HB.out hb)
  replace HX := Aside0.mk (HX.out.below hb)
  clear hb
  refine hK.out _ _ ⟨(xkind HX.out HK.out), HX.out.c7⟩ (fun hHeld => ?_)
  clear hK K
  refine norm_ (a' := ?_) ?_ ?_
  rotate_left
  · show Act.put _ (some 23) _ = _
    simp only [Act.put, s1_, s2_, s3_]
    rfl
  refine one_ (i := 17) (N := some 24) (mkM 20 262143) rfl rfl (by kernel_rfl) (by decide) (fun K hK => ?_)
  refine goes_ Tryz.func19 (by kernel_rfl) rfl #[.string x.unk, .int .i64 d, .slice A tbV.length c] (by rfl) rfl rfl (by simp only [List.map_toArray, List.map_cons, List.map_nil]; rfl) ?_
  with_reducible refine (A2.out _ _ _ HT.out.1 HT.out.2).mono ?_
  rintro e w4 ⟨rfl, hb⟩
  refine ⟨_, rfl, ?_⟩
  clear HT
  replace HB := Aside0.mk (below_next HB.out hb)
  replace HX := Aside0.mk (HX.out.below hb)
  clear hb
  refine hK.out _ _ ⟨(xkind HX.out HK.out), HX.out.c7⟩ (fun hHeld => ?_)
  clear hK K
  refine norm_ (a' := ?_) ?_ ?_
  rotate_left
  · show Act.put _ (some 24) _ = _
    simp only [Act.put, s1_, s2_, s3_]
    rfl
  refine pure_ (i := 18) (N := some 25) (v := ?_) (a' := ?_) (mkM 20 524287) rfl rfl (by kernel_rfl) (fun _ _ _ h => h) (Or.inl ⟨by rfl, ?_⟩) ?_ ?_
  rotate_left
  · intro w'
    go_simp
    with_reducible rfl
  rotate_left
  · simp only [Act.put, s1_, s2_, s3_]
    rfl
  refine pure_ (i := 19) (N := some 26) (v := ?_) (a' := ?_) (mkM 20 1048575) rfl rfl (by kernel_rfl) (fun _ _ _ h => h) (Or.inl ⟨by rfl, ?_⟩) ?_ ?_
  rotate_left
  · intro w'
    go_simp
    with_reducible rfl
  rotate_left
  · simp only [Act.put, s1_, s2_, s3_]
    rfl
  refine done_ (by kernel_rfl) ?_
  cases q2
  · have HR : Aside0 (R = false) := ⟨by rw [HE.out]; simp⟩
    go_wp2_with fail
    go_ret
    exact ⟨by rw [HR.out]; rfl, HB.out⟩
  · skip
    have x0 := xkind HX.out HK.out
    have x1 := HX.out.c1
    have x2 := HX.out.c2
    have x3 := HX.out.c3
    have x4 := HX.out.c4
    have x5 := HX.out.c5
    have x6 := HX.out.c6
    have x7 := HX.out.c7
    go_upto_region 4 with fail
    simp only [List.append_eq, List.cons_append, List.nil_append]
    cases f0 : x.b
    · skip
      cases f1 : decide (x.n = 0)
      · skip
        have hb : bareB x = false := by unfold bareB plainB nestB; rw [HK.out]; simp only [f1, Bool.and_false, Bool.false_and]; rfl
        have HR : Aside0 (R = false) := ⟨by rw [HE.out, hb]; rfl⟩
        clear hb
        rw [f0] at x2
        have g1 : (x.n != 0) = true := by rw [bne, int_b, f1]; rfl
        go_wp2_with fail
        go_ret
        exact ⟨by rw [HR.out]; rfl, HB.out⟩
      · skip
        cases f2 : decide (x.l.len = 0)
        · skip
          have hb : bareB x = false := by unfold bareB plainB nestB; rw [HK.out]; simp only [f2, Bool.and_false, Bool.false_and]; rfl
          have HR : Aside0 (R = false) := ⟨by rw [HE.out, hb]; rfl⟩
          clear hb
          rw [f0] at x2
          have g1 : (x.n != 0) = false := by rw [bne, int_b, f1]; rfl
          have g2 : (x.l.len : Int) > 0 := by have h_ := of_decide_eq_false f2; omega
          have k2 : decide ((x.l.len : Int) > 0) = true := decide_eq_true g2
          go_wp2_with fail
          go_ret
          exact ⟨by rw [HR.out]; rfl, HB.out⟩
        · skip
          cases f3 : decide (x.m.len = 0)
          · skip
            have hb : bareB x = false := by unfold bareB plainB nestB; rw [HK.out]; simp only [f3, Bool.and_false, Bool.false_and]; rfl
            have HR : Aside0 (R = false) := ⟨by rw [HE.out, hb]; rfl⟩
            clear hb
            rw [f0] at x2
            have g1 : (x.n != 0) = false := by rw [bne, int_b, f1]; rfl
            have g2 : ¬ (x.l.len : Int) > 0 := by have h_ := of_decide_eq_true f2; omega
            have k2 : decide ((x.l.len : Int) > 0) = false := decide_eq_false g2
            have g3 : (x.m.len : Int) > 0 := by have h_ := of_decide_eq_false f3; omega
            have k3 : decide ((x.m.len : Int) > 0) = true := decide_eq_true g3
            go_wp2_with fail
            go_ret
            exact ⟨by rw [HR.out]; rfl, HB.out⟩
          · skip
            cases f4 : emB x.inner
            · skip
              have hb : bareB x = false := by unfold bareB plainB nestB; rw [HK.out]; simp only [f4, Bool.and_false]; rfl
              have HR : Aside0 (R = false) := ⟨by rw [HE.out, hb]; rfl⟩
              clear hb
              rw [f0] at x2
              have g1 : (x.n != 0) = false := by rw [bne, int_b, f1]; rfl
              have g2 : ¬ (x.l.len : Int) > 0 := by have h_ := of_decide_eq_true f2; omega
              have k2 : decide ((x.l.len : Int) > 0) = false := decide_eq_false g2
              have g3 : ¬ (x.m.len : Int) > 0 := by have h_ := of_decide_eq_true f3; omega
              have k3 : decide ((x.m.len : Int) > 0) = false := decide_eq_false g3
              have g4 : (x.inner.toList == []) = false := f4
              go_wp2_with fail
              go_ret
              exact ⟨by rw [HR.out]; rfl, HB.out⟩
            · skip
              have hb : bareB x = q1 := by unfold bareB plainB nestB; rw [HK.out]; simp only [f0, f1, f2, f3, f4, Bool.not_false, HQ1.out, Bool.and_true]; rfl
              have HB_ := Aside0.mk hb
              clear hb
              have HQ5 : Aside0 (q5 = true) := ⟨HM0.out (of_decide_eq_true f3)⟩
              have HC1 := Aside0.mk (show ¬ (0 : Int) < (x.l.len : Int) by have h_ := of_decide_eq_true f2; omega)
              rw [f0] at x2
              have g1 : (x.n != 0) = false := by rw [bne, int_b, f1]; rfl
              have g2 : ¬ (x.l.len : Int) > 0 := by have h_ := of_decide_eq_true f2; omega
              have k2 : decide ((x.l.len : Int) > 0) = false := decide_eq_false g2
              have g3 : ¬ (x.m.len : Int) > 0 := by have h_ := of_decide_eq_true f3; omega
              have k3 : decide ((x.m.len : Int) > 0) = false := decide_eq_false g3
              have g4 : (x.inner.toList == []) = true := f4
              go_upto_region 6 with fail
              try clear k2
              try clear g2
              try clear f2
              try clear k3
              try clear g3
              try clear f3
              rw [show x.m.len = 0 by assumption] at A5
              cases q1
              · skip
                go_quiet ((go_at_call 64; exact Calls.quiet_of_same (A1s.out _)))
                have HR : Aside0 (R = false) := ⟨by rw [HE.out, HB_.out]; rfl⟩
                go_wp2_with fail
                go_ret
                exact ⟨by rw [HR.out]; rfl, pw_below_drewN HB.out _⟩
              · skip
                go_quiet ((go_at_call 64; exact Calls.quiet_of_same (A1s.out _)))
                have HR : Aside0 (R = true) := ⟨by rw [HE.out, HB_.out]; rfl⟩
                have HBd : Aside0 (Below w.heap.size w (w4.drewN nq)) := ⟨pw_below_drewN HB.out _⟩
                have HXd := Aside0.mk (show XVl (w4.drewN nq) g x from ⟨HX.out.blk⟩)
                clear HB HX x0 x1 x2 x3 x4 x5 x6 x7
                have HB := HBd
                have HX := HXd
                clear HBd HXd
                generalize w4.drewN nq = w5 at *
                rw [HQ5.out] at A5
                go_wp2_with fail
                go_loopw [6] (fun v6 w' => v6 = .int .i64 0 ∧ Aside0 (XVl w' g x) ∧ Aside0 (Below w.heap.size w w')) (fun _ _ => 0)
                case atStart => exact ⟨rfl, HX, HB⟩
                case round =>
                  clear HB HX
                  obtain ⟨rfl, HX, HB⟩ := hrel
                  have x4 := HX.out.c4
                  have x5 := HX.out.c5
                  have c1 := HC1.out
                  clear HX
                  go_wp2_with (go_at_call 18; with_reducible refine (A5.out _ HB.out).mono ?_; rintro e w6 ⟨rfl, hb2⟩; have n0_ := Aside0.mk (below_next HB.out hb2); clear HB hb2 x4 x5; have HB := n0_; clear n0_)
                  go_ret
                  exact ⟨by rw [HR.out]; rfl, HB.out⟩
    · skip
      have hb : bareB x = false := by unfold bareB plainB nestB; rw [HK.out]; simp only [f0, Bool.and_false, Bool.false_and, Bool.not_true]; rfl
      have HR : Aside0 (R = false) := ⟨by rw [HE.out, hb]; rfl⟩
      clear hb
      rw [f0] at x2
      go_wp2_with fail
      go_ret
      exact ⟨by rw [HR.out]; rfl, HB.out⟩
end Go.Proofs.YtnghlkbmfhkmoaaGreatDoor
