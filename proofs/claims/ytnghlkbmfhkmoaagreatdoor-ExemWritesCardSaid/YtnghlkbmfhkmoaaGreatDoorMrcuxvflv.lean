import Derived.Test.YtnghlkbmfhkmoaaGreatDoorMcliivxoa
namespace Go.Proofs.YtnghlkbmfhkmoaaGreatDoor
open Go.RowKit Go.Proofs.YtnghlkbmfhkmoaaGreatDoorW.PrintWords Go.Proofs.YtnghlkbmfhkmoaaGreatDoorW.PrintLast Go.Proofs.YtnghlkbmfhkmoaaGreatDoorW.PrintMore Hy
set_option maxHeartbeats 4000000 in
set_option maxRecDepth 100000 in
theorem rmv_5 (W w : World) (x : Vl) (d : Int) (f : Nat) (hk : x.kind = 5) (h0 : 0 ≤ d) (hd1 : d < 9223372036854775808) (hx : VlOk W x) (hs : SmV W (f + 1) x) (hW : Below W.heap.size W w) (HV : RMV W f) (HKs : RMKs W f) :
    Calls Tryz.prog 66 #[.agg (vlC x).toArray, .int .i64 d] w fun e w' => e = .returned (.bool (mayV W (f + 1) d x)) ∧ Below w.heap.size w w' := by
  obtain ⟨s1, s2, s3, hsL, hsM⟩ := hs.of
  have he : mayV W (f + 1) d x = (bareB x && (restB tbV d x.unk && ((decide (0 ≤ d - 1) && restB tbL (d - 1) x.inner) && ((vls W x.l).all (mayV W f (d - 2)) && (kvs W x.m).all (mayK (mayV W f) (d - 2)))))) := by
    show (decide (0 ≤ d) && (bareB x && (restB tbV d x.unk && (if x.kind = 5 ∨ x.kind = 6 then decide (1 ≤ d) && (restB tbL (d - 1) x.inner && ((vls W x.l).all (mayV W f (d - 2)) && (kvs W x.m).all (mayK (mayV W f) (d - 2)))) else true)))) = _
    rw [decide_eq_true h0, if_pos (by omega), Bool.true_and, Bool.and_assoc, show decide (0 ≤ d - 1) = decide (1 ≤ d) from decide_eq_decide.2 (by omega)]
  have A2 : Aside0 (∀ (w2 : World) (A : Option Addr) (c : Nat), Kd.C (Kd.int .i64) w2 A tbV.length (tbV.map fun (x : Nat) => (x : Int)) → tbV.length ≤ c → Calls Tryz.prog 19 #[.string x.unk, .int .i64 d, .slice A tbV.length c] w2 fun e w' => e = .returned (.bool (restB tbV d x.unk)) ∧ Below w2.heap.size w2 w') := ⟨fun w2 A c hC hc => by have h := unk_any tbV tbV_ok.1 tbV_ok.2 A c x.unk d w2 hC hc (by omega) hd1; rw [decide_eq_true h0, Bool.true_and] at h; exact h⟩
  have dl : decide (d < 0) = false := decide_eq_false (by omega)
  have w2_ : wrap64 (d - 2) = d - 2 := by unfold wrap64; omega
  have A6 : Aside0 (∀ (w2 : World) (A : Option Addr) (c : Nat), Kd.C (Kd.int .i64) w2 A tbL.length (tbL.map fun (x : Nat) => (x : Int)) → tbL.length ≤ c → Calls Tryz.prog 19 #[.string x.inner, .int .i64 (wrap64 (d - 1)), .slice A tbL.length c] w2 fun e w' => e = .returned (.bool (decide (0 ≤ d - 1) && restB tbL (d - 1) x.inner)) ∧ Below w2.heap.size w2 w') := ⟨fun w2 A c hC hc => by rw [show wrap64 (d - 1) = d - 1 by unfold wrap64; omega]; exact unk_any tbL tbL_ok.1 tbL_ok.2 A c x.inner (d - 1) w2 hC hc (by omega) (by omega)⟩
  have A5 := Aside0.mk (fun w2 (hb : Below w.heap.size w w2) => HKs w2 x.m (d - 2) (hW.trans (hb.mono hW.size)) hx.m hsM (by omega) (by omega))
  have hm0 : x.m.len = 0 → (kvs W x.m).all (mayK (mayV W f) (d - 2)) = true := fun h => by rw [List.length_eq_zero_iff.1 (((kvs_at hx.m).1).symm.trans h)]; rfl
  have HM0 := Aside0.mk hm0
  clear hm0
  have hl := vls_at hx.l
  have hok := VlOk.ls hx
  generalize vls W x.l = l at *
  have hln : x.l.len = l.length := hl.1
  have hlm : l.length ≤ 9223372036854775807 := by have h := hl.2.1; have h2 := hl.2.2.1; unfold maxLen at h2; omega
  have HL := Aside0.mk hl
  have HLN := Aside0.mk hln
  have HF := Aside0.mk hsL
  have HD1 := Aside0.mk hd1
  have HVV := Aside0.mk HV
  clear hl hln hok
  have HW := Aside0.mk hW
  unfold Sl.v at A5
  generalize mayV W (f + 1) d x = R at *
  generalize hq2 : restB tbV d x.unk = q2 at *
  generalize hq6 : (decide (0 ≤ d - 1) && restB tbL (d - 1) x.inner) = q6 at *
  generalize hq5 : (kvs W x.m).all (mayK (mayV W f) (d - 2)) = q5 at *
  have HE := Aside0.mk he
  have HK := Aside0.mk hk
  clear he hk hx hs hW HV HKs s1 s2 s3 hsL hsM hd1 hq2 hq5 hq6
  go_enter Tryz.func66, Tryz.ntmps66
  go_upto_region 1 with (with_reducible refine gate_dst (N := 2) rfl ?_; refine Great.wpList_boxTo rfl 57 _ rfl _ rfl w.heap.size rfl (vlC x).toArray rfl ?_)
  have HX : Aside0 (XVl (w.alloc (.cells (vlC x).toArray 57)) w.heap.size x) := ⟨⟨heap_alloc_new w _⟩⟩
  have HB : Aside0 (Below w.heap.size w (w.alloc (.cells (vlC x).toArray 57))) := ⟨(Below.refl _ _).alloc (Nat.le_refl _) _⟩
  generalize (w.alloc (.cells (vlC x).toArray 57)) = w1 at *
  generalize hg : w.heap.size = g at HX ⊢
  clear hg
  have HBd := Aside0.mk (below_drew1 HB.out)
  have HXd := Aside0.mk (show XVl w1.drew g x from ⟨HX.out.blk⟩)
  clear HB HX
  have HB := HBd
  have HX := HXd
  clear HBd HXd
  refine start_ (n := 20) (S := fun w' => w'.cell? ⟨g, 0, none⟩ = some (.int .i64 5) ∧ w'.cell? ⟨g, 7, none⟩ = some (.string x.unk)) (ds := []) #[false, false, false, false, false, false, false, false, false, false, false, false, false, false, false, false, false, false, false, false] (by kernel_rfl) rfl rfl ⟨(xkind HX.out HK.out), HX.out.c7⟩ (fun hHeld => ?_)
  refine pure_ (i := 0) (N := some 7) (v := ?_) (a' := ?_) (mkM 20 1) rfl rfl (by kernel_rfl) (fun _ _ _ h => h) (Or.inl ⟨by rfl, ?_⟩) ?_ ?_
  rotate_left
  · intro w'
    go_simp
    with_reducible rfl
  rotate_left
  · simp only [Act.put, s1_, s2_, s3_]
    rfl
  refine pure_ (i := 1) (N := some 8) (v := ?_) (a' := ?_) (mkM 20 3) rfl rfl (by kernel_rfl) (fun _ _ _ h => h) (Or.inl ⟨by rfl, ?_⟩) ?_ ?_
  rotate_left
  · intro w'
    go_simp
    with_reducible rfl
  rotate_left
  · simp only [Act.put, s1_, s2_, s3_]
    rfl
  refine pure_ (i := 2) (N := some 9) (v := ?_) (a' := ?_) (mkM 20 7) rfl rfl (by kernel_rfl) (fun _ _ _ h => h) (Or.inl ⟨by rfl, ?_⟩) ?_ ?_
  rotate_left
  · intro w'
    go_simp
    with_reducible rfl
  rotate_left
  · simp only [Act.put, s1_, s2_, s3_]
    rfl
  refine pure_ (i := 3) (N := some 10) (v := ?_) (a' := ?_) (mkM 20 15) rfl rfl (by kernel_rfl) (fun _ _ _ h => h) (Or.inl ⟨by rfl, ?_⟩) ?_ ?_
  rotate_left
  · intro w'
    go_simp
    with_reducible rfl
  rotate_left
  · simp only [Act.put, s1_, s2_, s3_]
    rfl
  refine take_ (i := 4) (N := some 11) (v := ?_) (a' := ?_) (mkM 20 31) rfl rfl (by kernel_rfl) (fun _ _ _ h => h) (Or.inl ⟨by rfl, ?_⟩) hHeld ?_ ?_
  rotate_left
  · rintro w' ⟨s0, s1⟩
    go_simp
    with_reducible rfl
  rotate_left
  · simp only [Act.put, s1_, s2_, s3_]
    rfl
  refine pure_ (i := 5) (N := some 12) (v := ?_) (a' := ?_) (mkM 20 63) rfl rfl (by kernel_rfl) (fun _ _ _ h => h) (Or.inl ⟨by rfl, ?_⟩) ?_ ?_
  rotate_left
  · intro w'
    go_simp
    with_reducible rfl
  rotate_left
  · simp only [Act.put, s1_, s2_, s3_]
    rfl
  refine pure_ (i := 6) (N := some 13) (v := ?_) (a' := ?_) (mkM 20 127) rfl rfl (by kernel_rfl) (fun _ _ _ h => h) (Or.inl ⟨by rfl, ?_⟩) ?_ ?_
  rotate_left
  · intro w'
    go_simp
    with_reducible rfl
  rotate_left
  · simp only [Act.put, s1_, s2_, s3_]
    rfl
  refine pure_ (i := 7) (N := some 14) (v := ?_) (a' := ?_) (mkM 20 255) rfl rfl (by kernel_rfl) (fun _ _ _ h => h) (Or.inl ⟨by rfl, ?_⟩) ?_ ?_
  rotate_left
  · intro w'
    go_simp
    with_reducible rfl
  rotate_left
  · simp only [Act.put, s1_, s2_, s3_]
    rfl
  refine pure_ (i := 8) (N := some 15) (v := ?_) (a' := ?_) (mkM 20 511) rfl rfl (by kernel_rfl) (fun _ _ _ h => h) (Or.inl ⟨by rfl, ?_⟩) ?_ ?_
  rotate_left
  · intro w'
    go_simp
    with_reducible rfl
  rotate_left
  · simp only [Act.put, s1_, s2_, s3_]
    rfl
  refine take_ (i := 9) (N := some 16) (v := ?_) (a' := ?_) (mkM 20 1023) rfl rfl (by kernel_rfl) (fun _ _ _ h => h) (Or.inl ⟨by rfl, ?_⟩) hHeld ?_ ?_
  rotate_left
  · rintro w' ⟨s0, s1⟩
    go_simp
    with_reducible rfl
  rotate_left
  · simp only [Act.put, s1_, s2_, s3_]
    rfl
  refine pure_ (i := 10) (N := some 17) (v := ?_) (a' := ?_) (mkM 20 2047) rfl rfl (by kernel_rfl) (fun _ _ _ h => h) (Or.inl ⟨by rfl, ?_⟩) ?_ ?_
  rotate_left
  · intro w'
    go_simp
    with_reducible rfl
  rotate_left
  · simp only [Act.put, s1_, s2_, s3_]
    rfl
  refine pure_ (i := 11) (N := some 18) (v := ?_) (a' := ?_) (mkM 20 4095) rfl rfl (by kernel_rfl) (fun _ _ _ h => h) (Or.inl ⟨by rfl, ?_⟩) ?_ ?_
  rotate_left
  · intro w'
    go_simp
    with_reducible rfl
  rotate_left
  · simp only [Act.put, s1_, s2_, s3_]
    rfl
  refine pure_ (i := 12) (N := some 19) (v := ?_) (a' := ?_) (mkM 20 8191) rfl rfl (by kernel_rfl) (fun _ _ _ h => h) (Or.inl ⟨by rfl, ?_⟩) ?_ ?_
  rotate_left
  · intro w'
    go_simp
    with_reducible rfl
  rotate_left
  · simp only [Act.put, s1_, s2_, s3_]
    rfl
  refine pure_ (i := 13) (N := some 20) (v := ?_) (a' := ?_) (mkM 20 16383) rfl rfl (by kernel_rfl) (fun _ _ _ h => h) (Or.inl ⟨by rfl, ?_⟩) ?_ ?_
  rotate_left
  · intro w'
    go_simp
    with_reducible rfl
  rotate_left
  · simp only [Act.put, s1_, s2_, s3_]
    rfl
  refine pure_ (i := 15) (N := some 22) (v := ?_) (a' := ?_) (mkM 20 49151) rfl rfl (by kernel_rfl) (fun _ _ _ h => h) (Or.inl ⟨by rfl, ?_⟩) ?_ ?_
  rotate_left
  · intro w'
    go_simp
    with_reducible rfl
  rotate_left
  · simp only [Act.put, s1_, s2_, s3_]
    rfl
  refine take_ (i := 14) (N := some 21) (v := ?_) (a' := ?_) (mkM 20 65535) rfl rfl (by kernel_rfl) (fun _ _ _ h => h) (Or.inl ⟨by rfl, ?_⟩) hHeld ?_ ?_
  rotate_left
  · rintro w' ⟨s0, s1⟩
    go_simp
    with_reducible rfl
  rotate_left
  · simp only [Act.put, s1_, s2_, s3_]
    rfl
  refine one_ (i := 16) (N := some 23) (mkM 20 131071) rfl rfl (by kernel_rfl) (by decide) (fun K hK => ?_)
  refine goes_ Tryz.func83 (by kernel_rfl) rfl #[] (by rfl) rfl rfl (by simp only [List.map_toArray, List.map_nil]) ?_
  with_reducible refine (hygref8_values_at _).mono ?_
  rintro e w3 ⟨A, c, rfl, hC, hc, hb⟩
  refine ⟨_, rfl, ?_⟩
  have HT := Aside0.mk (And.intro hC hc)
  clear hC hc
  replace HB := Aside0.mk (below_next HB.out hb)
  replace HX := Aside0.mk (HX.out.below hb)
  clear hb
  refine hK.out _ _ ⟨(xkind HX.out HK.out), HX.out.c7⟩ (fun hHeld => ?_)
  clear hK K
  refine norm_ (a' := ?_) ?_ ?_
  rotate_left
  · show Act.put _ (some 23) _ = _
    simp only [Act.put, s1_, s2_, s3_]
    rfl
  refine one_ (i := 17) (N := some 24) (mkM 20 262143) rfl rfl (by kernel_rfl) (by decide) (fun K hK => ?_)
  refine goes_ Tryz.func19 (by kernel_rfl) rfl #[.string x.unk, .int .i64 d, .slice A tbV.length c] (by rfl) rfl rfl (by simp only [List.map_toArray, List.map_cons, List.map_nil]; rfl) ?_
  with_reducible refine (A2.out _ _ _ HT.out.1 HT.out.2).mono ?_
  rintro e w4 ⟨rfl, hb⟩
  refine ⟨_, rfl, ?_⟩
  clear HT
  replace HB := Aside0.mk (below_next HB.out hb)
  replace HX := Aside0.mk (HX.out.below hb)
  clear hb
  refine hK.out _ _ ⟨(xkind HX.out HK.out), HX.out.c7⟩ (fun hHeld => ?_)
  clear hK K
  refine norm_ (a' := ?_) ?_ ?_
  rotate_left
  · show Act.put _ (some 24) _ = _
    simp only [Act.put, s1_, s2_, s3_]
    rfl
  refine pure_ (i := 18) (N := some 25) (v := ?_) (a' := ?_) (mkM 20 524287) rfl rfl (by kernel_rfl) (fun _ _ _ h => h) (Or.inl ⟨by rfl, ?_⟩) ?_ ?_
  rotate_left
  · intro w'
    go_simp
    with_reducible rfl
  rotate_left
  · simp only [Act.put, s1_, s2_, s3_]
    rfl
  refine pure_ (i := 19) (N := some 26) (v := ?_) (a' := ?_) (mkM 20 1048575) rfl rfl (by kernel_rfl) (fun _ _ _ h => h) (Or.inl ⟨by rfl, ?_⟩) ?_ ?_
  rotate_left
  · intro w'
    go_simp
    with_reducible rfl
  rotate_left
  · simp only [Act.put, s1_, s2_, s3_]
    rfl
  refine done_ (by kernel_rfl) ?_
  cases q2
  · have HR : Aside0 (R = false) := ⟨by rw [HE.out]; simp⟩
    go_wp2_with fail
    go_ret
    exact ⟨by rw [HR.out]; rfl, HB.out⟩
  · skip
    have x0 := xkind HX.out HK.out
    have x1 := HX.out.c1
    have x2 := HX.out.c2
    have x3 := HX.out.c3
    have x4 := HX.out.c4
    have x5 := HX.out.c5
    have x6 := HX.out.c6
    have x7 := HX.out.c7
    go_upto_region 4 with fail
    simp only [List.append_eq, List.cons_append, List.nil_append]
    cases f0 : emB x.s
    · skip
      have hb : bareB x = false := by unfold bareB plainB nestB; rw [HK.out]; simp only [f0, Bool.false_and]; rfl
      have HR : Aside0 (R = false) := ⟨by rw [HE.out, hb]; rfl⟩
      clear hb
      have g0 : (x.s.toList == []) = false := f0
      go_wp2_with fail
      go_ret
      exact ⟨by rw [HR.out]; rfl, HB.out⟩
    · skip
      cases f1 : x.b
      · skip
        cases f2 : decide (x.n = 0)
        · skip
          have hb : bareB x = false := by unfold bareB plainB nestB; rw [HK.out]; simp only [f2, Bool.and_false, Bool.false_and]; rfl
          have HR : Aside0 (R = false) := ⟨by rw [HE.out, hb]; rfl⟩
          clear hb
          have g0 : (x.s.toList == []) = true := f0
          rw [f1] at x2
          have g2 : (x.n != 0) = true := by rw [bne, int_b, f2]; rfl
          go_wp2_with fail
          go_ret
          exact ⟨by rw [HR.out]; rfl, HB.out⟩
        · skip
          cases f3 : decide (x.m.len = 0)
          · skip
            have hb : bareB x = false := by unfold bareB plainB nestB; rw [HK.out]; simp only [f3, Bool.and_false, Bool.false_and]; rfl
            have HR : Aside0 (R = false) := ⟨by rw [HE.out, hb]; rfl⟩
            clear hb
            have g0 : (x.s.toList == []) = true := f0
            rw [f1] at x2
            have g2 : (x.n != 0) = false := by rw [bne, int_b, f2]; rfl
            have g3 : (x.m.len : Int) > 0 := by have h_ := of_decide_eq_false f3; omega
            have k3 : decide ((x.m.len : Int) > 0) = true := decide_eq_true g3
            go_wp2_with fail
            go_ret
            exact ⟨by rw [HR.out]; rfl, HB.out⟩
          · skip
            have hb : bareB x = true := by unfold bareB plainB nestB; rw [HK.out]; simp only [f0, f1, f2, f3, Bool.not_false]; rfl
            have HB_ := Aside0.mk hb
            clear hb
            have HQ5 : Aside0 (q5 = true) := ⟨HM0.out (of_decide_eq_true f3)⟩
            have g0 : (x.s.toList == []) = true := f0
            rw [f1] at x2
            have g2 : (x.n != 0) = false := by rw [bne, int_b, f2]; rfl
            have g3 : ¬ (x.m.len : Int) > 0 := by have h_ := of_decide_eq_true f3; omega
            have k3 : decide ((x.m.len : Int) > 0) = false := decide_eq_false g3
            go_upto_region 6 with fail
            try clear k3
            try clear g3
            try clear f3
            rw [show x.m.len = 0 by assumption] at A5
            have HBd := Aside0.mk (below_drew1 HB.out)
            have HXd := Aside0.mk (show XVl w4.drew g x from ⟨HX.out.blk⟩)
            clear HB HX x0 x1 x2 x3 x4 x5 x6 x7
            have HB := HBd
            have HX := HXd
            clear HBd HXd
            refine start_ (n := 25) (S := fun w' => w'.cell? ⟨g, 6, none⟩ = some (.string x.inner)) (ds := []) #[false, false, false, false, false, false, false, false, false, false, false, false, false, false, false, false, false, false, false, false, false, false, false, false, false] (by kernel_rfl) rfl rfl (HX.out.c6) (fun hHeld => ?_)
            refine pure_ (i := 0) (N := some 94) (v := ?_) (a' := ?_) (mkM 25 1) rfl rfl (by kernel_rfl) (fun _ _ _ h => h) (Or.inl ⟨by rfl, ?_⟩) ?_ ?_
            rotate_left
            · intro w'
              go_simp
              with_reducible rfl
            rotate_left
            · simp only [Act.put, s1_, s2_, s3_]
              rfl
            refine pure_ (i := 1) (N := some 95) (v := ?_) (a' := ?_) (mkM 25 3) rfl rfl (by kernel_rfl) (fun _ _ _ h => h) (Or.inl ⟨by rfl, ?_⟩) ?_ ?_
            rotate_left
            · intro w'
              go_simp
              with_reducible rfl
            rotate_left
            · simp only [Act.put, s1_, s2_, s3_]
              rfl
            refine pure_ (i := 2) (N := some 96) (v := ?_) (a' := ?_) (mkM 25 7) rfl rfl (by kernel_rfl) (fun _ _ _ h => h) (Or.inl ⟨by rfl, ?_⟩) ?_ ?_
            rotate_left
            · intro w'
              go_simp
              with_reducible rfl
            rotate_left
            · simp only [Act.put, s1_, s2_, s3_]
              rfl
            refine pure_ (i := 3) (N := some 97) (v := undef) (a' := ?_) (mkM 25 15) rfl rfl (by kernel_rfl) (fun _ _ _ h => h) (Or.inr ⟨by rfl, rfl⟩) ?_ ?_
            rotate_left
            · simp only [Act.put, s1_, s2_, s3_]
              rfl
            refine pure_ (i := 4) (N := some 98) (v := undef) (a' := ?_) (mkM 25 31) rfl rfl (by kernel_rfl) (fun _ _ _ h => h) (Or.inr ⟨by rfl, rfl⟩) ?_ ?_
            rotate_left
            · simp only [Act.put, s1_, s2_, s3_]
              rfl
            refine pure_ (i := 5) (N := some 99) (v := undef) (a' := ?_) (mkM 25 63) rfl rfl (by kernel_rfl) (fun _ _ _ h => h) (Or.inr ⟨by rfl, rfl⟩) ?_ ?_
            rotate_left
            · simp only [Act.put, s1_, s2_, s3_]
              rfl
            refine pure_ (i := 6) (N := some 100) (v := undef) (a' := ?_) (mkM 25 127) rfl rfl (by kernel_rfl) (fun _ _ _ h => h) (Or.inr ⟨by rfl, rfl⟩) ?_ ?_
            rotate_left
            · simp only [Act.put, s1_, s2_, s3_]
              rfl
            refine pure_ (i := 7) (N := some 101) (v := ?_) (a' := ?_) (mkM 25 255) rfl rfl (by kernel_rfl) (fun _ _ _ h => h) (Or.inl ⟨by rfl, ?_⟩) ?_ ?_
            rotate_left
            · intro w'
              go_simp
              with_reducible rfl
            rotate_left
            · simp only [Act.put, s1_, s2_, s3_]
              rfl
            refine pure_ (i := 8) (N := some 102) (v := ?_) (a' := ?_) (mkM 25 511) rfl rfl (by kernel_rfl) (fun _ _ _ h => h) (Or.inl ⟨by rfl, ?_⟩) ?_ ?_
            rotate_left
            · intro w'
              go_simp
              with_reducible rfl
            rotate_left
            · simp only [Act.put, s1_, s2_, s3_]
              rfl
            refine pure_ (i := 9) (N := some 103) (v := ?_) (a' := ?_) (mkM 25 1023) rfl rfl (by kernel_rfl) (fun _ _ _ h => h) (Or.inl ⟨by rfl, ?_⟩) ?_ ?_
            rotate_left
            · intro w'
              go_simp
              with_reducible rfl
            rotate_left
            · simp only [Act.put, s1_, s2_, s3_]
              rfl
            refine pure_ (i := 10) (N := some 104) (v := ?_) (a' := ?_) (mkM 25 2047) rfl rfl (by kernel_rfl) (fun _ _ _ h => h) (Or.inl ⟨by rfl, ?_⟩) ?_ ?_
            rotate_left
            · intro w'
              go_simp
              with_reducible rfl
            rotate_left
            · simp only [Act.put, s1_, s2_, s3_]
              rfl
            refine pure_ (i := 11) (N := some 105) (v := ?_) (a' := ?_) (mkM 25 4095) rfl rfl (by kernel_rfl) (fun _ _ _ h => h) (Or.inl ⟨by rfl, ?_⟩) ?_ ?_
            rotate_left
            · intro w'
              go_simp
              with_reducible rfl
            rotate_left
            · simp only [Act.put, s1_, s2_, s3_]
              rfl
            refine pure_ (i := 12) (N := some 106) (v := ?_) (a' := ?_) (mkM 25 8191) rfl rfl (by kernel_rfl) (fun _ _ _ h => h) (Or.inl ⟨by rfl, ?_⟩) ?_ ?_
            rotate_left
            · intro w'
              go_simp
              with_reducible rfl
            rotate_left
            · simp only [Act.put, s1_, s2_, s3_]
              rfl
            refine pure_ (i := 13) (N := some 107) (v := ?_) (a' := ?_) (mkM 25 16383) rfl rfl (by kernel_rfl) (fun _ _ _ h => h) (Or.inl ⟨by rfl, ?_⟩) ?_ ?_
            rotate_left
            · intro w'
              go_simp
              with_reducible rfl
            rotate_left
            · simp only [Act.put, s1_, s2_, s3_]
              rfl
            refine pure_ (i := 14) (N := some 108) (v := ?_) (a' := ?_) (mkM 25 32767) rfl rfl (by kernel_rfl) (fun _ _ _ h => h) (Or.inl ⟨by rfl, ?_⟩) ?_ ?_
            rotate_left
            · intro w'
              go_simp
              with_reducible rfl
            rotate_left
            · simp only [Act.put, s1_, s2_, s3_]
              rfl
            refine pure_ (i := 15) (N := some 109) (v := ?_) (a' := ?_) (mkM 25 65535) rfl rfl (by kernel_rfl) (fun _ _ _ h => h) (Or.inl ⟨by rfl, ?_⟩) ?_ ?_
            rotate_left
            · intro w'
              go_simp
              with_reducible rfl
            rotate_left
            · simp only [Act.put, s1_, s2_, s3_]
              rfl
            refine pure_ (i := 16) (N := some 110) (v := ?_) (a' := ?_) (mkM 25 131071) rfl rfl (by kernel_rfl) (fun _ _ _ h => h) (Or.inl ⟨by rfl, ?_⟩) ?_ ?_
            rotate_left
            · intro w'
              go_simp
              with_reducible rfl
            rotate_left
            · simp only [Act.put, s1_, s2_, s3_]
              rfl
            refine pure_ (i := 18) (N := some 112) (v := ?_) (a' := ?_) (mkM 25 393215) rfl rfl (by kernel_rfl) (fun _ _ _ h => h) (Or.inl ⟨by rfl, ?_⟩) ?_ ?_
            rotate_left
            · intro w'
              go_simp
              with_reducible rfl
            rotate_left
            · simp only [Act.put, s1_, s2_, s3_]
              rfl
            refine pure_ (i := 19) (N := some 113) (v := ?_) (a' := ?_) (mkM 25 917503) rfl rfl (by kernel_rfl) (fun _ _ _ h => h) (Or.inl ⟨by rfl, ?_⟩) ?_ ?_
            rotate_left
            · intro w'
              go_simp
              with_reducible rfl
            rotate_left
            · simp only [Act.put, s1_, s2_, s3_, i64_w]
              rfl
            refine take_ (i := 17) (N := some 111) (v := ?_) (a' := ?_) (mkM 25 1048575) rfl rfl (by kernel_rfl) (fun _ _ _ h => h) (Or.inl ⟨by rfl, ?_⟩) hHeld ?_ ?_
            rotate_left
            · intro w' s0
              go_simp
              with_reducible rfl
            rotate_left
            · simp only [Act.put, s1_, s2_, s3_]
              rfl
            refine one_ (i := 20) (N := some 114) (mkM 25 2097151) rfl rfl (by kernel_rfl) (by decide) (fun K hK => ?_)
            refine goes_ Tryz.func84 (by kernel_rfl) rfl #[] (by rfl) rfl rfl (by simp only [List.map_toArray, List.map_nil]) ?_
            with_reducible refine (hygref8_lists_at _).mono ?_
            rintro e w3 ⟨A, c, rfl, hC, hc, hb⟩
            refine ⟨_, rfl, ?_⟩
            have HT := Aside0.mk (And.intro hC hc)
            clear hC hc
            replace HB := Aside0.mk (below_next HB.out hb)
            replace HX := Aside0.mk (HX.out.below hb)
            clear hb
            refine hK.out _ _ (HX.out.c6) (fun hHeld => ?_)
            clear hK K
            refine norm_ (a' := ?_) ?_ ?_
            rotate_left
            · show Act.put _ (some 114) _ = _
              simp only [Act.put, s1_, s2_, s3_]
              rfl
            refine one_ (i := 21) (N := some 115) (mkM 25 4194303) rfl rfl (by kernel_rfl) (by decide) (fun K hK => ?_)
            refine goes_ Tryz.func19 (by kernel_rfl) rfl #[.string x.inner, .int .i64 (wrap64 (d - 1)), .slice A tbL.length c] (by rfl) rfl rfl (by simp only [List.map_toArray, List.map_cons, List.map_nil]; rfl) ?_
            with_reducible refine (A6.out _ _ _ HT.out.1 HT.out.2).mono ?_
            rintro e w4 ⟨rfl, hb⟩
            refine ⟨_, rfl, ?_⟩
            clear HT
            replace HB := Aside0.mk (below_next HB.out hb)
            replace HX := Aside0.mk (HX.out.below hb)
            clear hb
            refine hK.out _ _ (HX.out.c6) (fun hHeld => ?_)
            clear hK K
            refine norm_ (a' := ?_) ?_ ?_
            rotate_left
            · show Act.put _ (some 115) _ = _
              simp only [Act.put, s1_, s2_, s3_]
              rfl
            refine pure_ (i := 22) (N := some 116) (v := ?_) (a' := ?_) (mkM 25 8388607) rfl rfl (by kernel_rfl) (fun _ _ _ h => h) (Or.inl ⟨by rfl, ?_⟩) ?_ ?_
            rotate_left
            · intro w'
              go_simp
              with_reducible rfl
            rotate_left
            · simp only [Act.put, s1_, s2_, s3_]
              rfl
            refine pure_ (i := 23) (N := some 117) (v := ?_) (a' := ?_) (mkM 25 16777215) rfl rfl (by kernel_rfl) (fun _ _ _ h => h) (Or.inl ⟨by rfl, ?_⟩) ?_ ?_
            rotate_left
            · intro w'
              go_simp
              with_reducible rfl
            rotate_left
            · simp only [Act.put, s1_, s2_, s3_]
              rfl
            refine pure_ (i := 24) (N := some 118) (v := ?_) (a' := ?_) (mkM 25 33554431) rfl rfl (by kernel_rfl) (fun _ _ _ h => h) (Or.inl ⟨by rfl, ?_⟩) ?_ ?_
            rotate_left
            · intro w'
              go_simp
              with_reducible rfl
            rotate_left
            · simp only [Act.put, s1_, s2_, s3_]
              rfl
            refine done_ (by kernel_rfl) ?_
            cases q6
            · have HR : Aside0 (R = false) := ⟨by rw [HE.out]; simp⟩
              go_wp2_with fail
              go_ret
              exact ⟨by rw [HR.out]; rfl, HB.out⟩
            · skip
              have HR : Aside0 (R = l.all (mayV W f (d - 2))) := ⟨by rw [HE.out, HB_.out, HQ5.out]; simp⟩
              rw [HQ5.out] at A5
              simp only [Bool.not_true]
              go_wp2_with fail
              go_loopw [6] (fun v6 w' => ∃ i : Nat, v6 = .int .i64 (i : Int) ∧ i ≤ l.length ∧ Aside0 ((l.take i).all (mayV W f (d - 2)) = true) ∧ Aside0 (XVl w' g x) ∧ Aside0 (Below w.heap.size w w')) (fun v6 _ => l.length - (intOf v6).toNat)
              case atStart => exact ⟨0, rfl, Nat.zero_le _, ⟨rfl⟩, HX, HB⟩
              case round =>
                clear HB HX
                obtain ⟨i, rfl, hi, HA, HX, HB⟩ := hrel
                have hln := HLN.out
                have x4 := HX.out.c4
                by_cases hlt : i < l.length
                · obtain ⟨ad, hla, hel⟩ := HL.out.2.2.2 (by omega)
                  obtain ⟨he1, he2⟩ := hel i hlt
                  have hfi := HF.out l[i] (List.getElem_mem hlt)
                  have HN := Aside0.mk (fun hp : mayV W f (d - 2) l[i] = true => all_next hlt HA.out hp)
                  have HM := Aside0.mk (fun hp : mayV W f (d - 2) l[i] = false => all_none (p := mayV W f (d - 2)) hlt hp)
                  generalize l[i] = y at *
                  have hWr : Below W.heap.size W wr := HW.out.trans (HB.out.mono HW.out.size)
                  have HPX := Aside0.mk (cells_below hWr (vl_cells he1))
                  have HKY := Aside0.mk (HVV.out wr y (d - 2) hWr he2 hfi (by omega) (by have := HD1.out; omega))
                  generalize mayV W f (d - 2) y = q at *
                  clear HA he1 he2 hel hfi hWr
                  have c1 : (i : Int) < (x.l.len : Int) := by omega
                  have c2 : (0 : Int) ≤ (i : Int) := by omega
                  clear hln
                  rw [hla] at x4
                  clear hla
                  cases q
                  · go_wp2_with (first
                      | ((with_reducible refine gate_dst (N := 130) rfl ?_); refine wpList_load_at rfl 57 _ rfl (ad.add (i * 8)) rfl (vlC y) HPX.out Tryz.underlying57 rfl (by kernel_rfl) ?_)
                      | (go_at_call 66; with_reducible refine HKY.out.mono ?_; rintro e w6 ⟨rfl, hb⟩; have HBn := Aside0.mk (below_next HB.out hb); clear HB hb HPX HKY HX x4; have HB := HBn; clear HBn))
                    go_ret
                    exact ⟨by rw [HR.out, HM.out (by trivial)]; rfl, HB.out⟩
                  · go_wp2_with (first
                      | ((with_reducible refine gate_dst (N := 130) rfl ?_); refine wpList_load_at rfl 57 _ rfl (ad.add (i * 8)) rfl (vlC y) HPX.out Tryz.underlying57 rfl (by kernel_rfl) ?_)
                      | (go_at_call 66; with_reducible refine HKY.out.mono ?_; rintro e w6 ⟨rfl, hb⟩; have HBn := Aside0.mk (below_next HB.out hb); have HXn := Aside0.mk (HX.out.below hb); clear HB HX hb HPX HKY x4; have HB := HBn; have HX := HXn; clear HBn HXn))
                    go_roundw
                    case rel => exact ⟨i + 1, by go_num, by omega, ⟨HN.out (by trivial)⟩, HX, HB⟩
                    case measure => simp [intOf]; omega
                · have hr : l.all (mayV W f (d - 2)) = true := by have h := HA.out; rw [List.take_of_length_le (by omega)] at h; exact h
                  have HR2 := Aside0.mk hr
                  have x5 := HX.out.c5
                  have c1 : ¬ (i : Int) < (x.l.len : Int) := by omega
                  clear hr hln HX
                  go_wp2_with (go_at_call 18; with_reducible refine (A5.out _ HB.out).mono ?_; rintro e w6 ⟨rfl, hb2⟩; have n0_ := Aside0.mk (below_next HB.out hb2); clear HB hb2 x4 x5; have HB := n0_; clear n0_)
                  go_ret
                  exact ⟨by rw [HR.out, HR2.out]; rfl, HB.out⟩
      · skip
        have hb : bareB x = false := by unfold bareB plainB nestB; rw [HK.out]; simp only [f1, Bool.and_false, Bool.false_and, Bool.not_true]; rfl
        have HR : Aside0 (R = false) := ⟨by rw [HE.out, hb]; rfl⟩
        clear hb
        have g0 : (x.s.toList == []) = true := f0
        rw [f1] at x2
        go_wp2_with fail
        go_ret
        exact ⟨by rw [HR.out]; rfl, HB.out⟩
end Go.Proofs.YtnghlkbmfhkmoaaGreatDoor
namespace Go.Proofs.YtnghlkbmfhkmoaaGreatDoor
open Go.RowKit Go.Proofs.YtnghlkbmfhkmoaaGreatDoorW.PrintWords Go.Proofs.YtnghlkbmfhkmoaaGreatDoorW.PrintLast Go.Proofs.YtnghlkbmfhkmoaaGreatDoorW.PrintMore Hy
set_option maxHeartbeats 4000000 in
set_option maxRecDepth 100000 in
theorem rmv_6 (W w : World) (x : Vl) (d : Int) (f : Nat) (hk : x.kind = 6) (h0 : 0 ≤ d) (hd1 : d < 9223372036854775808) (hx : VlOk W x) (hs : SmV W (f + 1) x) (hW : Below W.heap.size W w) (_HV : RMV W f) (HKs : RMKs W f) :
    Calls Tryz.prog 66 #[.agg (vlC x).toArray, .int .i64 d] w fun e w' => e = .returned (.bool (mayV W (f + 1) d x)) ∧ Below w.heap.size w w' := by
  obtain ⟨s1, s2, s3, hsL, hsM⟩ := hs.of
  have he : mayV W (f + 1) d x = (bareB x && (restB tbV d x.unk && ((decide (0 ≤ d - 1) && restB tbL (d - 1) x.inner) && ((vls W x.l).all (mayV W f (d - 2)) && (kvs W x.m).all (mayK (mayV W f) (d - 2)))))) := by
    show (decide (0 ≤ d) && (bareB x && (restB tbV d x.unk && (if x.kind = 5 ∨ x.kind = 6 then decide (1 ≤ d) && (restB tbL (d - 1) x.inner && ((vls W x.l).all (mayV W f (d - 2)) && (kvs W x.m).all (mayK (mayV W f) (d - 2)))) else true)))) = _
    rw [decide_eq_true h0, if_pos (by omega), Bool.true_and, Bool.and_assoc, show decide (0 ≤ d - 1) = decide (1 ≤ d) from decide_eq_decide.2 (by omega)]
  have A2 : Aside0 (∀ (w2 : World) (A : Option Addr) (c : Nat), Kd.C (Kd.int .i64) w2 A tbV.length (tbV.map fun (x : Nat) => (x : Int)) → tbV.length ≤ c → Calls Tryz.prog 19 #[.string x.unk, .int .i64 d, .slice A tbV.length c] w2 fun e w' => e = .returned (.bool (restB tbV d x.unk)) ∧ Below w2.heap.size w2 w') := ⟨fun w2 A c hC hc => by have h := unk_any tbV tbV_ok.1 tbV_ok.2 A c x.unk d w2 hC hc (by omega) hd1; rw [decide_eq_true h0, Bool.true_and] at h; exact h⟩
  have dl : decide (d < 0) = false := decide_eq_false (by omega)
  have w2_ : wrap64 (d - 2) = d - 2 := by unfold wrap64; omega
  have A6 : Aside0 (∀ (w2 : World) (A : Option Addr) (c : Nat), Kd.C (Kd.int .i64) w2 A tbL.length (tbL.map fun (x : Nat) => (x : Int)) → tbL.length ≤ c → Calls Tryz.prog 19 #[.string x.inner, .int .i64 (wrap64 (d - 1)), .slice A tbL.length c] w2 fun e w' => e = .returned (.bool (decide (0 ≤ d - 1) && restB tbL (d - 1) x.inner)) ∧ Below w2.heap.size w2 w') := ⟨fun w2 A c hC hc => by rw [show wrap64 (d - 1) = d - 1 by unfold wrap64; omega]; exact unk_any tbL tbL_ok.1 tbL_ok.2 A c x.inner (d - 1) w2 hC hc (by omega) (by omega)⟩
  have A5 := Aside0.mk (fun w2 (hb : Below w.heap.size w w2) => HKs w2 x.m (d - 2) (hW.trans (hb.mono hW.size)) hx.m hsM (by omega) (by omega))
  have hl0 : x.l.len = 0 → (vls W x.l).all (mayV W f (d - 2)) = true := fun h => by rw [List.length_eq_zero_iff.1 (((vls_at hx.l).1).symm.trans h)]; rfl
  have HL0 := Aside0.mk hl0
  clear hl0
  have HW := Aside0.mk hW
  unfold Sl.v at A5
  generalize mayV W (f + 1) d x = R at *
  generalize hq2 : restB tbV d x.unk = q2 at *
  generalize hq6 : (decide (0 ≤ d - 1) && restB tbL (d - 1) x.inner) = q6 at *
  generalize hq5 : (kvs W x.m).all (mayK (mayV W f) (d - 2)) = q5 at *
  have HE := Aside0.mk he
  have HK := Aside0.mk hk
  clear he hk hx hs hW _HV HKs s1 s2 s3 hsL hsM hd1 hq2 hq5 hq6
  go_enter Tryz.func66, Tryz.ntmps66
  go_upto_region 1 with (with_reducible refine gate_dst (N := 2) rfl ?_; refine Great.wpList_boxTo rfl 57 _ rfl _ rfl w.heap.size rfl (vlC x).toArray rfl ?_)
  have HX : Aside0 (XVl (w.alloc (.cells (vlC x).toArray 57)) w.heap.size x) := ⟨⟨heap_alloc_new w _⟩⟩
  have HB : Aside0 (Below w.heap.size w (w.alloc (.cells (vlC x).toArray 57))) := ⟨(Below.refl _ _).alloc (Nat.le_refl _) _⟩
  generalize (w.alloc (.cells (vlC x).toArray 57)) = w1 at *
  generalize hg : w.heap.size = g at HX ⊢
  clear hg
  have HBd := Aside0.mk (below_drew1 HB.out)
  have HXd := Aside0.mk (show XVl w1.drew g x from ⟨HX.out.blk⟩)
  clear HB HX
  have HB := HBd
  have HX := HXd
  clear HBd HXd
  refine start_ (n := 20) (S := fun w' => w'.cell? ⟨g, 0, none⟩ = some (.int .i64 6) ∧ w'.cell? ⟨g, 7, none⟩ = some (.string x.unk)) (ds := []) #[false, false, false, false, false, false, false, false, false, false, false, false, false, false, false, false, false, false, false, false] (by kernel_rfl) rfl rfl ⟨(xkind HX.out HK.out), HX.out.c7⟩ (fun hHeld => ?_)
  refine pure_ (i := 0) (N := some 7) (v := ?_) (a' := ?_) (mkM 20 1) rfl rfl (by kernel_rfl) (fun _ _ _ h => h) (Or.inl ⟨by rfl, ?_⟩) ?_ ?_
  rotate_left
  · intro w'
    go_simp
    with_reducible rfl
  rotate_left
  · simp only [Act.put, s1_, s2_, s3_]
    rfl
  refine pure_ (i := 1) (N := some 8) (v := ?_) (a' := ?_) (mkM 20 3) rfl rfl (by kernel_rfl) (fun _ _ _ h => h) (Or.inl ⟨by rfl, ?_⟩) ?_ ?_
  rotate_left
  · intro w'
    go_simp
    with_reducible rfl
  rotate_left
  · simp only [Act.put, s1_, s2_, s3_]
    rfl
  refine pure_ (i := 2) (N := some 9) (v := ?_) (a' := ?_) (mkM 20 7) rfl rfl (by kernel_rfl) (fun _ _ _ h => h) (Or.inl ⟨by rfl, ?_⟩) ?_ ?_
  rotate_left
  · intro w'
    go_simp
    with_reducible rfl
  rotate_left
  · simp only [Act.put, s1_, s2_, s3_]
    rfl
  refine pure_ (i := 3) (N := some 10) (v := ?_) (a' := ?_) (mkM 20 15) rfl rfl (by kernel_rfl) (fun _ _ _ h => h) (Or.inl ⟨by rfl, ?_⟩) ?_ ?_
  rotate_left
  · intro w'
    go_simp
    with_reducible rfl
  rotate_left
  · simp only [Act.put, s1_, s2_, s3_]
    rfl
  refine take_ (i := 4) (N := some 11) (v := ?_) (a' := ?_) (mkM 20 31) rfl rfl (by kernel_rfl) (fun _ _ _ h => h) (Or.inl ⟨by rfl, ?_⟩) hHeld ?_ ?_
  rotate_left
  · rintro w' ⟨s0, s1⟩
    go_simp
    with_reducible rfl
  rotate_left
  · simp only [Act.put, s1_, s2_, s3_]
    rfl
  refine pure_ (i := 5) (N := some 12) (v := ?_) (a' := ?_) (mkM 20 63) rfl rfl (by kernel_rfl) (fun _ _ _ h => h) (Or.inl ⟨by rfl, ?_⟩) ?_ ?_
  rotate_left
  · intro w'
    go_simp
    with_reducible rfl
  rotate_left
  · simp only [Act.put, s1_, s2_, s3_]
    rfl
  refine pure_ (i := 6) (N := some 13) (v := ?_) (a' := ?_) (mkM 20 127) rfl rfl (by kernel_rfl) (fun _ _ _ h => h) (Or.inl ⟨by rfl, ?_⟩) ?_ ?_
  rotate_left
  · intro w'
    go_simp
    with_reducible rfl
  rotate_left
  · simp only [Act.put, s1_, s2_, s3_]
    rfl
  refine pure_ (i := 7) (N := some 14) (v := ?_) (a' := ?_) (mkM 20 255) rfl rfl (by kernel_rfl) (fun _ _ _ h => h) (Or.inl ⟨by rfl, ?_⟩) ?_ ?_
  rotate_left
  · intro w'
    go_simp
    with_reducible rfl
  rotate_left
  · simp only [Act.put, s1_, s2_, s3_]
    rfl
  refine pure_ (i := 8) (N := some 15) (v := ?_) (a' := ?_) (mkM 20 511) rfl rfl (by kernel_rfl) (fun _ _ _ h => h) (Or.inl ⟨by rfl, ?_⟩) ?_ ?_
  rotate_left
  · intro w'
    go_simp
    with_reducible rfl
  rotate_left
  · simp only [Act.put, s1_, s2_, s3_]
    rfl
  refine take_ (i := 9) (N := some 16) (v := ?_) (a' := ?_) (mkM 20 1023) rfl rfl (by kernel_rfl) (fun _ _ _ h => h) (Or.inl ⟨by rfl, ?_⟩) hHeld ?_ ?_
  rotate_left
  · rintro w' ⟨s0, s1⟩
    go_simp
    with_reducible rfl
  rotate_left
  · simp only [Act.put, s1_, s2_, s3_]
    rfl
  refine pure_ (i := 10) (N := some 17) (v := ?_) (a' := ?_) (mkM 20 2047) rfl rfl (by kernel_rfl) (fun _ _ _ h => h) (Or.inl ⟨by rfl, ?_⟩) ?_ ?_
  rotate_left
  · intro w'
    go_simp
    with_reducible rfl
  rotate_left
  · simp only [Act.put, s1_, s2_, s3_]
    rfl
  refine pure_ (i := 11) (N := some 18) (v := ?_) (a' := ?_) (mkM 20 4095) rfl rfl (by kernel_rfl) (fun _ _ _ h => h) (Or.inl ⟨by rfl, ?_⟩) ?_ ?_
  rotate_left
  · intro w'
    go_simp
    with_reducible rfl
  rotate_left
  · simp only [Act.put, s1_, s2_, s3_]
    rfl
  refine pure_ (i := 12) (N := some 19) (v := ?_) (a' := ?_) (mkM 20 8191) rfl rfl (by kernel_rfl) (fun _ _ _ h => h) (Or.inl ⟨by rfl, ?_⟩) ?_ ?_
  rotate_left
  · intro w'
    go_simp
    with_reducible rfl
  rotate_left
  · simp only [Act.put, s1_, s2_, s3_]
    rfl
  refine pure_ (i := 13) (N := some 20) (v := ?_) (a' := ?_) (mkM 20 16383) rfl rfl (by kernel_rfl) (fun _ _ _ h => h) (Or.inl ⟨by rfl, ?_⟩) ?_ ?_
  rotate_left
  · intro w'
    go_simp
    with_reducible rfl
  rotate_left
  · simp only [Act.put, s1_, s2_, s3_]
    rfl
  refine pure_ (i := 15) (N := some 22) (v := ?_) (a' := ?_) (mkM 20 49151) rfl rfl (by kernel_rfl) (fun _ _ _ h => h) (Or.inl ⟨by rfl, ?_⟩) ?_ ?_
  rotate_left
  · intro w'
    go_simp
    with_reducible rfl
  rotate_left
  · simp only [Act.put, s1_, s2_, s3_]
    rfl
  refine take_ (i := 14) (N := some 21) (v := ?_) (a' := ?_) (mkM 20 65535) rfl rfl (by kernel_rfl) (fun _ _ _ h => h) (Or.inl ⟨by rfl, ?_⟩) hHeld ?_ ?_
  rotate_left
  · rintro w' ⟨s0, s1⟩
    go_simp
    with_reducible rfl
  rotate_left
  · simp only [Act.put, s1_, s2_, s3_]
    rfl
  refine one_ (i := 16) (N := some 23) (mkM 20 131071) rfl rfl (by kernel_rfl) (by decide) (fun K hK => ?_)
  refine goes_ Tryz.func83 (by kernel_rfl) rfl #[] (by rfl) rfl rfl (by simp only [List.map_toArray, List.map_nil]) ?_
  with_reducible refine (hygref8_values_at _).mono ?_
  rintro e w3 ⟨A, c, rfl, hC, hc, hb⟩
  refine ⟨_, rfl, ?_⟩
  have HT := Aside0.mk (And.intro hC hc)
  clear hC hc
  replace HB := Aside0.mk (below_next HB.out hb)
  replace HX := Aside0.mk (HX.out.below hb)
  clear hb
  refine hK.out _ _ ⟨(xkind HX.out HK.out), HX.out.c7⟩ (fun hHeld => ?_)
  clear hK K
  refine norm_ (a' := ?_) ?_ ?_
  rotate_left
  · show Act.put _ (some 23) _ = _
    simp only [Act.put, s1_, s2_, s3_]
    rfl
  refine one_ (i := 17) (N := some 24) (mkM 20 262143) rfl rfl (by kernel_rfl) (by decide) (fun K hK => ?_)
  refine goes_ Tryz.func19 (by kernel_rfl) rfl #[.string x.unk, .int .i64 d, .slice A tbV.length c] (by rfl) rfl rfl (by simp only [List.map_toArray, List.map_cons, List.map_nil]; rfl) ?_
  with_reducible refine (A2.out _ _ _ HT.out.1 HT.out.2).mono ?_
  rintro e w4 ⟨rfl, hb⟩
  refine ⟨_, rfl, ?_⟩
  clear HT
  replace HB := Aside0.mk (below_next HB.out hb)
  replace HX := Aside0.mk (HX.out.below hb)
  clear hb
  refine hK.out _ _ ⟨(xkind HX.out HK.out), HX.out.c7⟩ (fun hHeld => ?_)
  clear hK K
  refine norm_ (a' := ?_) ?_ ?_
  rotate_left
  · show Act.put _ (some 24) _ = _
    simp only [Act.put, s1_, s2_, s3_]
    rfl
  refine pure_ (i := 18) (N := some 25) (v := ?_) (a' := ?_) (mkM 20 524287) rfl rfl (by kernel_rfl) (fun _ _ _ h => h) (Or.inl ⟨by rfl, ?_⟩) ?_ ?_
  rotate_left
  · intro w'
    go_simp
    with_reducible rfl
  rotate_left
  · simp only [Act.put, s1_, s2_, s3_]
    rfl
  refine pure_ (i := 19) (N := some 26) (v := ?_) (a' := ?_) (mkM 20 1048575) rfl rfl (by kernel_rfl) (fun _ _ _ h => h) (Or.inl ⟨by rfl, ?_⟩) ?_ ?_
  rotate_left
  · intro w'
    go_simp
    with_reducible rfl
  rotate_left
  · simp only [Act.put, s1_, s2_, s3_]
    rfl
  refine done_ (by kernel_rfl) ?_
  cases q2
  · have HR : Aside0 (R = false) := ⟨by rw [HE.out]; simp⟩
    go_wp2_with fail
    go_ret
    exact ⟨by rw [HR.out]; rfl, HB.out⟩
  · skip
    have x0 := xkind HX.out HK.out
    have x1 := HX.out.c1
    have x2 := HX.out.c2
    have x3 := HX.out.c3
    have x4 := HX.out.c4
    have x5 := HX.out.c5
    have x6 := HX.out.c6
    have x7 := HX.out.c7
    go_upto_region 4 with fail
    simp only [List.append_eq, List.cons_append, List.nil_append]
    cases f0 : emB x.s
    · skip
      have hb : bareB x = false := by unfold bareB plainB nestB; rw [HK.out]; simp only [f0, Bool.false_and]; rfl
      have HR : Aside0 (R = false) := ⟨by rw [HE.out, hb]; rfl⟩
      clear hb
      have g0 : (x.s.toList == []) = false := f0
      go_wp2_with fail
      go_ret
      exact ⟨by rw [HR.out]; rfl, HB.out⟩
    · skip
      cases f1 : x.b
      · skip
        cases f2 : decide (x.n = 0)
        · skip
          have hb : bareB x = false := by unfold bareB plainB nestB; rw [HK.out]; simp only [f2, Bool.and_false, Bool.false_and]; rfl
          have HR : Aside0 (R = false) := ⟨by rw [HE.out, hb]; rfl⟩
          clear hb
          have g0 : (x.s.toList == []) = true := f0
          rw [f1] at x2
          have g2 : (x.n != 0) = true := by rw [bne, int_b, f2]; rfl
          go_wp2_with fail
          go_ret
          exact ⟨by rw [HR.out]; rfl, HB.out⟩
        · skip
          cases f3 : decide (x.l.len = 0)
          · skip
            have hb : bareB x = false := by unfold bareB plainB nestB; rw [HK.out]; simp only [f3, Bool.and_false, Bool.false_and]; rfl
            have HR : Aside0 (R = false) := ⟨by rw [HE.out, hb]; rfl⟩
            clear hb
            have g0 : (x.s.toList == []) = true := f0
            rw [f1] at x2
            have g2 : (x.n != 0) = false := by rw [bne, int_b, f2]; rfl
            have g3 : (x.l.len : Int) > 0 := by have h_ := of_decide_eq_false f3; omega
            have k3 : decide ((x.l.len : Int) > 0) = true := decide_eq_true g3
            go_wp2_with fail
            go_ret
            exact ⟨by rw [HR.out]; rfl, HB.out⟩
          · skip
            have hb : bareB x = true := by unfold bareB plainB nestB; rw [HK.out]; simp only [f0, f1, f2, f3, Bool.not_false]; rfl
            have HB_ := Aside0.mk hb
            clear hb
            have HLA := Aside0.mk (HL0.out (of_decide_eq_true f3))
            have HC1 := Aside0.mk (show ¬ (0 : Int) < (x.l.len : Int) by have h_ := of_decide_eq_true f3; omega)
            have g0 : (x.s.toList == []) = true := f0
            rw [f1] at x2
            have g2 : (x.n != 0) = false := by rw [bne, int_b, f2]; rfl
            have g3 : ¬ (x.l.len : Int) > 0 := by have h_ := of_decide_eq_true f3; omega
            have k3 : decide ((x.l.len : Int) > 0) = false := decide_eq_false g3
            go_upto_region 6 with fail
            try clear k3
            try clear g3
            try clear f3
            have HBd := Aside0.mk (below_drew1 HB.out)
            have HXd := Aside0.mk (show XVl w4.drew g x from ⟨HX.out.blk⟩)
            clear HB HX x0 x1 x2 x3 x4 x5 x6 x7
            have HB := HBd
            have HX := HXd
            clear HBd HXd
            refine start_ (n := 25) (S := fun w' => w'.cell? ⟨g, 6, none⟩ = some (.string x.inner)) (ds := []) #[false, false, false, false, false, false, false, false, false, false, false, false, false, false, false, false, false, false, false, false, false, false, false, false, false] (by kernel_rfl) rfl rfl (HX.out.c6) (fun hHeld => ?_)
            refine pure_ (i := 0) (N := some 94) (v := ?_) (a' := ?_) (mkM 25 1) rfl rfl (by kernel_rfl) (fun _ _ _ h => h) (Or.inl ⟨by rfl, ?_⟩) ?_ ?_
            rotate_left
            · intro w'
              go_simp
              with_reducible rfl
            rotate_left
            · simp only [Act.put, s1_, s2_, s3_]
              rfl
            refine pure_ (i := 1) (N := some 95) (v := ?_) (a' := ?_) (mkM 25 3) rfl rfl (by kernel_rfl) (fun _ _ _ h => h) (Or.inl ⟨by rfl, ?_⟩) ?_ ?_
            rotate_left
            · intro w'
              go_simp
              with_reducible rfl
            rotate_left
            · simp only [Act.put, s1_, s2_, s3_]
              rfl
            refine pure_ (i := 2) (N := some 96) (v := ?_) (a' := ?_) (mkM 25 7) rfl rfl (by kernel_rfl) (fun _ _ _ h => h) (Or.inl ⟨by rfl, ?_⟩) ?_ ?_
            rotate_left
            · intro w'
              go_simp
              with_reducible rfl
            rotate_left
            · simp only [Act.put, s1_, s2_, s3_]
              rfl
            refine pure_ (i := 3) (N := some 97) (v := undef) (a' := ?_) (mkM 25 15) rfl rfl (by kernel_rfl) (fun _ _ _ h => h) (Or.inr ⟨by rfl, rfl⟩) ?_ ?_
            rotate_left
            · simp only [Act.put, s1_, s2_, s3_]
              rfl
            refine pure_ (i := 4) (N := some 98) (v := undef) (a' := ?_) (mkM 25 31) rfl rfl (by kernel_rfl) (fun _ _ _ h => h) (Or.inr ⟨by rfl, rfl⟩) ?_ ?_
            rotate_left
            · simp only [Act.put, s1_, s2_, s3_]
              rfl
            refine pure_ (i := 5) (N := some 99) (v := undef) (a' := ?_) (mkM 25 63) rfl rfl (by kernel_rfl) (fun _ _ _ h => h) (Or.inr ⟨by rfl, rfl⟩) ?_ ?_
            rotate_left
            · simp only [Act.put, s1_, s2_, s3_]
              rfl
            refine pure_ (i := 6) (N := some 100) (v := undef) (a' := ?_) (mkM 25 127) rfl rfl (by kernel_rfl) (fun _ _ _ h => h) (Or.inr ⟨by rfl, rfl⟩) ?_ ?_
            rotate_left
            · simp only [Act.put, s1_, s2_, s3_]
              rfl
            refine pure_ (i := 7) (N := some 101) (v := ?_) (a' := ?_) (mkM 25 255) rfl rfl (by kernel_rfl) (fun _ _ _ h => h) (Or.inl ⟨by rfl, ?_⟩) ?_ ?_
            rotate_left
            · intro w'
              go_simp
              with_reducible rfl
            rotate_left
            · simp only [Act.put, s1_, s2_, s3_]
              rfl
            refine pure_ (i := 8) (N := some 102) (v := ?_) (a' := ?_) (mkM 25 511) rfl rfl (by kernel_rfl) (fun _ _ _ h => h) (Or.inl ⟨by rfl, ?_⟩) ?_ ?_
            rotate_left
            · intro w'
              go_simp
              with_reducible rfl
            rotate_left
            · simp only [Act.put, s1_, s2_, s3_]
              rfl
            refine pure_ (i := 9) (N := some 103) (v := ?_) (a' := ?_) (mkM 25 1023) rfl rfl (by kernel_rfl) (fun _ _ _ h => h) (Or.inl ⟨by rfl, ?_⟩) ?_ ?_
            rotate_left
            · intro w'
              go_simp
              with_reducible rfl
            rotate_left
            · simp only [Act.put, s1_, s2_, s3_]
              rfl
            refine pure_ (i := 10) (N := some 104) (v := ?_) (a' := ?_) (mkM 25 2047) rfl rfl (by kernel_rfl) (fun _ _ _ h => h) (Or.inl ⟨by rfl, ?_⟩) ?_ ?_
            rotate_left
            · intro w'
              go_simp
              with_reducible rfl
            rotate_left
            · simp only [Act.put, s1_, s2_, s3_]
              rfl
            refine pure_ (i := 11) (N := some 105) (v := ?_) (a' := ?_) (mkM 25 4095) rfl rfl (by kernel_rfl) (fun _ _ _ h => h) (Or.inl ⟨by rfl, ?_⟩) ?_ ?_
            rotate_left
            · intro w'
              go_simp
              with_reducible rfl
            rotate_left
            · simp only [Act.put, s1_, s2_, s3_]
              rfl
            refine pure_ (i := 12) (N := some 106) (v := ?_) (a' := ?_) (mkM 25 8191) rfl rfl (by kernel_rfl) (fun _ _ _ h => h) (Or.inl ⟨by rfl, ?_⟩) ?_ ?_
            rotate_left
            · intro w'
              go_simp
              with_reducible rfl
            rotate_left
            · simp only [Act.put, s1_, s2_, s3_]
              rfl
            refine pure_ (i := 13) (N := some 107) (v := ?_) (a' := ?_) (mkM 25 16383) rfl rfl (by kernel_rfl) (fun _ _ _ h => h) (Or.inl ⟨by rfl, ?_⟩) ?_ ?_
            rotate_left
            · intro w'
              go_simp
              with_reducible rfl
            rotate_left
            · simp only [Act.put, s1_, s2_, s3_]
              rfl
            refine pure_ (i := 14) (N := some 108) (v := ?_) (a' := ?_) (mkM 25 32767) rfl rfl (by kernel_rfl) (fun _ _ _ h => h) (Or.inl ⟨by rfl, ?_⟩) ?_ ?_
            rotate_left
            · intro w'
              go_simp
              with_reducible rfl
            rotate_left
            · simp only [Act.put, s1_, s2_, s3_]
              rfl
            refine pure_ (i := 15) (N := some 109) (v := ?_) (a' := ?_) (mkM 25 65535) rfl rfl (by kernel_rfl) (fun _ _ _ h => h) (Or.inl ⟨by rfl, ?_⟩) ?_ ?_
            rotate_left
            · intro w'
              go_simp
              with_reducible rfl
            rotate_left
            · simp only [Act.put, s1_, s2_, s3_]
              rfl
            refine pure_ (i := 16) (N := some 110) (v := ?_) (a' := ?_) (mkM 25 131071) rfl rfl (by kernel_rfl) (fun _ _ _ h => h) (Or.inl ⟨by rfl, ?_⟩) ?_ ?_
            rotate_left
            · intro w'
              go_simp
              with_reducible rfl
            rotate_left
            · simp only [Act.put, s1_, s2_, s3_]
              rfl
            refine pure_ (i := 18) (N := some 112) (v := ?_) (a' := ?_) (mkM 25 393215) rfl rfl (by kernel_rfl) (fun _ _ _ h => h) (Or.inl ⟨by rfl, ?_⟩) ?_ ?_
            rotate_left
            · intro w'
              go_simp
              with_reducible rfl
            rotate_left
            · simp only [Act.put, s1_, s2_, s3_]
              rfl
            refine pure_ (i := 19) (N := some 113) (v := ?_) (a' := ?_) (mkM 25 917503) rfl rfl (by kernel_rfl) (fun _ _ _ h => h) (Or.inl ⟨by rfl, ?_⟩) ?_ ?_
            rotate_left
            · intro w'
              go_simp
              with_reducible rfl
            rotate_left
            · simp only [Act.put, s1_, s2_, s3_, i64_w]
              rfl
            refine take_ (i := 17) (N := some 111) (v := ?_) (a' := ?_) (mkM 25 1048575) rfl rfl (by kernel_rfl) (fun _ _ _ h => h) (Or.inl ⟨by rfl, ?_⟩) hHeld ?_ ?_
            rotate_left
            · intro w' s0
              go_simp
              with_reducible rfl
            rotate_left
            · simp only [Act.put, s1_, s2_, s3_]
              rfl
            refine one_ (i := 20) (N := some 114) (mkM 25 2097151) rfl rfl (by kernel_rfl) (by decide) (fun K hK => ?_)
            refine goes_ Tryz.func84 (by kernel_rfl) rfl #[] (by rfl) rfl rfl (by simp only [List.map_toArray, List.map_nil]) ?_
            with_reducible refine (hygref8_lists_at _).mono ?_
            rintro e w3 ⟨A, c, rfl, hC, hc, hb⟩
            refine ⟨_, rfl, ?_⟩
            have HT := Aside0.mk (And.intro hC hc)
            clear hC hc
            replace HB := Aside0.mk (below_next HB.out hb)
            replace HX := Aside0.mk (HX.out.below hb)
            clear hb
            refine hK.out _ _ (HX.out.c6) (fun hHeld => ?_)
            clear hK K
            refine norm_ (a' := ?_) ?_ ?_
            rotate_left
            · show Act.put _ (some 114) _ = _
              simp only [Act.put, s1_, s2_, s3_]
              rfl
            refine one_ (i := 21) (N := some 115) (mkM 25 4194303) rfl rfl (by kernel_rfl) (by decide) (fun K hK => ?_)
            refine goes_ Tryz.func19 (by kernel_rfl) rfl #[.string x.inner, .int .i64 (wrap64 (d - 1)), .slice A tbL.length c] (by rfl) rfl rfl (by simp only [List.map_toArray, List.map_cons, List.map_nil]; rfl) ?_
            with_reducible refine (A6.out _ _ _ HT.out.1 HT.out.2).mono ?_
            rintro e w4 ⟨rfl, hb⟩
            refine ⟨_, rfl, ?_⟩
            clear HT
            replace HB := Aside0.mk (below_next HB.out hb)
            replace HX := Aside0.mk (HX.out.below hb)
            clear hb
            refine hK.out _ _ (HX.out.c6) (fun hHeld => ?_)
            clear hK K
            refine norm_ (a' := ?_) ?_ ?_
            rotate_left
            · show Act.put _ (some 115) _ = _
              simp only [Act.put, s1_, s2_, s3_]
              rfl
            refine pure_ (i := 22) (N := some 116) (v := ?_) (a' := ?_) (mkM 25 8388607) rfl rfl (by kernel_rfl) (fun _ _ _ h => h) (Or.inl ⟨by rfl, ?_⟩) ?_ ?_
            rotate_left
            · intro w'
              go_simp
              with_reducible rfl
            rotate_left
            · simp only [Act.put, s1_, s2_, s3_]
              rfl
            refine pure_ (i := 23) (N := some 117) (v := ?_) (a' := ?_) (mkM 25 16777215) rfl rfl (by kernel_rfl) (fun _ _ _ h => h) (Or.inl ⟨by rfl, ?_⟩) ?_ ?_
            rotate_left
            · intro w'
              go_simp
              with_reducible rfl
            rotate_left
            · simp only [Act.put, s1_, s2_, s3_]
              rfl
            refine pure_ (i := 24) (N := some 118) (v := ?_) (a' := ?_) (mkM 25 33554431) rfl rfl (by kernel_rfl) (fun _ _ _ h => h) (Or.inl ⟨by rfl, ?_⟩) ?_ ?_
            rotate_left
            · intro w'
              go_simp
              with_reducible rfl
            rotate_left
            · simp only [Act.put, s1_, s2_, s3_]
              rfl
            refine done_ (by kernel_rfl) ?_
            cases q6
            · have HR : Aside0 (R = false) := ⟨by rw [HE.out]; simp⟩
              go_wp2_with fail
              go_ret
              exact ⟨by rw [HR.out]; rfl, HB.out⟩
            · skip
              have HR : Aside0 (R = q5) := ⟨by rw [HE.out, HB_.out, HLA.out]; rfl⟩
              go_wp2_with fail
              go_loopw [6] (fun v6 w' => v6 = .int .i64 0 ∧ Aside0 (XVl w' g x) ∧ Aside0 (Below w.heap.size w w')) (fun _ _ => 0)
              case atStart => exact ⟨rfl, HX, HB⟩
              case round =>
                clear HB HX
                obtain ⟨rfl, HX, HB⟩ := hrel
                have x4 := HX.out.c4
                have x5 := HX.out.c5
                have c1 := HC1.out
                clear HX
                go_wp2_with (go_at_call 18; with_reducible refine (A5.out _ HB.out).mono ?_; rintro e w6 ⟨rfl, hb2⟩; have n0_ := Aside0.mk (below_next HB.out hb2); clear HB hb2 x4 x5; have HB := n0_; clear n0_)
                go_ret
                exact ⟨by rw [HR.out]; rfl, HB.out⟩
      · skip
        have hb : bareB x = false := by unfold bareB plainB nestB; rw [HK.out]; simp only [f1, Bool.and_false, Bool.false_and, Bool.not_true]; rfl
        have HR : Aside0 (R = false) := ⟨by rw [HE.out, hb]; rfl⟩
        clear hb
        have g0 : (x.s.toList == []) = true := f0
        rw [f1] at x2
        go_wp2_with fail
        go_ret
        exact ⟨by rw [HR.out]; rfl, HB.out⟩
end Go.Proofs.YtnghlkbmfhkmoaaGreatDoor
