import Derived.Test.YtnghlkbmfhkmoaaGreatDoorMcliivxoa
import Derived.Test.YtnghlkbmfhkmoaaGreatDoorMwfrckwsi
import Derived.Test.YtnghlkbmfhkmoaaGreatDoorMrcuxvflv
import Derived.Test.YtnghlkbmfhkmoaaGreatDoorMwkduwoke
import Derived.Test.YtnghlkbmfhkmoaaGreatDoorMlwwsbyug
namespace Go.Proofs.YtnghlkbmfhkmoaaGreatDoor
open Go.RowKit Go.Proofs.YtnghlkbmfhkmoaaGreatDoorW.PrintWords Go.Proofs.YtnghlkbmfhkmoaaGreatDoorW.PrintLast Go.Proofs.YtnghlkbmfhkmoaaGreatDoorW.PrintMore Hy
set_option maxHeartbeats 4000000 in
set_option maxRecDepth 100000 in
theorem rmv_7 (W w : World) (x : Vl) (d : Int) (f : Nat) (hk : x.kind = 7) (h0 : 0 ≤ d) (hd1 : d < 9223372036854775808) (hx : VlOk W x) (hs : SmV W (f + 1) x) (hW : Below W.heap.size W w) (_HV : RMV W f) (HKs : RMKs W f) :
    Calls Tryz.prog 66 #[.agg (vlC x).toArray, .int .i64 d] w fun e w' => e = .returned (.bool (mayV W (f + 1) d x)) ∧ Below w.heap.size w w' := by
  obtain ⟨s1, s2, s3, hsL, hsM⟩ := hs.of
  have he : mayV W (f + 1) d x = (bareB x && (restB tbV d x.unk && true)) := by
    show (decide (0 ≤ d) && (bareB x && (restB tbV d x.unk && (if x.kind = 5 ∨ x.kind = 6 then _ else true)))) = _
    rw [decide_eq_true h0, if_neg (by omega)]
    rfl
  have A2 : Aside0 (∀ (w2 : World) (A : Option Addr) (c : Nat), Kd.C (Kd.int .i64) w2 A tbV.length (tbV.map fun (x : Nat) => (x : Int)) → tbV.length ≤ c → Calls Tryz.prog 19 #[.string x.unk, .int .i64 d, .slice A tbV.length c] w2 fun e w' => e = .returned (.bool (restB tbV d x.unk)) ∧ Below w2.heap.size w2 w') := ⟨fun w2 A c hC hc => by have h := unk_any tbV tbV_ok.1 tbV_ok.2 A c x.unk d w2 hC hc (by omega) hd1; rw [decide_eq_true h0, Bool.true_and] at h; exact h⟩
  have dl : decide (d < 0) = false := decide_eq_false (by omega)
  have w2_ : wrap64 (d - 2) = d - 2 := by unfold wrap64; omega
  have A5 := Aside0.mk (fun w2 (hb : Below w.heap.size w w2) => HKs w2 x.m (d - 2) (hW.trans (hb.mono hW.size)) hx.m hsM (by omega) (by omega))
  have hm0 : x.m.len = 0 → (kvs W x.m).all (mayK (mayV W f) (d - 2)) = true := fun h => by rw [List.length_eq_zero_iff.1 (((kvs_at hx.m).1).symm.trans h)]; rfl
  have HM0 := Aside0.mk hm0
  clear hm0
  have HW := Aside0.mk hW
  unfold Sl.v at A5
  generalize mayV W (f + 1) d x = R at *
  generalize hq2 : restB tbV d x.unk = q2 at *
  generalize hq5 : (kvs W x.m).all (mayK (mayV W f) (d - 2)) = q5 at *
  have HE := Aside0.mk he
  have HK := Aside0.mk hk
  clear he hk hx hs hW _HV HKs s1 s2 s3 hsL hsM hd1 hq2 hq5
  go_enter Tryz.func66, Tryz.ntmps66
  go_upto_region 1 with (with_reducible refine gate_dst (N := 2) rfl ?_; refine Great.wpList_boxTo rfl 57 _ rfl _ rfl w.heap.size rfl (vlC x).toArray rfl ?_)
  have HX : Aside0 (XVl (w.alloc (.cells (vlC x).toArray 57)) w.heap.size x) := ⟨⟨heap_alloc_new w _⟩⟩
  have HB : Aside0 (Below w.heap.size w (w.alloc (.cells (vlC x).toArray 57))) := ⟨(Below.refl _ _).alloc (Nat.le_refl _) _⟩
  generalize (w.alloc (.cells (vlC x).toArray 57)) = w1 at *
  generalize hg : w.heap.size = g at HX ⊢
  clear hg
  have HBd := Aside0.mk (below_drew1 HB.out)
  have HXd := Aside0.mk (show XVl w1.drew g x from ⟨HX.out.blk⟩)
  clear HB HX
  have HB := HBd
  have HX := HXd
  clear HBd HXd
  refine start_ (n := 20) (S := fun w' => w'.cell? ⟨g, 0, none⟩ = some (.int .i64 7) ∧ w'.cell? ⟨g, 7, none⟩ = some (.string x.unk)) (ds := []) #[false, false, false, false, false, false, false, false, false, false, false, false, false, false, false, false, false, false, false, false] (by kernel_rfl) rfl rfl ⟨(xkind HX.out HK.out), HX.out.c7⟩ (fun hHeld => ?_)
  refine pure_ (i := 0) (N := some 7) (v := ?_) (a' := ?_) (mkM 20 1) rfl rfl (by kernel_rfl) (fun _ _ _ h => h) (Or.inl ⟨by rfl, ?_⟩) ?_ ?_
  rotate_left
  · intro w'
    go_simp
    with_reducible rfl
  rotate_left
  · simp only [Act.put, s1_, s2_, s3_]
    rfl
  refine pure_ (i := 1) (N := some 8) (v := ?_) (a' := ?_) (mkM 20 3) rfl rfl (by kernel_rfl) (fun _ _ _ h => h) (Or.inl ⟨by rfl, ?_⟩) ?_ ?_
  rotate_left
  · intro w'
    go_simp
    with_reducible rfl
  rotate_left
  · simp only [Act.put, s1_, s2_, s3_]
    rfl
  refine pure_ (i := 2) (N := some 9) (v := ?_) (a' := ?_) (mkM 20 7) rfl rfl (by kernel_rfl) (fun _ _ _ h => h) (Or.inl ⟨by rfl, ?_⟩) ?_ ?_
  rotate_left
  · intro w'
    go_simp
    with_reducible rfl
  rotate_left
  · simp only [Act.put, s1_, s2_, s3_]
    rfl
  refine pure_ (i := 3) (N := some 10) (v := ?_) (a' := ?_) (mkM 20 15) rfl rfl (by kernel_rfl) (fun _ _ _ h => h) (Or.inl ⟨by rfl, ?_⟩) ?_ ?_
  rotate_left
  · intro w'
    go_simp
    with_reducible rfl
  rotate_left
  · simp only [Act.put, s1_, s2_, s3_]
    rfl
  refine take_ (i := 4) (N := some 11) (v := ?_) (a' := ?_) (mkM 20 31) rfl rfl (by kernel_rfl) (fun _ _ _ h => h) (Or.inl ⟨by rfl, ?_⟩) hHeld ?_ ?_
  rotate_left
  · rintro w' ⟨s0, s1⟩
    go_simp
    with_reducible rfl
  rotate_left
  · simp only [Act.put, s1_, s2_, s3_]
    rfl
  refine pure_ (i := 5) (N := some 12) (v := ?_) (a' := ?_) (mkM 20 63) rfl rfl (by kernel_rfl) (fun _ _ _ h => h) (Or.inl ⟨by rfl, ?_⟩) ?_ ?_
  rotate_left
  · intro w'
    go_simp
    with_reducible rfl
  rotate_left
  · simp only [Act.put, s1_, s2_, s3_]
    rfl
  refine pure_ (i := 6) (N := some 13) (v := ?_) (a' := ?_) (mkM 20 127) rfl rfl (by kernel_rfl) (fun _ _ _ h => h) (Or.inl ⟨by rfl, ?_⟩) ?_ ?_
  rotate_left
  · intro w'
    go_simp
    with_reducible rfl
  rotate_left
  · simp only [Act.put, s1_, s2_, s3_]
    rfl
  refine pure_ (i := 7) (N := some 14) (v := ?_) (a' := ?_) (mkM 20 255) rfl rfl (by kernel_rfl) (fun _ _ _ h => h) (Or.inl ⟨by rfl, ?_⟩) ?_ ?_
  rotate_left
  · intro w'
    go_simp
    with_reducible rfl
  rotate_left
  · simp only [Act.put, s1_, s2_, s3_]
    rfl
  refine pure_ (i := 8) (N := some 15) (v := ?_) (a' := ?_) (mkM 20 511) rfl rfl (by kernel_rfl) (fun _ _ _ h => h) (Or.inl ⟨by rfl, ?_⟩) ?_ ?_
  rotate_left
  · intro w'
    go_simp
    with_reducible rfl
  rotate_left
  · simp only [Act.put, s1_, s2_, s3_]
    rfl
  refine take_ (i := 9) (N := some 16) (v := ?_) (a' := ?_) (mkM 20 1023) rfl rfl (by kernel_rfl) (fun _ _ _ h => h) (Or.inl ⟨by rfl, ?_⟩) hHeld ?_ ?_
  rotate_left
  · rintro w' ⟨s0, s1⟩
    go_simp
    with_reducible rfl
  rotate_left
  · simp only [Act.put, s1_, s2_, s3_]
    rfl
  refine pure_ (i := 10) (N := some 17) (v := ?_) (a' := ?_) (mkM 20 2047) rfl rfl (by kernel_rfl) (fun _ _ _ h => h) (Or.inl ⟨by rfl, ?_⟩) ?_ ?_
  rotate_left
  · intro w'
    go_simp
    with_reducible rfl
  rotate_left
  · simp only [Act.put, s1_, s2_, s3_]
    rfl
  refine pure_ (i := 11) (N := some 18) (v := ?_) (a' := ?_) (mkM 20 4095) rfl rfl (by kernel_rfl) (fun _ _ _ h => h) (Or.inl ⟨by rfl, ?_⟩) ?_ ?_
  rotate_left
  · intro w'
    go_simp
    with_reducible rfl
  rotate_left
  · simp only [Act.put, s1_, s2_, s3_]
    rfl
  refine pure_ (i := 12) (N := some 19) (v := ?_) (a' := ?_) (mkM 20 8191) rfl rfl (by kernel_rfl) (fun _ _ _ h => h) (Or.inl ⟨by rfl, ?_⟩) ?_ ?_
  rotate_left
  · intro w'
    go_simp
    with_reducible rfl
  rotate_left
  · simp only [Act.put, s1_, s2_, s3_]
    rfl
  refine pure_ (i := 13) (N := some 20) (v := ?_) (a' := ?_) (mkM 20 16383) rfl rfl (by kernel_rfl) (fun _ _ _ h => h) (Or.inl ⟨by rfl, ?_⟩) ?_ ?_
  rotate_left
  · intro w'
    go_simp
    with_reducible rfl
  rotate_left
  · simp only [Act.put, s1_, s2_, s3_]
    rfl
  refine pure_ (i := 15) (N := some 22) (v := ?_) (a' := ?_) (mkM 20 49151) rfl rfl (by kernel_rfl) (fun _ _ _ h => h) (Or.inl ⟨by rfl, ?_⟩) ?_ ?_
  rotate_left
  · intro w'
    go_simp
    with_reducible rfl
  rotate_left
  · simp only [Act.put, s1_, s2_, s3_]
    rfl
  refine take_ (i := 14) (N := some 21) (v := ?_) (a' := ?_) (mkM 20 65535) rfl rfl (by kernel_rfl) (fun _ _ _ h => h) (Or.inl ⟨by rfl, ?_⟩) hHeld ?_ ?_
  rotate_left
  · rintro w' ⟨s0, s1⟩
    go_simp
    with_reducible rfl
  rotate_left
  · simp only [Act.put, s1_, s2_, s3_]
    rfl
  refine one_ (i := 16) (N := some 23) (mkM 20 131071) rfl rfl (by kernel_rfl) (by decide) (fun K hK => ?_)
  refine goes_ Tryz.func83 (by kernel_rfl) rfl #[] (by rfl) rfl rfl (by simp only [List.map_toArray, List.map_nil]) ?_
  with_reducible refine (hygref8_values_at _).mono ?_
  rintro e w3 ⟨A, c, rfl, hC, hc, hb⟩
  refine ⟨_, rfl, ?_⟩
  have HT := Aside0.mk (And.intro hC hc)
  clear hC hc
  replace HB := Aside0.mk (below_next HB.out hb)
  replace HX := Aside0.mk (HX.out.below hb)
  clear hb
  refine hK.out _ _ ⟨(xkind HX.out HK.out), HX.out.c7⟩ (fun hHeld => ?_)
  clear hK K
  refine norm_ (a' := ?_) ?_ ?_
  rotate_left
  · show Act.put _ (some 23) _ = _
    simp only [Act.put, s1_, s2_, s3_]
    rfl
  refine one_ (i := 17) (N := some 24) (mkM 20 262143) rfl rfl (by kernel_rfl) (by decide) (fun K hK => ?_)
  refine goes_ Tryz.func19 (by kernel_rfl) rfl #[.string x.unk, .int .i64 d, .slice A tbV.length c] (by rfl) rfl rfl (by simp only [List.map_toArray, List.map_cons, List.map_nil]; rfl) ?_
  with_reducible refine (A2.out _ _ _ HT.out.1 HT.out.2).mono ?_
  rintro e w4 ⟨rfl, hb⟩
  refine ⟨_, rfl, ?_⟩
  clear HT
  replace HB := Aside0.mk (below_next HB.out hb)
  replace HX := Aside0.mk (HX.out.below hb)
  clear hb
  refine hK.out _ _ ⟨(xkind HX.out HK.out), HX.out.c7⟩ (fun hHeld => ?_)
  clear hK K
  refine norm_ (a' := ?_) ?_ ?_
  rotate_left
  · show Act.put _ (some 24) _ = _
    simp only [Act.put, s1_, s2_, s3_]
    rfl
  refine pure_ (i := 18) (N := some 25) (v := ?_) (a' := ?_) (mkM 20 524287) rfl rfl (by kernel_rfl) (fun _ _ _ h => h) (Or.inl ⟨by rfl, ?_⟩) ?_ ?_
  rotate_left
  · intro w'
    go_simp
    with_reducible rfl
  rotate_left
  · simp only [Act.put, s1_, s2_, s3_]
    rfl
  refine pure_ (i := 19) (N := some 26) (v := ?_) (a' := ?_) (mkM 20 1048575) rfl rfl (by kernel_rfl) (fun _ _ _ h => h) (Or.inl ⟨by rfl, ?_⟩) ?_ ?_
  rotate_left
  · intro w'
    go_simp
    with_reducible rfl
  rotate_left
  · simp only [Act.put, s1_, s2_, s3_]
    rfl
  refine done_ (by kernel_rfl) ?_
  cases q2
  · have HR : Aside0 (R = false) := ⟨by rw [HE.out]; simp⟩
    go_wp2_with fail
    go_ret
    exact ⟨by rw [HR.out]; rfl, HB.out⟩
  · skip
    have x0 := xkind HX.out HK.out
    have x1 := HX.out.c1
    have x2 := HX.out.c2
    have x3 := HX.out.c3
    have x4 := HX.out.c4
    have x5 := HX.out.c5
    have x6 := HX.out.c6
    have x7 := HX.out.c7
    go_upto_region 4 with fail
    simp only [List.append_eq, List.cons_append, List.nil_append]
    cases f0 : x.b
    · skip
      cases f1 : decide (x.n = 0)
      · skip
        have hb : bareB x = false := by unfold bareB plainB nestB; rw [HK.out]; simp only [f1, Bool.and_false, Bool.false_and]; rfl
        have HR : Aside0 (R = false) := ⟨by rw [HE.out, hb]; rfl⟩
        clear hb
        rw [f0] at x2
        have g1 : (x.n != 0) = true := by rw [bne, int_b, f1]; rfl
        go_wp2_with fail
        go_ret
        exact ⟨by rw [HR.out]; rfl, HB.out⟩
      · skip
        cases f2 : decide (x.l.len = 0)
        · skip
          have hb : bareB x = false := by unfold bareB plainB nestB; rw [HK.out]; simp only [f2, Bool.and_false, Bool.false_and]; rfl
          have HR : Aside0 (R = false) := ⟨by rw [HE.out, hb]; rfl⟩
          clear hb
          rw [f0] at x2
          have g1 : (x.n != 0) = false := by rw [bne, int_b, f1]; rfl
          have g2 : (x.l.len : Int) > 0 := by have h_ := of_decide_eq_false f2; omega
          have k2 : decide ((x.l.len : Int) > 0) = true := decide_eq_true g2
          go_wp2_with fail
          go_ret
          exact ⟨by rw [HR.out]; rfl, HB.out⟩
        · skip
          cases f3 : decide (x.m.len = 0)
          · skip
            have hb : bareB x = false := by unfold bareB plainB nestB; rw [HK.out]; simp only [f3, Bool.and_false, Bool.false_and]; rfl
            have HR : Aside0 (R = false) := ⟨by rw [HE.out, hb]; rfl⟩
            clear hb
            rw [f0] at x2
            have g1 : (x.n != 0) = false := by rw [bne, int_b, f1]; rfl
            have g2 : ¬ (x.l.len : Int) > 0 := by have h_ := of_decide_eq_true f2; omega
            have k2 : decide ((x.l.len : Int) > 0) = false := decide_eq_false g2
            have g3 : (x.m.len : Int) > 0 := by have h_ := of_decide_eq_false f3; omega
            have k3 : decide ((x.m.len : Int) > 0) = true := decide_eq_true g3
            go_wp2_with fail
            go_ret
            exact ⟨by rw [HR.out]; rfl, HB.out⟩
          · skip
            cases f4 : emB x.inner
            · skip
              have hb : bareB x = false := by unfold bareB plainB nestB; rw [HK.out]; simp only [f4, Bool.and_false]; rfl
              have HR : Aside0 (R = false) := ⟨by rw [HE.out, hb]; rfl⟩
              clear hb
              rw [f0] at x2
              have g1 : (x.n != 0) = false := by rw [bne, int_b, f1]; rfl
              have g2 : ¬ (x.l.len : Int) > 0 := by have h_ := of_decide_eq_true f2; omega
              have k2 : decide ((x.l.len : Int) > 0) = false := decide_eq_false g2
              have g3 : ¬ (x.m.len : Int) > 0 := by have h_ := of_decide_eq_true f3; omega
              have k3 : decide ((x.m.len : Int) > 0) = false := decide_eq_false g3
              have g4 : (x.inner.toList == []) = false := f4
              go_wp2_with fail
              go_ret
              exact ⟨by rw [HR.out]; rfl, HB.out⟩
            · skip
              have hb : bareB x = true := by unfold bareB plainB nestB; rw [HK.out]; simp only [f0, f1, f2, f3, f4, Bool.not_false]; rfl
              have HB_ := Aside0.mk hb
              clear hb
              have HQ5 : Aside0 (q5 = true) := ⟨HM0.out (of_decide_eq_true f3)⟩
              have HC1 := Aside0.mk (show ¬ (0 : Int) < (x.l.len : Int) by have h_ := of_decide_eq_true f2; omega)
              rw [f0] at x2
              have g1 : (x.n != 0) = false := by rw [bne, int_b, f1]; rfl
              have g2 : ¬ (x.l.len : Int) > 0 := by have h_ := of_decide_eq_true f2; omega
              have k2 : decide ((x.l.len : Int) > 0) = false := decide_eq_false g2
              have g3 : ¬ (x.m.len : Int) > 0 := by have h_ := of_decide_eq_true f3; omega
              have k3 : decide ((x.m.len : Int) > 0) = false := decide_eq_false g3
              have g4 : (x.inner.toList == []) = true := f4
              go_upto_region 6 with fail
              try clear k2
              try clear g2
              try clear f2
              try clear k3
              try clear g3
              try clear f3
              rw [show x.m.len = 0 by assumption] at A5
              go_quiet (fail)
              have HR : Aside0 (R = true) := ⟨by rw [HE.out, HB_.out]; rfl⟩
              have HBd : Aside0 (Below w.heap.size w (w4.drewN nq)) := ⟨pw_below_drewN HB.out _⟩
              have HXd := Aside0.mk (show XVl (w4.drewN nq) g x from ⟨HX.out.blk⟩)
              clear HB HX x0 x1 x2 x3 x4 x5 x6 x7
              have HB := HBd
              have HX := HXd
              clear HBd HXd
              generalize w4.drewN nq = w5 at *
              rw [HQ5.out] at A5
              go_wp2_with fail
              go_loopw [6] (fun v6 w' => v6 = .int .i64 0 ∧ Aside0 (XVl w' g x) ∧ Aside0 (Below w.heap.size w w')) (fun _ _ => 0)
              case atStart => exact ⟨rfl, HX, HB⟩
              case round =>
                clear HB HX
                obtain ⟨rfl, HX, HB⟩ := hrel
                have x4 := HX.out.c4
                have x5 := HX.out.c5
                have c1 := HC1.out
                clear HX
                go_wp2_with (go_at_call 18; with_reducible refine (A5.out _ HB.out).mono ?_; rintro e w6 ⟨rfl, hb2⟩; have n0_ := Aside0.mk (below_next HB.out hb2); clear HB hb2 x4 x5; have HB := n0_; clear n0_)
                go_ret
                exact ⟨by rw [HR.out]; rfl, HB.out⟩
    · skip
      have hb : bareB x = false := by unfold bareB plainB nestB; rw [HK.out]; simp only [f0, Bool.and_false, Bool.false_and, Bool.not_true]; rfl
      have HR : Aside0 (R = false) := ⟨by rw [HE.out, hb]; rfl⟩
      clear hb
      rw [f0] at x2
      go_wp2_with fail
      go_ret
      exact ⟨by rw [HR.out]; rfl, HB.out⟩
end Go.Proofs.YtnghlkbmfhkmoaaGreatDoor
namespace Go.Proofs.YtnghlkbmfhkmoaaGreatDoor
open Go.RowKit Go.Proofs.YtnghlkbmfhkmoaaGreatDoorW.PrintWords Go.Proofs.YtnghlkbmfhkmoaaGreatDoorW.PrintLast Go.Proofs.YtnghlkbmfhkmoaaGreatDoorW.PrintMore Hy
theorem rmv_next (W : World) (f : Nat) (HV : RMV W f) (HK : RMKs W f) : RMV W (f + 1) := by
  intro w x d hW hx hs hd hd1
  by_cases h0 : 0 ≤ d
  · have hno : ¬ (0 ≤ x.kind ∧ x.kind ≤ 7) → mayV W (f + 1) d x = false := fun h => by
      have hb : bareB x = false := by unfold bareB; rw [if_neg (by omega), if_neg (by omega), if_neg (by omega), if_neg (by omega), if_neg (by omega), if_neg (by omega), if_neg (by omega)]
      show (decide (0 ≤ d) && (bareB x && _)) = false
      rw [hb]
      simp
    by_cases hn : x.kind < 0
    · rw [hno (by omega)]
      exact rmv_neg w x d h0 hn
    · by_cases hb : 7 < x.kind
      · rw [hno (by omega)]
        exact rmv_big w x d h0 hb
      · have hc : x.kind = 0 ∨ x.kind = 1 ∨ x.kind = 2 ∨ x.kind = 3 ∨ x.kind = 4 ∨ x.kind = 5 ∨ x.kind = 6 ∨ x.kind = 7 := by omega
        rcases hc with hk | hk | hk | hk | hk | hk | hk | hk
        · exact rmv_0 W w x d f hk h0 hd1 hx hs hW HV HK
        · exact rmv_1 W w x d f hk h0 hd1 hx hs hW HV HK
        · exact rmv_2 W w x d f hk h0 hd1 hx hs hW HV HK
        · exact rmv_3 W w x d f hk h0 hd1 hx hs hW HV HK
        · exact rmv_4 W w x d f hk h0 hd1 hx hs hW HV HK
        · exact rmv_5 W w x d f hk h0 hd1 hx hs hW HV HK
        · exact rmv_6 W w x d f hk h0 hd1 hx hs hW HV HK
        · exact rmv_7 W w x d f hk h0 hd1 hx hs hW HV HK
  · have he : mayV W (f + 1) d x = false := by
      show (decide (0 ≤ d) && _) = false
      rw [decide_eq_false h0]
      rfl
    rw [he]
    exact rmv_low w x d (by omega)
theorem rmv_all (W : World) : ∀ f, RMV W f
  | 0 => fun _ _ _ _ _ hs _ _ => hs.1.elim
  | f + 1 => rmv_next W f (rmv_all W f) (rmks_any W f (rmk_any W f (rmv_all W f)))
theorem rmk_all (W : World) (f : Nat) : RMK W f := rmk_any W f (rmv_all W f)
theorem rmks_all (W : World) (f : Nat) : RMKs W f := rmks_any W f (rmk_all W f)
end Go.Proofs.YtnghlkbmfhkmoaaGreatDoor
namespace Go.Proofs.YtnghlkbmfhkmoaaGreatDoor
open Go.RowKit Go.Proofs.YtnghlkbmfhkmoaaGreatDoorW.PrintWords Go.Proofs.YtnghlkbmfhkmoaaGreatDoorW.PrintLast Go.Proofs.YtnghlkbmfhkmoaaGreatDoorW.PrintMore Hy
open CExr
/-! ### the document's own: tags, records -/
theorem vput_f (v : Int) (k : Nat) (h0 : 0 ≤ v) (h1 : v < 18446744073709551616) (hk : 10 ≤ k) : hygref2_Varint.f k v = some (put v) := by
  obtain ⟨v, rfl⟩ := Int.eq_ofNat_of_zero_le h0
  have := vput_k v k (by omega) hk
  rw [this]
  rfl
theorem rtag_f (n t : Int) (k : Nat) (hk : 10 ≤ k) : hygref2_Tag.f k n t = some (tagB n t) := by
  unfold hygref2_Tag.f tagB
  by_cases h1 : n < 1
  · rw [if_pos h1, if_pos (.inl h1)]
  rw [if_neg h1]
  by_cases h2 : n ≥ 536870912
  · rw [if_pos h2, if_pos (.inr (.inl (by omega)))]
  rw [if_neg h2]
  by_cases h3 : t < 0
  · rw [if_pos h3, if_pos (.inr (.inr (.inl h3)))]
  rw [if_neg h3]
  by_cases h4 : t > 5
  · rw [if_pos h4, if_pos (.inr (.inr (.inr h4)))]
  rw [if_neg h4, if_neg (by omega), or_tag n t (by omega) (by omega) (by omega) (by omega), vput_f _ k (by omega) (by omega) hk]
  rfl
theorem rtag_any (n t : Int) (w : World) : Calls Tryz.prog 53 #[.int .i64 n, .int .i64 t] w fun e w' => e = .returned (.string (tagB n t)) ∧ Below w.heap.size w w' := CExr.hygref2_Tag.calls 10 n t _ w (rtag_f n t 10 (Nat.le_refl _))
theorem tagB_no {n t : Int} (h : n < 1 ∨ n > 536870911 ∨ t < 0 ∨ t > 5) : tagB n t = ⟨#[]⟩ := by unfold tagB; rw [if_pos h]
theorem tagB_yes {n t : Int} (h : ¬ (n < 1 ∨ n > 536870911 ∨ t < 0 ∨ t > 5)) : tagB n t = put (n * 8 + t) := by unfold tagB; rw [if_neg h]
theorem rnum_any (n v : Int) (w : World) (h0 : 0 ≤ v) (h1 : v < 18446744073709551616) : Calls Tryz.prog 99 #[.int .i64 n, .int .u64 v] w fun e w' => e = .returned (.string (recB n 0 (put v))) ∧ Below w.heap.size w w' := by
  refine CExr.hygref2_Num.calls 10 n v _ w ?_
  unfold hygref2_Num.f recB
  rw [rtag_f n 0 10 (Nat.le_refl _), Option.bind_some, vput_f v 10 h0 h1 (Nat.le_refl _), Option.bind_some]
  by_cases h : n < 1 ∨ n > 536870911 ∨ (0 : Int) < 0 ∨ (0 : Int) > 5
  · rw [tagB_no h, if_pos (by rw [ByteArray.toList_eq]), if_pos h]
  · have hp := putL_len10 (n * 8 + 0).toNat (by omega)
    have hv := putL_len10 v.toNat (by omega)
    rw [tagB_yes h, if_neg (tag_put _), if_neg h, if_pos (by rw [put_size, put_size]; omega)]
theorem eight_l0 (n : Nat) : ∀ (d i k : Nat), i + d = 8 → d < k → hygref2_Eight.l0 k (n : Int) ((leL i n).map fun (x : Nat) => (x : Int)) (i : Int) = some (st (leL 8 n)) := by
  intro d
  induction d with
  | zero =>
    intro i k hi hk
    obtain ⟨k, rfl⟩ : ∃ m, k = m + 1 := ⟨k - 1, by omega⟩
    obtain rfl : i = 8 := by omega
    rw [hygref2_Eight.l0, if_neg (by omega), strOfNums_eq]
  | succ d ih =>
    intro i k hi hk
    obtain ⟨k, rfl⟩ : ∃ m, k = m + 1 := ⟨k - 1, by omega⟩
    have e0 : IntKind.u64.wrap (wrap64 (8 * (i : Int))) = ((8 * i : Nat) : Int) := by rw [wrap_u64]; unfold wrap64; omega
    have e1 : wrap64 ((i : Int) + 1) = ((i + 1 : Nat) : Int) := by unfold wrap64; omega
    have e2 : shr .u64 (n : Int) ((8 * i : Nat) : Int) % 256 = ((n / 256 ^ i % 256 : Nat) : Int) := by
      unfold shr
      rw [Int.toNat_natCast, Nat.min_eq_left (by simp [IntKind.bits]; omega)]
      exact shr8 n i
    rw [hygref2_Eight.l0, if_pos (by omega), e0, if_pos (by omega), if_pos (by rw [List.length_map, leL_length]; omega), e1, e2]
    have := ih (i + 1) k (by omega) (by omega)
    rw [leL_snoc, List.map_append] at this
    exact this
theorem eight_f (n : Nat) (k : Nat) (hk : 9 ≤ k) : hygref2_Eight.f k (n : Int) = some (st (leL 8 n)) := by
  have := eight_l0 n 8 0 k rfl (by omega)
  exact this
theorem rfixed_any (n : Int) (v : Nat) (w : World) : Calls Tryz.prog 34 #[.int .i64 n, .int .u64 (v : Int)] w fun e w' => e = .returned (.string (recB n 1 (st (leL 8 v)))) ∧ Below w.heap.size w w' := by
  refine CExr.hygref2_Fixed.calls 10 n (v : Int) _ w ?_
  unfold hygref2_Fixed.f recB
  rw [rtag_f n 1 10 (Nat.le_refl _), Option.bind_some, eight_f v 10 (by decide), Option.bind_some]
  by_cases h : n < 1 ∨ n > 536870911 ∨ (1 : Int) < 0 ∨ (1 : Int) > 5
  · rw [tagB_no h, if_pos (by rw [ByteArray.toList_eq]), if_pos h]
  · have hp := putL_len10 (n * 8 + 1).toNat (by omega)
    rw [tagB_yes h, if_neg (tag_put _), if_neg h, if_pos (by rw [put_size, st_size, leL_length]; omega)]
set_option maxHeartbeats 4000000 in
set_option maxRecDepth 100000 in
theorem rbytes_any (n : Int) (s : ByteArray) (w : World) (hs : s.size ≤ 100000000) :
    Calls Tryz.prog 55 #[.int .i64 n, .string s] w fun e w' => e = .returned (.string (recB n 2 (put (s.size : Int) ++ s))) ∧ Below w.heap.size w w' := by
  have HB := Aside0.mk (Below.refl w.heap.size w)
  have A1 := fun w => rtag_any n 2 w
  by_cases h : n < 1 ∨ n > 536870911 ∨ (2 : Int) < 0 ∨ (2 : Int) > 5
  · rw [tagB_no h] at A1
    have hr : recB n 2 (put (s.size : Int) ++ s) = ⟨#[]⟩ := by unfold recB; rw [if_pos h]
    rw [hr]
    clear h hr
    go_enter Tryz.func55, Tryz.ntmps55
    go_wp2_with (first
      | (go_at_call 53; refine (A1 _).mono ?_; rintro e wb ⟨rfl, hb⟩; have HBn : Aside0 (Below w.heap.size w wb) := ⟨below_next (by repeat (first | (with_reducible exact HB.out) | apply below_alloc | apply pw_below_drewN | apply below_drew1)) hb⟩; clear HB hb; have HB := HBn; clear HBn))
    go_ret
    exact ⟨rfl, HB.out⟩
  · rw [tagB_yes h] at A1
    have hr : recB n 2 (put (s.size : Int) ++ s) = put (n * 8 + 2) ++ put (s.size : Int) ++ s := by unfold recB; rw [if_neg h]; apply bs_inj; rw [bs_append, bs_append, bs_append, bs_append, List.append_assoc]
    rw [hr]
    have hw : IntKind.u64.wrap (s.size : Int) = (s.size : Int) := by rw [wrap_u64]; omega
    have A2 := fun w => vput_any s.size w (by omega)
    rw [show st (putL s.size) = put (s.size : Int) from rfl] at A2
    have hp := putL_len10 (n * 8 + 2).toNat (by omega)
    have hv := putL_len10 ((s.size : Int)).toNat (by omega)
    have hne : (put (n * 8 + 2)).toList.isEmpty = false := by
      cases hq : (put (n * 8 + 2)).toList with
      | nil => exact absurd hq (tag_put _)
      | cons => rfl
    have b1 : (put (n * 8 + 2)).size + (put (s.size : Int)).size ≤ 9223372036854775807 := by rw [put_size, put_size]; omega
    have b2 : (put (n * 8 + 2)).size + (put (s.size : Int)).size + s.size ≤ 9223372036854775807 := by rw [put_size, put_size]; omega
    have b3 : (put (n * 8 + 2) ++ put (s.size : Int)).size + s.size ≤ 9223372036854775807 := by rw [ByteArray.size_append]; exact b2
    clear h hr hp hv
    generalize put (n * 8 + 2) = T at *
    generalize put (s.size : Int) = V at *
    go_enter Tryz.func55, Tryz.ntmps55
    go_wp2_with (first
      | (go_at_call 53; refine (A1 _).mono ?_; rintro e wb ⟨rfl, hb⟩; have HBn : Aside0 (Below w.heap.size w wb) := ⟨below_next (by repeat (first | (with_reducible exact HB.out) | apply below_alloc | apply pw_below_drewN | apply below_drew1)) hb⟩; clear HB hb; have HB := HBn; clear HBn)
      | (go_at_call 76; refine (A2 _).mono ?_; rintro e wb ⟨rfl, hb⟩; have HBn : Aside0 (Below w.heap.size w wb) := ⟨below_next (by repeat (first | (with_reducible exact HB.out) | apply below_alloc | apply pw_below_drewN | apply below_drew1)) hb⟩; clear HB hb; have HB := HBn; clear HBn))
    go_ret
    exact ⟨rfl, HB.out⟩
end Go.Proofs.YtnghlkbmfhkmoaaGreatDoor
namespace Go.Proofs.YtnghlkbmfhkmoaaGreatDoor
open Go.RowKit Go.Proofs.YtnghlkbmfhkmoaaGreatDoorW.PrintWords Go.Proofs.YtnghlkbmfhkmoaaGreatDoorW.PrintLast Go.Proofs.YtnghlkbmfhkmoaaGreatDoorW.PrintMore Hy
/-! ### what is written, by the document -/
def GdV (W : World) (f : Nat) (x : Vl) : Prop := ∃ d, mayV W f d x = true
def GdK (W : World) (f : Nat) (y : Kv) : Prop := ∃ d, mayK (mayV W f) d y = true
theorem GdK.v {W : World} {f : Nat} {y : Kv} (h : GdK W f y) (hh : y.has = true) : GdV W f y.v := by
  obtain ⟨d, h⟩ := h
  unfold mayK at h
  rw [hh, if_pos rfl] at h
  simp only [Bool.and_eq_true] at h
  exact ⟨_, h.2.2.2⟩
theorem GdV.of {W : World} {f : Nat} {x : Vl} (h : GdV W (f + 1) x) : bareB x = true ∧ (x.kind = 5 → ∀ y ∈ vls W x.l, GdV W f y) ∧ (x.kind = 6 → ∀ y ∈ kvs W x.m, GdK W f y) := by
  obtain ⟨d, h⟩ := h
  have he : mayV W (f + 1) d x = (decide (0 ≤ d) && (bareB x && (restB tbV d x.unk && (if x.kind = 5 ∨ x.kind = 6 then decide (1 ≤ d) && (restB tbL (d - 1) x.inner && ((vls W x.l).all (mayV W f (d - 2)) && (kvs W x.m).all (mayK (mayV W f) (d - 2)))) else true)))) := rfl
  rw [he] at h
  simp only [Bool.and_eq_true] at h
  obtain ⟨_, h1, _, h3⟩ := h
  refine ⟨h1, fun hk y hy => ?_, fun hk y hy => ?_⟩
  · rw [if_pos (.inl hk)] at h3
    simp only [Bool.and_eq_true] at h3
    exact ⟨_, List.all_eq_true.1 h3.2.2.1 y hy⟩
  · rw [if_pos (.inr hk)] at h3
    simp only [Bool.and_eq_true] at h3
    exact ⟨_, List.all_eq_true.1 h3.2.2.2 y hy⟩
theorem bareB_n {x : Vl} (h : bareB x = true) (hk : x.kind = 2) : x.n = 0 := by
  unfold bareB at h
  rw [if_neg (by omega), if_neg (by omega), if_pos hk] at h
  simp only [Bool.and_eq_true, decide_eq_true_eq] at h
  exact h.2.1
def RW_ (W : World) (f : Nat) : Prop := ∀ (w : World) (x : Vl), Below W.heap.size W w → VlOk W x → SmV W f x → GdV W f x → Calls Tryz.prog 77 #[.agg (vlC x).toArray] w fun e w' => e = .returned (.string (bytV W f x)) ∧ Below w.heap.size w w'
def RWK (W : World) (f : Nat) : Prop := ∀ (w : World) (y : Kv), Below W.heap.size W w → KvOk W y → SmK W f y → GdK W f y → Calls Tryz.prog 56 #[.agg (kvC y).toArray] w fun e w' => e = .returned (.string (keyB (bytV W f) y)) ∧ Below w.heap.size w w'
def RPK (W : World) (f : Nat) : Prop := ∀ (w : World) (s : Sl) (n : Int), Below W.heap.size W w → Rd Tryz.prog W 22 [s.v] → (∀ y ∈ kvs W s, SmK W f y) → (∀ y ∈ kvs W s, GdK W f y) → ((kvs W s).map (kw W f)).sum ≤ 12000 →
  Calls Tryz.prog 36 #[.int .i64 n, s.v] w fun e w' => e = .returned (.string (catB (fun y => putB n (keyB (bytV W f) y)) (kvs W s))) ∧ Below w.heap.size w w'
theorem rputtext_any (n : Int) (s : ByteArray) (w : World) (hs : s.size ≤ 100000000) : Calls Tryz.prog 35 #[.int .i64 n, .string s] w fun e w' => e = .returned (.string (whenB (!emB s) (putB n s))) ∧ Below w.heap.size w w' := by
  have H := Aside0.mk (rbytes_any n s w hs)
  unfold putB
  generalize recB n 2 (put (s.size : Int) ++ s) = t at *
  clear hs
  cases h : emB s
  · have g : (s.toList == []) = false := h
    clear h
    go_enter Tryz.func35, Tryz.ntmps35
    go_wp2_with (go_at_call 55; with_reducible refine H.out.mono ?_; rintro e w2 ⟨rfl, hb⟩; have HB := Aside0.mk hb; clear hb)
    go_ret
    exact ⟨rfl, HB.out⟩
  · have g : (s.toList == []) = true := h
    clear h
    go_enter Tryz.func35, Tryz.ntmps35
    go_wp2_with fail
    go_ret
    exact ⟨rfl, Below.refl _ _⟩
theorem putB_ge (n : Int) (q : ByteArray) (h : 1 ≤ n ∧ n ≤ 536870911) : q.size ≤ (putB n q).size := by unfold putB recB; rw [if_neg (by omega), ByteArray.size_append, ByteArray.size_append]; omega
set_option maxHeartbeats 4000000 in
set_option maxRecDepth 100000 in
theorem rwk_any (W : World) (f : Nat) (HV : RW_ W f) : RWK W f := by
  intro w y hW hy hs hg
  have hq := bytV_le W f y.v hy.v hs.v
  have hq2 := hs.v.2
  have hk := hs.key
  have hu := hs.unk
  have A3 := Aside0.mk (fun w2 (hb : Below w.heap.size w w2) (hh : y.has = true) => HV w2 y.v (hW.trans (hb.mono hW.size)) hy.v hs.v (hg.v hh))
  unfold vlC Sl.v at A3
  unfold keyB
  generalize bytV W f y.v = q at *
  have A1 := Aside0.mk (fun w2 => rputtext_any 1 y.key w2 (by omega))
  have A4 := Aside0.mk (fun w2 => rbytes_any 2 q w2 (by omega))
  obtain ⟨s1, hs1⟩ : ∃ s1, whenB (!emB y.key) (putB 1 y.key) = s1 := ⟨_, rfl⟩
  obtain ⟨s2, hs2⟩ : ∃ s2, putB 2 q = s2 := ⟨_, rfl⟩
  have l1 : s1.size ≤ 12020 := by rw [← hs1]; have h1 := whenB_le (!emB y.key) (putB 1 y.key); have h2 := putB_le 1 y.key (by omega); omega
  have l2 : s2.size ≤ 12040 := by rw [← hs2]; have h2 := putB_le 2 q (by omega); omega
  unfold putB at A1 A4 hs1 hs2
  rw [hs1] at A1
  rw [hs2] at A4
  unfold putB
  rw [hs1, hs2]
  have b1 : s1.size + s2.size ≤ 9223372036854775807 := by omega
  have b2 : (s1 ++ s2).size + y.unk.size ≤ 9223372036854775807 := by rw [ByteArray.size_append]; omega
  have b3 : s1.size + y.unk.size ≤ 9223372036854775807 := by omega
  have b4 : s1.size + s2.size + y.unk.size ≤ 9223372036854775807 := by omega
  obtain ⟨hh, eh⟩ : ∃ q, y.has = q := ⟨_, rfl⟩
  rw [eh] at A3 ⊢
  have EH := Aside0.mk eh
  clear eh HV hW hy hs hg hq hq2 hk hu hs1 hs2 l1 l2
  have z := Tryz.sizeOf57
  cases hh
  · have HR : Aside0 (s1 ++ whenB false s2 = s1) := ⟨app_none s1⟩
    rw [HR.out]
    clear HR
    go_enter Tryz.func56, Tryz.ntmps56
    go_upto_region 1 with (with_reducible refine gate_dst (N := 1) rfl ?_; refine Great.wpList_boxTo rfl 59 _ rfl _ rfl w.heap.size rfl (kvC y).toArray rfl ?_)
    have HX : Aside0 (XK (w.alloc (.cells (kvC y).toArray 59)) w.heap.size y) := ⟨⟨heap_alloc_new w _⟩⟩
    have HB : Aside0 (Below w.heap.size w (w.alloc (.cells (kvC y).toArray 59))) := ⟨(Below.refl _ _).alloc (Nat.le_refl _) _⟩
    generalize (w.alloc (.cells (kvC y).toArray 59)) = w1 at *
    generalize hg : w.heap.size = g at HX ⊢
    clear hg
    have a0 := HX.out.c0
    have a1 := HX.out.c1
    have a2 := HX.out.c2
    have a3 := HX.out.c3
    have a4 := HX.out.c4
    have a5 := HX.out.c5
    have a6 := HX.out.c6
    have a7 := HX.out.c7
    have a8 := HX.out.c8
    have a9 := HX.out.c9
    have a10 := HX.out.c10
    rw [EH.out] at a1
    go_wp2_with (go_at_call 35; with_reducible refine (A1.out _).mono ?_; rintro e wn ⟨rfl, hb2⟩; have n0_ := Aside0.mk (below_next HB.out hb2); have n1_ : Aside0 (XK wn g y) := ⟨HX.out.below hb2⟩; clear HB HX hb2 a0 a1 a2 a3 a4 a5 a6 a7 a8 a9 a10; have HB := n0_; have HX := n1_; clear n0_ n1_; have a0 := HX.out.c0; have a1 : wn.cell? ⟨g, 1, none⟩ = some (.bool false) := EH.out ▸ HX.out.c1; have a2 := HX.out.c2; have a3 := HX.out.c3; have a4 := HX.out.c4; have a5 := HX.out.c5; have a6 := HX.out.c6; have a7 := HX.out.c7; have a8 := HX.out.c8; have a9 := HX.out.c9; have a10 := HX.out.c10)
    go_ret
    exact ⟨rfl, HB.out⟩
  · skip
    go_enter Tryz.func56, Tryz.ntmps56
    go_upto_region 1 with (with_reducible refine gate_dst (N := 1) rfl ?_; refine Great.wpList_boxTo rfl 59 _ rfl _ rfl w.heap.size rfl (kvC y).toArray rfl ?_)
    have HX : Aside0 (XK (w.alloc (.cells (kvC y).toArray 59)) w.heap.size y) := ⟨⟨heap_alloc_new w _⟩⟩
    have HB : Aside0 (Below w.heap.size w (w.alloc (.cells (kvC y).toArray 59))) := ⟨(Below.refl _ _).alloc (Nat.le_refl _) _⟩
    generalize (w.alloc (.cells (kvC y).toArray 59)) = w1 at *
    generalize hg : w.heap.size = g at HX ⊢
    clear hg
    have a0 := HX.out.c0
    have a1 := HX.out.c1
    have a2 := HX.out.c2
    have a3 := HX.out.c3
    have a4 := HX.out.c4
    have a5 := HX.out.c5
    have a6 := HX.out.c6
    have a7 := HX.out.c7
    have a8 := HX.out.c8
    have a9 := HX.out.c9
    have a10 := HX.out.c10
    rw [EH.out] at a1
    go_wp2_with (first
      | (go_at_call 35; with_reducible refine (A1.out _).mono ?_; rintro e wn ⟨rfl, hb2⟩; have n0_ := Aside0.mk (below_next HB.out hb2); have n1_ : Aside0 (XK wn g y) := ⟨HX.out.below hb2⟩; clear HB HX hb2 a0 a1 a2 a3 a4 a5 a6 a7 a8 a9 a10; have HB := n0_; have HX := n1_; clear n0_ n1_; have a0 := HX.out.c0; have a1 : wn.cell? ⟨g, 1, none⟩ = some (.bool true) := EH.out ▸ HX.out.c1; have a2 := HX.out.c2; have a3 := HX.out.c3; have a4 := HX.out.c4; have a5 := HX.out.c5; have a6 := HX.out.c6; have a7 := HX.out.c7; have a8 := HX.out.c8; have a9 := HX.out.c9; have a10 := HX.out.c10)
      | (go_at_call 77; with_reducible refine (A3.out _ HB.out (by trivial)).mono ?_; rintro e wn ⟨rfl, hb2⟩; have n0_ := Aside0.mk (below_next HB.out hb2); have n1_ : Aside0 (XK wn g y) := ⟨HX.out.below hb2⟩; clear HB HX hb2 a0 a1 a2 a3 a4 a5 a6 a7 a8 a9 a10; have HB := n0_; have HX := n1_; clear n0_ n1_; have a0 := HX.out.c0; have a1 : wn.cell? ⟨g, 1, none⟩ = some (.bool true) := EH.out ▸ HX.out.c1; have a2 := HX.out.c2; have a3 := HX.out.c3; have a4 := HX.out.c4; have a5 := HX.out.c5; have a6 := HX.out.c6; have a7 := HX.out.c7; have a8 := HX.out.c8; have a9 := HX.out.c9; have a10 := HX.out.c10)
      | (go_at_call 55; with_reducible refine (A4.out _).mono ?_; rintro e wn ⟨rfl, hb2⟩; have n0_ := Aside0.mk (below_next HB.out hb2); have n1_ : Aside0 (XK wn g y) := ⟨HX.out.below hb2⟩; clear HB HX hb2 a0 a1 a2 a3 a4 a5 a6 a7 a8 a9 a10; have HB := n0_; have HX := n1_; clear n0_ n1_; have a0 := HX.out.c0; have a1 : wn.cell? ⟨g, 1, none⟩ = some (.bool true) := EH.out ▸ HX.out.c1; have a2 := HX.out.c2; have a3 := HX.out.c3; have a4 := HX.out.c4; have a5 := HX.out.c5; have a6 := HX.out.c6; have a7 := HX.out.c7; have a8 := HX.out.c8; have a9 := HX.out.c9; have a10 := HX.out.c10))
    go_ret
    exact ⟨rfl, HB.out⟩
set_option maxHeartbeats 4000000 in
set_option maxRecDepth 100000 in
theorem rpk_any (W : World) (f : Nat) (HE : RWK W f) : RPK W f := by
  intro w s n hW hs hf hgd hw
  have hl := kvs_at hs
  generalize kvs W s = l at *
  obtain ⟨sa, sn, sc⟩ := s
  obtain rfl : sn = l.length := hl.1
  have hlm : l.length ≤ 9223372036854775807 := by have h := hl.2.1; have h2 := hl.2.2.1; unfold maxLen at h2; simp only at h h2; omega
  have hP : ∀ y ∈ l, ((fun y => putB n (keyB (bytV W f) y)) y).size ≤ kw W f y := fun y hy => show (putB n (keyB (bytV W f) y)).size ≤ kw W f y from by have e1 := keyB_le (hf y hy) (bytV_le W f y.v (slAt_ok hl y hy).v (hf y hy).v); have e2 := sum_mem (g := kw W f) hy; have e3 := putB_le n (keyB (bytV W f) y) (by omega); omega
  have hQ : ∀ y ∈ l, (keyB (bytV W f) y).size ≤ 12000 := fun y hy => by have e1 := keyB_le (hf y hy) (bytV_le W f y.v (slAt_ok hl y hy).v (hf y hy).v); have e2 := sum_mem (g := kw W f) hy; omega
  have HP := Aside0.mk hP
  have HQ := Aside0.mk hQ
  have HL := Aside0.mk hl
  have HW := Aside0.mk hW
  have HF := Aside0.mk hf
  have HGD := Aside0.mk hgd
  have HSM := Aside0.mk hw
  have HVV := Aside0.mk HE
  have HB := Aside0.mk (Below.refl w.heap.size w)
  unfold Sl.v
  clear hl hW hf HE hs hP hQ hw hgd
  generalize hpt : (fun y => putB n (keyB (bytV W f) y)) = pt at HP ⊢
  have HPT := Aside0.mk hpt
  clear hpt
  go_enter Tryz.func36, Tryz.ntmps36
  go_wp2_with fail
  go_loopw [5, 6] (fun v5 v6 w' => ∃ i : Nat, v5 = .string (catB pt (l.take i)) ∧ v6 = .int .i64 (i : Int) ∧ i ≤ l.length ∧ Aside0 (Below w.heap.size w w')) (fun _ v6 _ => l.length - (intOf v6).toNat)
  case atStart => exact ⟨0, rfl, rfl, Nat.zero_le _, HB⟩
  case round =>
    clear HB
    obtain ⟨i, rfl, rfl, hi, HB⟩ := hrel
    by_cases hlt : i < l.length
    · obtain ⟨ad, rfl, hel⟩ := HL.out.2.2.2 (by omega)
      obtain ⟨he1, he2⟩ := hel i hlt
      have hfi := HF.out l[i] (List.getElem_mem hlt)
      have hgi := HGD.out l[i] (List.getElem_mem hlt)
      have hpi := HP.out l[i] (List.getElem_mem hlt)
      have hqi := HQ.out l[i] (List.getElem_mem hlt)
      have hsi := sum_mem (g := kw W f) (List.getElem_mem hlt)
      have hci := catB_le pt (kw W f) l i HP.out
      have hni := catB_next pt l i l[i] (List.getElem?_eq_getElem hlt)
      have hpe : pt l[i] = putB n (keyB (bytV W f) l[i]) := by rw [← HPT.out]
      generalize l[i] = y at *
      have hWr : Below W.heap.size W wr := HW.out.trans (HB.out.mono HW.out.size)
      have HPX := Aside0.mk (cells_below hWr (kv_cells he1))
      have HKY := Aside0.mk (HVV.out wr y hWr he2 hfi hgi)
      obtain ⟨q, hq⟩ : ∃ q, keyB (bytV W f) y = q := ⟨_, rfl⟩
      rw [hq] at HKY hpe hqi
      have HBY := Aside0.mk (fun w2 => rbytes_any n q w2 (by omega))
      obtain ⟨t, ht⟩ : ∃ t, putB n q = t := ⟨_, rfl⟩
      rw [hpe, ht] at hni hpi
      unfold putB at ht
      rw [ht] at HBY
      obtain ⟨sA, hsA⟩ : ∃ sA, catB pt (l.take i) = sA := ⟨_, rfl⟩
      rw [hsA] at hci hni ⊢
      have HNI := Aside0.mk hni
      have b1 : sA.size + t.size ≤ 9223372036854775807 := by have := HSM.out; omega
      have HBr := HB
      clear he1 he2 hel hfi hgi hWr hpi hqi hsi hci hni hpe hq ht hsA
      have c1 : (i : Int) < (l.length : Int) := by omega
      have c2 : (0 : Int) ≤ (i : Int) := by omega
      go_wp2_with (first
        | ((with_reducible refine gate_dst (N := 18) rfl ?_); refine wpList_load_at rfl 59 _ rfl (ad.add (i * 11)) rfl (kvC y) HPX.out Tryz.underlying59 rfl (by kernel_rfl) ?_)
        | (go_at_call 56; with_reducible refine HKY.out.mono ?_; rintro e w4 ⟨rfl, hb⟩; have HBn := Aside0.mk (below_next HB.out hb); clear HB hb HPX HKY; have HB := HBn; clear HBn)
        | (go_at_call 55; with_reducible refine (HBY.out _).mono ?_; rintro e w5 ⟨rfl, hb⟩; have HBn := Aside0.mk (below_next HB.out hb); clear HB hb; have HB := HBn; clear HBn))
      go_roundw
      case rel => exact ⟨i + 1, by rw [HNI.out], by go_num, by omega, HB⟩
      case measure => simp [intOf]; omega
    · have hca := catB_all pt l i (by omega)
      rw [hca]
      clear hca
      go_wp2_with fail
      go_ret
      exact ⟨rfl, HB.out⟩
theorem rpack_any (W : World) (f : Nat) (HE : RPK W f) (w : World) (s : Sl) (hW : Below W.heap.size W w) (hs : Rd Tryz.prog W 22 [s.v]) (hf : ∀ y ∈ kvs W s, SmK W f y) (hgd : ∀ y ∈ kvs W s, GdK W f y) (hw : ((kvs W s).map (kw W f)).sum ≤ 12000) :
    Calls Tryz.prog 100 #[s.v] w fun e w' => e = .returned (.string (catB (fun y => putB 1 (keyB (bytV W f) y)) (kvs W s))) ∧ Below w.heap.size w w' := by
  have H := Aside0.mk (HE w s 1 hW hs hf hgd hw)
  clear HE hW hs hf hgd hw
  generalize catB (fun y => putB 1 (keyB (bytV W f) y)) (kvs W s) = T at *
  unfold Sl.v at *
  go_enter Tryz.func100, Tryz.ntmps100
  go_wp2_with (go_at_call 36; with_reducible refine H.out.mono ?_; rintro e w2 ⟨rfl, hb⟩; have HB := Aside0.mk hb; clear hb)
  go_ret
  exact ⟨rfl, HB.out⟩
end Go.Proofs.YtnghlkbmfhkmoaaGreatDoor
