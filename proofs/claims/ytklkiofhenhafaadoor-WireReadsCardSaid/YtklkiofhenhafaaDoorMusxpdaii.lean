import Derived.Test.YtklkiofhenhafaaDoorMpnogqffe
import Derived.Test.YtklkiofhenhafaaDoorMlrlhopvx
import Derived.Test.YtklkiofhenhafaaDoorMvkuxiryh
import Derived.Test.YtklkiofhenhafaaDoorMjorrvulm
namespace Go.Proofs.YtklkiofhenhafaaDoor
open Go.RowKit Go.Proofs.YtklkiofhenhafaaDoorW.PrintWords Go.Proofs.YtklkiofhenhafaaDoorW.PrintLast Go.Proofs.YtklkiofhenhafaaDoorW.PrintMore Hy

set_option maxHeartbeats 4000000 in
set_option maxRecDepth 100000 in
theorem wreads_far (s raw S : ByteArray) (a dp p n t N : Int) (w : World) (hs : s.size ≤ 4000) (hdp0 : -9223372036854775808 ≤ dp) (hdp1 : dp < 9223372036854775808) (hg : Laid w) (h1 : (s.size : Int) < a)
    (H1 : ∀ w, Calls Tryd.prog 7 #[.string s, .int .i64 a, .int .i64 dp] w fun e w' => ∃ T v E, e = .returned (.tuple #[recV n t N S raw, .int .i64 p, .iface T v]) ∧ IsE w' E (.iface T v) ∧ (∃ q : Int, E = .at_ q (.code 9)) ∧ Below w.heap.size w w')
    (H2 : ∀ w, Calls Tryd.prog 8 #[.string s, .int .i64 a, .int .i64 dp] w fun e w' => e = .returned (.tuple #[recV n t N S raw, .int .i64 p, .bool false]) ∧ Below w.heap.size w w') :
    Calls Tryd.prog 3 #[.string s, .int .i64 a, .int .i64 dp] w fun e w' => e = .returned (.bool true) ∧ Below w.heap.size w w' := by
  have H3 := fun w => wall_any w s dp (by omega) hdp0 hdp1
  have H4 := fun w => rall_any w s dp (by omega) hdp1
  have HG := Aside0.mk hg
  clear hg hdp0 hdp1
  have HB := Aside0.mk (Below.refl w.heap.size w)
  have g1 : ¬ ((s.size : Int) > 4000) := by omega
  go_enter Tryd.func3, Tryd.ntmps3
  go_wp2_with fail
  refine (wire_first _).mono ?_
  rintro e wb ⟨rfl, hb⟩
  have HBn : Aside0 (Below w.heap.size w wb) := ⟨below_next HB.out hb⟩; clear HB; have HB := HBn; clear HBn
  clear hb
  go_wp2_with fail
  refine (H1 _).mono ?_
  rintro e w1 ⟨T, v, E, rfl, hu, hE, hb⟩
  unfold recV
  have HU := Aside0.mk hu
  clear hu
  have HBn : Aside0 (Below w.heap.size w w1) := ⟨below_next HB.out hb⟩; clear HB; have HB := HBn; clear HBn
  clear hb
  have HCd : Aside0 (∀ w, Laid w → IsE w E (.iface T v) → Calls Tryd.prog 11 #[.iface T v] w fun e w' => e = .returned (.int .i64 9) ∧ Below w.heap.size w w') := ⟨fun w hg hu => by obtain ⟨q, rfl⟩ := hE; exact codeAt q 9 _ w hg hu⟩
  clear hE
  clear H1
  go_upto_region 6 with (first
    | ((with_reducible refine gate_dst (N := 7) rfl ?_); refine box_event ?hg (N := 7) ?hd (cs := #[.int .i64 0, .int .i64 0, .int .u64 0, .string ⟨#[]⟩, .string ⟨#[]⟩]) (t := 25) ?hr ?_; (case hd => rfl); (case hg => rfl); (case hr => first | (go_simp; done) | (go_simp; rfl)); intro x hx w2 hx4 hb4
       have hx4 : XW w2 x 0 0 0 ByteArray.empty ByteArray.empty := hx4
       have hbx : w.heap.size ≤ x := by have := HB.out.size; omega
       have HBn := Aside0.mk (HB.out.trans (hb4.mono HB.out.size)); clear HB; have HB := HBn; clear HBn
       have z0 := hx4.c0
       have z1 := hx4.c1
       have z2 := hx4.c2
       have z3 := hx4.c3
       have z4 := hx4.c4
       have zf := fun i => hx4.fz i
       have k5 := kp_all w2 x (.int .i64 n) (.int .i64 t) (.int .u64 N) (.string S) (.string raw)
       have Hx := Aside0.mk (hx4.all n t N S raw)
       have HBn := Aside0.mk (HB.out.trans (k5.toBelow HB.out.size (fun k e => by rw [e]; exact hbx))); clear HB; have HB := HBn; clear HBn
       have HUn := Aside0.mk ((HU.out.below hb4).xkp hx4 k5); clear HU; have HU := HUn; clear HUn
       clear hx hx4 k5 hb4))
  clear z0 z1 z2 z3 z4 zf hbx
  generalize ((((w2.setCell ⟨x, 0, none⟩ (.int .i64 n)).setCell ⟨x, 1, none⟩ (.int .i64 t)).setCell ⟨x, 2, none⟩ (.int .u64 N)).setCell ⟨x, 3, none⟩ (.string S)).setCell ⟨x, 4, none⟩ (.string raw) = w3 at *
  go_wp2_with fail
  refine (H2 _).mono ?_
  rintro e w4 ⟨rfl, hb⟩
  unfold recV
  have HXn : Aside0 (XW w4 x n t N S raw) := ⟨blk_below Hx.out hb⟩; clear Hx; have Hx := HXn; clear HXn
  have HBn : Aside0 (Below w.heap.size w w4) := ⟨below_next HB.out hb⟩; clear HB; have HB := HBn; clear HBn
  have HUn := Aside0.mk (HU.out.below hb); clear HU; have HU := HUn; clear HUn
  clear hb
  clear H2
  go_upto_region 7 with (first
    | ((with_reducible refine gate_dst (N := 10) rfl ?_); refine box_event ?hg (N := 10) ?hd (cs := #[.int .i64 0, .int .i64 0, .int .u64 0, .string ⟨#[]⟩, .string ⟨#[]⟩]) (t := 30) ?hr ?_; (case hd => rfl); (case hg => rfl); (case hr => first | (go_simp; done) | (go_simp; rfl)); intro y hx w5 hx4 hb4
       have hx4 : XR w5 y 0 0 0 ByteArray.empty ByteArray.empty := hx4
       have hbx : w.heap.size ≤ y := by have := HB.out.size; omega
       have HBn := Aside0.mk (HB.out.trans (hb4.mono HB.out.size)); clear HB; have HB := HBn; clear HBn
       have z0 := hx4.c0
       have z1 := hx4.c1
       have z2 := hx4.c2
       have z3 := hx4.c3
       have z4 := hx4.c4
       have zf := fun i => hx4.fz i
       have k5 := kp_all w5 y (.int .i64 n) (.int .i64 t) (.int .u64 N) (.string S) (.string raw)
       have Hy := Aside0.mk (hx4.all n t N S raw)
       have HBn := Aside0.mk (HB.out.trans (k5.toBelow HB.out.size (fun k e => by rw [e]; exact hbx))); clear HB; have HB := HBn; clear HBn
       have HUn := Aside0.mk ((HU.out.below hb4).rkp hx4 k5); clear HU; have HU := HUn; clear HUn
       have HXn : Aside0 (XW _ x n t N S raw) := ⟨(show XW w5 x n t N S raw from blk_below Hx.out hb4).kp k5 (fun e => by have := blk_lt Hx.out; omega)⟩; clear Hx; have Hx := HXn; clear HXn
       clear hx hx4 k5 hb4))
  clear z0 z1 z2 z3 z4 zf hbx
  generalize ((((w5.setCell ⟨y, 0, none⟩ (.int .i64 n)).setCell ⟨y, 1, none⟩ (.int .i64 t)).setCell ⟨y, 2, none⟩ (.int .u64 N)).setCell ⟨y, 3, none⟩ (.string S)).setCell ⟨y, 4, none⟩ (.string raw) = w6 at *
  have k1 : decide (0 ≤ a) = true := decide_eq_true (by omega)
  have k2 : decide (a ≤ (s.size : Int)) = false := decide_eq_false (by omega)
  have k3 : decide (a < 0) = false := decide_eq_false (by omega)
  have k4 : decide ((s.size : Int) < a) = true := decide_eq_true (by omega)
  have HBd : Aside0 (Below w.heap.size w w6.drew) := ⟨below_drew1 HB.out⟩
  have Hxd : Aside0 (XW w6.drew x n t N S raw) := ⟨Hx.out⟩
  have Hyd : Aside0 (XR w6.drew y n t N S raw) := ⟨Hy.out⟩
  have HUd : Aside0 (IsE w6.drew E (.iface T v)) := ⟨HU.out.below (below_drew1 (Below.refl _ _))⟩
  clear hx4 h1
  refine start_ (n := 51) (S := fun w' => w'.cell? ⟨x, 0, none⟩ = some (.int .i64 n) ∧ w'.cell? ⟨x, 1, none⟩ = some (.int .i64 t) ∧ w'.cell? ⟨x, 2, none⟩ = some (.int .u64 N) ∧ w'.cell? ⟨x, 3, none⟩ = some (.string S) ∧ w'.cell? ⟨x, 4, none⟩ = some (.string raw) ∧ w'.cell? ⟨y, 0, none⟩ = some (.int .i64 n) ∧ w'.cell? ⟨y, 1, none⟩ = some (.int .i64 t) ∧ w'.cell? ⟨y, 2, none⟩ = some (.int .u64 N) ∧ w'.cell? ⟨y, 3, none⟩ = some (.string S) ∧ w'.cell? ⟨y, 4, none⟩ = some (.string raw)) (ds := []) #[false, false, false, false, false, false, false, false, false, false, false, false, false, false, false, false, false, false, false, false, false, false, false, false, false, false, false, false, false, false, false, false, false, false, false, false, false, false, false, false, false, false, false, false, false, false, false, false, false, false, false] (by kernel_rfl) rfl rfl ⟨Hxd.out.c0, Hxd.out.c1, Hxd.out.c2, Hxd.out.c3, Hxd.out.c4, Hyd.out.c0, Hyd.out.c1, Hyd.out.c2, Hyd.out.c3, Hyd.out.c4⟩ (fun hHeld => ?_)
  refine pure_ (i := 0) (N := some 40) (v := ?_) (a' := ?_) #[true, false, false, false, false, false, false, false, false, false, false, false, false, false, false, false, false, false, false, false, false, false, false, false, false, false, false, false, false, false, false, false, false, false, false, false, false, false, false, false, false, false, false, false, false, false, false, false, false, false, false] rfl rfl (by kernel_rfl) (fun _ _ _ h => h) (Or.inl ⟨by rfl, ?_⟩) ?_ ?_
  rotate_left
  · intro w'
    go_simp
    first | with_reducible rfl | (rw [if_neg (by first | omega | (rw [ByteArray.size_append]; omega))])
  rotate_left
  · simp only [Act.put, List.setIfInBounds_toArray, List.set_cons_zero, List.set_cons_succ]
    rfl
  refine pure_ (i := 1) (N := some 41) (v := ?_) (a' := ?_) #[true, true, false, false, false, false, false, false, false, false, false, false, false, false, false, false, false, false, false, false, false, false, false, false, false, false, false, false, false, false, false, false, false, false, false, false, false, false, false, false, false, false, false, false, false, false, false, false, false, false, false] rfl rfl (by kernel_rfl) (fun _ _ _ h => h) (Or.inl ⟨by rfl, ?_⟩) ?_ ?_
  rotate_left
  · intro w'
    go_simp
    first | with_reducible rfl | (rw [if_neg (by first | omega | (rw [ByteArray.size_append]; omega))])
  rotate_left
  · simp only [Act.put, List.setIfInBounds_toArray, List.set_cons_zero, List.set_cons_succ]
    rfl
  refine pure_ (i := 2) (N := some 42) (v := ?_) (a' := ?_) #[true, true, true, false, false, false, false, false, false, false, false, false, false, false, false, false, false, false, false, false, false, false, false, false, false, false, false, false, false, false, false, false, false, false, false, false, false, false, false, false, false, false, false, false, false, false, false, false, false, false, false] rfl rfl (by kernel_rfl) (fun _ _ _ h => h) (Or.inl ⟨by rfl, ?_⟩) ?_ ?_
  rotate_left
  · intro w'
    go_simp
    first | with_reducible rfl | (rw [if_neg (by first | omega | (rw [ByteArray.size_append]; omega))])
  rotate_left
  · simp only [Act.put, List.setIfInBounds_toArray, List.set_cons_zero, List.set_cons_succ]
    rfl
  refine pure_ (i := 3) (N := some 43) (v := ?_) (a' := ?_) #[true, true, true, true, false, false, false, false, false, false, false, false, false, false, false, false, false, false, false, false, false, false, false, false, false, false, false, false, false, false, false, false, false, false, false, false, false, false, false, false, false, false, false, false, false, false, false, false, false, false, false] rfl rfl (by kernel_rfl) (fun _ _ _ h => h) (Or.inl ⟨by rfl, ?_⟩) ?_ ?_
  rotate_left
  · intro w'
    go_simp
    first | with_reducible rfl | (rw [if_neg (by first | omega | (rw [ByteArray.size_append]; omega))])
  rotate_left
  · simp only [Act.put, List.setIfInBounds_toArray, List.set_cons_zero, List.set_cons_succ]
    rfl
  refine pure_ (i := 4) (N := some 44) (v := ?_) (a' := ?_) #[true, true, true, true, true, false, false, false, false, false, false, false, false, false, false, false, false, false, false, false, false, false, false, false, false, false, false, false, false, false, false, false, false, false, false, false, false, false, false, false, false, false, false, false, false, false, false, false, false, false, false] rfl rfl (by kernel_rfl) (fun _ _ _ h => h) (Or.inl ⟨by rfl, ?_⟩) ?_ ?_
  rotate_left
  · intro w'
    go_simp
    first | with_reducible rfl | (rw [if_neg (by first | omega | (rw [ByteArray.size_append]; omega))])
  rotate_left
  · simp only [Act.put, List.setIfInBounds_toArray, List.set_cons_zero, List.set_cons_succ]
    rfl
  refine take_ (i := 5) (N := some 45) (v := ?_) (a' := ?_) #[true, true, true, true, true, true, false, false, false, false, false, false, false, false, false, false, false, false, false, false, false, false, false, false, false, false, false, false, false, false, false, false, false, false, false, false, false, false, false, false, false, false, false, false, false, false, false, false, false, false, false] rfl rfl (by kernel_rfl) (fun _ _ _ h => h) (Or.inl ⟨by rfl, ?_⟩) hHeld ?_ ?_
  rotate_left
  · rintro w' ⟨s0, s1, s2, s3, s4, s5, s6, s7, s8, s9⟩
    go_simp
    first | with_reducible rfl | (rw [if_neg (by first | omega | (rw [ByteArray.size_append]; omega))])
  rotate_left
  · simp only [Act.put, List.setIfInBounds_toArray, List.set_cons_zero, List.set_cons_succ]
    rfl
  refine take_ (i := 7) (N := some 47) (v := ?_) (a' := ?_) #[true, true, true, true, true, true, false, true, false, false, false, false, false, false, false, false, false, false, false, false, false, false, false, false, false, false, false, false, false, false, false, false, false, false, false, false, false, false, false, false, false, false, false, false, false, false, false, false, false, false, false] rfl rfl (by kernel_rfl) (fun _ _ _ h => h) (Or.inl ⟨by rfl, ?_⟩) hHeld ?_ ?_
  rotate_left
  · rintro w' ⟨s0, s1, s2, s3, s4, s5, s6, s7, s8, s9⟩
    go_simp
    first | with_reducible rfl | (rw [if_neg (by first | omega | (rw [ByteArray.size_append]; omega))])
  rotate_left
  · simp only [Act.put, List.setIfInBounds_toArray, List.set_cons_zero, List.set_cons_succ]
    rfl
  refine one_ (i := 6) (N := some 46) #[true, true, true, true, true, true, true, true, false, false, false, false, false, false, false, false, false, false, false, false, false, false, false, false, false, false, false, false, false, false, false, false, false, false, false, false, false, false, false, false, false, false, false, false, false, false, false, false, false, false, false] rfl rfl (by kernel_rfl) (by decide) (fun K hK => ?_)
  refine goes_ Tryd.func9 (by kernel_rfl) rfl #[.agg #[.int .i64 n, .int .i64 t, .int .u64 N, .string S, .string raw]] (by rfl) rfl rfl (by simp only [List.map_toArray, List.map_cons, List.map_nil]; rfl) ?_
  with_reducible refine (plain_any n t N S raw _).mono ?_
  rintro e w7 ⟨rfl, hb7⟩
  refine ⟨_, rfl, ?_⟩
  have HB7 := Aside0.mk (below_next HBd.out hb7)
  have Hx7 : Aside0 (XW w7 x n t N S raw) := ⟨blk_below Hxd.out hb7⟩
  have Hy7 : Aside0 (XR w7 y n t N S raw) := ⟨blk_below Hyd.out hb7⟩
  have HU7 := Aside0.mk (HUd.out.below hb7)
  clear hb7
  refine hK.out _ _ ⟨Hx7.out.c0, Hx7.out.c1, Hx7.out.c2, Hx7.out.c3, Hx7.out.c4, Hy7.out.c0, Hy7.out.c1, Hy7.out.c2, Hy7.out.c3, Hy7.out.c4⟩ (fun hHeld => ?_)
  clear hK K
  refine norm_ (a' := ?_) ?_ ?_
  rotate_left
  · show Act.put _ (some 46) _ = _
    simp only [Act.put, List.setIfInBounds_toArray, List.set_cons_zero, List.set_cons_succ]
    rfl
  refine pure_ (i := 8) (N := some 48) (v := ?_) (a' := ?_) #[true, true, true, true, true, true, true, true, true, false, false, false, false, false, false, false, false, false, false, false, false, false, false, false, false, false, false, false, false, false, false, false, false, false, false, false, false, false, false, false, false, false, false, false, false, false, false, false, false, false, false] rfl rfl (by kernel_rfl) (fun _ _ _ h => h) (Or.inl ⟨by rfl, ?_⟩) ?_ ?_
  rotate_left
  · intro w'
    go_simp
    first | with_reducible rfl | (rw [if_neg (by first | omega | (rw [ByteArray.size_append]; omega))])
  rotate_left
  · simp only [Act.put, List.setIfInBounds_toArray, List.set_cons_zero, List.set_cons_succ]
    rfl
  refine pure_ (i := 9) (N := some 49) (v := ?_) (a' := ?_) #[true, true, true, true, true, true, true, true, true, true, false, false, false, false, false, false, false, false, false, false, false, false, false, false, false, false, false, false, false, false, false, false, false, false, false, false, false, false, false, false, false, false, false, false, false, false, false, false, false, false, false] rfl rfl (by kernel_rfl) (fun _ _ _ h => h) (Or.inl ⟨by rfl, ?_⟩) ?_ ?_
  rotate_left
  · intro w'
    go_simp
    first | with_reducible rfl | (rw [if_neg (by first | omega | (rw [ByteArray.size_append]; omega))])
  rotate_left
  · simp only [Act.put, List.setIfInBounds_toArray, List.set_cons_zero, List.set_cons_succ]
    rfl
  refine pure_ (i := 10) (N := some 50) (v := ?_) (a' := ?_) #[true, true, true, true, true, true, true, true, true, true, true, false, false, false, false, false, false, false, false, false, false, false, false, false, false, false, false, false, false, false, false, false, false, false, false, false, false, false, false, false, false, false, false, false, false, false, false, false, false, false, false] rfl rfl (by kernel_rfl) (fun _ _ _ h => h) (Or.inl ⟨by rfl, ?_⟩) ?_ ?_
  rotate_left
  · intro w'
    go_simp
    first | with_reducible rfl | (rw [if_neg (by first | omega | (rw [ByteArray.size_append]; omega))])
  rotate_left
  · simp only [Act.put, List.setIfInBounds_toArray, List.set_cons_zero, List.set_cons_succ]
    rfl
  refine pure_ (i := 11) (N := some 51) (v := ?_) (a' := ?_) #[true, true, true, true, true, true, true, true, true, true, true, true, false, false, false, false, false, false, false, false, false, false, false, false, false, false, false, false, false, false, false, false, false, false, false, false, false, false, false, false, false, false, false, false, false, false, false, false, false, false, false] rfl rfl (by kernel_rfl) (fun _ _ _ h => h) (Or.inl ⟨by rfl, ?_⟩) ?_ ?_
  rotate_left
  · intro w'
    go_simp
    first | with_reducible rfl | (rw [if_neg (by first | omega | (rw [ByteArray.size_append]; omega))])
  rotate_left
  · simp only [Act.put, List.setIfInBounds_toArray, List.set_cons_zero, List.set_cons_succ]
    rfl
  refine pure_ (i := 12) (N := some 52) (v := ?_) (a' := ?_) #[true, true, true, true, true, true, true, true, true, true, true, true, true, false, false, false, false, false, false, false, false, false, false, false, false, false, false, false, false, false, false, false, false, false, false, false, false, false, false, false, false, false, false, false, false, false, false, false, false, false, false] rfl rfl (by kernel_rfl) (fun _ _ _ h => h) (Or.inl ⟨by rfl, ?_⟩) ?_ ?_
  rotate_left
  · intro w'
    go_simp
    first | with_reducible rfl | (rw [if_neg (by first | omega | (rw [ByteArray.size_append]; omega))])
  rotate_left
  · simp only [Act.put, List.setIfInBounds_toArray, List.set_cons_zero, List.set_cons_succ]
    rfl
  refine pure_ (i := 13) (N := some 53) (v := ?_) (a' := ?_) #[true, true, true, true, true, true, true, true, true, true, true, true, true, true, false, false, false, false, false, false, false, false, false, false, false, false, false, false, false, false, false, false, false, false, false, false, false, false, false, false, false, false, false, false, false, false, false, false, false, false, false] rfl rfl (by kernel_rfl) (fun _ _ _ h => h) (Or.inl ⟨by rfl, ?_⟩) ?_ ?_
  rotate_left
  · intro w'
    go_simp
    first | with_reducible rfl | (rw [if_neg (by first | omega | (rw [ByteArray.size_append]; omega))])
  rotate_left
  · simp only [Act.put, List.setIfInBounds_toArray, List.set_cons_zero, List.set_cons_succ]
    rfl
  refine pure_ (i := 14) (N := some 54) (v := ?_) (a' := ?_) #[true, true, true, true, true, true, true, true, true, true, true, true, true, true, true, false, false, false, false, false, false, false, false, false, false, false, false, false, false, false, false, false, false, false, false, false, false, false, false, false, false, false, false, false, false, false, false, false, false, false, false] rfl rfl (by kernel_rfl) (fun _ _ _ h => h) (Or.inl ⟨by rfl, ?_⟩) ?_ ?_
  rotate_left
  · intro w'
    go_simp
    first | with_reducible rfl | (rw [if_neg (by first | omega | (rw [ByteArray.size_append]; omega))])
  rotate_left
  · simp only [Act.put, List.setIfInBounds_toArray, List.set_cons_zero, List.set_cons_succ]
    rfl
  refine pure_ (i := 15) (N := some 55) (v := ?_) (a' := ?_) #[true, true, true, true, true, true, true, true, true, true, true, true, true, true, true, true, false, false, false, false, false, false, false, false, false, false, false, false, false, false, false, false, false, false, false, false, false, false, false, false, false, false, false, false, false, false, false, false, false, false, false] rfl rfl (by kernel_rfl) (fun _ _ _ h => h) (Or.inl ⟨by rfl, ?_⟩) ?_ ?_
  rotate_left
  · intro w'
    go_simp
    first | with_reducible rfl | (rw [if_neg (by first | omega | (rw [ByteArray.size_append]; omega))])
  rotate_left
  · simp only [Act.put, List.setIfInBounds_toArray, List.set_cons_zero, List.set_cons_succ]
    rfl
  refine pure_ (i := 16) (N := some 56) (v := ?_) (a' := ?_) #[true, true, true, true, true, true, true, true, true, true, true, true, true, true, true, true, true, false, false, false, false, false, false, false, false, false, false, false, false, false, false, false, false, false, false, false, false, false, false, false, false, false, false, false, false, false, false, false, false, false, false] rfl rfl (by kernel_rfl) (fun _ _ _ h => h) (Or.inl ⟨by rfl, ?_⟩) ?_ ?_
  rotate_left
  · intro w'
    go_simp
    first | with_reducible rfl | (rw [if_neg (by first | omega | (rw [ByteArray.size_append]; omega))])
  rotate_left
  · simp only [Act.put, List.setIfInBounds_toArray, List.set_cons_zero, List.set_cons_succ]
    rfl
  refine pure_ (i := 17) (N := some 57) (v := ?_) (a' := ?_) #[true, true, true, true, true, true, true, true, true, true, true, true, true, true, true, true, true, true, false, false, false, false, false, false, false, false, false, false, false, false, false, false, false, false, false, false, false, false, false, false, false, false, false, false, false, false, false, false, false, false, false] rfl rfl (by kernel_rfl) (fun _ _ _ h => h) (Or.inl ⟨by rfl, ?_⟩) ?_ ?_
  rotate_left
  · intro w'
    go_simp
    first | with_reducible rfl | (rw [if_neg (by first | omega | (rw [ByteArray.size_append]; omega))])
  rotate_left
  · simp only [Act.put, List.setIfInBounds_toArray, List.set_cons_zero, List.set_cons_succ]
    rfl
  refine pure_ (i := 18) (N := some 58) (v := ?_) (a' := ?_) #[true, true, true, true, true, true, true, true, true, true, true, true, true, true, true, true, true, true, true, false, false, false, false, false, false, false, false, false, false, false, false, false, false, false, false, false, false, false, false, false, false, false, false, false, false, false, false, false, false, false, false] rfl rfl (by kernel_rfl) (fun _ _ _ h => h) (Or.inl ⟨by rfl, ?_⟩) ?_ ?_
  rotate_left
  · intro w'
    go_simp
    first | with_reducible rfl | (rw [if_neg (by first | omega | (rw [ByteArray.size_append]; omega))])
  rotate_left
  · simp only [Act.put, List.setIfInBounds_toArray, List.set_cons_zero, List.set_cons_succ]
    rfl
  refine pure_ (i := 19) (N := some 59) (v := ?_) (a' := ?_) #[true, true, true, true, true, true, true, true, true, true, true, true, true, true, true, true, true, true, true, true, false, false, false, false, false, false, false, false, false, false, false, false, false, false, false, false, false, false, false, false, false, false, false, false, false, false, false, false, false, false, false] rfl rfl (by kernel_rfl) (fun _ _ _ h => h) (Or.inl ⟨by rfl, ?_⟩) ?_ ?_
  rotate_left
  · intro w'
    go_simp
    first | with_reducible rfl | (rw [if_neg (by first | omega | (rw [ByteArray.size_append]; omega))])
  rotate_left
  · simp only [Act.put, List.setIfInBounds_toArray, List.set_cons_zero, List.set_cons_succ]
    rfl
  refine pure_ (i := 20) (N := some 60) (v := ?_) (a' := ?_) #[true, true, true, true, true, true, true, true, true, true, true, true, true, true, true, true, true, true, true, true, true, false, false, false, false, false, false, false, false, false, false, false, false, false, false, false, false, false, false, false, false, false, false, false, false, false, false, false, false, false, false] rfl rfl (by kernel_rfl) (fun _ _ _ h => h) (Or.inl ⟨by rfl, ?_⟩) ?_ ?_
  rotate_left
  · intro w'
    go_simp
    first | with_reducible rfl | (rw [if_neg (by first | omega | (rw [ByteArray.size_append]; omega))])
  rotate_left
  · simp only [Act.put, List.setIfInBounds_toArray, List.set_cons_zero, List.set_cons_succ]
    rfl
  refine pure_ (i := 21) (N := some 61) (v := ?_) (a' := ?_) #[true, true, true, true, true, true, true, true, true, true, true, true, true, true, true, true, true, true, true, true, true, true, false, false, false, false, false, false, false, false, false, false, false, false, false, false, false, false, false, false, false, false, false, false, false, false, false, false, false, false, false] rfl rfl (by kernel_rfl) (fun _ _ _ h => h) (Or.inl ⟨by rfl, ?_⟩) ?_ ?_
  rotate_left
  · intro w'
    go_simp
    first | with_reducible rfl | (rw [if_neg (by first | omega | (rw [ByteArray.size_append]; omega))])
  rotate_left
  · simp only [Act.put, List.setIfInBounds_toArray, List.set_cons_zero, List.set_cons_succ]
    rfl
  refine pure_ (i := 22) (N := some 62) (v := ?_) (a' := ?_) #[true, true, true, true, true, true, true, true, true, true, true, true, true, true, true, true, true, true, true, true, true, true, true, false, false, false, false, false, false, false, false, false, false, false, false, false, false, false, false, false, false, false, false, false, false, false, false, false, false, false, false] rfl rfl (by kernel_rfl) (fun _ _ _ h => h) (Or.inl ⟨by rfl, ?_⟩) ?_ ?_
  rotate_left
  · intro w'
    go_simp
    first | with_reducible rfl | (rw [if_neg (by first | omega | (rw [ByteArray.size_append]; omega))])
  rotate_left
  · simp only [Act.put, List.setIfInBounds_toArray, List.set_cons_zero, List.set_cons_succ]
    rfl
  refine pure_ (i := 23) (N := some 63) (v := ?_) (a' := ?_) #[true, true, true, true, true, true, true, true, true, true, true, true, true, true, true, true, true, true, true, true, true, true, true, true, false, false, false, false, false, false, false, false, false, false, false, false, false, false, false, false, false, false, false, false, false, false, false, false, false, false, false] rfl rfl (by kernel_rfl) (fun _ _ _ h => h) (Or.inl ⟨by rfl, ?_⟩) ?_ ?_
  rotate_left
  · intro w'
    go_simp
    first | with_reducible rfl | (rw [if_neg (by first | omega | (rw [ByteArray.size_append]; omega))])
  rotate_left
  · simp only [Act.put, List.setIfInBounds_toArray, List.set_cons_zero, List.set_cons_succ]
    rfl
  refine pure_ (i := 24) (N := some 64) (v := ?_) (a' := ?_) #[true, true, true, true, true, true, true, true, true, true, true, true, true, true, true, true, true, true, true, true, true, true, true, true, true, false, false, false, false, false, false, false, false, false, false, false, false, false, false, false, false, false, false, false, false, false, false, false, false, false, false] rfl rfl (by kernel_rfl) (fun _ _ _ h => h) (Or.inl ⟨by rfl, ?_⟩) ?_ ?_
  rotate_left
  · intro w'
    go_simp
    first | with_reducible rfl | (rw [if_neg (by first | omega | (rw [ByteArray.size_append]; omega))])
  rotate_left
  · simp only [Act.put, List.setIfInBounds_toArray, List.set_cons_zero, List.set_cons_succ]
    rfl
  refine pure_ (i := 25) (N := some 65) (v := undef) (a' := ?_) #[true, true, true, true, true, true, true, true, true, true, true, true, true, true, true, true, true, true, true, true, true, true, true, true, true, true, false, false, false, false, false, false, false, false, false, false, false, false, false, false, false, false, false, false, false, false, false, false, false, false, false] rfl rfl (by kernel_rfl) (fun _ _ _ h => h) (Or.inr ⟨by rfl, rfl⟩) ?_ ?_
  rotate_left
  · simp only [Act.put, List.setIfInBounds_toArray, List.set_cons_zero, List.set_cons_succ]
    rfl
  refine pure_ (i := 26) (N := some 66) (v := undef) (a' := ?_) #[true, true, true, true, true, true, true, true, true, true, true, true, true, true, true, true, true, true, true, true, true, true, true, true, true, true, true, false, false, false, false, false, false, false, false, false, false, false, false, false, false, false, false, false, false, false, false, false, false, false, false] rfl rfl (by kernel_rfl) (fun _ _ _ h => h) (Or.inr ⟨by rfl, rfl⟩) ?_ ?_
  rotate_left
  · simp only [Act.put, List.setIfInBounds_toArray, List.set_cons_zero, List.set_cons_succ]
    rfl
  refine pure_ (i := 27) (N := some 67) (v := ?_) (a' := ?_) #[true, true, true, true, true, true, true, true, true, true, true, true, true, true, true, true, true, true, true, true, true, true, true, true, true, true, true, true, false, false, false, false, false, false, false, false, false, false, false, false, false, false, false, false, false, false, false, false, false, false, false] rfl rfl (by kernel_rfl) (fun _ _ _ h => h) (Or.inl ⟨by rfl, ?_⟩) ?_ ?_
  rotate_left
  · intro w'
    go_simp
    first | with_reducible rfl | (rw [if_neg (by first | omega | (rw [ByteArray.size_append]; omega))])
  rotate_left
  · simp only [Act.put, List.setIfInBounds_toArray, List.set_cons_zero, List.set_cons_succ]
    rfl
  refine pure_ (i := 28) (N := some 68) (v := ?_) (a' := ?_) #[true, true, true, true, true, true, true, true, true, true, true, true, true, true, true, true, true, true, true, true, true, true, true, true, true, true, true, true, true, false, false, false, false, false, false, false, false, false, false, false, false, false, false, false, false, false, false, false, false, false, false] rfl rfl (by kernel_rfl) (fun _ _ _ h => h) (Or.inl ⟨by rfl, ?_⟩) ?_ ?_
  rotate_left
  · intro w'
    go_simp
    first | with_reducible rfl | (rw [if_neg (by first | omega | (rw [ByteArray.size_append]; omega))])
  rotate_left
  · simp only [Act.put, List.setIfInBounds_toArray, List.set_cons_zero, List.set_cons_succ]
    rfl
  refine pure_ (i := 29) (N := some 69) (v := undef) (a' := ?_) #[true, true, true, true, true, true, true, true, true, true, true, true, true, true, true, true, true, true, true, true, true, true, true, true, true, true, true, true, true, true, false, false, false, false, false, false, false, false, false, false, false, false, false, false, false, false, false, false, false, false, false] rfl rfl (by kernel_rfl) (fun _ _ _ h => h) (Or.inr ⟨by rfl, rfl⟩) ?_ ?_
  rotate_left
  · simp only [Act.put, List.setIfInBounds_toArray, List.set_cons_zero, List.set_cons_succ]
    rfl
  refine pure_ (i := 30) (N := some 70) (v := undef) (a' := ?_) #[true, true, true, true, true, true, true, true, true, true, true, true, true, true, true, true, true, true, true, true, true, true, true, true, true, true, true, true, true, true, true, false, false, false, false, false, false, false, false, false, false, false, false, false, false, false, false, false, false, false, false] rfl rfl (by kernel_rfl) (fun _ _ _ h => h) (Or.inr ⟨by rfl, rfl⟩) ?_ ?_
  rotate_left
  · simp only [Act.put, List.setIfInBounds_toArray, List.set_cons_zero, List.set_cons_succ]
    rfl
  refine pure_ (i := 31) (N := some 71) (v := undef) (a' := ?_) #[true, true, true, true, true, true, true, true, true, true, true, true, true, true, true, true, true, true, true, true, true, true, true, true, true, true, true, true, true, true, true, true, false, false, false, false, false, false, false, false, false, false, false, false, false, false, false, false, false, false, false] rfl rfl (by kernel_rfl) (fun _ _ _ h => h) (Or.inr ⟨by rfl, rfl⟩) ?_ ?_
  rotate_left
  · simp only [Act.put, List.setIfInBounds_toArray, List.set_cons_zero, List.set_cons_succ]
    rfl
  refine pure_ (i := 32) (N := some 72) (v := undef) (a' := ?_) #[true, true, true, true, true, true, true, true, true, true, true, true, true, true, true, true, true, true, true, true, true, true, true, true, true, true, true, true, true, true, true, true, true, false, false, false, false, false, false, false, false, false, false, false, false, false, false, false, false, false, false] rfl rfl (by kernel_rfl) (fun _ _ _ h => h) (Or.inr ⟨by rfl, rfl⟩) ?_ ?_
  rotate_left
  · simp only [Act.put, List.setIfInBounds_toArray, List.set_cons_zero, List.set_cons_succ]
    rfl
  refine pure_ (i := 33) (N := some 73) (v := undef) (a' := ?_) #[true, true, true, true, true, true, true, true, true, true, true, true, true, true, true, true, true, true, true, true, true, true, true, true, true, true, true, true, true, true, true, true, true, true, false, false, false, false, false, false, false, false, false, false, false, false, false, false, false, false, false] rfl rfl (by kernel_rfl) (fun _ _ _ h => h) (Or.inr ⟨by rfl, rfl⟩) ?_ ?_
  rotate_left
  · simp only [Act.put, List.setIfInBounds_toArray, List.set_cons_zero, List.set_cons_succ]
    rfl
  refine pure_ (i := 34) (N := some 74) (v := ?_) (a' := ?_) #[true, true, true, true, true, true, true, true, true, true, true, true, true, true, true, true, true, true, true, true, true, true, true, true, true, true, true, true, true, true, true, true, true, true, true, false, false, false, false, false, false, false, false, false, false, false, false, false, false, false, false] rfl rfl (by kernel_rfl) (fun _ _ _ h => h) (Or.inl ⟨by rfl, ?_⟩) ?_ ?_
  rotate_left
  · intro w'
    go_simp
    first | with_reducible rfl | (rw [if_neg (by first | omega | (rw [ByteArray.size_append]; omega))])
  rotate_left
  · simp only [Act.put, List.setIfInBounds_toArray, List.set_cons_zero, List.set_cons_succ]
    rfl
  refine pure_ (i := 35) (N := some 75) (v := ?_) (a' := ?_) #[true, true, true, true, true, true, true, true, true, true, true, true, true, true, true, true, true, true, true, true, true, true, true, true, true, true, true, true, true, true, true, true, true, true, true, true, false, false, false, false, false, false, false, false, false, false, false, false, false, false, false] rfl rfl (by kernel_rfl) (fun _ _ _ h => h) (Or.inl ⟨by rfl, ?_⟩) ?_ ?_
  rotate_left
  · intro w'
    go_simp
    first | with_reducible rfl | (rw [if_neg (by first | omega | (rw [ByteArray.size_append]; omega))])
  rotate_left
  · simp only [Act.put, List.setIfInBounds_toArray, List.set_cons_zero, List.set_cons_succ]
    rfl
  refine pure_ (i := 36) (N := some 76) (v := ?_) (a' := ?_) #[true, true, true, true, true, true, true, true, true, true, true, true, true, true, true, true, true, true, true, true, true, true, true, true, true, true, true, true, true, true, true, true, true, true, true, true, true, false, false, false, false, false, false, false, false, false, false, false, false, false, false] rfl rfl (by kernel_rfl) (fun _ _ _ h => h) (Or.inl ⟨by rfl, ?_⟩) ?_ ?_
  rotate_left
  · intro w'
    go_simp
    first | with_reducible rfl | (rw [if_neg (by first | omega | (rw [ByteArray.size_append]; omega))])
  rotate_left
  · simp only [Act.put, List.setIfInBounds_toArray, List.set_cons_zero, List.set_cons_succ]
    rfl
  refine pure_ (i := 37) (N := some 77) (v := ?_) (a' := ?_) #[true, true, true, true, true, true, true, true, true, true, true, true, true, true, true, true, true, true, true, true, true, true, true, true, true, true, true, true, true, true, true, true, true, true, true, true, true, true, false, false, false, false, false, false, false, false, false, false, false, false, false] rfl rfl (by kernel_rfl) (fun _ _ _ h => h) (Or.inl ⟨by rfl, ?_⟩) ?_ ?_
  rotate_left
  · intro w'
    go_simp
    first | with_reducible rfl | (rw [if_neg (by first | omega | (rw [ByteArray.size_append]; omega))])
  rotate_left
  · simp only [Act.put, List.setIfInBounds_toArray, List.set_cons_zero, List.set_cons_succ]
    rfl
  refine pure_ (i := 38) (N := some 78) (v := ?_) (a' := ?_) #[true, true, true, true, true, true, true, true, true, true, true, true, true, true, true, true, true, true, true, true, true, true, true, true, true, true, true, true, true, true, true, true, true, true, true, true, true, true, true, false, false, false, false, false, false, false, false, false, false, false, false] rfl rfl (by kernel_rfl) (fun _ _ _ h => h) (Or.inl ⟨by rfl, ?_⟩) ?_ ?_
  rotate_left
  · intro w'
    go_simp
    first | with_reducible rfl | (rw [if_neg (by first | omega | (rw [ByteArray.size_append]; omega))])
  rotate_left
  · simp only [Act.put, List.setIfInBounds_toArray, List.set_cons_zero, List.set_cons_succ]
    rfl
  refine pure_ (i := 39) (N := some 79) (v := ?_) (a' := ?_) #[true, true, true, true, true, true, true, true, true, true, true, true, true, true, true, true, true, true, true, true, true, true, true, true, true, true, true, true, true, true, true, true, true, true, true, true, true, true, true, true, false, false, false, false, false, false, false, false, false, false, false] rfl rfl (by kernel_rfl) (fun _ _ _ h => h) (Or.inl ⟨by rfl, ?_⟩) ?_ ?_
  rotate_left
  · intro w'
    go_simp
    first | with_reducible rfl | (rw [if_neg (by first | omega | (rw [ByteArray.size_append]; omega))])
  rotate_left
  · simp only [Act.put, List.setIfInBounds_toArray, List.set_cons_zero, List.set_cons_succ]
    rfl
  refine pure_ (i := 40) (N := some 80) (v := ?_) (a' := ?_) #[true, true, true, true, true, true, true, true, true, true, true, true, true, true, true, true, true, true, true, true, true, true, true, true, true, true, true, true, true, true, true, true, true, true, true, true, true, true, true, true, true, false, false, false, false, false, false, false, false, false, false] rfl rfl (by kernel_rfl) (fun _ _ _ h => h) (Or.inl ⟨by rfl, ?_⟩) ?_ ?_
  rotate_left
  · intro w'
    go_simp
    first | with_reducible rfl | (rw [if_neg (by first | omega | (rw [ByteArray.size_append]; omega))])
  rotate_left
  · simp only [Act.put, List.setIfInBounds_toArray, List.set_cons_zero, List.set_cons_succ]
    rfl
  refine pure_ (i := 41) (N := some 81) (v := ?_) (a' := ?_) #[true, true, true, true, true, true, true, true, true, true, true, true, true, true, true, true, true, true, true, true, true, true, true, true, true, true, true, true, true, true, true, true, true, true, true, true, true, true, true, true, true, true, false, false, false, false, false, false, false, false, false] rfl rfl (by kernel_rfl) (fun _ _ _ h => h) (Or.inl ⟨by rfl, ?_⟩) ?_ ?_
  rotate_left
  · intro w'
    go_simp
    first | with_reducible rfl | (rw [if_neg (by first | omega | (rw [ByteArray.size_append]; omega))])
  rotate_left
  · simp only [Act.put, List.setIfInBounds_toArray, List.set_cons_zero, List.set_cons_succ]
    rfl
  refine pure_ (i := 42) (N := some 82) (v := ?_) (a' := ?_) #[true, true, true, true, true, true, true, true, true, true, true, true, true, true, true, true, true, true, true, true, true, true, true, true, true, true, true, true, true, true, true, true, true, true, true, true, true, true, true, true, true, true, true, false, false, false, false, false, false, false, false] rfl rfl (by kernel_rfl) (fun _ _ _ h => h) (Or.inl ⟨by rfl, ?_⟩) ?_ ?_
  rotate_left
  · intro w'
    go_simp
    first | with_reducible rfl | (rw [if_neg (by first | omega | (rw [ByteArray.size_append]; omega))])
  rotate_left
  · simp only [Act.put, List.setIfInBounds_toArray, List.set_cons_zero, List.set_cons_succ]
    rfl
  refine pure_ (i := 43) (N := some 83) (v := ?_) (a' := ?_) #[true, true, true, true, true, true, true, true, true, true, true, true, true, true, true, true, true, true, true, true, true, true, true, true, true, true, true, true, true, true, true, true, true, true, true, true, true, true, true, true, true, true, true, true, false, false, false, false, false, false, false] rfl rfl (by kernel_rfl) (fun _ _ _ h => h) (Or.inl ⟨by rfl, ?_⟩) ?_ ?_
  rotate_left
  · intro w'
    go_simp
    first | with_reducible rfl | (rw [if_neg (by first | omega | (rw [ByteArray.size_append]; omega))])
  rotate_left
  · simp only [Act.put, List.setIfInBounds_toArray, List.set_cons_zero, List.set_cons_succ]
    rfl
  refine pure_ (i := 44) (N := some 84) (v := ?_) (a' := ?_) #[true, true, true, true, true, true, true, true, true, true, true, true, true, true, true, true, true, true, true, true, true, true, true, true, true, true, true, true, true, true, true, true, true, true, true, true, true, true, true, true, true, true, true, true, true, false, false, false, false, false, false] rfl rfl (by kernel_rfl) (fun _ _ _ h => h) (Or.inl ⟨by rfl, ?_⟩) ?_ ?_
  rotate_left
  · intro w'
    go_simp
    first | with_reducible rfl | (rw [if_neg (by first | omega | (rw [ByteArray.size_append]; omega))])
  rotate_left
  · simp only [Act.put, List.setIfInBounds_toArray, List.set_cons_zero, List.set_cons_succ]
    rfl
  refine pure_ (i := 45) (N := some 85) (v := ?_) (a' := ?_) #[true, true, true, true, true, true, true, true, true, true, true, true, true, true, true, true, true, true, true, true, true, true, true, true, true, true, true, true, true, true, true, true, true, true, true, true, true, true, true, true, true, true, true, true, true, true, false, false, false, false, false] rfl rfl (by kernel_rfl) (fun _ _ _ h => h) (Or.inl ⟨by rfl, ?_⟩) ?_ ?_
  rotate_left
  · intro w'
    go_simp
    first | with_reducible rfl | (rw [if_neg (by first | omega | (rw [ByteArray.size_append]; omega))])
  rotate_left
  · simp only [Act.put, List.setIfInBounds_toArray, List.set_cons_zero, List.set_cons_succ]
    rfl
  refine pure_ (i := 46) (N := some 86) (v := ?_) (a' := ?_) #[true, true, true, true, true, true, true, true, true, true, true, true, true, true, true, true, true, true, true, true, true, true, true, true, true, true, true, true, true, true, true, true, true, true, true, true, true, true, true, true, true, true, true, true, true, true, true, false, false, false, false] rfl rfl (by kernel_rfl) (fun _ _ _ h => h) (Or.inl ⟨by rfl, ?_⟩) ?_ ?_
  rotate_left
  · intro w'
    go_simp
    first | with_reducible rfl | (rw [if_neg (by first | omega | (rw [ByteArray.size_append]; omega))])
  rotate_left
  · simp only [Act.put, List.setIfInBounds_toArray, List.set_cons_zero, List.set_cons_succ]
    rfl
  refine one_ (i := 47) (N := some 87) #[true, true, true, true, true, true, true, true, true, true, true, true, true, true, true, true, true, true, true, true, true, true, true, true, true, true, true, true, true, true, true, true, true, true, true, true, true, true, true, true, true, true, true, true, true, true, true, true, false, false, false] rfl rfl (by kernel_rfl) (by decide) (fun K hK => ?_)
  refine goes_ Tryd.func11 (by kernel_rfl) rfl #[.iface T v] (by rfl) rfl rfl (by simp only [List.map_toArray, List.map_cons, List.map_nil]; rfl) ?_
  with_reducible refine (HCd.out _ (HG.out.below HB7.out) HU7.out).mono ?_
  rintro e w8 ⟨rfl, hb8⟩
  refine ⟨_, rfl, ?_⟩
  have HB8 := Aside0.mk (below_next HB7.out hb8)
  have Hx8 : Aside0 (XW w8 x n t N S raw) := ⟨blk_below Hx7.out hb8⟩
  have Hy8 : Aside0 (XR w8 y n t N S raw) := ⟨blk_below Hy7.out hb8⟩
  have HU8 := Aside0.mk (HU7.out.below hb8)
  clear hb8
  refine hK.out _ _ ⟨Hx8.out.c0, Hx8.out.c1, Hx8.out.c2, Hx8.out.c3, Hx8.out.c4, Hy8.out.c0, Hy8.out.c1, Hy8.out.c2, Hy8.out.c3, Hy8.out.c4⟩ (fun hHeld => ?_)
  clear hK K
  refine norm_ (a' := ?_) ?_ ?_
  rotate_left
  · show Act.put _ (some 87) _ = _
    simp only [Act.put, List.setIfInBounds_toArray, List.set_cons_zero, List.set_cons_succ]
    rfl
  refine pure_ (i := 48) (N := some 88) (v := ?_) (a' := ?_) #[true, true, true, true, true, true, true, true, true, true, true, true, true, true, true, true, true, true, true, true, true, true, true, true, true, true, true, true, true, true, true, true, true, true, true, true, true, true, true, true, true, true, true, true, true, true, true, true, true, false, false] rfl rfl (by kernel_rfl) (fun _ _ _ h => h) (Or.inl ⟨by rfl, ?_⟩) ?_ ?_
  rotate_left
  · intro w'
    go_simp
    first | with_reducible rfl | (rw [if_neg (by first | omega | (rw [ByteArray.size_append]; omega))])
  rotate_left
  · simp only [Act.put, List.setIfInBounds_toArray, List.set_cons_zero, List.set_cons_succ]
    rfl
  refine pure_ (i := 49) (N := some 89) (v := ?_) (a' := ?_) #[true, true, true, true, true, true, true, true, true, true, true, true, true, true, true, true, true, true, true, true, true, true, true, true, true, true, true, true, true, true, true, true, true, true, true, true, true, true, true, true, true, true, true, true, true, true, true, true, true, true, false] rfl rfl (by kernel_rfl) (fun _ _ _ h => h) (Or.inl ⟨by rfl, ?_⟩) ?_ ?_
  rotate_left
  · intro w'
    go_simp
    first | with_reducible rfl | (rw [if_neg (by first | omega | (rw [ByteArray.size_append]; omega))])
  rotate_left
  · simp only [Act.put, List.setIfInBounds_toArray, List.set_cons_zero, List.set_cons_succ]
    rfl
  refine pure_ (i := 50) (N := some 90) (v := ?_) (a' := ?_) #[true, true, true, true, true, true, true, true, true, true, true, true, true, true, true, true, true, true, true, true, true, true, true, true, true, true, true, true, true, true, true, true, true, true, true, true, true, true, true, true, true, true, true, true, true, true, true, true, true, true, true] rfl rfl (by kernel_rfl) (fun _ _ _ h => h) (Or.inl ⟨by rfl, ?_⟩) ?_ ?_
  rotate_left
  · intro w'
    go_simp
    first | with_reducible rfl | (rw [if_neg (by first | omega | (rw [ByteArray.size_append]; omega))])
  rotate_left
  · simp only [Act.put, List.setIfInBounds_toArray, List.set_cons_zero, List.set_cons_succ]
    rfl
  refine done_ (by kernel_rfl) ?_
  have HBn : Aside0 (Below w.heap.size w w8) := HB8; clear HB; have HB := HBn; clear HBn
  clear HBd Hxd Hyd HB7 Hx7 Hy7 Hx Hy hHeld HU HUd HU7 HB8 Hx8 Hy8 HU8
  generalize w8 = wa at *
  go_wp2_with fail
  refine (H3 _).mono ?_
  rintro e w9 (⟨L, A, c, hL, rfl, hC, hc, hb⟩ | ⟨hN, T2, v2, E2, rfl, hu2, hE2, hb⟩)
  · have HBn := Aside0.mk (below_next HB.out hb); clear HB; have HB := HBn; clear HBn
    have HA := Aside0.mk hC
    have HLs : Aside0 (L.length ≤ c) := ⟨hc⟩
    have HL := Aside0.mk hL
    clear hb hC hc hL
    go_wp2_with fail
    refine (H4 _).mono ?_
    rintro e w10 (⟨L', A', c', hL', rfl, hC', hc', hb⟩ | ⟨hN, rfl, hb⟩)
    · obtain rfl : L' = L := by have := hL'.symm.trans HL.out; injection this
      have HBn := Aside0.mk (below_next HB.out hb); clear HB; have HB := HBn; clear HBn
      have HAn := Aside0.mk (Kd.C_below HA.out hb); clear HA; have HA := HAn; clear HAn
      have HE := Aside0.mk hC'
      have hLl : L'.length ≤ 4000 := by
        have h2 := recs_few s L' dp.toNat hs HL.out
        exact h2
      clear hb hC' hc' hL'
      go_wp2_with fail
      go_loopw [17] (fun v17 w' => ∃ i : Nat, v17 = .int .i64 (i : Int) ∧ i ≤ L'.length ∧ Aside0 (Kd.C Rc w' A L'.length L') ∧ Aside0 (Kd.C Rc w' A' L'.length L') ∧ Aside0 (Below w.heap.size w w')) (fun v17 _ => L'.length - (intOf v17).toNat)
      case atStart => exact ⟨0, rfl, Nat.zero_le _, HA, HE, HB⟩
      case round =>
        clear HA HE HB
        obtain ⟨i, rfl, hi, HA, HE, HB⟩ := hrel
        by_cases hlt : i < L'.length
        · obtain ⟨ad, rfl, ha⟩ := recCells HA.out i hlt
          obtain ⟨ae, rfl, he⟩ := recCells HE.out i hlt
          generalize (L'[i].num : Int) = f0 at *
          generalize (L'[i].type : Int) = f1 at *
          generalize (L'[i].n : Int) = f2 at *
          generalize st L'[i].s = f3 at *
          generalize st L'[i].raw = f4 at *
          have HBd := HB
          have HAd : Aside0 (Kd.C Rc wr.drew (some ad) L'.length L') := ⟨Kd.C_drew HA.out⟩
          have HEd : Aside0 (Kd.C Rc wr.drew (some ae) L'.length L') := ⟨Kd.C_drew HE.out⟩
          have Had : Aside0 (RecC wr.drew ad i f0 f1 f2 f3 f4) := ⟨ha.below (below_drew1 (Below.refl _ _))⟩
          have Hed : Aside0 (RecC wr.drew ae i f0 f1 f2 f3 f4) := ⟨he.below (below_drew1 (Below.refl _ _))⟩
          clear ha he
          go_wp2_with fail
          refine start_ (n := 10) (S := fun w' => w'.cell? (ad.add (i * 5)) = some (.int .i64 f0) ∧ w'.cell? ⟨(ad.add (i * 5)).block, (ad.add (i * 5)).off + 1, none⟩ = some (.int .i64 f1) ∧ w'.cell? ⟨(ad.add (i * 5)).block, (ad.add (i * 5)).off + 2, none⟩ = some (.int .u64 f2) ∧ w'.cell? ⟨(ad.add (i * 5)).block, (ad.add (i * 5)).off + 3, none⟩ = some (.string f3) ∧ w'.cell? ⟨(ad.add (i * 5)).block, (ad.add (i * 5)).off + 4, none⟩ = some (.string f4) ∧ w'.cell? (ae.add (i * 5)) = some (.int .i64 f0) ∧ w'.cell? ⟨(ae.add (i * 5)).block, (ae.add (i * 5)).off + 1, none⟩ = some (.int .i64 f1) ∧ w'.cell? ⟨(ae.add (i * 5)).block, (ae.add (i * 5)).off + 2, none⟩ = some (.int .u64 f2) ∧ w'.cell? ⟨(ae.add (i * 5)).block, (ae.add (i * 5)).off + 3, none⟩ = some (.string f3) ∧ w'.cell? ⟨(ae.add (i * 5)).block, (ae.add (i * 5)).off + 4, none⟩ = some (.string f4)) (ds := []) #[false, false, false, false, false, false, false, false, false, false] (by kernel_rfl) rfl rfl ⟨Had.out.c0, Had.out.c1, Had.out.c2, Had.out.c3, Had.out.c4, Hed.out.c0, Hed.out.c1, Hed.out.c2, Hed.out.c3, Hed.out.c4⟩ (fun hHeld => ?_)
          refine pure_ (i := 0) (N := some 131) (v := ?_) (a' := ?_) #[true, false, false, false, false, false, false, false, false, false] rfl rfl (by kernel_rfl) (fun _ _ _ h => h) (Or.inl ⟨by rfl, ?_⟩) ?_ ?_
          rotate_left
          · intro w'
            go_simp
            first | with_reducible rfl | (rw [if_neg (by first | omega | (rw [ByteArray.size_append]; omega))])
          rotate_left
          · simp only [Act.put, List.setIfInBounds_toArray, List.set_cons_zero, List.set_cons_succ]
            rfl
          refine pure_ (i := 1) (N := some 132) (v := ?_) (a' := ?_) #[true, true, false, false, false, false, false, false, false, false] rfl rfl (by kernel_rfl) (fun _ _ _ h => h) (Or.inl ⟨by rfl, ?_⟩) ?_ ?_
          rotate_left
          · intro w'
            go_simp
            first | with_reducible rfl | (rw [if_neg (by first | omega | (rw [ByteArray.size_append]; omega))])
          rotate_left
          · simp only [Act.put, List.setIfInBounds_toArray, List.set_cons_zero, List.set_cons_succ]
            rfl
          refine pure_ (i := 2) (N := some 133) (v := ?_) (a' := ?_) #[true, true, true, false, false, false, false, false, false, false] rfl rfl (by kernel_rfl) (fun _ _ _ h => h) (Or.inl ⟨by rfl, ?_⟩) ?_ ?_
          rotate_left
          · intro w'
            go_simp
            first | with_reducible rfl | (rw [if_neg (by first | omega | (rw [ByteArray.size_append]; omega))])
          rotate_left
          · simp only [Act.put, List.setIfInBounds_toArray, List.set_cons_zero, List.set_cons_succ]
            rfl
          refine pure_ (i := 5) (N := some 136) (v := ?_) (a' := ?_) #[true, true, true, false, false, true, false, false, false, false] rfl rfl (by kernel_rfl) (fun _ _ _ h => h) (Or.inl ⟨by rfl, ?_⟩) ?_ ?_
          rotate_left
          · intro w'
            go_simp
            first | with_reducible rfl | (rw [if_neg (by first | omega | (rw [ByteArray.size_append]; omega))])
          rotate_left
          · simp only [Act.put, List.setIfInBounds_toArray, List.set_cons_zero, List.set_cons_succ]
            rfl
          refine pure_ (i := 6) (N := some 137) (v := ?_) (a' := ?_) #[true, true, true, false, false, true, true, false, false, false] rfl rfl (by kernel_rfl) (fun _ _ _ h => h) (Or.inl ⟨by rfl, ?_⟩) ?_ ?_
          rotate_left
          · intro w'
            go_simp
            first | with_reducible rfl | (rw [if_neg (by first | omega | (rw [ByteArray.size_append]; omega))])
          rotate_left
          · simp only [Act.put, List.setIfInBounds_toArray, List.set_cons_zero, List.set_cons_succ]
            rfl
          refine pure_ (i := 7) (N := some 138) (v := ?_) (a' := ?_) #[true, true, true, false, false, true, true, true, false, false] rfl rfl (by kernel_rfl) (fun _ _ _ h => h) (Or.inl ⟨by rfl, ?_⟩) ?_ ?_
          rotate_left
          · intro w'
            go_simp
            first | with_reducible rfl | (rw [if_neg (by first | omega | (rw [ByteArray.size_append]; omega))])
          rotate_left
          · simp only [Act.put, List.setIfInBounds_toArray, List.set_cons_zero, List.set_cons_succ]
            rfl
          refine take_ (i := 3) (N := some 134) (v := ?_) (a' := ?_) #[true, true, true, true, false, true, true, true, false, false] rfl rfl (by kernel_rfl) (fun _ _ _ h => h) (Or.inl ⟨by rfl, ?_⟩) hHeld ?_ ?_
          rotate_left
          · rintro w' ⟨s0, s1, s2, s3, s4, s5, s6, s7, s8, s9⟩
            go_simp
            first | with_reducible rfl | (rw [if_neg (by first | omega | (rw [ByteArray.size_append]; omega))])
          rotate_left
          · simp only [Act.put, List.setIfInBounds_toArray, List.set_cons_zero, List.set_cons_succ]
            rfl
          refine take_ (i := 8) (N := some 139) (v := ?_) (a' := ?_) #[true, true, true, true, false, true, true, true, true, false] rfl rfl (by kernel_rfl) (fun _ _ _ h => h) (Or.inl ⟨by rfl, ?_⟩) hHeld ?_ ?_
          rotate_left
          · rintro w' ⟨s0, s1, s2, s3, s4, s5, s6, s7, s8, s9⟩
            go_simp
            first | with_reducible rfl | (rw [if_neg (by first | omega | (rw [ByteArray.size_append]; omega))])
          rotate_left
          · simp only [Act.put, List.setIfInBounds_toArray, List.set_cons_zero, List.set_cons_succ]
            rfl
          refine one_ (i := 4) (N := some 135) #[true, true, true, true, true, true, true, true, true, false] rfl rfl (by kernel_rfl) (by decide) (fun K hK => ?_)
          refine goes_ Tryd.func9 (by kernel_rfl) rfl #[.agg #[.int .i64 f0, .int .i64 f1, .int .u64 f2, .string f3, .string f4]] (by rfl) rfl rfl (by simp only [List.map_toArray, List.map_cons, List.map_nil]; rfl) ?_
          with_reducible refine (plain_any f0 f1 f2 f3 f4 _).mono ?_
          rintro e w12 ⟨rfl, hb12⟩
          refine ⟨_, rfl, ?_⟩
          have Ha12 := Aside0.mk (Had.out.below hb12)
          have He12 := Aside0.mk (Hed.out.below hb12)
          have HBn := Aside0.mk (below_next (below_drew1 HB.out) hb12)
          have HB12 := HBn
          clear HBn
          have HA12 := Aside0.mk (Kd.C_below HAd.out hb12)
          have HE12 := Aside0.mk (Kd.C_below HEd.out hb12)
          clear hb12
          refine hK.out _ _ ⟨Ha12.out.c0, Ha12.out.c1, Ha12.out.c2, Ha12.out.c3, Ha12.out.c4, He12.out.c0, He12.out.c1, He12.out.c2, He12.out.c3, He12.out.c4⟩ (fun hHeld => ?_)
          clear hK K
          refine norm_ (a' := ?_) ?_ ?_
          rotate_left
          · show Act.put _ (some 135) _ = _
            simp only [Act.put, List.setIfInBounds_toArray, List.set_cons_zero, List.set_cons_succ]
            rfl
          refine pure_ (i := 9) (N := some 140) (v := ?_) (a' := ?_) #[true, true, true, true, true, true, true, true, true, true] rfl rfl (by kernel_rfl) (fun _ _ _ h => h) (Or.inl ⟨by rfl, ?_⟩) ?_ ?_
          rotate_left
          · intro w'
            go_simp
            first | with_reducible rfl | (rw [if_neg (by first | omega | (rw [ByteArray.size_append]; omega))])
          rotate_left
          · simp only [Act.put, List.setIfInBounds_toArray, List.set_cons_zero, List.set_cons_succ]
            rfl
          refine done_ (by kernel_rfl) ?_
          go_wp2_with fail
          go_roundw
          case rel => exact ⟨i + 1, by go_num, by omega, HA12, HE12, HB12⟩
          case measure => simp [intOf]; omega
        · obtain rfl : i = L'.length := by omega
          go_wp2_with (first
            | (go_at_call 6; refine (wire_first _).mono ?_; rintro e wb ⟨rfl, hb⟩; have HBn : Aside0 (Below w.heap.size w wb) := ⟨below_next (by repeat (first | (with_reducible exact HB.out) | apply below_alloc | apply pw_below_drewN | apply below_drew1)) hb⟩; clear HB hb; have HB := HBn; clear HBn))
          go_ret
          exact ⟨rfl, (by repeat (first | (with_reducible exact HB.out) | apply below_alloc | apply pw_below_drewN | apply below_drew1))⟩
    · exact absurd (hN.symm.trans HL.out) (by simp)
  · have HBn := Aside0.mk (below_next HB.out hb); clear HB; have HB := HBn; clear HBn
    have HU2 := Aside0.mk hu2
    have HN := Aside0.mk hN
    clear hb hN hu2
    have HW2 : Aside0 (∀ w, Laid w → IsE w E2 (.iface T2 v2) → Calls Tryd.prog 10 #[.iface T2 v2, .int .i64 (s.size : Int)] w fun e w' => e = .returned (.bool true) ∧ Below w.heap.size w w') := ⟨fun w hg hu => wrong_any E2 s T2 v2 w hg hu hE2⟩
    clear hE2
    go_wp2_with fail
    refine (H4 _).mono ?_
    rintro e w10 (⟨L', A', c', hL', rfl, hC', hc', hb⟩ | ⟨_, rfl, hb⟩)
    · exact absurd (HN.out.symm.trans hL') (by simp)
    · have HBn := Aside0.mk (below_next HB.out hb); clear HB; have HB := HBn; clear HBn
      have HUn := Aside0.mk (HU2.out.below hb); clear HU2; have HU2 := HUn; clear HUn
      clear hb
      go_wp2_with (first
        | (go_at_call 10; refine (HW2.out _ (HG.out.below HB.out) HU2.out).mono ?_; rintro e wb ⟨rfl, hb⟩; have HBn : Aside0 (Below w.heap.size w wb) := ⟨below_next (by repeat (first | (with_reducible exact HB.out) | apply below_alloc | apply pw_below_drewN | apply below_drew1)) hb⟩; clear HB hb; have HB := HBn; clear HBn))
      have HBr := HB
      go_loopw [17] (fun v17 w' => v17 = .int .i64 0 ∧ Aside0 (Below w.heap.size w w')) (fun _ _ => 0)
      case atStart => exact ⟨rfl, HBr⟩
      case round =>
        clear HB HBr
        obtain ⟨rfl, HB⟩ := hrel
        go_wp2_with (first
          | (go_at_call 6; refine (wire_first _).mono ?_; rintro e wb ⟨rfl, hb⟩; have HBn : Aside0 (Below w.heap.size w wb) := ⟨below_next (by repeat (first | (with_reducible exact HB.out) | apply below_alloc | apply pw_below_drewN | apply below_drew1)) hb⟩; clear HB hb; have HB := HBn; clear HBn))
        go_ret
        exact ⟨rfl, (by repeat (first | (with_reducible exact HB.out) | apply below_alloc | apply pw_below_drewN | apply below_drew1))⟩
end Go.Proofs.YtklkiofhenhafaaDoor
