import Derived.Test.YtnghlkbmfhkmoaaGreatDoorMxedxrtah
import Derived.Test.YtnghlkbmfhkmoaaGreatDoorMtpcniofv
import Derived.Test.YtnghlkbmfhkmoaaGreatDoorMbhwgezqr
import Derived.Test.YtnghlkbmfhkmoaaGreatDoorMkhvakyml
import Derived.Test.YtnghlkbmfhkmoaaGreatDoorMmyyqihvb
import Derived.Test.YtnghlkbmfhkmoaaGreatDoorMoilufkjf
namespace Go.Proofs.YtnghlkbmfhkmoaaGreatDoor
open Go.RowKit Go.Proofs.YtnghlkbmfhkmoaaGreatDoorW.PrintWords Go.Proofs.YtnghlkbmfhkmoaaGreatDoorW.PrintLast Go.Proofs.YtnghlkbmfhkmoaaGreatDoorW.PrintMore Hy
set_option maxHeartbeats 1000000 in
set_option maxRecDepth 100000 in
theorem rnext_bad0 (w : World) (s : ByteArray) (a v _k m p : Nat) (dp : Int) (hm : v / 8 = m) (hv : v < 18446744073709551616) (hm1 : 1 ≤ m) (hm2 : m < 536870912) (_hs : s.size ≤ 100000) (hap : a ≤ p) (hps : p ≤ s.size)
    (G : ∀ w, Calls Tryz.prog 102 #[.string s, .int .i64 (a : Int)] w fun e w' => e = .returned (.tuple #[.int .u64 (v : Int), .int .i64 (p : Int), .int .i64 0]) ∧ Drawn0 w w') (c : Int) (hc : ¬ c = 0) (ht : v % 8 = 0)
    (G2 : ∀ w, Calls Tryz.prog 102 #[.string s, .int .i64 (p : Int)] w fun e w' => e = .returned (.tuple #[.int .u64 0, .int .i64 0, .int .i64 c]) ∧ Drawn0 w w') :
    Calls Tryz.prog 85 #[.string s, .int .i64 (a : Int), .int .i64 dp] w (NoR w) := by
  have e3 : (v : Int) / 8 = (m : Int) := by omega
  have e7 : Go.bits .and .u64 (v : Int) 7 = 0 := by rw [and7 v hv, ht]; rfl
  have HD3 := Aside0.mk (show decide (536870912 ≤ (m : Int)) = false from decide_eq_false (by omega))
  have HD4 := Aside0.mk (show decide ((m : Int) < 1) = false from decide_eq_false (by omega))
  have hnb : (m : Int) ≤ 536870911 := by omega
  have HPS := Aside0.mk hps
  have HAP := Aside0.mk hap
  clear hm ht hv hm1 hm2 hps hap
  have hz1 : XR (w.alloc (.cells #[.int .i64 0, .int .i64 0, .int .u64 0, .string ⟨#[]⟩, .string ⟨#[]⟩] 83)) w.heap.size 0 0 0 ByteArray.empty ByteArray.empty := heap_alloc_new w _
  have HB1 := Aside0.mk ((Below.refl w.heap.size w).alloc (Nat.le_refl _) (.cells #[.int .i64 0, .int .i64 0, .int .u64 0, .string ⟨#[]⟩, .string ⟨#[]⟩] 83))
  have HZ1 := Aside0.mk hz1
  clear hz1
  go_enter Tryz.func85, Tryz.ntmps85
  go_wp2_with fail
  generalize w.alloc (.cells #[.int .i64 0, .int .i64 0, .int .u64 0, .string ⟨#[]⟩, .string ⟨#[]⟩] 83) = W1 at *
  generalize hg : w.heap.size = g at *
  refine (G _).mono ?_
  rintro e wd ⟨rfl, ⟨nd, rfl⟩⟩
  have hz2 : XR (W1.drewN nd) g 0 0 0 ByteArray.empty ByteArray.empty := HZ1.out
  have HB2 : Aside0 (Below g w (W1.drewN nd)) := ⟨by apply pw_below_drewN; exact HB1.out⟩
  have HZ2 := Aside0.mk hz2
  generalize W1.drewN nd = W2 at *
  clear hz2 G HB1 HZ1
  have d3 := HD3.out
  have d4 := HD4.out
  go_upto_region 4 with (fail)
  clear d3 d4 HD3 HD4
  go_upto_region 5 with (first
    | ((with_reducible refine gate_dst (N := 12) rfl ?_); refine box_event ?hg (N := 12) ?hd (cs := #[.int .i64 0, .int .i64 0, .int .u64 0, .string ⟨#[]⟩, .string ⟨#[]⟩]) (t := 83) ?hr ?_; (case hd => rfl); (case hg => rfl); (case hr => first | (go_simp; done) | (go_simp; rfl)); intro x hx w4 hx4 hb4
       have hx4 : XR w4 x 0 0 0 ByteArray.empty ByteArray.empty := hx4
       have hgx : g < x := by have := blk_lt HZ2.out; omega
       clear hx
       have hz4 : XR w4 g 0 0 0 ByteArray.empty ByteArray.empty := blk_below HZ2.out hb4
       have HB4 := Aside0.mk (HB2.out.trans (hb4.mono (by have := HB2.out.size; omega)))
       have z0 := hx4.c0
       have z1 := hx4.c1
       have z2 := hx4.c2
       have z3 := hx4.c3
       have z4 := hx4.c4
       have zf := fun i => hx4.fz i
       have k5 := kp_all w4 x (.int .i64 (m : Int)) (.int .i64 0) (.int .u64 0) (.string ⟨#[]⟩) (.string ⟨#[]⟩)
       have hx5 := hx4.all (m : Int) 0 0 ⟨#[]⟩ ⟨#[]⟩
       have HZ5 := Aside0.mk (hz4.kp k5 (fun e => by omega))
       have HB5 := Aside0.mk (HB4.out.trans (k5.toBelow (by have := HB4.out.size; omega) (fun k e => by omega)))
       have HX5 := Aside0.mk hx5
       clear hx4 hz4 k5 hb4 hx5))
  clear z0 z1 z2 z3 z4 zf hx4 e3 e7 hnb
  generalize ((((w4.setCell ⟨x, 0, none⟩ (.int .i64 (m : Int))).setCell ⟨x, 1, none⟩ (.int .i64 0)).setCell ⟨x, 2, none⟩ (.int .u64 0)).setCell ⟨x, 3, none⟩ (.string ⟨#[]⟩)).setCell ⟨x, 4, none⟩ (.string ⟨#[]⟩) = w5 at *
  have q1 := HX5.out.c1
  have q0 := HX5.out.c0
  clear HB2 HZ2 HB4
  go_wp2_with fail
  refine (G2 _).mono ?_
  rintro e wd2 ⟨rfl, ⟨nd2, rfl⟩⟩
  have HX6 : Aside0 (XR (w5.drewN nd2) x (m : Int) 0 0 ByteArray.empty ByteArray.empty) := ⟨HX5.out⟩
  have HZ6 : Aside0 (XR (w5.drewN nd2) g 0 0 0 ByteArray.empty ByteArray.empty) := ⟨HZ5.out⟩
  have HB6 : Aside0 (Below g w (w5.drewN nd2)) := ⟨by apply pw_below_drewN; exact HB5.out⟩
  generalize w5.drewN nd2 = w6 at *
  clear G2 HX5 HZ5 HB5 q0 q1
  have hx6 := HX6.out
  have q2 := hx6.c2
  have f2 := hx6.fz 2
  have hk7 : Kp (fun k => k = x) w6 (w6.setCell ⟨x, 2, none⟩ (.int .u64 0)) := (Kp.refl (fun k => k = x) w6).set (p := ⟨x, 2, none⟩) rfl _
  have HZ7 := Aside0.mk (HZ6.out.kp hk7 (fun e => by omega))
  have HB7 := Aside0.mk (HB6.out.trans (hk7.toBelow (by have := HB6.out.size; omega) (fun k e => by omega)))
  clear hx6 hk7
  have hz7 := HZ7.out
  have z0 := hz7.c0
  have z1 := hz7.c1
  have z2 := hz7.c2
  have z3 := hz7.c3
  have z4 := hz7.c4
  have zf := fun i => hz7.fz i
  have k9 := kp_all (w6.setCell ⟨x, 2, none⟩ (.int .u64 0)) g (.int .i64 0) (.int .i64 0) (.int .u64 0) (.string ByteArray.empty) (.string ByteArray.empty)
  have HB9 := Aside0.mk (HB7.out.trans (k9.toBelow (by have := HB7.out.size; omega) (fun k e => by omega)))
  clear hz7 k9
  go_wp2_with fail
  refine bodyPost_ret (results_cell_two rfl _ _ g 83 #[.int .i64 0, .int .i64 0, .int .u64 0, .string ByteArray.empty, .string ByteArray.empty] (0, 0) rfl (HZ7.out.all 0 0 0 ByteArray.empty ByteArray.empty) Tryz.underlying83 (by kernel_rfl)) rfl ?_
  exact ⟨rfl, by rw [hg]; exact HB9.out⟩
set_option maxHeartbeats 1000000 in
set_option maxRecDepth 100000 in
theorem rnext_bad1 (w : World) (s : ByteArray) (a v _k m p : Nat) (dp : Int) (hm : v / 8 = m) (hv : v < 18446744073709551616) (hm1 : 1 ≤ m) (hm2 : m < 536870912) (hs : s.size ≤ 100000) (hap : a ≤ p) (hps : p ≤ s.size)
    (G : ∀ w, Calls Tryz.prog 102 #[.string s, .int .i64 (a : Int)] w fun e w' => e = .returned (.tuple #[.int .u64 (v : Int), .int .i64 (p : Int), .int .i64 0]) ∧ Drawn0 w w') (ht : v % 8 = 1) (hp2 : s.size - p < 8) :
    Calls Tryz.prog 85 #[.string s, .int .i64 (a : Int), .int .i64 dp] w (NoR w) := by
  have e3 : (v : Int) / 8 = (m : Int) := by omega
  have e7 : Go.bits .and .u64 (v : Int) 7 = 1 := by rw [and7 v hv, ht]; rfl
  have HD3 := Aside0.mk (show decide (536870912 ≤ (m : Int)) = false from decide_eq_false (by omega))
  have HD4 := Aside0.mk (show decide ((m : Int) < 1) = false from decide_eq_false (by omega))
  have hnb : (m : Int) ≤ 536870911 := by omega
  have HPS := Aside0.mk hps
  have HAP := Aside0.mk hap
  have HP2 := Aside0.mk hp2
  clear hp2
  clear hm ht hv hm1 hm2 hps hap
  have hz1 : XR (w.alloc (.cells #[.int .i64 0, .int .i64 0, .int .u64 0, .string ⟨#[]⟩, .string ⟨#[]⟩] 83)) w.heap.size 0 0 0 ByteArray.empty ByteArray.empty := heap_alloc_new w _
  have HB1 := Aside0.mk ((Below.refl w.heap.size w).alloc (Nat.le_refl _) (.cells #[.int .i64 0, .int .i64 0, .int .u64 0, .string ⟨#[]⟩, .string ⟨#[]⟩] 83))
  have HZ1 := Aside0.mk hz1
  clear hz1
  go_enter Tryz.func85, Tryz.ntmps85
  go_wp2_with fail
  generalize w.alloc (.cells #[.int .i64 0, .int .i64 0, .int .u64 0, .string ⟨#[]⟩, .string ⟨#[]⟩] 83) = W1 at *
  generalize hg : w.heap.size = g at *
  refine (G _).mono ?_
  rintro e wd ⟨rfl, ⟨nd, rfl⟩⟩
  have hz2 : XR (W1.drewN nd) g 0 0 0 ByteArray.empty ByteArray.empty := HZ1.out
  have HB2 : Aside0 (Below g w (W1.drewN nd)) := ⟨by apply pw_below_drewN; exact HB1.out⟩
  have HZ2 := Aside0.mk hz2
  generalize W1.drewN nd = W2 at *
  clear hz2 G HB1 HZ1
  have d3 := HD3.out
  have d4 := HD4.out
  go_upto_region 4 with (fail)
  clear d3 d4 HD3 HD4
  go_upto_region 5 with (first
    | ((with_reducible refine gate_dst (N := 12) rfl ?_); refine box_event ?hg (N := 12) ?hd (cs := #[.int .i64 0, .int .i64 0, .int .u64 0, .string ⟨#[]⟩, .string ⟨#[]⟩]) (t := 83) ?hr ?_; (case hd => rfl); (case hg => rfl); (case hr => first | (go_simp; done) | (go_simp; rfl)); intro x hx w4 hx4 hb4
       have hx4 : XR w4 x 0 0 0 ByteArray.empty ByteArray.empty := hx4
       have hgx : g < x := by have := blk_lt HZ2.out; omega
       clear hx
       have hz4 : XR w4 g 0 0 0 ByteArray.empty ByteArray.empty := blk_below HZ2.out hb4
       have HB4 := Aside0.mk (HB2.out.trans (hb4.mono (by have := HB2.out.size; omega)))
       have z0 := hx4.c0
       have z1 := hx4.c1
       have z2 := hx4.c2
       have z3 := hx4.c3
       have z4 := hx4.c4
       have zf := fun i => hx4.fz i
       have k5 := kp_all w4 x (.int .i64 (m : Int)) (.int .i64 1) (.int .u64 0) (.string ⟨#[]⟩) (.string ⟨#[]⟩)
       have hx5 := hx4.all (m : Int) 1 0 ⟨#[]⟩ ⟨#[]⟩
       have HZ5 := Aside0.mk (hz4.kp k5 (fun e => by omega))
       have HB5 := Aside0.mk (HB4.out.trans (k5.toBelow (by have := HB4.out.size; omega) (fun k e => by omega)))
       have HX5 := Aside0.mk hx5
       clear hx4 hz4 k5 hb4 hx5))
  clear z0 z1 z2 z3 z4 zf hx4 e3 e7 hnb
  generalize ((((w4.setCell ⟨x, 0, none⟩ (.int .i64 (m : Int))).setCell ⟨x, 1, none⟩ (.int .i64 1)).setCell ⟨x, 2, none⟩ (.int .u64 0)).setCell ⟨x, 3, none⟩ (.string ⟨#[]⟩)).setCell ⟨x, 4, none⟩ (.string ⟨#[]⟩) = w5 at *
  have q1 := HX5.out.c1
  have q0 := HX5.out.c0
  clear HB2 HZ2 HB4
  have b0 : (s.size : Int) - (p : Int) < 8 := by have := HP2.out; have := HPS.out; omega
  have b8 : (0 : Int) ≤ (s.size : Int) - (p : Int) := by have := HPS.out; omega
  have hz7 := HZ5.out
  have z0 := hz7.c0
  have z1 := hz7.c1
  have z2 := hz7.c2
  have z3 := hz7.c3
  have z4 := hz7.c4
  have zf := fun i => hz7.fz i
  have k9 := kp_all w5 g (.int .i64 0) (.int .i64 0) (.int .u64 0) (.string ByteArray.empty) (.string ByteArray.empty)
  have HB9 := Aside0.mk (HB5.out.trans (k9.toBelow (by have := HB5.out.size; omega) (fun k e => by omega)))
  clear hz7 k9
  go_wp2_with fail
  refine bodyPost_ret (results_cell_two rfl _ _ g 83 #[.int .i64 0, .int .i64 0, .int .u64 0, .string ByteArray.empty, .string ByteArray.empty] (0, 0) rfl (HZ5.out.all 0 0 0 ByteArray.empty ByteArray.empty) Tryz.underlying83 (by kernel_rfl)) rfl ?_
  exact ⟨rfl, by rw [hg]; exact HB9.out⟩
set_option maxHeartbeats 1000000 in
set_option maxRecDepth 100000 in
theorem rnext_bad5 (w : World) (s : ByteArray) (a v _k m p : Nat) (dp : Int) (hm : v / 8 = m) (hv : v < 18446744073709551616) (hm1 : 1 ≤ m) (hm2 : m < 536870912) (hs : s.size ≤ 100000) (hap : a ≤ p) (hps : p ≤ s.size)
    (G : ∀ w, Calls Tryz.prog 102 #[.string s, .int .i64 (a : Int)] w fun e w' => e = .returned (.tuple #[.int .u64 (v : Int), .int .i64 (p : Int), .int .i64 0]) ∧ Drawn0 w w') (ht : v % 8 = 5) (hp2 : s.size - p < 4) :
    Calls Tryz.prog 85 #[.string s, .int .i64 (a : Int), .int .i64 dp] w (NoR w) := by
  have e3 : (v : Int) / 8 = (m : Int) := by omega
  have e7 : Go.bits .and .u64 (v : Int) 7 = 5 := by rw [and7 v hv, ht]; rfl
  have HD3 := Aside0.mk (show decide (536870912 ≤ (m : Int)) = false from decide_eq_false (by omega))
  have HD4 := Aside0.mk (show decide ((m : Int) < 1) = false from decide_eq_false (by omega))
  have hnb : (m : Int) ≤ 536870911 := by omega
  have HPS := Aside0.mk hps
  have HAP := Aside0.mk hap
  have HP2 := Aside0.mk hp2
  clear hp2
  clear hm ht hv hm1 hm2 hps hap
  have hz1 : XR (w.alloc (.cells #[.int .i64 0, .int .i64 0, .int .u64 0, .string ⟨#[]⟩, .string ⟨#[]⟩] 83)) w.heap.size 0 0 0 ByteArray.empty ByteArray.empty := heap_alloc_new w _
  have HB1 := Aside0.mk ((Below.refl w.heap.size w).alloc (Nat.le_refl _) (.cells #[.int .i64 0, .int .i64 0, .int .u64 0, .string ⟨#[]⟩, .string ⟨#[]⟩] 83))
  have HZ1 := Aside0.mk hz1
  clear hz1
  go_enter Tryz.func85, Tryz.ntmps85
  go_wp2_with fail
  generalize w.alloc (.cells #[.int .i64 0, .int .i64 0, .int .u64 0, .string ⟨#[]⟩, .string ⟨#[]⟩] 83) = W1 at *
  generalize hg : w.heap.size = g at *
  refine (G _).mono ?_
  rintro e wd ⟨rfl, ⟨nd, rfl⟩⟩
  have hz2 : XR (W1.drewN nd) g 0 0 0 ByteArray.empty ByteArray.empty := HZ1.out
  have HB2 : Aside0 (Below g w (W1.drewN nd)) := ⟨by apply pw_below_drewN; exact HB1.out⟩
  have HZ2 := Aside0.mk hz2
  generalize W1.drewN nd = W2 at *
  clear hz2 G HB1 HZ1
  have d3 := HD3.out
  have d4 := HD4.out
  go_upto_region 4 with (fail)
  clear d3 d4 HD3 HD4
  go_upto_region 5 with (first
    | ((with_reducible refine gate_dst (N := 12) rfl ?_); refine box_event ?hg (N := 12) ?hd (cs := #[.int .i64 0, .int .i64 0, .int .u64 0, .string ⟨#[]⟩, .string ⟨#[]⟩]) (t := 83) ?hr ?_; (case hd => rfl); (case hg => rfl); (case hr => first | (go_simp; done) | (go_simp; rfl)); intro x hx w4 hx4 hb4
       have hx4 : XR w4 x 0 0 0 ByteArray.empty ByteArray.empty := hx4
       have hgx : g < x := by have := blk_lt HZ2.out; omega
       clear hx
       have hz4 : XR w4 g 0 0 0 ByteArray.empty ByteArray.empty := blk_below HZ2.out hb4
       have HB4 := Aside0.mk (HB2.out.trans (hb4.mono (by have := HB2.out.size; omega)))
       have z0 := hx4.c0
       have z1 := hx4.c1
       have z2 := hx4.c2
       have z3 := hx4.c3
       have z4 := hx4.c4
       have zf := fun i => hx4.fz i
       have k5 := kp_all w4 x (.int .i64 (m : Int)) (.int .i64 5) (.int .u64 0) (.string ⟨#[]⟩) (.string ⟨#[]⟩)
       have hx5 := hx4.all (m : Int) 5 0 ⟨#[]⟩ ⟨#[]⟩
       have HZ5 := Aside0.mk (hz4.kp k5 (fun e => by omega))
       have HB5 := Aside0.mk (HB4.out.trans (k5.toBelow (by have := HB4.out.size; omega) (fun k e => by omega)))
       have HX5 := Aside0.mk hx5
       clear hx4 hz4 k5 hb4 hx5))
  clear z0 z1 z2 z3 z4 zf hx4 e3 e7 hnb
  generalize ((((w4.setCell ⟨x, 0, none⟩ (.int .i64 (m : Int))).setCell ⟨x, 1, none⟩ (.int .i64 5)).setCell ⟨x, 2, none⟩ (.int .u64 0)).setCell ⟨x, 3, none⟩ (.string ⟨#[]⟩)).setCell ⟨x, 4, none⟩ (.string ⟨#[]⟩) = w5 at *
  have q1 := HX5.out.c1
  have q0 := HX5.out.c0
  clear HB2 HZ2 HB4
  have b0 : (s.size : Int) - (p : Int) < 4 := by have := HP2.out; have := HPS.out; omega
  have b8 : (0 : Int) ≤ (s.size : Int) - (p : Int) := by have := HPS.out; omega
  have hz7 := HZ5.out
  have z0 := hz7.c0
  have z1 := hz7.c1
  have z2 := hz7.c2
  have z3 := hz7.c3
  have z4 := hz7.c4
  have zf := fun i => hz7.fz i
  have k9 := kp_all w5 g (.int .i64 0) (.int .i64 0) (.int .u64 0) (.string ByteArray.empty) (.string ByteArray.empty)
  have HB9 := Aside0.mk (HB5.out.trans (k9.toBelow (by have := HB5.out.size; omega) (fun k e => by omega)))
  clear hz7 k9
  go_wp2_with fail
  refine bodyPost_ret (results_cell_two rfl _ _ g 83 #[.int .i64 0, .int .i64 0, .int .u64 0, .string ByteArray.empty, .string ByteArray.empty] (0, 0) rfl (HZ5.out.all 0 0 0 ByteArray.empty ByteArray.empty) Tryz.underlying83 (by kernel_rfl)) rfl ?_
  exact ⟨rfl, by rw [hg]; exact HB9.out⟩
set_option maxHeartbeats 1000000 in
set_option maxRecDepth 100000 in
theorem rnext_bad2 (w : World) (s : ByteArray) (a v _k m p : Nat) (dp : Int) (hm : v / 8 = m) (hv : v < 18446744073709551616) (hm1 : 1 ≤ m) (hm2 : m < 536870912) (_hs : s.size ≤ 100000) (hap : a ≤ p) (hps : p ≤ s.size)
    (G : ∀ w, Calls Tryz.prog 102 #[.string s, .int .i64 (a : Int)] w fun e w' => e = .returned (.tuple #[.int .u64 (v : Int), .int .i64 (p : Int), .int .i64 0]) ∧ Drawn0 w w') (c : Int) (hc : ¬ c = 0) (ht : v % 8 = 2)
    (G2 : ∀ w, Calls Tryz.prog 102 #[.string s, .int .i64 (p : Int)] w fun e w' => e = .returned (.tuple #[.int .u64 0, .int .i64 0, .int .i64 c]) ∧ Drawn0 w w') :
    Calls Tryz.prog 85 #[.string s, .int .i64 (a : Int), .int .i64 dp] w (NoR w) := by
  have e3 : (v : Int) / 8 = (m : Int) := by omega
  have e7 : Go.bits .and .u64 (v : Int) 7 = 2 := by rw [and7 v hv, ht]; rfl
  have HD3 := Aside0.mk (show decide (536870912 ≤ (m : Int)) = false from decide_eq_false (by omega))
  have HD4 := Aside0.mk (show decide ((m : Int) < 1) = false from decide_eq_false (by omega))
  have hnb : (m : Int) ≤ 536870911 := by omega
  have HPS := Aside0.mk hps
  have HAP := Aside0.mk hap
  clear hm ht hv hm1 hm2 hps hap
  have hz1 : XR (w.alloc (.cells #[.int .i64 0, .int .i64 0, .int .u64 0, .string ⟨#[]⟩, .string ⟨#[]⟩] 83)) w.heap.size 0 0 0 ByteArray.empty ByteArray.empty := heap_alloc_new w _
  have HB1 := Aside0.mk ((Below.refl w.heap.size w).alloc (Nat.le_refl _) (.cells #[.int .i64 0, .int .i64 0, .int .u64 0, .string ⟨#[]⟩, .string ⟨#[]⟩] 83))
  have HZ1 := Aside0.mk hz1
  clear hz1
  go_enter Tryz.func85, Tryz.ntmps85
  go_wp2_with fail
  generalize w.alloc (.cells #[.int .i64 0, .int .i64 0, .int .u64 0, .string ⟨#[]⟩, .string ⟨#[]⟩] 83) = W1 at *
  generalize hg : w.heap.size = g at *
  refine (G _).mono ?_
  rintro e wd ⟨rfl, ⟨nd, rfl⟩⟩
  have hz2 : XR (W1.drewN nd) g 0 0 0 ByteArray.empty ByteArray.empty := HZ1.out
  have HB2 : Aside0 (Below g w (W1.drewN nd)) := ⟨by apply pw_below_drewN; exact HB1.out⟩
  have HZ2 := Aside0.mk hz2
  generalize W1.drewN nd = W2 at *
  clear hz2 G HB1 HZ1
  have d3 := HD3.out
  have d4 := HD4.out
  go_upto_region 4 with (fail)
  clear d3 d4 HD3 HD4
  go_upto_region 5 with (first
    | ((with_reducible refine gate_dst (N := 12) rfl ?_); refine box_event ?hg (N := 12) ?hd (cs := #[.int .i64 0, .int .i64 0, .int .u64 0, .string ⟨#[]⟩, .string ⟨#[]⟩]) (t := 83) ?hr ?_; (case hd => rfl); (case hg => rfl); (case hr => first | (go_simp; done) | (go_simp; rfl)); intro x hx w4 hx4 hb4
       have hx4 : XR w4 x 0 0 0 ByteArray.empty ByteArray.empty := hx4
       have hgx : g < x := by have := blk_lt HZ2.out; omega
       clear hx
       have hz4 : XR w4 g 0 0 0 ByteArray.empty ByteArray.empty := blk_below HZ2.out hb4
       have HB4 := Aside0.mk (HB2.out.trans (hb4.mono (by have := HB2.out.size; omega)))
       have z0 := hx4.c0
       have z1 := hx4.c1
       have z2 := hx4.c2
       have z3 := hx4.c3
       have z4 := hx4.c4
       have zf := fun i => hx4.fz i
       have k5 := kp_all w4 x (.int .i64 (m : Int)) (.int .i64 2) (.int .u64 0) (.string ⟨#[]⟩) (.string ⟨#[]⟩)
       have hx5 := hx4.all (m : Int) 2 0 ⟨#[]⟩ ⟨#[]⟩
       have HZ5 := Aside0.mk (hz4.kp k5 (fun e => by omega))
       have HB5 := Aside0.mk (HB4.out.trans (k5.toBelow (by have := HB4.out.size; omega) (fun k e => by omega)))
       have HX5 := Aside0.mk hx5
       clear hx4 hz4 k5 hb4 hx5))
  clear z0 z1 z2 z3 z4 zf hx4 e3 e7 hnb
  generalize ((((w4.setCell ⟨x, 0, none⟩ (.int .i64 (m : Int))).setCell ⟨x, 1, none⟩ (.int .i64 2)).setCell ⟨x, 2, none⟩ (.int .u64 0)).setCell ⟨x, 3, none⟩ (.string ⟨#[]⟩)).setCell ⟨x, 4, none⟩ (.string ⟨#[]⟩) = w5 at *
  have q1 := HX5.out.c1
  have q0 := HX5.out.c0
  clear HB2 HZ2 HB4
  go_wp2_with fail
  refine (G2 _).mono ?_
  rintro e wd2 ⟨rfl, ⟨nd2, rfl⟩⟩
  have HX6 : Aside0 (XR (w5.drewN nd2) x (m : Int) 2 0 ByteArray.empty ByteArray.empty) := ⟨HX5.out⟩
  have HZ6 : Aside0 (XR (w5.drewN nd2) g 0 0 0 ByteArray.empty ByteArray.empty) := ⟨HZ5.out⟩
  have HB6 : Aside0 (Below g w (w5.drewN nd2)) := ⟨by apply pw_below_drewN; exact HB5.out⟩
  generalize w5.drewN nd2 = w6 at *
  clear G2 HX5 HZ5 HB5 q0 q1
  have d5 : decide (c = 0) = false := decide_eq_false hc
  have hz7 := HZ6.out
  have z0 := hz7.c0
  have z1 := hz7.c1
  have z2 := hz7.c2
  have z3 := hz7.c3
  have z4 := hz7.c4
  have zf := fun i => hz7.fz i
  have k9 := kp_all w6 g (.int .i64 0) (.int .i64 0) (.int .u64 0) (.string ByteArray.empty) (.string ByteArray.empty)
  have HB9 := Aside0.mk (HB6.out.trans (k9.toBelow (by have := HB6.out.size; omega) (fun k e => by omega)))
  clear hz7 k9
  go_wp2_with fail
  refine bodyPost_ret (results_cell_two rfl _ _ g 83 #[.int .i64 0, .int .i64 0, .int .u64 0, .string ByteArray.empty, .string ByteArray.empty] (0, 0) rfl (HZ6.out.all 0 0 0 ByteArray.empty ByteArray.empty) Tryz.underlying83 (by kernel_rfl)) rfl ?_
  exact ⟨rfl, by rw [hg]; exact HB9.out⟩
set_option maxHeartbeats 1000000 in
set_option maxRecDepth 100000 in
theorem rnext_bad2t (w : World) (s : ByteArray) (a v _k m p n q : Nat) (dp : Int) (hm : v / 8 = m) (hv : v < 18446744073709551616) (hm1 : 1 ≤ m) (hm2 : m < 536870912) (hs : s.size ≤ 100000) (hap : a ≤ p) (hps : p ≤ s.size)
    (G : ∀ w, Calls Tryz.prog 102 #[.string s, .int .i64 (a : Int)] w fun e w' => e = .returned (.tuple #[.int .u64 (v : Int), .int .i64 (p : Int), .int .i64 0]) ∧ Drawn0 w w') (ht : v % 8 = 2) (hq : q ≤ s.size) (_hn : n < 18446744073709551616) (hqp : s.size - q < n)
    (G2 : ∀ w, Calls Tryz.prog 102 #[.string s, .int .i64 (p : Int)] w fun e w' => e = .returned (.tuple #[.int .u64 (n : Int), .int .i64 (q : Int), .int .i64 0]) ∧ Drawn0 w w') :
    Calls Tryz.prog 85 #[.string s, .int .i64 (a : Int), .int .i64 dp] w (NoR w) := by
  have e3 : (v : Int) / 8 = (m : Int) := by omega
  have e7 : Go.bits .and .u64 (v : Int) 7 = 2 := by rw [and7 v hv, ht]; rfl
  have HD3 := Aside0.mk (show decide (536870912 ≤ (m : Int)) = false from decide_eq_false (by omega))
  have HD4 := Aside0.mk (show decide ((m : Int) < 1) = false from decide_eq_false (by omega))
  have hnb : (m : Int) ≤ 536870911 := by omega
  have HPS := Aside0.mk hps
  have HAP := Aside0.mk hap
  have HP2 := Aside0.mk (show q ≤ s.size ∧ s.size - q < n from ⟨hq, hqp⟩)
  clear hq hqp _hn
  clear hm ht hv hm1 hm2 hps hap
  have hz1 : XR (w.alloc (.cells #[.int .i64 0, .int .i64 0, .int .u64 0, .string ⟨#[]⟩, .string ⟨#[]⟩] 83)) w.heap.size 0 0 0 ByteArray.empty ByteArray.empty := heap_alloc_new w _
  have HB1 := Aside0.mk ((Below.refl w.heap.size w).alloc (Nat.le_refl _) (.cells #[.int .i64 0, .int .i64 0, .int .u64 0, .string ⟨#[]⟩, .string ⟨#[]⟩] 83))
  have HZ1 := Aside0.mk hz1
  clear hz1
  go_enter Tryz.func85, Tryz.ntmps85
  go_wp2_with fail
  generalize w.alloc (.cells #[.int .i64 0, .int .i64 0, .int .u64 0, .string ⟨#[]⟩, .string ⟨#[]⟩] 83) = W1 at *
  generalize hg : w.heap.size = g at *
  refine (G _).mono ?_
  rintro e wd ⟨rfl, ⟨nd, rfl⟩⟩
  have hz2 : XR (W1.drewN nd) g 0 0 0 ByteArray.empty ByteArray.empty := HZ1.out
  have HB2 : Aside0 (Below g w (W1.drewN nd)) := ⟨by apply pw_below_drewN; exact HB1.out⟩
  have HZ2 := Aside0.mk hz2
  generalize W1.drewN nd = W2 at *
  clear hz2 G HB1 HZ1
  have d3 := HD3.out
  have d4 := HD4.out
  go_upto_region 4 with (fail)
  clear d3 d4 HD3 HD4
  go_upto_region 5 with (first
    | ((with_reducible refine gate_dst (N := 12) rfl ?_); refine box_event ?hg (N := 12) ?hd (cs := #[.int .i64 0, .int .i64 0, .int .u64 0, .string ⟨#[]⟩, .string ⟨#[]⟩]) (t := 83) ?hr ?_; (case hd => rfl); (case hg => rfl); (case hr => first | (go_simp; done) | (go_simp; rfl)); intro x hx w4 hx4 hb4
       have hx4 : XR w4 x 0 0 0 ByteArray.empty ByteArray.empty := hx4
       have hgx : g < x := by have := blk_lt HZ2.out; omega
       clear hx
       have hz4 : XR w4 g 0 0 0 ByteArray.empty ByteArray.empty := blk_below HZ2.out hb4
       have HB4 := Aside0.mk (HB2.out.trans (hb4.mono (by have := HB2.out.size; omega)))
       have z0 := hx4.c0
       have z1 := hx4.c1
       have z2 := hx4.c2
       have z3 := hx4.c3
       have z4 := hx4.c4
       have zf := fun i => hx4.fz i
       have k5 := kp_all w4 x (.int .i64 (m : Int)) (.int .i64 2) (.int .u64 0) (.string ⟨#[]⟩) (.string ⟨#[]⟩)
       have hx5 := hx4.all (m : Int) 2 0 ⟨#[]⟩ ⟨#[]⟩
       have HZ5 := Aside0.mk (hz4.kp k5 (fun e => by omega))
       have HB5 := Aside0.mk (HB4.out.trans (k5.toBelow (by have := HB4.out.size; omega) (fun k e => by omega)))
       have HX5 := Aside0.mk hx5
       clear hx4 hz4 k5 hb4 hx5))
  clear z0 z1 z2 z3 z4 zf hx4 e3 e7 hnb
  generalize ((((w4.setCell ⟨x, 0, none⟩ (.int .i64 (m : Int))).setCell ⟨x, 1, none⟩ (.int .i64 2)).setCell ⟨x, 2, none⟩ (.int .u64 0)).setCell ⟨x, 3, none⟩ (.string ⟨#[]⟩)).setCell ⟨x, 4, none⟩ (.string ⟨#[]⟩) = w5 at *
  have q1 := HX5.out.c1
  have q0 := HX5.out.c0
  clear HB2 HZ2 HB4
  go_wp2_with fail
  refine (G2 _).mono ?_
  rintro e wd2 ⟨rfl, ⟨nd2, rfl⟩⟩
  have HX6 : Aside0 (XR (w5.drewN nd2) x (m : Int) 2 0 ByteArray.empty ByteArray.empty) := ⟨HX5.out⟩
  have HZ6 : Aside0 (XR (w5.drewN nd2) g 0 0 0 ByteArray.empty ByteArray.empty) := ⟨HZ5.out⟩
  have HB6 : Aside0 (Below g w (w5.drewN nd2)) := ⟨by apply pw_below_drewN; exact HB5.out⟩
  generalize w5.drewN nd2 = w6 at *
  clear G2 HX5 HZ5 HB5 q0 q1
  have b0 : (s.size : Int) - (q : Int) < (n : Int) := by have := HP2.out; omega
  have b8 : (0 : Int) ≤ (s.size : Int) - (q : Int) := by have := HP2.out; omega
  have hz7 := HZ6.out
  have z0 := hz7.c0
  have z1 := hz7.c1
  have z2 := hz7.c2
  have z3 := hz7.c3
  have z4 := hz7.c4
  have zf := fun i => hz7.fz i
  have k9 := kp_all w6 g (.int .i64 0) (.int .i64 0) (.int .u64 0) (.string ByteArray.empty) (.string ByteArray.empty)
  have HB9 := Aside0.mk (HB6.out.trans (k9.toBelow (by have := HB6.out.size; omega) (fun k e => by omega)))
  clear hz7 k9
  go_wp2_with fail
  refine bodyPost_ret (results_cell_two rfl _ _ g 83 #[.int .i64 0, .int .i64 0, .int .u64 0, .string ByteArray.empty, .string ByteArray.empty] (0, 0) rfl (HZ6.out.all 0 0 0 ByteArray.empty ByteArray.empty) Tryz.underlying83 (by kernel_rfl)) rfl ?_
  exact ⟨rfl, by rw [hg]; exact HB9.out⟩
set_option maxHeartbeats 1000000 in
set_option maxRecDepth 100000 in
theorem rnext_bad3 (w : World) (s : ByteArray) (a v _k m p : Nat) (dp : Int) (hm : v / 8 = m) (hv : v < 18446744073709551616) (hm1 : 1 ≤ m) (hm2 : m < 536870912) (_hs : s.size ≤ 100000) (hap : a ≤ p) (hps : p ≤ s.size)
    (G : ∀ w, Calls Tryz.prog 102 #[.string s, .int .i64 (a : Int)] w fun e w' => e = .returned (.tuple #[.int .u64 (v : Int), .int .i64 (p : Int), .int .i64 0]) ∧ Drawn0 w w') (ht : v % 8 = 3)
    (G2 : ∀ w, Calls Tryz.prog 104 #[.string s, .int .i64 (p : Int), .int .i64 (m : Int), .int .i64 dp] w fun e w' => (∃ q : Int, e = .returned (.tuple #[.int .i64 q, .bool false])) ∧ Below w.heap.size w w') :
    Calls Tryz.prog 85 #[.string s, .int .i64 (a : Int), .int .i64 dp] w (NoR w) := by
  have e3 : (v : Int) / 8 = (m : Int) := by omega
  have e7 : Go.bits .and .u64 (v : Int) 7 = 3 := by rw [and7 v hv, ht]; rfl
  have HD3 := Aside0.mk (show decide (536870912 ≤ (m : Int)) = false from decide_eq_false (by omega))
  have HD4 := Aside0.mk (show decide ((m : Int) < 1) = false from decide_eq_false (by omega))
  have hnb : (m : Int) ≤ 536870911 := by omega
  have HPS := Aside0.mk hps
  have HAP := Aside0.mk hap
  clear hm ht hv hm1 hm2 hps hap
  have hz1 : XR (w.alloc (.cells #[.int .i64 0, .int .i64 0, .int .u64 0, .string ⟨#[]⟩, .string ⟨#[]⟩] 83)) w.heap.size 0 0 0 ByteArray.empty ByteArray.empty := heap_alloc_new w _
  have HB1 := Aside0.mk ((Below.refl w.heap.size w).alloc (Nat.le_refl _) (.cells #[.int .i64 0, .int .i64 0, .int .u64 0, .string ⟨#[]⟩, .string ⟨#[]⟩] 83))
  have HZ1 := Aside0.mk hz1
  clear hz1
  go_enter Tryz.func85, Tryz.ntmps85
  go_wp2_with fail
  generalize w.alloc (.cells #[.int .i64 0, .int .i64 0, .int .u64 0, .string ⟨#[]⟩, .string ⟨#[]⟩] 83) = W1 at *
  generalize hg : w.heap.size = g at *
  refine (G _).mono ?_
  rintro e wd ⟨rfl, ⟨nd, rfl⟩⟩
  have hz2 : XR (W1.drewN nd) g 0 0 0 ByteArray.empty ByteArray.empty := HZ1.out
  have HB2 : Aside0 (Below g w (W1.drewN nd)) := ⟨by apply pw_below_drewN; exact HB1.out⟩
  have HZ2 := Aside0.mk hz2
  generalize W1.drewN nd = W2 at *
  clear hz2 G HB1 HZ1
  have d3 := HD3.out
  have d4 := HD4.out
  go_upto_region 4 with (fail)
  clear d3 d4 HD3 HD4
  go_upto_region 5 with (first
    | ((with_reducible refine gate_dst (N := 12) rfl ?_); refine box_event ?hg (N := 12) ?hd (cs := #[.int .i64 0, .int .i64 0, .int .u64 0, .string ⟨#[]⟩, .string ⟨#[]⟩]) (t := 83) ?hr ?_; (case hd => rfl); (case hg => rfl); (case hr => first | (go_simp; done) | (go_simp; rfl)); intro x hx w4 hx4 hb4
       have hx4 : XR w4 x 0 0 0 ByteArray.empty ByteArray.empty := hx4
       have hgx : g < x := by have := blk_lt HZ2.out; omega
       clear hx
       have hz4 : XR w4 g 0 0 0 ByteArray.empty ByteArray.empty := blk_below HZ2.out hb4
       have HB4 := Aside0.mk (HB2.out.trans (hb4.mono (by have := HB2.out.size; omega)))
       have z0 := hx4.c0
       have z1 := hx4.c1
       have z2 := hx4.c2
       have z3 := hx4.c3
       have z4 := hx4.c4
       have zf := fun i => hx4.fz i
       have k5 := kp_all w4 x (.int .i64 (m : Int)) (.int .i64 3) (.int .u64 0) (.string ⟨#[]⟩) (.string ⟨#[]⟩)
       have hx5 := hx4.all (m : Int) 3 0 ⟨#[]⟩ ⟨#[]⟩
       have HZ5 := Aside0.mk (hz4.kp k5 (fun e => by omega))
       have HB5 := Aside0.mk (HB4.out.trans (k5.toBelow (by have := HB4.out.size; omega) (fun k e => by omega)))
       have HX5 := Aside0.mk hx5
       clear hx4 hz4 k5 hb4 hx5))
  clear z0 z1 z2 z3 z4 zf hx4 e3 e7 hnb
  generalize ((((w4.setCell ⟨x, 0, none⟩ (.int .i64 (m : Int))).setCell ⟨x, 1, none⟩ (.int .i64 3)).setCell ⟨x, 2, none⟩ (.int .u64 0)).setCell ⟨x, 3, none⟩ (.string ⟨#[]⟩)).setCell ⟨x, 4, none⟩ (.string ⟨#[]⟩) = w5 at *
  have q1 := HX5.out.c1
  have q0 := HX5.out.c0
  clear HB2 HZ2 HB4
  go_wp2_with fail
  refine (G2 _).mono ?_
  rintro e w6 ⟨⟨q, rfl⟩, hb6⟩
  have hgs := HB5.out.size
  have hxs := blk_lt HX5.out
  have hzs := blk_lt HZ5.out
  have HZ6 : Aside0 (XR w6 g 0 0 0 ByteArray.empty ByteArray.empty) := ⟨blk_below HZ5.out hb6⟩
  have HB6 : Aside0 (Below g w w6) := ⟨HB5.out.trans (hb6.mono (by omega))⟩
  clear hb6 hgs hxs hzs G2 HX5 HZ5 HB5 q0 q1
  have hz7 := HZ6.out
  have z0 := hz7.c0
  have z1 := hz7.c1
  have z2 := hz7.c2
  have z3 := hz7.c3
  have z4 := hz7.c4
  have zf := fun i => hz7.fz i
  have k9 := kp_all w6 g (.int .i64 0) (.int .i64 0) (.int .u64 0) (.string ByteArray.empty) (.string ByteArray.empty)
  have HB9 := Aside0.mk (HB6.out.trans (k9.toBelow (by have := HB6.out.size; omega) (fun k e => by omega)))
  clear hz7 k9
  go_wp2_with fail
  refine bodyPost_ret (results_cell_two rfl _ _ g 83 #[.int .i64 0, .int .i64 0, .int .u64 0, .string ByteArray.empty, .string ByteArray.empty] (0, 0) rfl (HZ6.out.all 0 0 0 ByteArray.empty ByteArray.empty) Tryz.underlying83 (by kernel_rfl)) rfl ?_
  exact ⟨rfl, by rw [hg]; exact HB9.out⟩
set_option maxHeartbeats 1000000 in
set_option maxRecDepth 100000 in
theorem rnext_badx (w : World) (s : ByteArray) (a v _k m p t : Nat) (dp : Int) (hm : v / 8 = m) (hv : v < 18446744073709551616) (hm1 : 1 ≤ m) (hm2 : m < 536870912) (_hs : s.size ≤ 100000) (hap : a ≤ p) (hps : p ≤ s.size)
    (G : ∀ w, Calls Tryz.prog 102 #[.string s, .int .i64 (a : Int)] w fun e w' => e = .returned (.tuple #[.int .u64 (v : Int), .int .i64 (p : Int), .int .i64 0]) ∧ Drawn0 w w') (ht : v % 8 = t) (t0 : ¬ (t : Int) = 0) (t1 : ¬ (t : Int) = 1) (t5 : ¬ (t : Int) = 5) (t2 : ¬ (t : Int) = 2) (t3 : ¬ (t : Int) = 3) :
    Calls Tryz.prog 85 #[.string s, .int .i64 (a : Int), .int .i64 dp] w (NoR w) := by
  have e3 : (v : Int) / 8 = (m : Int) := by omega
  have e7 : Go.bits .and .u64 (v : Int) 7 = (t : Int) := by rw [and7 v hv, ht]
  have HD3 := Aside0.mk (show decide (536870912 ≤ (m : Int)) = false from decide_eq_false (by omega))
  have HD4 := Aside0.mk (show decide ((m : Int) < 1) = false from decide_eq_false (by omega))
  have hnb : (m : Int) ≤ 536870911 := by omega
  have HPS := Aside0.mk hps
  have HAP := Aside0.mk hap
  have ht8 : (t : Int) < 8 := by omega
  clear hm ht hv hm1 hm2 hps hap
  have hz1 : XR (w.alloc (.cells #[.int .i64 0, .int .i64 0, .int .u64 0, .string ⟨#[]⟩, .string ⟨#[]⟩] 83)) w.heap.size 0 0 0 ByteArray.empty ByteArray.empty := heap_alloc_new w _
  have HB1 := Aside0.mk ((Below.refl w.heap.size w).alloc (Nat.le_refl _) (.cells #[.int .i64 0, .int .i64 0, .int .u64 0, .string ⟨#[]⟩, .string ⟨#[]⟩] 83))
  have HZ1 := Aside0.mk hz1
  clear hz1
  go_enter Tryz.func85, Tryz.ntmps85
  go_wp2_with fail
  generalize w.alloc (.cells #[.int .i64 0, .int .i64 0, .int .u64 0, .string ⟨#[]⟩, .string ⟨#[]⟩] 83) = W1 at *
  generalize hg : w.heap.size = g at *
  refine (G _).mono ?_
  rintro e wd ⟨rfl, ⟨nd, rfl⟩⟩
  have hz2 : XR (W1.drewN nd) g 0 0 0 ByteArray.empty ByteArray.empty := HZ1.out
  have HB2 : Aside0 (Below g w (W1.drewN nd)) := ⟨by apply pw_below_drewN; exact HB1.out⟩
  have HZ2 := Aside0.mk hz2
  generalize W1.drewN nd = W2 at *
  clear hz2 G HB1 HZ1
  have d3 := HD3.out
  have d4 := HD4.out
  go_upto_region 4 with (fail)
  clear d3 d4 HD3 HD4
  go_upto_region 5 with (first
    | ((with_reducible refine gate_dst (N := 12) rfl ?_); refine box_event ?hg (N := 12) ?hd (cs := #[.int .i64 0, .int .i64 0, .int .u64 0, .string ⟨#[]⟩, .string ⟨#[]⟩]) (t := 83) ?hr ?_; (case hd => rfl); (case hg => rfl); (case hr => first | (go_simp; done) | (go_simp; rfl)); intro x hx w4 hx4 hb4
       have hx4 : XR w4 x 0 0 0 ByteArray.empty ByteArray.empty := hx4
       have hgx : g < x := by have := blk_lt HZ2.out; omega
       clear hx
       have hz4 : XR w4 g 0 0 0 ByteArray.empty ByteArray.empty := blk_below HZ2.out hb4
       have HB4 := Aside0.mk (HB2.out.trans (hb4.mono (by have := HB2.out.size; omega)))
       have z0 := hx4.c0
       have z1 := hx4.c1
       have z2 := hx4.c2
       have z3 := hx4.c3
       have z4 := hx4.c4
       have zf := fun i => hx4.fz i
       have k5 := kp_all w4 x (.int .i64 (m : Int)) (.int .i64 (t : Int)) (.int .u64 0) (.string ⟨#[]⟩) (.string ⟨#[]⟩)
       have hx5 := hx4.all (m : Int) (t : Int) 0 ⟨#[]⟩ ⟨#[]⟩
       have HZ5 := Aside0.mk (hz4.kp k5 (fun e => by omega))
       have HB5 := Aside0.mk (HB4.out.trans (k5.toBelow (by have := HB4.out.size; omega) (fun k e => by omega)))
       have HX5 := Aside0.mk hx5
       clear hx4 hz4 k5 hb4 hx5))
  clear z0 z1 z2 z3 z4 zf hx4 e3 e7 hnb
  generalize ((((w4.setCell ⟨x, 0, none⟩ (.int .i64 (m : Int))).setCell ⟨x, 1, none⟩ (.int .i64 (t : Int))).setCell ⟨x, 2, none⟩ (.int .u64 0)).setCell ⟨x, 3, none⟩ (.string ⟨#[]⟩)).setCell ⟨x, 4, none⟩ (.string ⟨#[]⟩) = w5 at *
  have q1 := HX5.out.c1
  have q0 := HX5.out.c0
  clear HB2 HZ2 HB4
  clear ht8
  have hz7 := HZ5.out
  have z0 := hz7.c0
  have z1 := hz7.c1
  have z2 := hz7.c2
  have z3 := hz7.c3
  have z4 := hz7.c4
  have zf := fun i => hz7.fz i
  have k9 := kp_all w5 g (.int .i64 0) (.int .i64 0) (.int .u64 0) (.string ByteArray.empty) (.string ByteArray.empty)
  have HB9 := Aside0.mk (HB5.out.trans (k9.toBelow (by have := HB5.out.size; omega) (fun k e => by omega)))
  clear hz7 k9
  go_wp2_with fail
  refine bodyPost_ret (results_cell_two rfl _ _ g 83 #[.int .i64 0, .int .i64 0, .int .u64 0, .string ByteArray.empty, .string ByteArray.empty] (0, 0) rfl (HZ5.out.all 0 0 0 ByteArray.empty ByteArray.empty) Tryz.underlying83 (by kernel_rfl)) rfl ?_
  exact ⟨rfl, by rw [hg]; exact HB9.out⟩
set_option maxHeartbeats 1000000 in
set_option maxRecDepth 100000 in
theorem rnext_badtag (w : World) (s : ByteArray) (a v m p : Nat) (dp : Int) (hm : v / 8 = m) (hm1 : m < 1 ∨ 536870912 ≤ m)
    (G : ∀ w, Calls Tryz.prog 102 #[.string s, .int .i64 (a : Int)] w fun e w' => e = .returned (.tuple #[.int .u64 (v : Int), .int .i64 (p : Int), .int .i64 0]) ∧ Drawn0 w w') :
    Calls Tryz.prog 85 #[.string s, .int .i64 (a : Int), .int .i64 dp] w (NoR w) := by
  have e3 : (v : Int) / 8 = (m : Int) := by omega
  have HD : Aside0 ((m : Int) < 1 ∨ 536870912 ≤ (m : Int)) := ⟨by omega⟩
  clear hm hm1
  have hz1 : XR (w.alloc (.cells #[.int .i64 0, .int .i64 0, .int .u64 0, .string ⟨#[]⟩, .string ⟨#[]⟩] 83)) w.heap.size 0 0 0 ByteArray.empty ByteArray.empty := heap_alloc_new w _
  have HB1 := Aside0.mk ((Below.refl w.heap.size w).alloc (Nat.le_refl _) (.cells #[.int .i64 0, .int .i64 0, .int .u64 0, .string ⟨#[]⟩, .string ⟨#[]⟩] 83))
  have HZ1 := Aside0.mk hz1
  clear hz1
  go_enter Tryz.func85, Tryz.ntmps85
  go_wp2_with fail
  generalize w.alloc (.cells #[.int .i64 0, .int .i64 0, .int .u64 0, .string ⟨#[]⟩, .string ⟨#[]⟩] 83) = W1 at *
  generalize hg : w.heap.size = g at *
  refine (G _).mono ?_
  rintro e wd ⟨rfl, ⟨nd, rfl⟩⟩
  have hz2 : XR (W1.drewN nd) g 0 0 0 ByteArray.empty ByteArray.empty := HZ1.out
  have HB2 : Aside0 (Below g w (W1.drewN nd)) := ⟨by apply pw_below_drewN; exact HB1.out⟩
  have HZ2 := Aside0.mk hz2
  generalize W1.drewN nd = W2 at *
  clear hz2 G HB1 HZ1
  by_cases h1 : (m : Int) < 1
  · have d4 : decide ((m : Int) < 1) = true := decide_eq_true h1
    clear h1
    have hz7 := HZ2.out
    have z0 := hz7.c0
    have z1 := hz7.c1
    have z2 := hz7.c2
    have z3 := hz7.c3
    have z4 := hz7.c4
    have zf := fun i => hz7.fz i
    have k9 := kp_all W2 g (.int .i64 0) (.int .i64 0) (.int .u64 0) (.string ByteArray.empty) (.string ByteArray.empty)
    have HB9 := Aside0.mk (HB2.out.trans (k9.toBelow (by have := HB2.out.size; omega) (fun k e => by omega)))
    clear hz7 k9
    go_wp2_with fail
    refine bodyPost_ret (results_cell_two rfl _ _ g 83 #[.int .i64 0, .int .i64 0, .int .u64 0, .string ByteArray.empty, .string ByteArray.empty] (0, 0) rfl (HZ2.out.all 0 0 0 ByteArray.empty ByteArray.empty) Tryz.underlying83 (by kernel_rfl)) rfl ?_
    exact ⟨rfl, by rw [hg]; exact HB9.out⟩
  · have d3 : decide (536870912 ≤ (m : Int)) = true := decide_eq_true (HD.out.resolve_left h1)
    have d4 : decide ((m : Int) < 1) = false := decide_eq_false h1
    clear h1
    have hz7 := HZ2.out
    have z0 := hz7.c0
    have z1 := hz7.c1
    have z2 := hz7.c2
    have z3 := hz7.c3
    have z4 := hz7.c4
    have zf := fun i => hz7.fz i
    have k9 := kp_all W2 g (.int .i64 0) (.int .i64 0) (.int .u64 0) (.string ByteArray.empty) (.string ByteArray.empty)
    have HB9 := Aside0.mk (HB2.out.trans (k9.toBelow (by have := HB2.out.size; omega) (fun k e => by omega)))
    clear hz7 k9
    go_wp2_with fail
    refine bodyPost_ret (results_cell_two rfl _ _ g 83 #[.int .i64 0, .int .i64 0, .int .u64 0, .string ByteArray.empty, .string ByteArray.empty] (0, 0) rfl (HZ2.out.all 0 0 0 ByteArray.empty ByteArray.empty) Tryz.underlying83 (by kernel_rfl)) rfl ?_
    exact ⟨rfl, by rw [hg]; exact HB9.out⟩
end Go.Proofs.YtnghlkbmfhkmoaaGreatDoor
namespace Go.Proofs.YtnghlkbmfhkmoaaGreatDoor
open Go.RowKit Go.Proofs.YtnghlkbmfhkmoaaGreatDoorW.PrintWords Go.Proofs.YtnghlkbmfhkmoaaGreatDoorW.PrintLast Go.Proofs.YtnghlkbmfhkmoaaGreatDoorW.PrintMore Hy
theorem RW.grown {w w1 : World} {r : Nat} {s : ByteArray} {a : Nat} {u : Value} {dp : Int} {row : Option Nat} (h : RW w r s a u dp) (hg : w.grownBy w1 row) (hn : ∀ k, row = some k → k ≠ r) : RW w1 r s a u dp := by
  unfold RW at *
  have := hg.block r (blk_lt h) (fun e => hn r e.symm rfl)
  rw [this, h]
theorem R_Cw {α : Type} {d : Kd α} {e : Nat} {w : World} {base : Nat} {ok : Nat → Prop} {A : Option Addr} {n c : Nat} {xs : List α} (h : d.R e w base ok (.slice A n c) xs) : d.C w A xs.length xs ∧ n = xs.length ∧ xs.length ≤ c := by
  obtain ⟨A', c', e, hl, hc⟩ := Kd.R_reads h
  injection e with e1 e2 e3
  subst e1; subst e3
  exact ⟨hc, e2, hl⟩
/-! ### numbers written one behind the other -/
end Go.Proofs.YtnghlkbmfhkmoaaGreatDoor
namespace Go.Proofs.YtnghlkbmfhkmoaaGreatDoor
open Go.RowKit Go.Proofs.YtnghlkbmfhkmoaaGreatDoorW.PrintWords Go.Proofs.YtnghlkbmfhkmoaaGreatDoorW.PrintLast Go.Proofs.YtnghlkbmfhkmoaaGreatDoorW.PrintMore Hy
open CExr (hygref2_Varint.l0 hygref2_Varint.f)
/-! ### the document's own: a number written; texts taken apart -/
theorem vput_l0 : ∀ (j n : Nat) (k : Nat) (acc : List Nat), n < 2 ^ (7 * (j + 1)) → n < 18446744073709551616 → acc.length + j < 1000 → j < k →
    hygref2_Varint.l0 k (n : Int) (acc.map fun (x : Nat) => (x : Int)) = some (st (acc ++ putL n)) := by
  intro j
  induction j with
  | zero =>
    intro n k acc h h64 hl hk
    obtain ⟨k, rfl⟩ : ∃ m, k = m + 1 := ⟨k - 1, by omega⟩
    have hn : n < 128 := by simpa using h
    simp only [hygref2_Varint.l0]
    rw [if_neg (by omega), if_pos (by simp; omega), putL_lo n hn, ← strOfNums_eq, show (n : Int) % 256 = n by omega]
    simp
  | succ j ih =>
    intro n k acc h h64 hl hk
    obtain ⟨k, rfl⟩ : ∃ m, k = m + 1 := ⟨k - 1, by omega⟩
    simp only [hygref2_Varint.l0]
    by_cases hn : n < 128
    · rw [if_neg (by omega), if_pos (by simp; omega), putL_lo n hn, ← strOfNums_eq, show (n : Int) % 256 = n by omega]
      simp
    · have h' : n / 128 < 2 ^ (7 * (j + 1)) := by
        rw [Nat.div_lt_iff_lt_mul (by omega)]
        calc n < _ := h
          _ = _ := by rw [show 7 * (j + 1 + 1) = 7 * (j + 1) + 7 by omega, Nat.pow_add]
      have := ih (n / 128) k (acc ++ [n % 128 + 128]) h' (by omega) (by simp; omega) (by omega)
      rw [if_pos (by omega), if_pos (by simp; omega), putL_hi n hn, and_u64_127 _ (by omega) (by omega), or_u64_128 _ (by omega) (by omega)]
      rw [List.append_assoc] at this
      simp only [List.cons_append, List.nil_append] at this
      rw [← this]
      have e : ((n : Int) / 128) = ((n / 128 : Nat) : Int) := by omega
      have e2 : ((n : Int) % 128 + 128) % 256 = ((n % 128 + 128 : Nat) : Int) := by omega
      rw [e, e2]
      simp
theorem vput_k (n : Nat) (k : Nat) (h1 : n < 18446744073709551616) (hk : 10 ≤ k) : hygref2_Varint.f k (n : Int) = some (st (putL n)) := by
  have := vput_l0 9 n k [] (by omega) (by omega) (by simp) (by omega)
  simpa [hygref2_Varint.f] using this
theorem vput_any (n : Nat) (w : World) (h1 : n < 18446744073709551616) :
    Calls Tryz.prog 76 #[.int .u64 (n : Int)] w fun e w' => e = .returned (.string (st (putL n))) ∧ Below w.heap.size w w' :=
  CExr.hygref2_Varint.calls 10 (n : Int) _ w (vput_k n 10 h1 (Nat.le_refl _))
end Go.Proofs.YtnghlkbmfhkmoaaGreatDoor
namespace Go.Proofs.YtnghlkbmfhkmoaaGreatDoor
open Go.RowKit Go.Proofs.YtnghlkbmfhkmoaaGreatDoorW.PrintWords Go.Proofs.YtnghlkbmfhkmoaaGreatDoorW.PrintLast Go.Proofs.YtnghlkbmfhkmoaaGreatDoorW.PrintMore Hy
open CExr
/-! ### a number of eight bytes, by the document -/
theorem or_256 (x c : Nat) (hx : x < 72057594037927936) (hc : c < 256) : Go.bits .or .u64 (IntKind.u64.wrap ((x : Int) * 256)) (IntKind.u64.wrap (c : Int)) = ((c + 256 * x : Nat) : Int) := by
  rw [wrap_u64, wrap_u64, show (x : Int) * 256 % 18446744073709551616 = ((256 * x : Nat) : Int) by omega, show (c : Int) % 18446744073709551616 = (c : Int) by omega]
  have h1 := or_nat .u64 64 (by decide) (fun n a b => by rw [wrap_u64]; omega) (256 * x) c (by omega) (by omega)
  have h2 := or_nat .u64 64 (by decide) (fun n a b => by rw [wrap_u64]; omega) c (256 * x) (by omega) (by omega)
  have h3 := or_join_u64 (c : Int) ((256 * x : Nat) : Int) 8 (by omega) (by omega) (by omega) (by omega) (by omega) (by omega)
  rw [h1, show 256 * x ||| c = c ||| 256 * x from Nat.or_comm _ _, ← h2, h3]
  omega
end Go.Proofs.YtnghlkbmfhkmoaaGreatDoor
namespace Go.Proofs.YtnghlkbmfhkmoaaGreatDoor
open Go.RowKit Go.Proofs.YtnghlkbmfhkmoaaGreatDoorW.PrintWords Go.Proofs.YtnghlkbmfhkmoaaGreatDoorW.PrintLast Go.Proofs.YtnghlkbmfhkmoaaGreatDoorW.PrintMore Hy
def WBad2 (w : World) (r : Nat) (s : ByteArray) (dp : Int) (e : Ending) (w' : World) : Prop := ∃ m t : Int, 0 ≤ t ∧ t < 8 ∧ e = .returned (.tuple #[.int .i64 m, .int .i64 t]) ∧ WBad w r s dp w'
set_option maxHeartbeats 2000000 in
set_option maxRecDepth 100000 in
theorem wtag_bad (w : World) (r : Nat) (s : ByteArray) (a : Nat) (dp : Int) (h : RW w r s a .nilIface dp) (ha : a ≤ s.size) (hs : s.size ≤ 140737488351232) (ht : tagL ((bs s).drop a) = none) :
    Calls Tryz.prog 97 #[.pointer (some ⟨r, 0, none⟩)] w (WBad2 w r s dp) := by
  have c1 := h.c1
  rcases hd : dec 0 ((bs s).drop a) with c | ⟨v, k⟩
  · have G := wvar_bad w r s a c dp h ha hs hd
    have e2 : Go.bits .and .u64 (0 : Int) 7 = (0 : Int) := by decide +kernel
    have e3 : Go.bits .and .u64 (0 : Int) 536870911 = (0 : Int) := by decide +kernel
    clear h ht hd
    go_enter Tryz.func97, Tryz.ntmps97
    go_wp2_with fail
    refine G.mono ?_
    rintro e w2 ⟨rfl, a2, T, x, E, ha2, hr2, hu2, hE2, hk2⟩
    have HR2 := Aside0.mk hr2
    have HU2 := Aside0.mk hu2
    have HE2 := Aside0.mk hE2
    have HK2 := Aside0.mk hk2
    have z2 := hr2.c2
    clear hr2 hk2 hu2 hE2 G
    go_wp2_with fail
    go_ret2
    exact ⟨0, 0, by omega, by omega, rfl, a2, T, x, E, ha2, HR2.out, HU2.out, HE2.out, HK2.out⟩
  · have hds := dec_some _ 0 v k (okB_drop (bs_ok s) _) (by omega) hd
    have hv : v < 18446744073709551616 := hds.2.2.2.2
    have hks := hds.2.1
    rw [List.length_drop, bs_length] at hks
    have hbad := tagL_bad ht hd
    have G := wvar_ok w r s a v k dp h ha hs hd
    have HWE : Aside0 (WE s (.at_ (a : Int) (.code 3))) := ⟨⟨a, 3, rfl, ha, .inr (.inl rfl)⟩⟩
    obtain ⟨n, hn⟩ : ∃ n, v / 8 = n := ⟨_, rfl⟩
    have e1 : (v : Int) / 8 = (n : Int) := by omega
    have e2 : Go.bits .and .u64 (v : Int) 7 = ((v % 8 : Nat) : Int) := and7 v hv
    have e3 : Go.bits .and .u64 (n : Int) 536870911 = ((n % 536870912 : Nat) : Int) := and29 n (by omega)
    have hak : a + k ≤ s.size := by omega
    rw [hn] at hbad
    generalize n % 536870912 = m at *
    have ht8 : v % 8 < 8 := by omega
    generalize v % 8 = t at *
    have hm29 : (m : Int) = (m : Int) := rfl
    by_cases hn1 : n < 1
    · have d1 : (n : Int) < 1 := by omega
      clear h ht hd hn hbad hds hks hm29
      go_enter Tryz.func97, Tryz.ntmps97
      go_wp2_with fail
      refine G.mono ?_
      rintro e w2 ⟨rfl, hr2, hk2⟩
      have HR2 := Aside0.mk hr2
      have HK2 := Aside0.mk hk2
      have z2 := hr2.c2
      have G2 := wfails_new w2 r s (a + k) dp (a : Int) 3 hr2
      clear hr2 hk2 G
      go_wp2_with fail
      refine G2.mono ?_
      rintro e w3 ⟨rfl, T, x, hr3, hu3, hk3⟩
      have HR3 := Aside0.mk hr3
      have HU3 := Aside0.mk hu3
      have HK3 := Aside0.mk hk3
      clear hr3 hu3 hk3 G2
      go_wp2_with fail
      go_ret2
      exact ⟨_, t, by omega, by omega, rfl, a + k, T, x, _, hak, HR3.out, HU3.out, HWE.out, HK2.out.trans HK3.out⟩
    · have d1 : ¬ (n : Int) < 1 := by omega
      have d2 : (n : Int) > 536870911 := by omega
      clear h ht hd hn hbad hds hks hm29
      go_enter Tryz.func97, Tryz.ntmps97
      go_wp2_with fail
      refine G.mono ?_
      rintro e w2 ⟨rfl, hr2, hk2⟩
      have HR2 := Aside0.mk hr2
      have HK2 := Aside0.mk hk2
      have z2 := hr2.c2
      have G2 := wfails_new w2 r s (a + k) dp (a : Int) 3 hr2
      clear hr2 hk2 G
      go_wp2_with fail
      refine G2.mono ?_
      rintro e w3 ⟨rfl, T, x, hr3, hu3, hk3⟩
      have HR3 := Aside0.mk hr3
      have HU3 := Aside0.mk hu3
      have HK3 := Aside0.mk hk3
      clear hr3 hu3 hk3 G2
      go_wp2_with fail
      go_ret2
      exact ⟨_, t, by omega, by omega, rfl, a + k, T, x, _, hak, HR3.out, HU3.out, HWE.out, HK2.out.trans HK3.out⟩
end Go.Proofs.YtnghlkbmfhkmoaaGreatDoor
namespace Go.Proofs.YtnghlkbmfhkmoaaGreatDoor
open Go.RowKit Go.Proofs.YtnghlkbmfhkmoaaGreatDoorW.PrintWords Go.Proofs.YtnghlkbmfhkmoaaGreatDoorW.PrintLast Go.Proofs.YtnghlkbmfhkmoaaGreatDoorW.PrintMore Hy
/-! ### the reader that has failed -/
set_option maxHeartbeats 4000000 in
set_option maxRecDepth 100000 in
theorem wlittle_old (w : World) (r : Nat) (s : ByteArray) (a k : Nat) (dp : Int) (T : Nat) (x : Value) (h : RW w r s a (.iface T x) dp) (hk : k ≤ 8) :
    Calls Tryz.prog 112 #[.pointer (some ⟨r, 0, none⟩), .int .i64 (k : Int)] w fun e w' => e = .returned (.int .u64 0) ∧ Below w.heap.size w w' := by
  have hw : IntKind.u64.wrap (k : Int) = (k : Int) := by rw [wrap_u64]; omega
  have G := wtake_old w r s a dp (k : Int) T x h
  clear h
  go_enter Tryz.func112, Tryz.ntmps112
  go_wp2_with fail
  refine G.mono ?_
  rintro e w2 ⟨rfl, ⟨nd, rfl⟩⟩
  go_wp2_with fail
  have hb0 : Below w.heap.size w (w.drewN nd) := by apply pw_below_drewN; exact Below.refl _ _
  generalize w.drewN nd = w2 at *
  rw [run_bytes_of_string (P := Tryz.prog) w2 9 46 5 ByteArray.empty Tryz.underlying9 Tryz.underlying46 Tryz.underlying5]
  have HB := Aside0.mk (hb0.trans (((Below.refl w.heap.size w2).drew).alloc hb0.size (.cells (bytesRow ByteArray.empty (grownCap w2 ByteArray.empty.size 0 5)) 5 ((bytesRow ByteArray.empty (grownCap w2 ByteArray.empty.size 0 5)).size, (bytesRow ByteArray.empty (grownCap w2 ByteArray.empty.size 0 5)).size + 1))))
  have hz : ByteArray.empty.size = 0 := rfl
  generalize w2.drew.alloc (.cells (bytesRow ByteArray.empty (grownCap w2 ByteArray.empty.size 0 5)) 5 ((bytesRow ByteArray.empty (grownCap w2 ByteArray.empty.size 0 5)).size, (bytesRow ByteArray.empty (grownCap w2 ByteArray.empty.size 0 5)).size + 1)) = W at *
  generalize grownCap w2 ByteArray.empty.size 0 5 = cap at *
  rw [hz]
  generalize w2.heap.size = g at *
  clear G hb0 hz hw
  go_wp2_with fail
  go_loopw [5, 14] (fun v5 v14 w' => v5 = .int .u64 0 ∧ v14 = .int .i64 0 ∧ w' = W) (fun _ _ _ => 0)
  case atStart => exact ⟨rfl, rfl, rfl⟩
  case round =>
    obtain ⟨rfl, rfl, rfl⟩ := hrel
    go_wp2_with fail
    go_ret
    exact ⟨rfl, HB.out⟩
/-- What the old error's reader keeps. -/
def OldOk (w : World) (r : Nat) (s : ByteArray) (a : Nat) (dp : Int) (T : Nat) (x : Value) (M : Nat → Prop) (w' : World) : Prop := RW w' r s a (.iface T x) dp ∧ Kp M w w'
set_option maxHeartbeats 4000000 in
set_option maxRecDepth 100000 in
theorem wgroup_old (w : World) (r : Nat) (s : ByteArray) (a : Nat) (dp n : Int) (T : Nat) (x : Value) (h : RW w r s a (.iface T x) dp) (hd0 : -9223372036854775808 ≤ dp) (hd1 : dp < 9223372036854775808) :
    Calls Tryz.prog 114 #[.pointer (some ⟨r, 0, none⟩), .int .i64 n] w fun e w' => e = .returned (.tuple #[]) ∧ OldOk w r s a dp T x (fun k => k = r) w' := by
  have HR := Aside0.mk h
  have c1 := h.c1
  have c3 := h.c3
  have f3 := h.fz 3
  by_cases hdp : dp < 1
  · have G := wfails_old w r s a dp (a : Int) 6 T x h
    clear h
    go_enter Tryz.func114, Tryz.ntmps114
    go_wp2_with fail
    refine G.mono ?_
    rintro e w2 ⟨rfl, rfl⟩
    go_wp2_with fail
    refine bodyPost_ret (results_none rfl _ _ _) rfl ?_
    exact ⟨rfl, HR.out, Kp.refl _ _⟩
  · have hr2 := h.dep (dp - 1)
    have hk2 := kp_r (r := r) (Kp.refl (fun k => k = r) w) 3 (.int .i64 (dp - 1))
    have HR2 := Aside0.mk hr2
    have HK2 := Aside0.mk hk2
    have c2 := hr2.c2
    have c3' := hr2.c3
    have f3' := hr2.fz 3
    clear h hr2 hk2
    go_enter Tryz.func114, Tryz.ntmps114
    go_wp2_with fail
    generalize w.setCell ⟨r, 3, none⟩ (.int .i64 (dp - 1)) = W at *
    go_loopw [4] (fun _ w' => w' = W) (fun _ _ => 0)
    case atStart => exact rfl
    case round =>
      subst hrel
      go_wp2_with fail
      go_end0
      exact ⟨rfl, by have := HR2.out.dep dp; exact this, kp_r HK2.out _ _⟩
end Go.Proofs.YtnghlkbmfhkmoaaGreatDoor
namespace Go.Proofs.YtnghlkbmfhkmoaaGreatDoor
open Go.RowKit Go.Proofs.YtnghlkbmfhkmoaaGreatDoorW.PrintWords Go.Proofs.YtnghlkbmfhkmoaaGreatDoorW.PrintLast Go.Proofs.YtnghlkbmfhkmoaaGreatDoorW.PrintMore Hy
theorem IsE.xset {w : World} {e : Err} {v : Value} {x' : Nat} {n t N : Int} {S raw : ByteArray} (h : XW w x' n t N S raw) (hv : IsE w e v) (i : Nat) (u : Value) : IsE (w.setCell ⟨x', i, none⟩ u) e v :=
  hv.kp (Kp.set (Kp.refl (fun k => k = x') w) (p := ⟨x', i, none⟩) rfl u) (fun k c hk e => by
    subst e
    unfold XW at h
    rw [h] at hk
    injection hk with hk
    injection hk with _ hk
    exact absurd hk (by decide))
def RX (r x : Nat) : Nat → Prop := fun k => k = r ∨ k = x
theorem rx_set {w W : World} {r x : Nat} (h : Kp (RX r x) w W) (i : Nat) (u : Value) : Kp (RX r x) w (W.setCell ⟨x, i, none⟩ u) := h.set (p := ⟨x, i, none⟩) (.inr rfl) u
theorem rx_of {w W : World} {r x : Nat} (h : Kp (fun k => k = r) w W) : Kp (RX r x) w W := h.mono (fun _ e => .inl e)
theorem RW.xset {w : World} {r x i : Nat} {s : ByteArray} {a : Nat} {u v : Value} {dp : Int} (h : RW w r s a u dp) (hxr : x ≠ r) : RW (w.setCell ⟨x, i, none⟩ v) r s a u dp :=
  h.kp (Kp.set (M := fun k => k = x) (Kp.refl _ w) (p := ⟨x, i, none⟩) rfl _) (fun e => hxr e.symm)
set_option maxHeartbeats 4000000 in
set_option maxRecDepth 100000 in
theorem wrest_old0 (w : World) (r x : Nat) (s : ByteArray) (a : Nat) (n at_ dp : Int) (T : Nat) (xv : Value) (h : RW w r s a (.iface T xv) dp) (hx : XW w x n 0 0 ByteArray.empty ByteArray.empty) (hxr : x ≠ r) :
    Calls Tryz.prog 98 #[.pointer (some ⟨r, 0, none⟩), .pointer (some ⟨x, 0, none⟩), .int .i64 at_] w fun e w' => e = .returned (.tuple #[]) ∧ OldOk w r s a dp T xv (RX r x) w' := by
  have G := wvar_old w r s a dp T xv h
  have q1 := hx.c1
  have q2 := hx.c2
  have f2 := hx.fz 2
  have HR := Aside0.mk h
  clear h hx
  go_enter Tryz.func98, Tryz.ntmps98
  go_wp2_with fail
  refine G.mono ?_
  rintro e w2 ⟨rfl, rfl⟩
  go_wp2_with fail
  go_end0
  exact ⟨rfl, HR.out.xset hxr, rx_set (Kp.refl _ _) _ _⟩
set_option maxHeartbeats 4000000 in
set_option maxRecDepth 100000 in
theorem wrest_old1 (w : World) (r x : Nat) (s : ByteArray) (a : Nat) (n at_ dp : Int) (T : Nat) (xv : Value) (h : RW w r s a (.iface T xv) dp) (hx : XW w x n 1 0 ByteArray.empty ByteArray.empty) (hxr : x ≠ r) :
    Calls Tryz.prog 98 #[.pointer (some ⟨r, 0, none⟩), .pointer (some ⟨x, 0, none⟩), .int .i64 at_] w fun e w' => e = .returned (.tuple #[]) ∧ OldOk w r s a dp T xv (RX r x) w' := by
  have G := wlittle_old w r s a 8 dp T xv h (by omega)
  rw [show ((8 : Nat) : Int) = 8 from rfl] at G
  have q1 := hx.c1
  have HR := Aside0.mk h
  have HX := Aside0.mk hx
  clear h hx
  go_enter Tryz.func98, Tryz.ntmps98
  go_wp2_with fail
  refine G.mono ?_
  rintro e w2 ⟨rfl, hb⟩
  have hx2 : XW w2 x n 1 0 ByteArray.empty ByteArray.empty := blk_below HX.out hb
  have q2 := hx2.c2
  have f2 := hx2.fz 2
  have HR2 := Aside0.mk (HR.out.below hb)
  have HK2 := Aside0.mk ((Kp.refl (RX r x) w).next hb)
  clear hx2 hb G q1
  go_wp2_with fail
  go_end0
  exact ⟨rfl, HR2.out.xset hxr, rx_set HK2.out _ _⟩
set_option maxHeartbeats 4000000 in
set_option maxRecDepth 100000 in
theorem wrest_old5 (w : World) (r x : Nat) (s : ByteArray) (a : Nat) (n at_ dp : Int) (T : Nat) (xv : Value) (h : RW w r s a (.iface T xv) dp) (hx : XW w x n 5 0 ByteArray.empty ByteArray.empty) (hxr : x ≠ r) :
    Calls Tryz.prog 98 #[.pointer (some ⟨r, 0, none⟩), .pointer (some ⟨x, 0, none⟩), .int .i64 at_] w fun e w' => e = .returned (.tuple #[]) ∧ OldOk w r s a dp T xv (RX r x) w' := by
  have G := wlittle_old w r s a 4 dp T xv h (by omega)
  rw [show ((4 : Nat) : Int) = 4 from rfl] at G
  have q1 := hx.c1
  have HR := Aside0.mk h
  have HX := Aside0.mk hx
  clear h hx
  go_enter Tryz.func98, Tryz.ntmps98
  go_wp2_with fail
  refine G.mono ?_
  rintro e w2 ⟨rfl, hb⟩
  have hx2 : XW w2 x n 5 0 ByteArray.empty ByteArray.empty := blk_below HX.out hb
  have q2 := hx2.c2
  have f2 := hx2.fz 2
  have HR2 := Aside0.mk (HR.out.below hb)
  have HK2 := Aside0.mk ((Kp.refl (RX r x) w).next hb)
  clear hx2 hb G q1
  go_wp2_with fail
  go_end0
  exact ⟨rfl, HR2.out.xset hxr, rx_set HK2.out _ _⟩
set_option maxHeartbeats 4000000 in
set_option maxRecDepth 100000 in
theorem wrest_old2 (w : World) (r x : Nat) (s : ByteArray) (a : Nat) (n at_ dp : Int) (T : Nat) (xv : Value) (h : RW w r s a (.iface T xv) dp) (hx : XW w x n 2 0 ByteArray.empty ByteArray.empty) (hxr : x ≠ r) :
    Calls Tryz.prog 98 #[.pointer (some ⟨r, 0, none⟩), .pointer (some ⟨x, 0, none⟩), .int .i64 at_] w fun e w' => e = .returned (.tuple #[]) ∧ OldOk w r s a dp T xv (RX r x) w' := by
  have G := wvar_old w r s a dp T xv h
  have G2 := wtake_old w r s a dp 0 T xv h
  have q1 := hx.c1
  have HR := Aside0.mk h
  have HX := Aside0.mk hx
  clear h hx
  go_enter Tryz.func98, Tryz.ntmps98
  go_wp2_with fail
  refine G.mono ?_
  rintro e w2 ⟨rfl, rfl⟩
  go_wp2_with fail
  refine G2.mono ?_
  rintro e w2 ⟨rfl, ⟨nd, rfl⟩⟩
  have q2 := HX.out.c3
  have f2 := HX.out.fz 3
  clear G G2
  go_wp2_with fail
  go_end0
  exact ⟨rfl, (HR.out.drewN _).xset hxr, rx_set ((Kp.refl _ _).drewN _) _ _⟩
set_option maxHeartbeats 4000000 in
set_option maxRecDepth 100000 in
theorem wrest_old3 (w : World) (r x : Nat) (s : ByteArray) (a : Nat) (n at_ dp : Int) (T : Nat) (xv : Value) (h : RW w r s a (.iface T xv) dp) (hx : XW w x n 3 0 ByteArray.empty ByteArray.empty) (_hxr : x ≠ r) (hd0 : -9223372036854775808 ≤ dp) (hd1 : dp < 9223372036854775808) :
    Calls Tryz.prog 98 #[.pointer (some ⟨r, 0, none⟩), .pointer (some ⟨x, 0, none⟩), .int .i64 at_] w fun e w' => e = .returned (.tuple #[]) ∧ OldOk w r s a dp T xv (RX r x) w' := by
  have G := wgroup_old w r s a dp n T xv h hd0 hd1
  have q0 := hx.c0
  have q1 := hx.c1
  clear h hx hd0 hd1
  go_enter Tryz.func98, Tryz.ntmps98
  go_wp2_with fail
  refine G.mono ?_
  rintro e w2 ⟨rfl, hr2, hk2⟩
  have HR2 := Aside0.mk hr2
  have HK2 := Aside0.mk hk2
  clear hr2 hk2 G
  go_wp2_with fail
  go_end0
  exact ⟨rfl, HR2.out, rx_of HK2.out⟩
set_option maxHeartbeats 4000000 in
set_option maxRecDepth 100000 in
theorem wrest_oldx (w : World) (r x : Nat) (s : ByteArray) (a : Nat) (n at_ dp : Int) (T : Nat) (xv : Value) (h : RW w r s a (.iface T xv) dp) (t : Int) (t0 : ¬ t = 0) (t1 : ¬ t = 1) (t5 : ¬ t = 5) (t2 : ¬ t = 2) (t3 : ¬ t = 3) (hx : XW w x n t 0 ByteArray.empty ByteArray.empty) :
    Calls Tryz.prog 98 #[.pointer (some ⟨r, 0, none⟩), .pointer (some ⟨x, 0, none⟩), .int .i64 at_] w fun e w' => e = .returned (.tuple #[]) ∧ OldOk w r s a dp T xv (RX r x) w' := by
  have G := wfails_old w r s a dp at_ 3 T xv h
  have q1 := hx.c1
  have HR := Aside0.mk h
  clear h hx
  go_enter Tryz.func98, Tryz.ntmps98
  go_wp2_with fail
  refine G.mono ?_
  rintro e w2 ⟨rfl, rfl⟩
  go_wp2_with fail
  go_end0
  exact ⟨rfl, HR.out, Kp.refl _ _⟩
theorem wrest_old (w : World) (r x : Nat) (s : ByteArray) (a : Nat) (n t at_ dp : Int) (T : Nat) (xv : Value) (h : RW w r s a (.iface T xv) dp) (hx : XW w x n t 0 ByteArray.empty ByteArray.empty) (hxr : x ≠ r) (hd0 : -9223372036854775808 ≤ dp) (hd1 : dp < 9223372036854775808) :
    Calls Tryz.prog 98 #[.pointer (some ⟨r, 0, none⟩), .pointer (some ⟨x, 0, none⟩), .int .i64 at_] w fun e w' => e = .returned (.tuple #[]) ∧ OldOk w r s a dp T xv (RX r x) w' := by
  by_cases t0 : t = 0
  · subst t0; exact wrest_old0 w r x s a n at_ dp T xv h hx hxr
  by_cases t1 : t = 1
  · subst t1; exact wrest_old1 w r x s a n at_ dp T xv h hx hxr
  by_cases t5 : t = 5
  · subst t5; exact wrest_old5 w r x s a n at_ dp T xv h hx hxr
  by_cases t2 : t = 2
  · subst t2; exact wrest_old2 w r x s a n at_ dp T xv h hx hxr
  by_cases t3 : t = 3
  · subst t3; exact wrest_old3 w r x s a n at_ dp T xv h hx hxr hd0 hd1
  exact wrest_oldx w r x s a n at_ dp T xv h t t0 t1 t5 t2 t3 hx
end Go.Proofs.YtnghlkbmfhkmoaaGreatDoor
