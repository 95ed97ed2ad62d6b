import Derived.Test.YtklkiofhenhafaaDoorMppfimgqo
import Derived.Test.YtklkiofhenhafaaDoorMdvbinnox
import Derived.Test.YtklkiofhenhafaaDoorMjorrvulm
namespace Go.Proofs.YtklkiofhenhafaaDoor
open Go.RowKit Go.Proofs.YtklkiofhenhafaaDoorW.PrintWords Go.Proofs.YtklkiofhenhafaaDoorW.PrintLast Go.Proofs.YtklkiofhenhafaaDoorW.PrintMore Hy

set_option maxHeartbeats 1000000 in
set_option maxRecDepth 100000 in
theorem rnext_bad0 (w : World) (s : ByteArray) (a v _k m p : Nat) (dp : Int) (hm : v / 8 = m) (hv : v < 18446744073709551616) (hm1 : 1 ≤ m) (hm2 : m < 536870912) (_hs : s.size ≤ 100000) (hap : a ≤ p) (hps : p ≤ s.size)
    (G : ∀ w, Calls Tryd.prog 30 #[.string s, .int .i64 (a : Int)] w fun e w' => e = .returned (.tuple #[.int .u64 (v : Int), .int .i64 (p : Int), .int .i64 0]) ∧ Drawn0 w w') (c : Int) (hc : ¬ c = 0) (ht : v % 8 = 0)
    (G2 : ∀ w, Calls Tryd.prog 30 #[.string s, .int .i64 (p : Int)] w fun e w' => e = .returned (.tuple #[.int .u64 0, .int .i64 0, .int .i64 c]) ∧ Drawn0 w w') :
    Calls Tryd.prog 8 #[.string s, .int .i64 (a : Int), .int .i64 dp] w (NoR w) := by
  have e3 : (v : Int) / 8 = (m : Int) := by omega
  have e7 : Go.bits .and .u64 (v : Int) 7 = 0 := by rw [and7 v hv, ht]; rfl
  have HD3 := Aside0.mk (show decide (536870912 ≤ (m : Int)) = false from decide_eq_false (by omega))
  have HD4 := Aside0.mk (show decide ((m : Int) < 1) = false from decide_eq_false (by omega))
  have hnb : (m : Int) ≤ 536870911 := by omega
  have HPS := Aside0.mk hps
  have HAP := Aside0.mk hap
  clear hm ht hv hm1 hm2 hps hap
  have hz1 : XR (w.alloc (.cells #[.int .i64 0, .int .i64 0, .int .u64 0, .string ⟨#[]⟩, .string ⟨#[]⟩] 30)) w.heap.size 0 0 0 ByteArray.empty ByteArray.empty := heap_alloc_new w _
  have HB1 := Aside0.mk ((Below.refl w.heap.size w).alloc (Nat.le_refl _) (.cells #[.int .i64 0, .int .i64 0, .int .u64 0, .string ⟨#[]⟩, .string ⟨#[]⟩] 30))
  have HZ1 := Aside0.mk hz1
  clear hz1
  go_enter Tryd.func8, Tryd.ntmps8
  go_wp2_with fail
  generalize w.alloc (.cells #[.int .i64 0, .int .i64 0, .int .u64 0, .string ⟨#[]⟩, .string ⟨#[]⟩] 30) = W1 at *
  generalize hg : w.heap.size = g at *
  refine (G _).mono ?_
  rintro e wd ⟨rfl, ⟨nd, rfl⟩⟩
  have hz2 : XR (W1.drewN nd) g 0 0 0 ByteArray.empty ByteArray.empty := HZ1.out
  have HB2 : Aside0 (Below g w (W1.drewN nd)) := ⟨by apply pw_below_drewN; exact HB1.out⟩
  have HZ2 := Aside0.mk hz2
  generalize W1.drewN nd = W2 at *
  clear hz2 G HB1 HZ1
  have d3 := HD3.out
  have d4 := HD4.out
  go_upto_region 4 with (fail)
  clear d3 d4 HD3 HD4
  go_upto_region 5 with (first
    | ((with_reducible refine gate_dst (N := 12) rfl ?_); refine box_event ?hg (N := 12) ?hd (cs := #[.int .i64 0, .int .i64 0, .int .u64 0, .string ⟨#[]⟩, .string ⟨#[]⟩]) (t := 30) ?hr ?_; (case hd => rfl); (case hg => rfl); (case hr => first | (go_simp; done) | (go_simp; rfl)); intro x hx w4 hx4 hb4
       have hx4 : XR w4 x 0 0 0 ByteArray.empty ByteArray.empty := hx4
       have hgx : g < x := by have := blk_lt HZ2.out; omega
       clear hx
       have hz4 : XR w4 g 0 0 0 ByteArray.empty ByteArray.empty := blk_below HZ2.out hb4
       have HB4 := Aside0.mk (HB2.out.trans (hb4.mono (by have := HB2.out.size; omega)))
       have z0 := hx4.c0
       have z1 := hx4.c1
       have z2 := hx4.c2
       have z3 := hx4.c3
       have z4 := hx4.c4
       have zf := fun i => hx4.fz i
       have k5 := kp_all w4 x (.int .i64 (m : Int)) (.int .i64 0) (.int .u64 0) (.string ⟨#[]⟩) (.string ⟨#[]⟩)
       have hx5 := hx4.all (m : Int) 0 0 ⟨#[]⟩ ⟨#[]⟩
       have HZ5 := Aside0.mk (hz4.kp k5 (fun e => by omega))
       have HB5 := Aside0.mk (HB4.out.trans (k5.toBelow (by have := HB4.out.size; omega) (fun k e => by omega)))
       have HX5 := Aside0.mk hx5
       clear hx4 hz4 k5 hb4 hx5))
  clear z0 z1 z2 z3 z4 zf hx4 e3 e7 hnb
  generalize ((((w4.setCell ⟨x, 0, none⟩ (.int .i64 (m : Int))).setCell ⟨x, 1, none⟩ (.int .i64 0)).setCell ⟨x, 2, none⟩ (.int .u64 0)).setCell ⟨x, 3, none⟩ (.string ⟨#[]⟩)).setCell ⟨x, 4, none⟩ (.string ⟨#[]⟩) = w5 at *
  have q1 := HX5.out.c1
  have q0 := HX5.out.c0
  clear HB2 HZ2 HB4
  go_wp2_with fail
  refine (G2 _).mono ?_
  rintro e wd2 ⟨rfl, ⟨nd2, rfl⟩⟩
  have HX6 : Aside0 (XR (w5.drewN nd2) x (m : Int) 0 0 ByteArray.empty ByteArray.empty) := ⟨HX5.out⟩
  have HZ6 : Aside0 (XR (w5.drewN nd2) g 0 0 0 ByteArray.empty ByteArray.empty) := ⟨HZ5.out⟩
  have HB6 : Aside0 (Below g w (w5.drewN nd2)) := ⟨by apply pw_below_drewN; exact HB5.out⟩
  generalize w5.drewN nd2 = w6 at *
  clear G2 HX5 HZ5 HB5 q0 q1
  have hx6 := HX6.out
  have q2 := hx6.c2
  have f2 := hx6.fz 2
  have hk7 : Kp (fun k => k = x) w6 (w6.setCell ⟨x, 2, none⟩ (.int .u64 0)) := (Kp.refl (fun k => k = x) w6).set (p := ⟨x, 2, none⟩) rfl _
  have HZ7 := Aside0.mk (HZ6.out.kp hk7 (fun e => by omega))
  have HB7 := Aside0.mk (HB6.out.trans (hk7.toBelow (by have := HB6.out.size; omega) (fun k e => by omega)))
  clear hx6 hk7
  have hz7 := HZ7.out
  have z0 := hz7.c0
  have z1 := hz7.c1
  have z2 := hz7.c2
  have z3 := hz7.c3
  have z4 := hz7.c4
  have zf := fun i => hz7.fz i
  have k9 := kp_all (w6.setCell ⟨x, 2, none⟩ (.int .u64 0)) g (.int .i64 0) (.int .i64 0) (.int .u64 0) (.string ByteArray.empty) (.string ByteArray.empty)
  have HB9 := Aside0.mk (HB7.out.trans (k9.toBelow (by have := HB7.out.size; omega) (fun k e => by omega)))
  clear hz7 k9
  go_wp2_with fail
  refine bodyPost_ret (results_cell_two rfl _ _ g 30 #[.int .i64 0, .int .i64 0, .int .u64 0, .string ByteArray.empty, .string ByteArray.empty] (0, 0) rfl (HZ7.out.all 0 0 0 ByteArray.empty ByteArray.empty) Tryd.underlying30 (by kernel_rfl)) rfl ?_
  exact ⟨rfl, by rw [hg]; exact HB9.out⟩
set_option maxHeartbeats 1000000 in
set_option maxRecDepth 100000 in
theorem rnext_bad1 (w : World) (s : ByteArray) (a v _k m p : Nat) (dp : Int) (hm : v / 8 = m) (hv : v < 18446744073709551616) (hm1 : 1 ≤ m) (hm2 : m < 536870912) (hs : s.size ≤ 100000) (hap : a ≤ p) (hps : p ≤ s.size)
    (G : ∀ w, Calls Tryd.prog 30 #[.string s, .int .i64 (a : Int)] w fun e w' => e = .returned (.tuple #[.int .u64 (v : Int), .int .i64 (p : Int), .int .i64 0]) ∧ Drawn0 w w') (ht : v % 8 = 1) (hp2 : s.size - p < 8) :
    Calls Tryd.prog 8 #[.string s, .int .i64 (a : Int), .int .i64 dp] w (NoR w) := by
  have e3 : (v : Int) / 8 = (m : Int) := by omega
  have e7 : Go.bits .and .u64 (v : Int) 7 = 1 := by rw [and7 v hv, ht]; rfl
  have HD3 := Aside0.mk (show decide (536870912 ≤ (m : Int)) = false from decide_eq_false (by omega))
  have HD4 := Aside0.mk (show decide ((m : Int) < 1) = false from decide_eq_false (by omega))
  have hnb : (m : Int) ≤ 536870911 := by omega
  have HPS := Aside0.mk hps
  have HAP := Aside0.mk hap
  have HP2 := Aside0.mk hp2
  clear hp2
  clear hm ht hv hm1 hm2 hps hap
  have hz1 : XR (w.alloc (.cells #[.int .i64 0, .int .i64 0, .int .u64 0, .string ⟨#[]⟩, .string ⟨#[]⟩] 30)) w.heap.size 0 0 0 ByteArray.empty ByteArray.empty := heap_alloc_new w _
  have HB1 := Aside0.mk ((Below.refl w.heap.size w).alloc (Nat.le_refl _) (.cells #[.int .i64 0, .int .i64 0, .int .u64 0, .string ⟨#[]⟩, .string ⟨#[]⟩] 30))
  have HZ1 := Aside0.mk hz1
  clear hz1
  go_enter Tryd.func8, Tryd.ntmps8
  go_wp2_with fail
  generalize w.alloc (.cells #[.int .i64 0, .int .i64 0, .int .u64 0, .string ⟨#[]⟩, .string ⟨#[]⟩] 30) = W1 at *
  generalize hg : w.heap.size = g at *
  refine (G _).mono ?_
  rintro e wd ⟨rfl, ⟨nd, rfl⟩⟩
  have hz2 : XR (W1.drewN nd) g 0 0 0 ByteArray.empty ByteArray.empty := HZ1.out
  have HB2 : Aside0 (Below g w (W1.drewN nd)) := ⟨by apply pw_below_drewN; exact HB1.out⟩
  have HZ2 := Aside0.mk hz2
  generalize W1.drewN nd = W2 at *
  clear hz2 G HB1 HZ1
  have d3 := HD3.out
  have d4 := HD4.out
  go_upto_region 4 with (fail)
  clear d3 d4 HD3 HD4
  go_upto_region 5 with (first
    | ((with_reducible refine gate_dst (N := 12) rfl ?_); refine box_event ?hg (N := 12) ?hd (cs := #[.int .i64 0, .int .i64 0, .int .u64 0, .string ⟨#[]⟩, .string ⟨#[]⟩]) (t := 30) ?hr ?_; (case hd => rfl); (case hg => rfl); (case hr => first | (go_simp; done) | (go_simp; rfl)); intro x hx w4 hx4 hb4
       have hx4 : XR w4 x 0 0 0 ByteArray.empty ByteArray.empty := hx4
       have hgx : g < x := by have := blk_lt HZ2.out; omega
       clear hx
       have hz4 : XR w4 g 0 0 0 ByteArray.empty ByteArray.empty := blk_below HZ2.out hb4
       have HB4 := Aside0.mk (HB2.out.trans (hb4.mono (by have := HB2.out.size; omega)))
       have z0 := hx4.c0
       have z1 := hx4.c1
       have z2 := hx4.c2
       have z3 := hx4.c3
       have z4 := hx4.c4
       have zf := fun i => hx4.fz i
       have k5 := kp_all w4 x (.int .i64 (m : Int)) (.int .i64 1) (.int .u64 0) (.string ⟨#[]⟩) (.string ⟨#[]⟩)
       have hx5 := hx4.all (m : Int) 1 0 ⟨#[]⟩ ⟨#[]⟩
       have HZ5 := Aside0.mk (hz4.kp k5 (fun e => by omega))
       have HB5 := Aside0.mk (HB4.out.trans (k5.toBelow (by have := HB4.out.size; omega) (fun k e => by omega)))
       have HX5 := Aside0.mk hx5
       clear hx4 hz4 k5 hb4 hx5))
  clear z0 z1 z2 z3 z4 zf hx4 e3 e7 hnb
  generalize ((((w4.setCell ⟨x, 0, none⟩ (.int .i64 (m : Int))).setCell ⟨x, 1, none⟩ (.int .i64 1)).setCell ⟨x, 2, none⟩ (.int .u64 0)).setCell ⟨x, 3, none⟩ (.string ⟨#[]⟩)).setCell ⟨x, 4, none⟩ (.string ⟨#[]⟩) = w5 at *
  have q1 := HX5.out.c1
  have q0 := HX5.out.c0
  clear HB2 HZ2 HB4
  have b0 : (s.size : Int) - (p : Int) < 8 := by have := HP2.out; have := HPS.out; omega
  have b8 : (0 : Int) ≤ (s.size : Int) - (p : Int) := by have := HPS.out; omega
  have hz7 := HZ5.out
  have z0 := hz7.c0
  have z1 := hz7.c1
  have z2 := hz7.c2
  have z3 := hz7.c3
  have z4 := hz7.c4
  have zf := fun i => hz7.fz i
  have k9 := kp_all w5 g (.int .i64 0) (.int .i64 0) (.int .u64 0) (.string ByteArray.empty) (.string ByteArray.empty)
  have HB9 := Aside0.mk (HB5.out.trans (k9.toBelow (by have := HB5.out.size; omega) (fun k e => by omega)))
  clear hz7 k9
  go_wp2_with fail
  refine bodyPost_ret (results_cell_two rfl _ _ g 30 #[.int .i64 0, .int .i64 0, .int .u64 0, .string ByteArray.empty, .string ByteArray.empty] (0, 0) rfl (HZ5.out.all 0 0 0 ByteArray.empty ByteArray.empty) Tryd.underlying30 (by kernel_rfl)) rfl ?_
  exact ⟨rfl, by rw [hg]; exact HB9.out⟩
set_option maxHeartbeats 1000000 in
set_option maxRecDepth 100000 in
theorem rnext_bad5 (w : World) (s : ByteArray) (a v _k m p : Nat) (dp : Int) (hm : v / 8 = m) (hv : v < 18446744073709551616) (hm1 : 1 ≤ m) (hm2 : m < 536870912) (hs : s.size ≤ 100000) (hap : a ≤ p) (hps : p ≤ s.size)
    (G : ∀ w, Calls Tryd.prog 30 #[.string s, .int .i64 (a : Int)] w fun e w' => e = .returned (.tuple #[.int .u64 (v : Int), .int .i64 (p : Int), .int .i64 0]) ∧ Drawn0 w w') (ht : v % 8 = 5) (hp2 : s.size - p < 4) :
    Calls Tryd.prog 8 #[.string s, .int .i64 (a : Int), .int .i64 dp] w (NoR w) := by
  have e3 : (v : Int) / 8 = (m : Int) := by omega
  have e7 : Go.bits .and .u64 (v : Int) 7 = 5 := by rw [and7 v hv, ht]; rfl
  have HD3 := Aside0.mk (show decide (536870912 ≤ (m : Int)) = false from decide_eq_false (by omega))
  have HD4 := Aside0.mk (show decide ((m : Int) < 1) = false from decide_eq_false (by omega))
  have hnb : (m : Int) ≤ 536870911 := by omega
  have HPS := Aside0.mk hps
  have HAP := Aside0.mk hap
  have HP2 := Aside0.mk hp2
  clear hp2
  clear hm ht hv hm1 hm2 hps hap
  have hz1 : XR (w.alloc (.cells #[.int .i64 0, .int .i64 0, .int .u64 0, .string ⟨#[]⟩, .string ⟨#[]⟩] 30)) w.heap.size 0 0 0 ByteArray.empty ByteArray.empty := heap_alloc_new w _
  have HB1 := Aside0.mk ((Below.refl w.heap.size w).alloc (Nat.le_refl _) (.cells #[.int .i64 0, .int .i64 0, .int .u64 0, .string ⟨#[]⟩, .string ⟨#[]⟩] 30))
  have HZ1 := Aside0.mk hz1
  clear hz1
  go_enter Tryd.func8, Tryd.ntmps8
  go_wp2_with fail
  generalize w.alloc (.cells #[.int .i64 0, .int .i64 0, .int .u64 0, .string ⟨#[]⟩, .string ⟨#[]⟩] 30) = W1 at *
  generalize hg : w.heap.size = g at *
  refine (G _).mono ?_
  rintro e wd ⟨rfl, ⟨nd, rfl⟩⟩
  have hz2 : XR (W1.drewN nd) g 0 0 0 ByteArray.empty ByteArray.empty := HZ1.out
  have HB2 : Aside0 (Below g w (W1.drewN nd)) := ⟨by apply pw_below_drewN; exact HB1.out⟩
  have HZ2 := Aside0.mk hz2
  generalize W1.drewN nd = W2 at *
  clear hz2 G HB1 HZ1
  have d3 := HD3.out
  have d4 := HD4.out
  go_upto_region 4 with (fail)
  clear d3 d4 HD3 HD4
  go_upto_region 5 with (first
    | ((with_reducible refine gate_dst (N := 12) rfl ?_); refine box_event ?hg (N := 12) ?hd (cs := #[.int .i64 0, .int .i64 0, .int .u64 0, .string ⟨#[]⟩, .string ⟨#[]⟩]) (t := 30) ?hr ?_; (case hd => rfl); (case hg => rfl); (case hr => first | (go_simp; done) | (go_simp; rfl)); intro x hx w4 hx4 hb4
       have hx4 : XR w4 x 0 0 0 ByteArray.empty ByteArray.empty := hx4
       have hgx : g < x := by have := blk_lt HZ2.out; omega
       clear hx
       have hz4 : XR w4 g 0 0 0 ByteArray.empty ByteArray.empty := blk_below HZ2.out hb4
       have HB4 := Aside0.mk (HB2.out.trans (hb4.mono (by have := HB2.out.size; omega)))
       have z0 := hx4.c0
       have z1 := hx4.c1
       have z2 := hx4.c2
       have z3 := hx4.c3
       have z4 := hx4.c4
       have zf := fun i => hx4.fz i
       have k5 := kp_all w4 x (.int .i64 (m : Int)) (.int .i64 5) (.int .u64 0) (.string ⟨#[]⟩) (.string ⟨#[]⟩)
       have hx5 := hx4.all (m : Int) 5 0 ⟨#[]⟩ ⟨#[]⟩
       have HZ5 := Aside0.mk (hz4.kp k5 (fun e => by omega))
       have HB5 := Aside0.mk (HB4.out.trans (k5.toBelow (by have := HB4.out.size; omega) (fun k e => by omega)))
       have HX5 := Aside0.mk hx5
       clear hx4 hz4 k5 hb4 hx5))
  clear z0 z1 z2 z3 z4 zf hx4 e3 e7 hnb
  generalize ((((w4.setCell ⟨x, 0, none⟩ (.int .i64 (m : Int))).setCell ⟨x, 1, none⟩ (.int .i64 5)).setCell ⟨x, 2, none⟩ (.int .u64 0)).setCell ⟨x, 3, none⟩ (.string ⟨#[]⟩)).setCell ⟨x, 4, none⟩ (.string ⟨#[]⟩) = w5 at *
  have q1 := HX5.out.c1
  have q0 := HX5.out.c0
  clear HB2 HZ2 HB4
  have b0 : (s.size : Int) - (p : Int) < 4 := by have := HP2.out; have := HPS.out; omega
  have b8 : (0 : Int) ≤ (s.size : Int) - (p : Int) := by have := HPS.out; omega
  have hz7 := HZ5.out
  have z0 := hz7.c0
  have z1 := hz7.c1
  have z2 := hz7.c2
  have z3 := hz7.c3
  have z4 := hz7.c4
  have zf := fun i => hz7.fz i
  have k9 := kp_all w5 g (.int .i64 0) (.int .i64 0) (.int .u64 0) (.string ByteArray.empty) (.string ByteArray.empty)
  have HB9 := Aside0.mk (HB5.out.trans (k9.toBelow (by have := HB5.out.size; omega) (fun k e => by omega)))
  clear hz7 k9
  go_wp2_with fail
  refine bodyPost_ret (results_cell_two rfl _ _ g 30 #[.int .i64 0, .int .i64 0, .int .u64 0, .string ByteArray.empty, .string ByteArray.empty] (0, 0) rfl (HZ5.out.all 0 0 0 ByteArray.empty ByteArray.empty) Tryd.underlying30 (by kernel_rfl)) rfl ?_
  exact ⟨rfl, by rw [hg]; exact HB9.out⟩
set_option maxHeartbeats 1000000 in
set_option maxRecDepth 100000 in
theorem rnext_bad2 (w : World) (s : ByteArray) (a v _k m p : Nat) (dp : Int) (hm : v / 8 = m) (hv : v < 18446744073709551616) (hm1 : 1 ≤ m) (hm2 : m < 536870912) (_hs : s.size ≤ 100000) (hap : a ≤ p) (hps : p ≤ s.size)
    (G : ∀ w, Calls Tryd.prog 30 #[.string s, .int .i64 (a : Int)] w fun e w' => e = .returned (.tuple #[.int .u64 (v : Int), .int .i64 (p : Int), .int .i64 0]) ∧ Drawn0 w w') (c : Int) (hc : ¬ c = 0) (ht : v % 8 = 2)
    (G2 : ∀ w, Calls Tryd.prog 30 #[.string s, .int .i64 (p : Int)] w fun e w' => e = .returned (.tuple #[.int .u64 0, .int .i64 0, .int .i64 c]) ∧ Drawn0 w w') :
    Calls Tryd.prog 8 #[.string s, .int .i64 (a : Int), .int .i64 dp] w (NoR w) := by
  have e3 : (v : Int) / 8 = (m : Int) := by omega
  have e7 : Go.bits .and .u64 (v : Int) 7 = 2 := by rw [and7 v hv, ht]; rfl
  have HD3 := Aside0.mk (show decide (536870912 ≤ (m : Int)) = false from decide_eq_false (by omega))
  have HD4 := Aside0.mk (show decide ((m : Int) < 1) = false from decide_eq_false (by omega))
  have hnb : (m : Int) ≤ 536870911 := by omega
  have HPS := Aside0.mk hps
  have HAP := Aside0.mk hap
  clear hm ht hv hm1 hm2 hps hap
  have hz1 : XR (w.alloc (.cells #[.int .i64 0, .int .i64 0, .int .u64 0, .string ⟨#[]⟩, .string ⟨#[]⟩] 30)) w.heap.size 0 0 0 ByteArray.empty ByteArray.empty := heap_alloc_new w _
  have HB1 := Aside0.mk ((Below.refl w.heap.size w).alloc (Nat.le_refl _) (.cells #[.int .i64 0, .int .i64 0, .int .u64 0, .string ⟨#[]⟩, .string ⟨#[]⟩] 30))
  have HZ1 := Aside0.mk hz1
  clear hz1
  go_enter Tryd.func8, Tryd.ntmps8
  go_wp2_with fail
  generalize w.alloc (.cells #[.int .i64 0, .int .i64 0, .int .u64 0, .string ⟨#[]⟩, .string ⟨#[]⟩] 30) = W1 at *
  generalize hg : w.heap.size = g at *
  refine (G _).mono ?_
  rintro e wd ⟨rfl, ⟨nd, rfl⟩⟩
  have hz2 : XR (W1.drewN nd) g 0 0 0 ByteArray.empty ByteArray.empty := HZ1.out
  have HB2 : Aside0 (Below g w (W1.drewN nd)) := ⟨by apply pw_below_drewN; exact HB1.out⟩
  have HZ2 := Aside0.mk hz2
  generalize W1.drewN nd = W2 at *
  clear hz2 G HB1 HZ1
  have d3 := HD3.out
  have d4 := HD4.out
  go_upto_region 4 with (fail)
  clear d3 d4 HD3 HD4
  go_upto_region 5 with (first
    | ((with_reducible refine gate_dst (N := 12) rfl ?_); refine box_event ?hg (N := 12) ?hd (cs := #[.int .i64 0, .int .i64 0, .int .u64 0, .string ⟨#[]⟩, .string ⟨#[]⟩]) (t := 30) ?hr ?_; (case hd => rfl); (case hg => rfl); (case hr => first | (go_simp; done) | (go_simp; rfl)); intro x hx w4 hx4 hb4
       have hx4 : XR w4 x 0 0 0 ByteArray.empty ByteArray.empty := hx4
       have hgx : g < x := by have := blk_lt HZ2.out; omega
       clear hx
       have hz4 : XR w4 g 0 0 0 ByteArray.empty ByteArray.empty := blk_below HZ2.out hb4
       have HB4 := Aside0.mk (HB2.out.trans (hb4.mono (by have := HB2.out.size; omega)))
       have z0 := hx4.c0
       have z1 := hx4.c1
       have z2 := hx4.c2
       have z3 := hx4.c3
       have z4 := hx4.c4
       have zf := fun i => hx4.fz i
       have k5 := kp_all w4 x (.int .i64 (m : Int)) (.int .i64 2) (.int .u64 0) (.string ⟨#[]⟩) (.string ⟨#[]⟩)
       have hx5 := hx4.all (m : Int) 2 0 ⟨#[]⟩ ⟨#[]⟩
       have HZ5 := Aside0.mk (hz4.kp k5 (fun e => by omega))
       have HB5 := Aside0.mk (HB4.out.trans (k5.toBelow (by have := HB4.out.size; omega) (fun k e => by omega)))
       have HX5 := Aside0.mk hx5
       clear hx4 hz4 k5 hb4 hx5))
  clear z0 z1 z2 z3 z4 zf hx4 e3 e7 hnb
  generalize ((((w4.setCell ⟨x, 0, none⟩ (.int .i64 (m : Int))).setCell ⟨x, 1, none⟩ (.int .i64 2)).setCell ⟨x, 2, none⟩ (.int .u64 0)).setCell ⟨x, 3, none⟩ (.string ⟨#[]⟩)).setCell ⟨x, 4, none⟩ (.string ⟨#[]⟩) = w5 at *
  have q1 := HX5.out.c1
  have q0 := HX5.out.c0
  clear HB2 HZ2 HB4
  go_wp2_with fail
  refine (G2 _).mono ?_
  rintro e wd2 ⟨rfl, ⟨nd2, rfl⟩⟩
  have HX6 : Aside0 (XR (w5.drewN nd2) x (m : Int) 2 0 ByteArray.empty ByteArray.empty) := ⟨HX5.out⟩
  have HZ6 : Aside0 (XR (w5.drewN nd2) g 0 0 0 ByteArray.empty ByteArray.empty) := ⟨HZ5.out⟩
  have HB6 : Aside0 (Below g w (w5.drewN nd2)) := ⟨by apply pw_below_drewN; exact HB5.out⟩
  generalize w5.drewN nd2 = w6 at *
  clear G2 HX5 HZ5 HB5 q0 q1
  have d5 : decide (c = 0) = false := decide_eq_false hc
  have hz7 := HZ6.out
  have z0 := hz7.c0
  have z1 := hz7.c1
  have z2 := hz7.c2
  have z3 := hz7.c3
  have z4 := hz7.c4
  have zf := fun i => hz7.fz i
  have k9 := kp_all w6 g (.int .i64 0) (.int .i64 0) (.int .u64 0) (.string ByteArray.empty) (.string ByteArray.empty)
  have HB9 := Aside0.mk (HB6.out.trans (k9.toBelow (by have := HB6.out.size; omega) (fun k e => by omega)))
  clear hz7 k9
  go_wp2_with fail
  refine bodyPost_ret (results_cell_two rfl _ _ g 30 #[.int .i64 0, .int .i64 0, .int .u64 0, .string ByteArray.empty, .string ByteArray.empty] (0, 0) rfl (HZ6.out.all 0 0 0 ByteArray.empty ByteArray.empty) Tryd.underlying30 (by kernel_rfl)) rfl ?_
  exact ⟨rfl, by rw [hg]; exact HB9.out⟩
set_option maxHeartbeats 1000000 in
set_option maxRecDepth 100000 in
theorem rnext_bad2t (w : World) (s : ByteArray) (a v _k m p n q : Nat) (dp : Int) (hm : v / 8 = m) (hv : v < 18446744073709551616) (hm1 : 1 ≤ m) (hm2 : m < 536870912) (hs : s.size ≤ 100000) (hap : a ≤ p) (hps : p ≤ s.size)
    (G : ∀ w, Calls Tryd.prog 30 #[.string s, .int .i64 (a : Int)] w fun e w' => e = .returned (.tuple #[.int .u64 (v : Int), .int .i64 (p : Int), .int .i64 0]) ∧ Drawn0 w w') (ht : v % 8 = 2) (hq : q ≤ s.size) (_hn : n < 18446744073709551616) (hqp : s.size - q < n)
    (G2 : ∀ w, Calls Tryd.prog 30 #[.string s, .int .i64 (p : Int)] w fun e w' => e = .returned (.tuple #[.int .u64 (n : Int), .int .i64 (q : Int), .int .i64 0]) ∧ Drawn0 w w') :
    Calls Tryd.prog 8 #[.string s, .int .i64 (a : Int), .int .i64 dp] w (NoR w) := by
  have e3 : (v : Int) / 8 = (m : Int) := by omega
  have e7 : Go.bits .and .u64 (v : Int) 7 = 2 := by rw [and7 v hv, ht]; rfl
  have HD3 := Aside0.mk (show decide (536870912 ≤ (m : Int)) = false from decide_eq_false (by omega))
  have HD4 := Aside0.mk (show decide ((m : Int) < 1) = false from decide_eq_false (by omega))
  have hnb : (m : Int) ≤ 536870911 := by omega
  have HPS := Aside0.mk hps
  have HAP := Aside0.mk hap
  have HP2 := Aside0.mk (show q ≤ s.size ∧ s.size - q < n from ⟨hq, hqp⟩)
  clear hq hqp _hn
  clear hm ht hv hm1 hm2 hps hap
  have hz1 : XR (w.alloc (.cells #[.int .i64 0, .int .i64 0, .int .u64 0, .string ⟨#[]⟩, .string ⟨#[]⟩] 30)) w.heap.size 0 0 0 ByteArray.empty ByteArray.empty := heap_alloc_new w _
  have HB1 := Aside0.mk ((Below.refl w.heap.size w).alloc (Nat.le_refl _) (.cells #[.int .i64 0, .int .i64 0, .int .u64 0, .string ⟨#[]⟩, .string ⟨#[]⟩] 30))
  have HZ1 := Aside0.mk hz1
  clear hz1
  go_enter Tryd.func8, Tryd.ntmps8
  go_wp2_with fail
  generalize w.alloc (.cells #[.int .i64 0, .int .i64 0, .int .u64 0, .string ⟨#[]⟩, .string ⟨#[]⟩] 30) = W1 at *
  generalize hg : w.heap.size = g at *
  refine (G _).mono ?_
  rintro e wd ⟨rfl, ⟨nd, rfl⟩⟩
  have hz2 : XR (W1.drewN nd) g 0 0 0 ByteArray.empty ByteArray.empty := HZ1.out
  have HB2 : Aside0 (Below g w (W1.drewN nd)) := ⟨by apply pw_below_drewN; exact HB1.out⟩
  have HZ2 := Aside0.mk hz2
  generalize W1.drewN nd = W2 at *
  clear hz2 G HB1 HZ1
  have d3 := HD3.out
  have d4 := HD4.out
  go_upto_region 4 with (fail)
  clear d3 d4 HD3 HD4
  go_upto_region 5 with (first
    | ((with_reducible refine gate_dst (N := 12) rfl ?_); refine box_event ?hg (N := 12) ?hd (cs := #[.int .i64 0, .int .i64 0, .int .u64 0, .string ⟨#[]⟩, .string ⟨#[]⟩]) (t := 30) ?hr ?_; (case hd => rfl); (case hg => rfl); (case hr => first | (go_simp; done) | (go_simp; rfl)); intro x hx w4 hx4 hb4
       have hx4 : XR w4 x 0 0 0 ByteArray.empty ByteArray.empty := hx4
       have hgx : g < x := by have := blk_lt HZ2.out; omega
       clear hx
       have hz4 : XR w4 g 0 0 0 ByteArray.empty ByteArray.empty := blk_below HZ2.out hb4
       have HB4 := Aside0.mk (HB2.out.trans (hb4.mono (by have := HB2.out.size; omega)))
       have z0 := hx4.c0
       have z1 := hx4.c1
       have z2 := hx4.c2
       have z3 := hx4.c3
       have z4 := hx4.c4
       have zf := fun i => hx4.fz i
       have k5 := kp_all w4 x (.int .i64 (m : Int)) (.int .i64 2) (.int .u64 0) (.string ⟨#[]⟩) (.string ⟨#[]⟩)
       have hx5 := hx4.all (m : Int) 2 0 ⟨#[]⟩ ⟨#[]⟩
       have HZ5 := Aside0.mk (hz4.kp k5 (fun e => by omega))
       have HB5 := Aside0.mk (HB4.out.trans (k5.toBelow (by have := HB4.out.size; omega) (fun k e => by omega)))
       have HX5 := Aside0.mk hx5
       clear hx4 hz4 k5 hb4 hx5))
  clear z0 z1 z2 z3 z4 zf hx4 e3 e7 hnb
  generalize ((((w4.setCell ⟨x, 0, none⟩ (.int .i64 (m : Int))).setCell ⟨x, 1, none⟩ (.int .i64 2)).setCell ⟨x, 2, none⟩ (.int .u64 0)).setCell ⟨x, 3, none⟩ (.string ⟨#[]⟩)).setCell ⟨x, 4, none⟩ (.string ⟨#[]⟩) = w5 at *
  have q1 := HX5.out.c1
  have q0 := HX5.out.c0
  clear HB2 HZ2 HB4
  go_wp2_with fail
  refine (G2 _).mono ?_
  rintro e wd2 ⟨rfl, ⟨nd2, rfl⟩⟩
  have HX6 : Aside0 (XR (w5.drewN nd2) x (m : Int) 2 0 ByteArray.empty ByteArray.empty) := ⟨HX5.out⟩
  have HZ6 : Aside0 (XR (w5.drewN nd2) g 0 0 0 ByteArray.empty ByteArray.empty) := ⟨HZ5.out⟩
  have HB6 : Aside0 (Below g w (w5.drewN nd2)) := ⟨by apply pw_below_drewN; exact HB5.out⟩
  generalize w5.drewN nd2 = w6 at *
  clear G2 HX5 HZ5 HB5 q0 q1
  have b0 : (s.size : Int) - (q : Int) < (n : Int) := by have := HP2.out; omega
  have b8 : (0 : Int) ≤ (s.size : Int) - (q : Int) := by have := HP2.out; omega
  have hz7 := HZ6.out
  have z0 := hz7.c0
  have z1 := hz7.c1
  have z2 := hz7.c2
  have z3 := hz7.c3
  have z4 := hz7.c4
  have zf := fun i => hz7.fz i
  have k9 := kp_all w6 g (.int .i64 0) (.int .i64 0) (.int .u64 0) (.string ByteArray.empty) (.string ByteArray.empty)
  have HB9 := Aside0.mk (HB6.out.trans (k9.toBelow (by have := HB6.out.size; omega) (fun k e => by omega)))
  clear hz7 k9
  go_wp2_with fail
  refine bodyPost_ret (results_cell_two rfl _ _ g 30 #[.int .i64 0, .int .i64 0, .int .u64 0, .string ByteArray.empty, .string ByteArray.empty] (0, 0) rfl (HZ6.out.all 0 0 0 ByteArray.empty ByteArray.empty) Tryd.underlying30 (by kernel_rfl)) rfl ?_
  exact ⟨rfl, by rw [hg]; exact HB9.out⟩
set_option maxHeartbeats 1000000 in
set_option maxRecDepth 100000 in
theorem rnext_bad3 (w : World) (s : ByteArray) (a v _k m p : Nat) (dp : Int) (hm : v / 8 = m) (hv : v < 18446744073709551616) (hm1 : 1 ≤ m) (hm2 : m < 536870912) (_hs : s.size ≤ 100000) (hap : a ≤ p) (hps : p ≤ s.size)
    (G : ∀ w, Calls Tryd.prog 30 #[.string s, .int .i64 (a : Int)] w fun e w' => e = .returned (.tuple #[.int .u64 (v : Int), .int .i64 (p : Int), .int .i64 0]) ∧ Drawn0 w w') (ht : v % 8 = 3)
    (G2 : ∀ w, Calls Tryd.prog 32 #[.string s, .int .i64 (p : Int), .int .i64 (m : Int), .int .i64 dp] w fun e w' => (∃ q : Int, e = .returned (.tuple #[.int .i64 q, .bool false])) ∧ Below w.heap.size w w') :
    Calls Tryd.prog 8 #[.string s, .int .i64 (a : Int), .int .i64 dp] w (NoR w) := by
  have e3 : (v : Int) / 8 = (m : Int) := by omega
  have e7 : Go.bits .and .u64 (v : Int) 7 = 3 := by rw [and7 v hv, ht]; rfl
  have HD3 := Aside0.mk (show decide (536870912 ≤ (m : Int)) = false from decide_eq_false (by omega))
  have HD4 := Aside0.mk (show decide ((m : Int) < 1) = false from decide_eq_false (by omega))
  have hnb : (m : Int) ≤ 536870911 := by omega
  have HPS := Aside0.mk hps
  have HAP := Aside0.mk hap
  clear hm ht hv hm1 hm2 hps hap
  have hz1 : XR (w.alloc (.cells #[.int .i64 0, .int .i64 0, .int .u64 0, .string ⟨#[]⟩, .string ⟨#[]⟩] 30)) w.heap.size 0 0 0 ByteArray.empty ByteArray.empty := heap_alloc_new w _
  have HB1 := Aside0.mk ((Below.refl w.heap.size w).alloc (Nat.le_refl _) (.cells #[.int .i64 0, .int .i64 0, .int .u64 0, .string ⟨#[]⟩, .string ⟨#[]⟩] 30))
  have HZ1 := Aside0.mk hz1
  clear hz1
  go_enter Tryd.func8, Tryd.ntmps8
  go_wp2_with fail
  generalize w.alloc (.cells #[.int .i64 0, .int .i64 0, .int .u64 0, .string ⟨#[]⟩, .string ⟨#[]⟩] 30) = W1 at *
  generalize hg : w.heap.size = g at *
  refine (G _).mono ?_
  rintro e wd ⟨rfl, ⟨nd, rfl⟩⟩
  have hz2 : XR (W1.drewN nd) g 0 0 0 ByteArray.empty ByteArray.empty := HZ1.out
  have HB2 : Aside0 (Below g w (W1.drewN nd)) := ⟨by apply pw_below_drewN; exact HB1.out⟩
  have HZ2 := Aside0.mk hz2
  generalize W1.drewN nd = W2 at *
  clear hz2 G HB1 HZ1
  have d3 := HD3.out
  have d4 := HD4.out
  go_upto_region 4 with (fail)
  clear d3 d4 HD3 HD4
  go_upto_region 5 with (first
    | ((with_reducible refine gate_dst (N := 12) rfl ?_); refine box_event ?hg (N := 12) ?hd (cs := #[.int .i64 0, .int .i64 0, .int .u64 0, .string ⟨#[]⟩, .string ⟨#[]⟩]) (t := 30) ?hr ?_; (case hd => rfl); (case hg => rfl); (case hr => first | (go_simp; done) | (go_simp; rfl)); intro x hx w4 hx4 hb4
       have hx4 : XR w4 x 0 0 0 ByteArray.empty ByteArray.empty := hx4
       have hgx : g < x := by have := blk_lt HZ2.out; omega
       clear hx
       have hz4 : XR w4 g 0 0 0 ByteArray.empty ByteArray.empty := blk_below HZ2.out hb4
       have HB4 := Aside0.mk (HB2.out.trans (hb4.mono (by have := HB2.out.size; omega)))
       have z0 := hx4.c0
       have z1 := hx4.c1
       have z2 := hx4.c2
       have z3 := hx4.c3
       have z4 := hx4.c4
       have zf := fun i => hx4.fz i
       have k5 := kp_all w4 x (.int .i64 (m : Int)) (.int .i64 3) (.int .u64 0) (.string ⟨#[]⟩) (.string ⟨#[]⟩)
       have hx5 := hx4.all (m : Int) 3 0 ⟨#[]⟩ ⟨#[]⟩
       have HZ5 := Aside0.mk (hz4.kp k5 (fun e => by omega))
       have HB5 := Aside0.mk (HB4.out.trans (k5.toBelow (by have := HB4.out.size; omega) (fun k e => by omega)))
       have HX5 := Aside0.mk hx5
       clear hx4 hz4 k5 hb4 hx5))
  clear z0 z1 z2 z3 z4 zf hx4 e3 e7 hnb
  generalize ((((w4.setCell ⟨x, 0, none⟩ (.int .i64 (m : Int))).setCell ⟨x, 1, none⟩ (.int .i64 3)).setCell ⟨x, 2, none⟩ (.int .u64 0)).setCell ⟨x, 3, none⟩ (.string ⟨#[]⟩)).setCell ⟨x, 4, none⟩ (.string ⟨#[]⟩) = w5 at *
  have q1 := HX5.out.c1
  have q0 := HX5.out.c0
  clear HB2 HZ2 HB4
  go_wp2_with fail
  refine (G2 _).mono ?_
  rintro e w6 ⟨⟨q, rfl⟩, hb6⟩
  have hgs := HB5.out.size
  have hxs := blk_lt HX5.out
  have hzs := blk_lt HZ5.out
  have HZ6 : Aside0 (XR w6 g 0 0 0 ByteArray.empty ByteArray.empty) := ⟨blk_below HZ5.out hb6⟩
  have HB6 : Aside0 (Below g w w6) := ⟨HB5.out.trans (hb6.mono (by omega))⟩
  clear hb6 hgs hxs hzs G2 HX5 HZ5 HB5 q0 q1
  have hz7 := HZ6.out
  have z0 := hz7.c0
  have z1 := hz7.c1
  have z2 := hz7.c2
  have z3 := hz7.c3
  have z4 := hz7.c4
  have zf := fun i => hz7.fz i
  have k9 := kp_all w6 g (.int .i64 0) (.int .i64 0) (.int .u64 0) (.string ByteArray.empty) (.string ByteArray.empty)
  have HB9 := Aside0.mk (HB6.out.trans (k9.toBelow (by have := HB6.out.size; omega) (fun k e => by omega)))
  clear hz7 k9
  go_wp2_with fail
  refine bodyPost_ret (results_cell_two rfl _ _ g 30 #[.int .i64 0, .int .i64 0, .int .u64 0, .string ByteArray.empty, .string ByteArray.empty] (0, 0) rfl (HZ6.out.all 0 0 0 ByteArray.empty ByteArray.empty) Tryd.underlying30 (by kernel_rfl)) rfl ?_
  exact ⟨rfl, by rw [hg]; exact HB9.out⟩
set_option maxHeartbeats 1000000 in
set_option maxRecDepth 100000 in
theorem rnext_badx (w : World) (s : ByteArray) (a v _k m p t : Nat) (dp : Int) (hm : v / 8 = m) (hv : v < 18446744073709551616) (hm1 : 1 ≤ m) (hm2 : m < 536870912) (_hs : s.size ≤ 100000) (hap : a ≤ p) (hps : p ≤ s.size)
    (G : ∀ w, Calls Tryd.prog 30 #[.string s, .int .i64 (a : Int)] w fun e w' => e = .returned (.tuple #[.int .u64 (v : Int), .int .i64 (p : Int), .int .i64 0]) ∧ Drawn0 w w') (ht : v % 8 = t) (t0 : ¬ (t : Int) = 0) (t1 : ¬ (t : Int) = 1) (t5 : ¬ (t : Int) = 5) (t2 : ¬ (t : Int) = 2) (t3 : ¬ (t : Int) = 3) :
    Calls Tryd.prog 8 #[.string s, .int .i64 (a : Int), .int .i64 dp] w (NoR w) := by
  have e3 : (v : Int) / 8 = (m : Int) := by omega
  have e7 : Go.bits .and .u64 (v : Int) 7 = (t : Int) := by rw [and7 v hv, ht]
  have HD3 := Aside0.mk (show decide (536870912 ≤ (m : Int)) = false from decide_eq_false (by omega))
  have HD4 := Aside0.mk (show decide ((m : Int) < 1) = false from decide_eq_false (by omega))
  have hnb : (m : Int) ≤ 536870911 := by omega
  have HPS := Aside0.mk hps
  have HAP := Aside0.mk hap
  have ht8 : (t : Int) < 8 := by omega
  clear hm ht hv hm1 hm2 hps hap
  have hz1 : XR (w.alloc (.cells #[.int .i64 0, .int .i64 0, .int .u64 0, .string ⟨#[]⟩, .string ⟨#[]⟩] 30)) w.heap.size 0 0 0 ByteArray.empty ByteArray.empty := heap_alloc_new w _
  have HB1 := Aside0.mk ((Below.refl w.heap.size w).alloc (Nat.le_refl _) (.cells #[.int .i64 0, .int .i64 0, .int .u64 0, .string ⟨#[]⟩, .string ⟨#[]⟩] 30))
  have HZ1 := Aside0.mk hz1
  clear hz1
  go_enter Tryd.func8, Tryd.ntmps8
  go_wp2_with fail
  generalize w.alloc (.cells #[.int .i64 0, .int .i64 0, .int .u64 0, .string ⟨#[]⟩, .string ⟨#[]⟩] 30) = W1 at *
  generalize hg : w.heap.size = g at *
  refine (G _).mono ?_
  rintro e wd ⟨rfl, ⟨nd, rfl⟩⟩
  have hz2 : XR (W1.drewN nd) g 0 0 0 ByteArray.empty ByteArray.empty := HZ1.out
  have HB2 : Aside0 (Below g w (W1.drewN nd)) := ⟨by apply pw_below_drewN; exact HB1.out⟩
  have HZ2 := Aside0.mk hz2
  generalize W1.drewN nd = W2 at *
  clear hz2 G HB1 HZ1
  have d3 := HD3.out
  have d4 := HD4.out
  go_upto_region 4 with (fail)
  clear d3 d4 HD3 HD4
  go_upto_region 5 with (first
    | ((with_reducible refine gate_dst (N := 12) rfl ?_); refine box_event ?hg (N := 12) ?hd (cs := #[.int .i64 0, .int .i64 0, .int .u64 0, .string ⟨#[]⟩, .string ⟨#[]⟩]) (t := 30) ?hr ?_; (case hd => rfl); (case hg => rfl); (case hr => first | (go_simp; done) | (go_simp; rfl)); intro x hx w4 hx4 hb4
       have hx4 : XR w4 x 0 0 0 ByteArray.empty ByteArray.empty := hx4
       have hgx : g < x := by have := blk_lt HZ2.out; omega
       clear hx
       have hz4 : XR w4 g 0 0 0 ByteArray.empty ByteArray.empty := blk_below HZ2.out hb4
       have HB4 := Aside0.mk (HB2.out.trans (hb4.mono (by have := HB2.out.size; omega)))
       have z0 := hx4.c0
       have z1 := hx4.c1
       have z2 := hx4.c2
       have z3 := hx4.c3
       have z4 := hx4.c4
       have zf := fun i => hx4.fz i
       have k5 := kp_all w4 x (.int .i64 (m : Int)) (.int .i64 (t : Int)) (.int .u64 0) (.string ⟨#[]⟩) (.string ⟨#[]⟩)
       have hx5 := hx4.all (m : Int) (t : Int) 0 ⟨#[]⟩ ⟨#[]⟩
       have HZ5 := Aside0.mk (hz4.kp k5 (fun e => by omega))
       have HB5 := Aside0.mk (HB4.out.trans (k5.toBelow (by have := HB4.out.size; omega) (fun k e => by omega)))
       have HX5 := Aside0.mk hx5
       clear hx4 hz4 k5 hb4 hx5))
  clear z0 z1 z2 z3 z4 zf hx4 e3 e7 hnb
  generalize ((((w4.setCell ⟨x, 0, none⟩ (.int .i64 (m : Int))).setCell ⟨x, 1, none⟩ (.int .i64 (t : Int))).setCell ⟨x, 2, none⟩ (.int .u64 0)).setCell ⟨x, 3, none⟩ (.string ⟨#[]⟩)).setCell ⟨x, 4, none⟩ (.string ⟨#[]⟩) = w5 at *
  have q1 := HX5.out.c1
  have q0 := HX5.out.c0
  clear HB2 HZ2 HB4
  clear ht8
  have hz7 := HZ5.out
  have z0 := hz7.c0
  have z1 := hz7.c1
  have z2 := hz7.c2
  have z3 := hz7.c3
  have z4 := hz7.c4
  have zf := fun i => hz7.fz i
  have k9 := kp_all w5 g (.int .i64 0) (.int .i64 0) (.int .u64 0) (.string ByteArray.empty) (.string ByteArray.empty)
  have HB9 := Aside0.mk (HB5.out.trans (k9.toBelow (by have := HB5.out.size; omega) (fun k e => by omega)))
  clear hz7 k9
  go_wp2_with fail
  refine bodyPost_ret (results_cell_two rfl _ _ g 30 #[.int .i64 0, .int .i64 0, .int .u64 0, .string ByteArray.empty, .string ByteArray.empty] (0, 0) rfl (HZ5.out.all 0 0 0 ByteArray.empty ByteArray.empty) Tryd.underlying30 (by kernel_rfl)) rfl ?_
  exact ⟨rfl, by rw [hg]; exact HB9.out⟩
set_option maxHeartbeats 1000000 in
set_option maxRecDepth 100000 in
theorem rnext_badtag (w : World) (s : ByteArray) (a v m p : Nat) (dp : Int) (hm : v / 8 = m) (hm1 : m < 1 ∨ 536870912 ≤ m)
    (G : ∀ w, Calls Tryd.prog 30 #[.string s, .int .i64 (a : Int)] w fun e w' => e = .returned (.tuple #[.int .u64 (v : Int), .int .i64 (p : Int), .int .i64 0]) ∧ Drawn0 w w') :
    Calls Tryd.prog 8 #[.string s, .int .i64 (a : Int), .int .i64 dp] w (NoR w) := by
  have e3 : (v : Int) / 8 = (m : Int) := by omega
  have HD : Aside0 ((m : Int) < 1 ∨ 536870912 ≤ (m : Int)) := ⟨by omega⟩
  clear hm hm1
  have hz1 : XR (w.alloc (.cells #[.int .i64 0, .int .i64 0, .int .u64 0, .string ⟨#[]⟩, .string ⟨#[]⟩] 30)) w.heap.size 0 0 0 ByteArray.empty ByteArray.empty := heap_alloc_new w _
  have HB1 := Aside0.mk ((Below.refl w.heap.size w).alloc (Nat.le_refl _) (.cells #[.int .i64 0, .int .i64 0, .int .u64 0, .string ⟨#[]⟩, .string ⟨#[]⟩] 30))
  have HZ1 := Aside0.mk hz1
  clear hz1
  go_enter Tryd.func8, Tryd.ntmps8
  go_wp2_with fail
  generalize w.alloc (.cells #[.int .i64 0, .int .i64 0, .int .u64 0, .string ⟨#[]⟩, .string ⟨#[]⟩] 30) = W1 at *
  generalize hg : w.heap.size = g at *
  refine (G _).mono ?_
  rintro e wd ⟨rfl, ⟨nd, rfl⟩⟩
  have hz2 : XR (W1.drewN nd) g 0 0 0 ByteArray.empty ByteArray.empty := HZ1.out
  have HB2 : Aside0 (Below g w (W1.drewN nd)) := ⟨by apply pw_below_drewN; exact HB1.out⟩
  have HZ2 := Aside0.mk hz2
  generalize W1.drewN nd = W2 at *
  clear hz2 G HB1 HZ1
  by_cases h1 : (m : Int) < 1
  · have d4 : decide ((m : Int) < 1) = true := decide_eq_true h1
    clear h1
    have hz7 := HZ2.out
    have z0 := hz7.c0
    have z1 := hz7.c1
    have z2 := hz7.c2
    have z3 := hz7.c3
    have z4 := hz7.c4
    have zf := fun i => hz7.fz i
    have k9 := kp_all W2 g (.int .i64 0) (.int .i64 0) (.int .u64 0) (.string ByteArray.empty) (.string ByteArray.empty)
    have HB9 := Aside0.mk (HB2.out.trans (k9.toBelow (by have := HB2.out.size; omega) (fun k e => by omega)))
    clear hz7 k9
    go_wp2_with fail
    refine bodyPost_ret (results_cell_two rfl _ _ g 30 #[.int .i64 0, .int .i64 0, .int .u64 0, .string ByteArray.empty, .string ByteArray.empty] (0, 0) rfl (HZ2.out.all 0 0 0 ByteArray.empty ByteArray.empty) Tryd.underlying30 (by kernel_rfl)) rfl ?_
    exact ⟨rfl, by rw [hg]; exact HB9.out⟩
  · have d3 : decide (536870912 ≤ (m : Int)) = true := decide_eq_true (HD.out.resolve_left h1)
    have d4 : decide ((m : Int) < 1) = false := decide_eq_false h1
    clear h1
    have hz7 := HZ2.out
    have z0 := hz7.c0
    have z1 := hz7.c1
    have z2 := hz7.c2
    have z3 := hz7.c3
    have z4 := hz7.c4
    have zf := fun i => hz7.fz i
    have k9 := kp_all W2 g (.int .i64 0) (.int .i64 0) (.int .u64 0) (.string ByteArray.empty) (.string ByteArray.empty)
    have HB9 := Aside0.mk (HB2.out.trans (k9.toBelow (by have := HB2.out.size; omega) (fun k e => by omega)))
    clear hz7 k9
    go_wp2_with fail
    refine bodyPost_ret (results_cell_two rfl _ _ g 30 #[.int .i64 0, .int .i64 0, .int .u64 0, .string ByteArray.empty, .string ByteArray.empty] (0, 0) rfl (HZ2.out.all 0 0 0 ByteArray.empty ByteArray.empty) Tryd.underlying30 (by kernel_rfl)) rfl ?_
    exact ⟨rfl, by rw [hg]; exact HB9.out⟩
end Go.Proofs.YtklkiofhenhafaaDoor
namespace Go.Proofs.YtklkiofhenhafaaDoor
open Go.RowKit Go.Proofs.YtklkiofhenhafaaDoorW.PrintWords Go.Proofs.YtklkiofhenhafaaDoorW.PrintLast Go.Proofs.YtklkiofhenhafaaDoorW.PrintMore Hy CWire

theorem fixed_le (s : ByteArray) (hs : s.size ≤ 8) : ∀ (m k : Nat), m ≤ s.size → m < k → hygref2_fixed.l0 k s (little ((bs s).drop m) : Int) ((m : Int) - 1) = some (little (bs s) : Int) := by
  intro m
  induction m with
  | zero =>
    intro k _ hk
    obtain ⟨k, rfl⟩ : ∃ q, k = q + 1 := ⟨k - 1, by omega⟩
    rw [hygref2_fixed.l0, if_neg (by omega), List.drop_zero]
  | succ m ih =>
    intro k hm hk
    obtain ⟨k, rfl⟩ : ∃ q, k = q + 1 := ⟨k - 1, by omega⟩
    obtain ⟨c, r, h1, h2, h3, h4⟩ := bt_bs s m (by omega)
    have hl : ((bs s).drop (m + 1)).length ≤ 7 := by rw [List.length_drop, bs_length]; omega
    have hlt : little ((bs s).drop (m + 1)) < 72057594037927936 := by
      refine Nat.lt_of_lt_of_le (little_lt _ (okB_drop (bs_ok s) _)) ?_
      exact Nat.pow_le_pow_right (n := 256) (by decide) hl
    have e1 : ((m + 1 : Nat) : Int) - 1 = (m : Int) := by omega
    have e2 : wrap64 ((m : Int) - 1) = (m : Int) - 1 := by unfold wrap64; omega
    rw [e1, hygref2_fixed.l0, if_pos (by omega), if_pos (by omega), if_pos (by omega), h2, or_256 _ c hlt h3, e2]
    have := ih k (by omega) (by omega)
    rw [h1] at this
    rw [h4]
    exact this
theorem fixed_fle (s : ByteArray) (k : Nat) (hs : s.size ≤ 8) (hk : 9 ≤ k) : hygref2_fixed.f k s = some (little (bs s) : Int) := by
  have h := fixed_le s hs s.size k (Nat.le_refl _) (by omega)
  rw [List.drop_of_length_le (by rw [bs_length]; omega)] at h
  unfold hygref2_fixed.f
  rw [show wrap64 ((s.size : Int) - 1) = ((s.size : Nat) : Int) - 1 by unfold wrap64; omega]
  exact h
theorem rfixed_at (s : ByteArray) (p n : Nat) (w : World) (hn : n ≤ 8) (_hp : p + n ≤ s.size) :
    Calls Tryd.prog 31 #[.string (s.extract p (p + n))] w fun e w' => e = .returned (.int .u64 (little (((bs s).drop p).take n) : Int)) ∧ Drawn0 w w' := by
  have hb : bs (s.extract p (p + n)) = ((bs s).drop p).take n := by rw [bs_extract, List.drop_take]; congr 1; omega
  have hz : (s.extract p (p + n)).size ≤ 8 := by rw [← bs_length, hb, List.length_take]; omega
  have h := fixed_fle (s.extract p (p + n)) 9 hz (Nat.le_refl _)
  rw [hb] at h
  exact CWire.hygref2_fixed.calls 9 _ _ w h
theorem rgroup_any (s : ByteArray) (hs : s.size ≤ 100000) (p m : Nat) (dp : Int) (hp : p ≤ s.size) (hm1 : 1 ≤ m) (hm2 : m < 536870912) (hd1 : dp < 9223372036854775808)
    (HN : ∀ b d, p ≤ b → b ≤ s.size → d < 9223372036854775808 → NextAt s b d) (w : World) :
    Calls Tryd.prog 32 #[.string s, .int .i64 (p : Int), .int .i64 (m : Int), .int .i64 dp] w (GrR s p (rst dp.toNat m 3 ((bs s).drop p)) w) := by
  rw [rst_3]
  by_cases hlow : dp < 1
  · rw [if_pos (by omega)]
    exact rgroup_low w s p m dp hlow
  · rw [if_neg (by omega)]
    obtain ⟨d, hd⟩ : ∃ d, dp = d + 1 := ⟨dp - 1, by omega⟩
    subst hd
    rw [show (d + 1).toNat - 1 = d.toNat by omega]
    exact rgroup_go w s p m d (by omega) hp hm1 hm2 (by omega) hd1 (fun b h1 h2 => HN b d h1 h2 (by omega))
def NxOk (s : ByteArray) (a p2 : Nat) (m t N : Int) (S : ByteArray) (w : World) (e : Ending) (w' : World) : Prop :=
  e = .returned (.tuple #[recV m t N S (s.extract a p2), .int .i64 (p2 : Int), .bool true]) ∧ Below w.heap.size w w'
theorem rnext_rst (s : ByteArray) (hs : s.size ≤ 100000) (a v k : Nat) (dp : Int) (ha : a ≤ s.size) (hd1 : dp < 9223372036854775808) (hd : dec 0 ((bs s).drop a) = .inr (v, k)) (hv1 : 1 ≤ v / 8) (hv2 : v / 8 < 536870912)
    (HN : ∀ b d, a < b → b ≤ s.size → d < 9223372036854775808 → NextAt s b d) (W : World) :
    (∀ k2, rst dp.toNat (v / 8) (v % 8) ((bs s).drop (a + k)) = some k2 → Calls Tryd.prog 8 #[.string s, .int .i64 (a : Int), .int .i64 dp] W (NxOk s a (a + k + k2) ((v / 8 : Nat) : Int) ((v % 8 : Nat) : Int) (numV (v % 8) ((bs s).drop (a + k)) : Int) (st (strV (v % 8) ((bs s).drop (a + k)))) W)) ∧
    (rst dp.toNat (v / 8) (v % 8) ((bs s).drop (a + k)) = none → Calls Tryd.prog 8 #[.string s, .int .i64 (a : Int), .int .i64 dp] W (NoR W)) := by
  have hv := (dec_some _ 0 v k (okB_drop (bs_ok s) _) (by omega) hd).2.2.2.2
  have hk := dec_pos _ _ _ _ hd
  rw [List.length_drop, bs_length] at hk
  have G := fun w => gr_ok s a v k w (by omega) ha hd
  obtain ⟨p, hp⟩ : ∃ p, a + k = p := ⟨_, rfl⟩
  rw [hp] at G ⊢
  have hap : a ≤ p := by omega
  have hps : p ≤ s.size := by omega
  have hap1 : a < p := by omega
  obtain ⟨t, ht⟩ : ∃ t, v % 8 = t := ⟨_, rfl⟩
  rw [ht]
  by_cases t0 : t = 0
  · subst t0
    rw [rst_0]
    cases hd2 : dec 0 ((bs s).drop p) with
    | inl c =>
      have hc := dec_code _ _ _ hd2
      exact ⟨fun k e => (by cases e), fun _ => rnext_bad0 W s a v 0 _ p dp rfl hv hv1 hv2 hs hap hps G (c : Int) (by omega) ht (fun w => gr_bad s p c w (by omega) hps hd2)⟩
    | inr q =>
      obtain ⟨v2, k2⟩ := q
      have hk2 := dec_pos _ _ _ _ hd2
      rw [List.length_drop, bs_length] at hk2
      refine ⟨fun k' e => ?_, fun e => (by cases e)⟩
      simp only [Option.some.injEq] at e
      subst e
      have e1 : numV 0 ((bs s).drop p) = v2 := by unfold numV; rw [if_pos rfl, hd2]
      have e2 : strV 0 ((bs s).drop p) = [] := rfl
      rw [e1, e2, st_nil]
      exact rnext_ok0 W s a v 0 _ p v2 (p + k2) dp rfl hv hv1 hv2 hs hap hps G ht (by omega) (by omega) (fun w => gr_ok s p v2 k2 w (by omega) hps hd2)
  by_cases t1 : t = 1
  · subst t1
    rw [rst_1, List.length_drop, bs_length]
    by_cases h8 : 8 ≤ s.size - p
    · rw [if_pos h8]
      refine ⟨fun k' e => ?_, fun e => (by cases e)⟩
      simp only [Option.some.injEq] at e
      subst e
      have e1 : numV 1 ((bs s).drop p) = little (((bs s).drop p).take 8) := rfl
      have e2 : strV 1 ((bs s).drop p) = [] := rfl
      rw [e1, e2, st_nil]
      exact rnext_ok1 W s a v 0 _ p _ (p + 8) dp rfl hv hv1 hv2 hs hap hps G ht rfl (by omega) (fun w => rfixed_at s p 8 w (by omega) (by omega))
    · rw [if_neg h8]
      exact ⟨fun k e => (by cases e), fun _ => rnext_bad1 W s a v 0 _ p dp rfl hv hv1 hv2 hs hap hps G ht (by omega)⟩
  by_cases t5 : t = 5
  · subst t5
    rw [rst_5, List.length_drop, bs_length]
    by_cases h8 : 4 ≤ s.size - p
    · rw [if_pos h8]
      refine ⟨fun k' e => ?_, fun e => (by cases e)⟩
      simp only [Option.some.injEq] at e
      subst e
      have e1 : numV 5 ((bs s).drop p) = little (((bs s).drop p).take 4) := rfl
      have e2 : strV 5 ((bs s).drop p) = [] := rfl
      rw [e1, e2, st_nil]
      exact rnext_ok5 W s a v 0 _ p _ (p + 4) dp rfl hv hv1 hv2 hs hap hps G ht rfl (by omega) (fun w => rfixed_at s p 4 w (by omega) (by omega))
    · rw [if_neg h8]
      exact ⟨fun k e => (by cases e), fun _ => rnext_bad5 W s a v 0 _ p dp rfl hv hv1 hv2 hs hap hps G ht (by omega)⟩
  by_cases t2 : t = 2
  · subst t2
    rw [rst_2]
    cases hd2 : dec 0 ((bs s).drop p) with
    | inl c =>
      have hc := dec_code _ _ _ hd2
      exact ⟨fun k e => (by cases e), fun _ => rnext_bad2 W s a v 0 _ p dp rfl hv hv1 hv2 hs hap hps G (c : Int) (by omega) ht (fun w => gr_bad s p c w (by omega) hps hd2)⟩
    | inr q =>
      obtain ⟨n, k2⟩ := q
      have hk2 := dec_pos _ _ _ _ hd2
      have hn := (dec_some _ 0 n k2 (okB_drop (bs_ok s) _) (by omega) hd2).2.2.2.2
      rw [List.length_drop, bs_length] at hk2
      simp only [List.length_drop, bs_length]
      by_cases hnv : n ≤ s.size - p - k2
      · rw [if_pos hnv]
        refine ⟨fun k' e => ?_, fun e => (by cases e)⟩
        simp only [Option.some.injEq] at e
        subst e
        have e1 : numV 2 ((bs s).drop p) = 0 := rfl
        have e2 : st (strV 2 ((bs s).drop p)) = s.extract (p + k2) (p + (k2 + n)) := by
          have e3 : strV 2 ((bs s).drop p) = (((bs s).drop p).drop k2).take n := by unfold strV; rw [if_pos rfl, hd2]
          rw [e3, List.drop_drop]
          apply bs_inj
          rw [bs_st _ (okB_take (okB_drop (bs_ok s) _) _), bs_extract, List.drop_take]
          congr 1
          omega
        rw [e1, e2]
        exact rnext_ok2 W s a v 0 _ p n (p + k2) (p + (k2 + n)) dp rfl hv hv1 hv2 hs hap hps G ht (by omega) (by omega) (by omega) (fun w => gr_ok s p n k2 w (by omega) hps hd2)
      · rw [if_neg hnv]
        exact ⟨fun k e => (by cases e), fun _ => rnext_bad2t W s a v 0 _ p n (p + k2) dp rfl hv hv1 hv2 hs hap hps G ht (by omega) hn (by omega) (fun w => gr_ok s p n k2 w (by omega) hps hd2)⟩
  by_cases t3 : t = 3
  · subst t3
    have hG := fun w => rgroup_any s hs p (v / 8) dp hps hv1 hv2 hd1 (fun b d h1 h2 h3 => HN b d (by omega) h2 h3) w
    refine ⟨fun k2 e => ?_, fun e => ?_⟩
    · have hle := rst_le e
      rw [List.length_drop, bs_length] at hle
      have e1 : numV 3 ((bs s).drop p) = 0 := rfl
      have e2 : strV 3 ((bs s).drop p) = [] := rfl
      rw [e1, e2, st_nil]
      exact rnext_ok3 W s a v 0 _ p (p + k2) dp rfl hv hv1 hv2 hs hap hps G ht (by omega) (by omega) (fun w => (hG w).mono (fun _ _ h => ⟨h.1 k2 e, h.2.2⟩))
    · exact rnext_bad3 W s a v 0 _ p dp rfl hv hv1 hv2 hs hap hps G ht (fun w => (hG w).mono (fun _ _ h => ⟨h.2.1 e, h.2.2⟩))
  · rw [rst_other t0 t1 t2 t3 t5]
    exact ⟨fun k e => (by cases e), fun _ => rnext_badx W s a v 0 _ p t dp rfl hv hv1 hv2 hs hap hps G ht (by omega) (by omega) (by omega) (by omega) (by omega)⟩
theorem rnext_at (s : ByteArray) (hs : s.size ≤ 100000) : ∀ n a dp, s.size - a = n → a ≤ s.size → dp < 9223372036854775808 → NextAt s a dp := by
  intro n
  induction n using Nat.strongRecOn with
  | ind n IH =>
    intro a dp hn ha hd1 W
    cases hd : dec 0 ((bs s).drop a) with
    | inl c =>
      have hc := dec_code _ _ _ hd
      have ht : tagL ((bs s).drop a) = none := by unfold tagL; rw [hd]
      rw [rec_none ht]
      exact ⟨fun R k e => (by cases e), fun _ => rnext_dec W s (a : Int) dp (c : Int) (by omega) (fun w => gr_bad s a c w (by omega) ha hd)⟩
    | inr q =>
      obtain ⟨v, k⟩ := q
      have hk := dec_pos _ _ _ _ hd
      rw [List.length_drop, bs_length] at hk
      have ht := tag_dec hd
      by_cases hv : 1 ≤ v / 8 ∧ v / 8 < 536870912
      · rw [if_pos hv] at ht
        have H := rnext_rst s hs a v k dp ha hd1 hd hv.1 hv.2 (fun b d h1 h2 h3 => IH (s.size - b) (by omega) b d rfl h2 h3) W
        rw [rec_rst ht, List.drop_drop]
        refine ⟨fun R kk e => ?_, fun e => ?_⟩
        · cases hr : rst dp.toNat (v / 8) (v % 8) ((bs s).drop (a + k)) with
          | none => rw [hr] at e; cases e
          | some k2 =>
            have hle := rst_le hr
            rw [List.length_drop, bs_length] at hle
            rw [hr] at e
            simp only [Option.map_some, Option.some.injEq, Prod.mk.injEq] at e
            obtain ⟨rfl, rfl⟩ := e
            have hraw : st (((bs s).drop a).take (k + k2)) = s.extract a (a + k + k2) := by
              apply bs_inj
              rw [bs_st _ (okB_take (okB_drop (bs_ok s) _) _), bs_extract, List.drop_take]
              congr 1
              omega
            show Calls _ _ _ _ fun e w' => e = .returned (.tuple #[recV ((v / 8 : Nat) : Int) ((v % 8 : Nat) : Int) (numV (v % 8) ((bs s).drop (a + k)) : Int) (st (strV (v % 8) ((bs s).drop (a + k)))) (st (((bs s).drop a).take (k + k2))), .int .i64 ((a + (k + k2) : Nat) : Int), .bool true]) ∧ _
            rw [hraw, show a + (k + k2) = a + k + k2 by omega]
            exact H.1 k2 hr
        · cases hr : rst dp.toNat (v / 8) (v % 8) ((bs s).drop (a + k)) with
          | none => exact H.2 hr
          | some k2 => rw [hr] at e; cases e
      · rw [if_neg hv] at ht
        rw [rec_none ht]
        exact ⟨fun R k e => (by cases e), fun _ => rnext_badtag W s a v _ (a + k) dp rfl (by omega) (fun w => gr_ok s a v k w (by omega) ha hd)⟩
end Go.Proofs.YtklkiofhenhafaaDoor
