import Derived.Test.YtklkiofhenhafaaDoorMnaygibff
import Derived.Test.YtklkiofhenhafaaDoorMlrlhopvx
import Derived.Test.YtklkiofhenhafaaDoorMvkuxiryh
namespace Go.Proofs.YtklkiofhenhafaaDoor
open Go.RowKit Go.Proofs.YtklkiofhenhafaaDoorW.PrintWords Go.Proofs.YtklkiofhenhafaaDoorW.PrintLast Go.Proofs.YtklkiofhenhafaaDoorW.PrintMore Hy

theorem r_to_c {f : FuncId} {args : Array Value} {w : World} {z : Value} {l : List Int} (h : Calls Tryd.prog f args w fun e w' => ∃ v0_ : Value, e = .returned (.tuple #[v0_, z]) ∧ Kd.R (Kd.int .u64) 23 w' w.heap.size (fun _ => True) v0_ l ∧ Below w.heap.size w w') :
    Calls Tryd.prog f args w fun e w' => ∃ A c, e = .returned (.tuple #[.slice A l.length c, z]) ∧ Kd.C (Kd.int .u64) w' A l.length l ∧ l.length ≤ c ∧ Below w.heap.size w w' := by
  refine h.mono ?_
  rintro e w' ⟨v, rfl, hR, hb⟩
  obtain ⟨A', c', rfl, h1, h2⟩ := Kd.R_reads hR
  exact ⟨A', c', rfl, h2, h1, hb⟩
theorem r_to_nil {f : FuncId} {args : Array Value} {w : World} {z : Value} (h : Calls Tryd.prog f args w fun e w' => ∃ v0_ : Value, e = .returned (.tuple #[v0_, z]) ∧ Kd.R (Kd.int .u64) 23 w' w.heap.size (fun _ => True) v0_ ([] : List Int) ∧ Below w.heap.size w w') :
    Calls Tryd.prog f args w fun e w' => ∃ A c, e = .returned (.tuple #[.slice A 0 c, z]) ∧ Below w.heap.size w w' := by
  refine h.mono ?_
  rintro e w' ⟨v, rfl, hR, hb⟩
  obtain ⟨A', c', rfl, h1, h2⟩ := Kd.R_reads hR
  exact ⟨A', c', rfl, hb⟩
theorem codeAt (p c : Int) (T : Nat) (x : Value) (w : World) (hg : Laid w) (hu : IsE w (.at_ p (.code c)) (.iface T x)) : Calls Tryd.prog 11 #[.iface T x] w fun e w' => e = .returned (.int .i64 c) ∧ Below w.heap.size w w' := code_any (.at_ p (.code c)) _ w hg hu
theorem codeNil (w : World) (hg : Laid w) : Calls Tryd.prog 11 #[.nilIface] w fun e w' => e = .returned (.int .i64 0) ∧ Below w.heap.size w w' := code_any .nil _ w hg rfl
theorem numsNil (A : Option Addr) (c : Nat) (w : World) : Calls Tryd.prog 27 #[.slice none 0 0, .slice A 0 c] w fun e w' => e = .returned (.bool true) ∧ Drawn0 w w' := by
  have := nums_any none 0 [] A c [] w (Kd.C_nil _ _) (by simp) (⟨rfl, by simp, fun h => absurd h (Nat.lt_irrefl 0)⟩) (by simp) (by simp)
  exact this
set_option maxHeartbeats 8000000 in
set_option maxRecDepth 100000 in
theorem ww_00 (num kind n : Int) (s : ByteArray) (w : World) (h0 : 0 ≤ n) (h1 : n < 18446744073709551616) (hb1 : s.size ≤ 100000000) (hb2 : s.size ≤ 10000) (hd4 : ¬ (4000 < (s.size : Int))) (hg : Laid w) (l : List Int) (hl : bs s = fixL l) (hlu : u64s l) (hnl : l.length ≤ 140737488355328) (hll : l.length ≤ 1000000) (m : List Int) (pos : Nat → Nat) (hv : VsAt s 0 m pos) (hnm : m.length ≤ 140737488355328) (he : pos m.length = s.size) :
    Calls Tryd.prog 5 #[.int .i64 num, .int .i64 kind, .int .u64 n, .string s] w fun e w' => e = .returned (.bool true) ∧ Below w.heap.size w w' := by
  have HB := Aside0.mk (Below.refl w.heap.size w)
  have HG := Aside0.mk hg
  obtain ⟨v, hv0⟩ : ∃ v : Nat, n = (v : Int) := ⟨n.toNat, by omega⟩
  have W3 := fun w => wfixed_any num v w (by omega)
  have W4 := fun w => rfixed_any num v w
  rw [← hv0] at W3 W4
  have F1 := fun w => wfixeds_l w s l hl hll hlu
  have F2 := fun w => r_to_c (rfixeds_ok s l w hb2 hl hlu)
  have V1 := fun w => pvs_ok s w hb2 m pos hv he
  have V2 := fun w => r_to_c (rvs_any s w hb2 m pos hv m 0 (.inl ⟨he, rfl⟩))
  clear hg hv0 hv he hl hlu hll
  go_enter Tryd.func5, Tryd.ntmps5
  go_wp2_with fail
  refine (wire_first _).mono ?_
  rintro e wb ⟨rfl, hb⟩
  have HBn : Aside0 (Below w.heap.size w wb) := ⟨below_next (by repeat (first | (with_reducible exact HB.out) | apply below_alloc | apply pw_below_drewN | apply below_drew1)) hb⟩; clear HB; have HB := HBn; clear HBn; clear hb
  go_wp2_with fail
  refine (F1 _).mono ?_
  rintro e wb ⟨A_x, c_x, rfl, hC_, hc_x, hb⟩
  have HC_x := Aside0.mk hC_; clear hC_
  have HBn : Aside0 (Below w.heap.size w wb) := ⟨below_next (by repeat (first | (with_reducible exact HB.out) | apply below_alloc | apply pw_below_drewN | apply below_drew1)) hb⟩; clear HB; have HB := HBn; clear HBn; clear hb
  go_wp2_with fail
  refine (F2 _).mono ?_
  rintro e wb ⟨A_y, c_y, rfl, hC_, hc_y, hb⟩
  have Hn_ := Aside0.mk (Kd.C_below (by (with_reducible repeat (first | apply Kd.C_alloc | apply Kd.C_drewN | apply Kd.C_drew)); exact HC_x.out) hb); clear HC_x; have HC_x := Hn_; clear Hn_
  have HC_y := Aside0.mk hC_; clear hC_
  have HBn : Aside0 (Below w.heap.size w wb) := ⟨below_next (by repeat (first | (with_reducible exact HB.out) | apply below_alloc | apply pw_below_drewN | apply below_drew1)) hb⟩; clear HB; have HB := HBn; clear HBn; clear hb
  go_wp2_with fail
  refine (V1 _).mono ?_
  rintro e wb ⟨A_z, c_z, rfl, hC_, hc_z, hb⟩
  have Hn_ := Aside0.mk (Kd.C_below (by (with_reducible repeat (first | apply Kd.C_alloc | apply Kd.C_drewN | apply Kd.C_drew)); exact HC_x.out) hb); clear HC_x; have HC_x := Hn_; clear Hn_
  have Hn_ := Aside0.mk (Kd.C_below (by (with_reducible repeat (first | apply Kd.C_alloc | apply Kd.C_drewN | apply Kd.C_drew)); exact HC_y.out) hb); clear HC_y; have HC_y := Hn_; clear Hn_
  have HC_z := Aside0.mk hC_; clear hC_
  have HBn : Aside0 (Below w.heap.size w wb) := ⟨below_next (by repeat (first | (with_reducible exact HB.out) | apply below_alloc | apply pw_below_drewN | apply below_drew1)) hb⟩; clear HB; have HB := HBn; clear HBn; clear hb
  go_wp2_with fail
  refine (V2 _).mono ?_
  rintro e wb ⟨A_t, c_t, rfl, hC_, hc_t, hb⟩
  have Hn_ := Aside0.mk (Kd.C_below (by (with_reducible repeat (first | apply Kd.C_alloc | apply Kd.C_drewN | apply Kd.C_drew)); exact HC_x.out) hb); clear HC_x; have HC_x := Hn_; clear Hn_
  have Hn_ := Aside0.mk (Kd.C_below (by (with_reducible repeat (first | apply Kd.C_alloc | apply Kd.C_drewN | apply Kd.C_drew)); exact HC_y.out) hb); clear HC_y; have HC_y := Hn_; clear Hn_
  have Hn_ := Aside0.mk (Kd.C_below (by (with_reducible repeat (first | apply Kd.C_alloc | apply Kd.C_drewN | apply Kd.C_drew)); exact HC_z.out) hb); clear HC_z; have HC_z := Hn_; clear Hn_
  have HC_t := Aside0.mk hC_; clear hC_
  have HBn : Aside0 (Below w.heap.size w wb) := ⟨below_next (by repeat (first | (with_reducible exact HB.out) | apply below_alloc | apply pw_below_drewN | apply below_drew1)) hb⟩; clear HB; have HB := HBn; clear HBn; clear hb
  go_wp2_with fail
  refine (wire_first _).mono ?_
  rintro e wb ⟨rfl, hb⟩
  have Hn_ := Aside0.mk (Kd.C_below (by (with_reducible repeat (first | apply Kd.C_alloc | apply Kd.C_drewN | apply Kd.C_drew)); exact HC_x.out) hb); clear HC_x; have HC_x := Hn_; clear Hn_
  have Hn_ := Aside0.mk (Kd.C_below (by (with_reducible repeat (first | apply Kd.C_alloc | apply Kd.C_drewN | apply Kd.C_drew)); exact HC_y.out) hb); clear HC_y; have HC_y := Hn_; clear Hn_
  have Hn_ := Aside0.mk (Kd.C_below (by (with_reducible repeat (first | apply Kd.C_alloc | apply Kd.C_drewN | apply Kd.C_drew)); exact HC_z.out) hb); clear HC_z; have HC_z := Hn_; clear Hn_
  have Hn_ := Aside0.mk (Kd.C_below (by (with_reducible repeat (first | apply Kd.C_alloc | apply Kd.C_drewN | apply Kd.C_drew)); exact HC_t.out) hb); clear HC_t; have HC_t := Hn_; clear Hn_
  have HBn : Aside0 (Below w.heap.size w wb) := ⟨below_next (by repeat (first | (with_reducible exact HB.out) | apply below_alloc | apply pw_below_drewN | apply below_drew1)) hb⟩; clear HB; have HB := HBn; clear HBn; clear hb
  go_wp2_with fail
  refine (tag_any num kind _).mono ?_
  rintro e wb ⟨rfl, hb⟩
  have Hn_ := Aside0.mk (Kd.C_below (by (with_reducible repeat (first | apply Kd.C_alloc | apply Kd.C_drewN | apply Kd.C_drew)); exact HC_x.out) hb); clear HC_x; have HC_x := Hn_; clear Hn_
  have Hn_ := Aside0.mk (Kd.C_below (by (with_reducible repeat (first | apply Kd.C_alloc | apply Kd.C_drewN | apply Kd.C_drew)); exact HC_y.out) hb); clear HC_y; have HC_y := Hn_; clear Hn_
  have Hn_ := Aside0.mk (Kd.C_below (by (with_reducible repeat (first | apply Kd.C_alloc | apply Kd.C_drewN | apply Kd.C_drew)); exact HC_z.out) hb); clear HC_z; have HC_z := Hn_; clear Hn_
  have Hn_ := Aside0.mk (Kd.C_below (by (with_reducible repeat (first | apply Kd.C_alloc | apply Kd.C_drewN | apply Kd.C_drew)); exact HC_t.out) hb); clear HC_t; have HC_t := Hn_; clear Hn_
  have HBn : Aside0 (Below w.heap.size w wb) := ⟨below_next (by repeat (first | (with_reducible exact HB.out) | apply below_alloc | apply pw_below_drewN | apply below_drew1)) hb⟩; clear HB; have HB := HBn; clear HBn; clear hb
  go_wp2_with fail
  refine (rtag_any num kind _).mono ?_
  rintro e wb ⟨rfl, hb⟩
  have Hn_ := Aside0.mk (Kd.C_below (by (with_reducible repeat (first | apply Kd.C_alloc | apply Kd.C_drewN | apply Kd.C_drew)); exact HC_x.out) hb); clear HC_x; have HC_x := Hn_; clear Hn_
  have Hn_ := Aside0.mk (Kd.C_below (by (with_reducible repeat (first | apply Kd.C_alloc | apply Kd.C_drewN | apply Kd.C_drew)); exact HC_y.out) hb); clear HC_y; have HC_y := Hn_; clear Hn_
  have Hn_ := Aside0.mk (Kd.C_below (by (with_reducible repeat (first | apply Kd.C_alloc | apply Kd.C_drewN | apply Kd.C_drew)); exact HC_z.out) hb); clear HC_z; have HC_z := Hn_; clear Hn_
  have Hn_ := Aside0.mk (Kd.C_below (by (with_reducible repeat (first | apply Kd.C_alloc | apply Kd.C_drewN | apply Kd.C_drew)); exact HC_t.out) hb); clear HC_t; have HC_t := Hn_; clear Hn_
  have HBn : Aside0 (Below w.heap.size w wb) := ⟨below_next (by repeat (first | (with_reducible exact HB.out) | apply below_alloc | apply pw_below_drewN | apply below_drew1)) hb⟩; clear HB; have HB := HBn; clear HBn; clear hb
  go_wp2_with fail
  refine (wvarint_any num n _ h0 h1).mono ?_
  rintro e wb ⟨rfl, hb⟩
  have Hn_ := Aside0.mk (Kd.C_below (by (with_reducible repeat (first | apply Kd.C_alloc | apply Kd.C_drewN | apply Kd.C_drew)); exact HC_x.out) hb); clear HC_x; have HC_x := Hn_; clear Hn_
  have Hn_ := Aside0.mk (Kd.C_below (by (with_reducible repeat (first | apply Kd.C_alloc | apply Kd.C_drewN | apply Kd.C_drew)); exact HC_y.out) hb); clear HC_y; have HC_y := Hn_; clear Hn_
  have Hn_ := Aside0.mk (Kd.C_below (by (with_reducible repeat (first | apply Kd.C_alloc | apply Kd.C_drewN | apply Kd.C_drew)); exact HC_z.out) hb); clear HC_z; have HC_z := Hn_; clear Hn_
  have Hn_ := Aside0.mk (Kd.C_below (by (with_reducible repeat (first | apply Kd.C_alloc | apply Kd.C_drewN | apply Kd.C_drew)); exact HC_t.out) hb); clear HC_t; have HC_t := Hn_; clear Hn_
  have HBn : Aside0 (Below w.heap.size w wb) := ⟨below_next (by repeat (first | (with_reducible exact HB.out) | apply below_alloc | apply pw_below_drewN | apply below_drew1)) hb⟩; clear HB; have HB := HBn; clear HBn; clear hb
  go_wp2_with fail
  refine (rnum_any num n _ h0 h1).mono ?_
  rintro e wb ⟨rfl, hb⟩
  have Hn_ := Aside0.mk (Kd.C_below (by (with_reducible repeat (first | apply Kd.C_alloc | apply Kd.C_drewN | apply Kd.C_drew)); exact HC_x.out) hb); clear HC_x; have HC_x := Hn_; clear Hn_
  have Hn_ := Aside0.mk (Kd.C_below (by (with_reducible repeat (first | apply Kd.C_alloc | apply Kd.C_drewN | apply Kd.C_drew)); exact HC_y.out) hb); clear HC_y; have HC_y := Hn_; clear Hn_
  have Hn_ := Aside0.mk (Kd.C_below (by (with_reducible repeat (first | apply Kd.C_alloc | apply Kd.C_drewN | apply Kd.C_drew)); exact HC_z.out) hb); clear HC_z; have HC_z := Hn_; clear Hn_
  have Hn_ := Aside0.mk (Kd.C_below (by (with_reducible repeat (first | apply Kd.C_alloc | apply Kd.C_drewN | apply Kd.C_drew)); exact HC_t.out) hb); clear HC_t; have HC_t := Hn_; clear Hn_
  have HBn : Aside0 (Below w.heap.size w wb) := ⟨below_next (by repeat (first | (with_reducible exact HB.out) | apply below_alloc | apply pw_below_drewN | apply below_drew1)) hb⟩; clear HB; have HB := HBn; clear HBn; clear hb
  go_wp2_with fail
  refine (W3 _).mono ?_
  rintro e wb ⟨rfl, hb⟩
  have Hn_ := Aside0.mk (Kd.C_below (by (with_reducible repeat (first | apply Kd.C_alloc | apply Kd.C_drewN | apply Kd.C_drew)); exact HC_x.out) hb); clear HC_x; have HC_x := Hn_; clear Hn_
  have Hn_ := Aside0.mk (Kd.C_below (by (with_reducible repeat (first | apply Kd.C_alloc | apply Kd.C_drewN | apply Kd.C_drew)); exact HC_y.out) hb); clear HC_y; have HC_y := Hn_; clear Hn_
  have Hn_ := Aside0.mk (Kd.C_below (by (with_reducible repeat (first | apply Kd.C_alloc | apply Kd.C_drewN | apply Kd.C_drew)); exact HC_z.out) hb); clear HC_z; have HC_z := Hn_; clear Hn_
  have Hn_ := Aside0.mk (Kd.C_below (by (with_reducible repeat (first | apply Kd.C_alloc | apply Kd.C_drewN | apply Kd.C_drew)); exact HC_t.out) hb); clear HC_t; have HC_t := Hn_; clear Hn_
  have HBn : Aside0 (Below w.heap.size w wb) := ⟨below_next (by repeat (first | (with_reducible exact HB.out) | apply below_alloc | apply pw_below_drewN | apply below_drew1)) hb⟩; clear HB; have HB := HBn; clear HBn; clear hb
  go_wp2_with fail
  refine (W4 _).mono ?_
  rintro e wb ⟨rfl, hb⟩
  have Hn_ := Aside0.mk (Kd.C_below (by (with_reducible repeat (first | apply Kd.C_alloc | apply Kd.C_drewN | apply Kd.C_drew)); exact HC_x.out) hb); clear HC_x; have HC_x := Hn_; clear Hn_
  have Hn_ := Aside0.mk (Kd.C_below (by (with_reducible repeat (first | apply Kd.C_alloc | apply Kd.C_drewN | apply Kd.C_drew)); exact HC_y.out) hb); clear HC_y; have HC_y := Hn_; clear Hn_
  have Hn_ := Aside0.mk (Kd.C_below (by (with_reducible repeat (first | apply Kd.C_alloc | apply Kd.C_drewN | apply Kd.C_drew)); exact HC_z.out) hb); clear HC_z; have HC_z := Hn_; clear Hn_
  have Hn_ := Aside0.mk (Kd.C_below (by (with_reducible repeat (first | apply Kd.C_alloc | apply Kd.C_drewN | apply Kd.C_drew)); exact HC_t.out) hb); clear HC_t; have HC_t := Hn_; clear Hn_
  have HBn : Aside0 (Below w.heap.size w wb) := ⟨below_next (by repeat (first | (with_reducible exact HB.out) | apply below_alloc | apply pw_below_drewN | apply below_drew1)) hb⟩; clear HB; have HB := HBn; clear HBn; clear hb
  go_wp2_with fail
  refine (wbytes_any num s _ hb1).mono ?_
  rintro e wb ⟨rfl, hb⟩
  have Hn_ := Aside0.mk (Kd.C_below (by (with_reducible repeat (first | apply Kd.C_alloc | apply Kd.C_drewN | apply Kd.C_drew)); exact HC_x.out) hb); clear HC_x; have HC_x := Hn_; clear Hn_
  have Hn_ := Aside0.mk (Kd.C_below (by (with_reducible repeat (first | apply Kd.C_alloc | apply Kd.C_drewN | apply Kd.C_drew)); exact HC_y.out) hb); clear HC_y; have HC_y := Hn_; clear Hn_
  have Hn_ := Aside0.mk (Kd.C_below (by (with_reducible repeat (first | apply Kd.C_alloc | apply Kd.C_drewN | apply Kd.C_drew)); exact HC_z.out) hb); clear HC_z; have HC_z := Hn_; clear Hn_
  have Hn_ := Aside0.mk (Kd.C_below (by (with_reducible repeat (first | apply Kd.C_alloc | apply Kd.C_drewN | apply Kd.C_drew)); exact HC_t.out) hb); clear HC_t; have HC_t := Hn_; clear Hn_
  have HBn : Aside0 (Below w.heap.size w wb) := ⟨below_next (by repeat (first | (with_reducible exact HB.out) | apply below_alloc | apply pw_below_drewN | apply below_drew1)) hb⟩; clear HB; have HB := HBn; clear HBn; clear hb
  go_wp2_with fail
  refine (rbytes_any num s _ hb2).mono ?_
  rintro e wb ⟨rfl, hb⟩
  have Hn_ := Aside0.mk (Kd.C_below (by (with_reducible repeat (first | apply Kd.C_alloc | apply Kd.C_drewN | apply Kd.C_drew)); exact HC_x.out) hb); clear HC_x; have HC_x := Hn_; clear Hn_
  have Hn_ := Aside0.mk (Kd.C_below (by (with_reducible repeat (first | apply Kd.C_alloc | apply Kd.C_drewN | apply Kd.C_drew)); exact HC_y.out) hb); clear HC_y; have HC_y := Hn_; clear Hn_
  have Hn_ := Aside0.mk (Kd.C_below (by (with_reducible repeat (first | apply Kd.C_alloc | apply Kd.C_drewN | apply Kd.C_drew)); exact HC_z.out) hb); clear HC_z; have HC_z := Hn_; clear Hn_
  have Hn_ := Aside0.mk (Kd.C_below (by (with_reducible repeat (first | apply Kd.C_alloc | apply Kd.C_drewN | apply Kd.C_drew)); exact HC_t.out) hb); clear HC_t; have HC_t := Hn_; clear Hn_
  have HBn : Aside0 (Below w.heap.size w wb) := ⟨below_next (by repeat (first | (with_reducible exact HB.out) | apply below_alloc | apply pw_below_drewN | apply below_drew1)) hb⟩; clear HB; have HB := HBn; clear HBn; clear hb
  go_wp2_with fail
  refine (nums_any A_x c_x l A_y c_y l _ (by (with_reducible repeat (first | apply Kd.C_alloc | apply Kd.C_drewN | apply Kd.C_drew)); exact HC_x.out) hc_x (by (with_reducible repeat (first | apply Kd.C_alloc | apply Kd.C_drewN | apply Kd.C_drew)); exact HC_y.out) hc_y hnl).mono ?_
  rintro e wd ⟨rfl, ⟨ndx, rfl⟩⟩
  rw [show decide (l = l) = true from decide_eq_true rfl]
  go_wp2_with fail
  refine (nums_any A_z c_z m A_t c_t m _ (by (with_reducible repeat (first | apply Kd.C_alloc | apply Kd.C_drewN | apply Kd.C_drew)); exact HC_z.out) hc_z (by (with_reducible repeat (first | apply Kd.C_alloc | apply Kd.C_drewN | apply Kd.C_drew)); exact HC_t.out) hc_t hnm).mono ?_
  rintro e wd ⟨rfl, ⟨ndz, rfl⟩⟩
  rw [show decide (m = m) = true from decide_eq_true rfl]
  go_wp2_with fail
  refine (codeNil _ (HG.out.below (by repeat (first | (with_reducible exact HB.out) | apply below_alloc | apply pw_below_drewN | apply below_drew1)))).mono ?_
  rintro e wb ⟨rfl, hb⟩
  have HBn : Aside0 (Below w.heap.size w wb) := ⟨below_next (by repeat (first | (with_reducible exact HB.out) | apply below_alloc | apply pw_below_drewN | apply below_drew1)) hb⟩; clear HB; have HB := HBn; clear HBn; clear hb
  go_wp2_with fail
  go_ret
  exact ⟨rfl, (by repeat (first | (with_reducible exact HB.out) | apply below_alloc | apply pw_below_drewN | apply below_drew1))⟩
set_option maxHeartbeats 8000000 in
set_option maxRecDepth 100000 in
theorem ww_01 (num kind n : Int) (s : ByteArray) (w : World) (h0 : 0 ≤ n) (h1 : n < 18446744073709551616) (hb1 : s.size ≤ 100000000) (hb2 : s.size ≤ 10000) (hd4 : ¬ (4000 < (s.size : Int))) (hg : Laid w) (l : List Int) (hl : bs s = fixL l) (hlu : u64s l) (hnl : l.length ≤ 140737488355328) (hll : l.length ≤ 1000000) (m : List Int) (pos : Nat → Nat) (hv : VsAt s 0 m pos) (_hnm : m.length ≤ 140737488355328) (he : pos m.length < s.size) (k : Nat) (hk : dec 0 ((bs s).drop (pos m.length)) = .inl k) :
    Calls Tryd.prog 5 #[.int .i64 num, .int .i64 kind, .int .u64 n, .string s] w fun e w' => e = .returned (.bool true) ∧ Below w.heap.size w w' := by
  have HB := Aside0.mk (Below.refl w.heap.size w)
  have HG := Aside0.mk hg
  obtain ⟨v, hv0⟩ : ∃ v : Nat, n = (v : Int) := ⟨n.toNat, by omega⟩
  have W3 := fun w => wfixed_any num v w (by omega)
  have W4 := fun w => rfixed_any num v w
  rw [← hv0] at W3 W4
  have F1 := fun w => wfixeds_l w s l hl hll hlu
  have F2 := fun w => r_to_c (rfixeds_ok s l w hb2 hl hlu)
  have V1 := fun w => pvs_bad s w hb2 m pos hv he k hk
  have V2 := fun w => r_to_nil (rvs_any s w hb2 m pos hv [] (k : Int) (.inr ⟨he, k, hk, rfl⟩))
  clear hg hv0 hv he hl hlu hll hk
  go_enter Tryd.func5, Tryd.ntmps5
  go_wp2_with fail
  refine (wire_first _).mono ?_
  rintro e wb ⟨rfl, hb⟩
  have HBn : Aside0 (Below w.heap.size w wb) := ⟨below_next (by repeat (first | (with_reducible exact HB.out) | apply below_alloc | apply pw_below_drewN | apply below_drew1)) hb⟩; clear HB; have HB := HBn; clear HBn; clear hb
  go_wp2_with fail
  refine (F1 _).mono ?_
  rintro e wb ⟨A_x, c_x, rfl, hC_, hc_x, hb⟩
  have HC_x := Aside0.mk hC_; clear hC_
  have HBn : Aside0 (Below w.heap.size w wb) := ⟨below_next (by repeat (first | (with_reducible exact HB.out) | apply below_alloc | apply pw_below_drewN | apply below_drew1)) hb⟩; clear HB; have HB := HBn; clear HBn; clear hb
  go_wp2_with fail
  refine (F2 _).mono ?_
  rintro e wb ⟨A_y, c_y, rfl, hC_, hc_y, hb⟩
  have Hn_ := Aside0.mk (Kd.C_below (by (with_reducible repeat (first | apply Kd.C_alloc | apply Kd.C_drewN | apply Kd.C_drew)); exact HC_x.out) hb); clear HC_x; have HC_x := Hn_; clear Hn_
  have HC_y := Aside0.mk hC_; clear hC_
  have HBn : Aside0 (Below w.heap.size w wb) := ⟨below_next (by repeat (first | (with_reducible exact HB.out) | apply below_alloc | apply pw_below_drewN | apply below_drew1)) hb⟩; clear HB; have HB := HBn; clear HBn; clear hb
  go_wp2_with fail
  refine (V1 _).mono ?_
  rintro e wb ⟨T2, x2, p2, rfl, hu, hb⟩
  have Hn_ := Aside0.mk (Kd.C_below (by (with_reducible repeat (first | apply Kd.C_alloc | apply Kd.C_drewN | apply Kd.C_drew)); exact HC_x.out) hb); clear HC_x; have HC_x := Hn_; clear Hn_
  have Hn_ := Aside0.mk (Kd.C_below (by (with_reducible repeat (first | apply Kd.C_alloc | apply Kd.C_drewN | apply Kd.C_drew)); exact HC_y.out) hb); clear HC_y; have HC_y := Hn_; clear Hn_
  have HV := Aside0.mk hu; clear hu
  have HBn : Aside0 (Below w.heap.size w wb) := ⟨below_next (by repeat (first | (with_reducible exact HB.out) | apply below_alloc | apply pw_below_drewN | apply below_drew1)) hb⟩; clear HB; have HB := HBn; clear HBn; clear hb
  go_wp2_with fail
  refine (V2 _).mono ?_
  rintro e wb ⟨A_t, c_t, rfl, hb⟩
  have Hn_ := Aside0.mk (Kd.C_below (by (with_reducible repeat (first | apply Kd.C_alloc | apply Kd.C_drewN | apply Kd.C_drew)); exact HC_x.out) hb); clear HC_x; have HC_x := Hn_; clear Hn_
  have Hn_ := Aside0.mk (Kd.C_below (by (with_reducible repeat (first | apply Kd.C_alloc | apply Kd.C_drewN | apply Kd.C_drew)); exact HC_y.out) hb); clear HC_y; have HC_y := Hn_; clear Hn_
  have Hn_ := Aside0.mk ((HV.out.below (by repeat (first | exact Below.refl _ _ | apply below_alloc | apply pw_below_drewN | apply below_drew1))).below hb); clear HV; have HV := Hn_; clear Hn_
  have HBn : Aside0 (Below w.heap.size w wb) := ⟨below_next (by repeat (first | (with_reducible exact HB.out) | apply below_alloc | apply pw_below_drewN | apply below_drew1)) hb⟩; clear HB; have HB := HBn; clear HBn; clear hb
  go_wp2_with fail
  refine (wire_first _).mono ?_
  rintro e wb ⟨rfl, hb⟩
  have Hn_ := Aside0.mk (Kd.C_below (by (with_reducible repeat (first | apply Kd.C_alloc | apply Kd.C_drewN | apply Kd.C_drew)); exact HC_x.out) hb); clear HC_x; have HC_x := Hn_; clear Hn_
  have Hn_ := Aside0.mk (Kd.C_below (by (with_reducible repeat (first | apply Kd.C_alloc | apply Kd.C_drewN | apply Kd.C_drew)); exact HC_y.out) hb); clear HC_y; have HC_y := Hn_; clear Hn_
  have Hn_ := Aside0.mk ((HV.out.below (by repeat (first | exact Below.refl _ _ | apply below_alloc | apply pw_below_drewN | apply below_drew1))).below hb); clear HV; have HV := Hn_; clear Hn_
  have HBn : Aside0 (Below w.heap.size w wb) := ⟨below_next (by repeat (first | (with_reducible exact HB.out) | apply below_alloc | apply pw_below_drewN | apply below_drew1)) hb⟩; clear HB; have HB := HBn; clear HBn; clear hb
  go_wp2_with fail
  refine (tag_any num kind _).mono ?_
  rintro e wb ⟨rfl, hb⟩
  have Hn_ := Aside0.mk (Kd.C_below (by (with_reducible repeat (first | apply Kd.C_alloc | apply Kd.C_drewN | apply Kd.C_drew)); exact HC_x.out) hb); clear HC_x; have HC_x := Hn_; clear Hn_
  have Hn_ := Aside0.mk (Kd.C_below (by (with_reducible repeat (first | apply Kd.C_alloc | apply Kd.C_drewN | apply Kd.C_drew)); exact HC_y.out) hb); clear HC_y; have HC_y := Hn_; clear Hn_
  have Hn_ := Aside0.mk ((HV.out.below (by repeat (first | exact Below.refl _ _ | apply below_alloc | apply pw_below_drewN | apply below_drew1))).below hb); clear HV; have HV := Hn_; clear Hn_
  have HBn : Aside0 (Below w.heap.size w wb) := ⟨below_next (by repeat (first | (with_reducible exact HB.out) | apply below_alloc | apply pw_below_drewN | apply below_drew1)) hb⟩; clear HB; have HB := HBn; clear HBn; clear hb
  go_wp2_with fail
  refine (rtag_any num kind _).mono ?_
  rintro e wb ⟨rfl, hb⟩
  have Hn_ := Aside0.mk (Kd.C_below (by (with_reducible repeat (first | apply Kd.C_alloc | apply Kd.C_drewN | apply Kd.C_drew)); exact HC_x.out) hb); clear HC_x; have HC_x := Hn_; clear Hn_
  have Hn_ := Aside0.mk (Kd.C_below (by (with_reducible repeat (first | apply Kd.C_alloc | apply Kd.C_drewN | apply Kd.C_drew)); exact HC_y.out) hb); clear HC_y; have HC_y := Hn_; clear Hn_
  have Hn_ := Aside0.mk ((HV.out.below (by repeat (first | exact Below.refl _ _ | apply below_alloc | apply pw_below_drewN | apply below_drew1))).below hb); clear HV; have HV := Hn_; clear Hn_
  have HBn : Aside0 (Below w.heap.size w wb) := ⟨below_next (by repeat (first | (with_reducible exact HB.out) | apply below_alloc | apply pw_below_drewN | apply below_drew1)) hb⟩; clear HB; have HB := HBn; clear HBn; clear hb
  go_wp2_with fail
  refine (wvarint_any num n _ h0 h1).mono ?_
  rintro e wb ⟨rfl, hb⟩
  have Hn_ := Aside0.mk (Kd.C_below (by (with_reducible repeat (first | apply Kd.C_alloc | apply Kd.C_drewN | apply Kd.C_drew)); exact HC_x.out) hb); clear HC_x; have HC_x := Hn_; clear Hn_
  have Hn_ := Aside0.mk (Kd.C_below (by (with_reducible repeat (first | apply Kd.C_alloc | apply Kd.C_drewN | apply Kd.C_drew)); exact HC_y.out) hb); clear HC_y; have HC_y := Hn_; clear Hn_
  have Hn_ := Aside0.mk ((HV.out.below (by repeat (first | exact Below.refl _ _ | apply below_alloc | apply pw_below_drewN | apply below_drew1))).below hb); clear HV; have HV := Hn_; clear Hn_
  have HBn : Aside0 (Below w.heap.size w wb) := ⟨below_next (by repeat (first | (with_reducible exact HB.out) | apply below_alloc | apply pw_below_drewN | apply below_drew1)) hb⟩; clear HB; have HB := HBn; clear HBn; clear hb
  go_wp2_with fail
  refine (rnum_any num n _ h0 h1).mono ?_
  rintro e wb ⟨rfl, hb⟩
  have Hn_ := Aside0.mk (Kd.C_below (by (with_reducible repeat (first | apply Kd.C_alloc | apply Kd.C_drewN | apply Kd.C_drew)); exact HC_x.out) hb); clear HC_x; have HC_x := Hn_; clear Hn_
  have Hn_ := Aside0.mk (Kd.C_below (by (with_reducible repeat (first | apply Kd.C_alloc | apply Kd.C_drewN | apply Kd.C_drew)); exact HC_y.out) hb); clear HC_y; have HC_y := Hn_; clear Hn_
  have Hn_ := Aside0.mk ((HV.out.below (by repeat (first | exact Below.refl _ _ | apply below_alloc | apply pw_below_drewN | apply below_drew1))).below hb); clear HV; have HV := Hn_; clear Hn_
  have HBn : Aside0 (Below w.heap.size w wb) := ⟨below_next (by repeat (first | (with_reducible exact HB.out) | apply below_alloc | apply pw_below_drewN | apply below_drew1)) hb⟩; clear HB; have HB := HBn; clear HBn; clear hb
  go_wp2_with fail
  refine (W3 _).mono ?_
  rintro e wb ⟨rfl, hb⟩
  have Hn_ := Aside0.mk (Kd.C_below (by (with_reducible repeat (first | apply Kd.C_alloc | apply Kd.C_drewN | apply Kd.C_drew)); exact HC_x.out) hb); clear HC_x; have HC_x := Hn_; clear Hn_
  have Hn_ := Aside0.mk (Kd.C_below (by (with_reducible repeat (first | apply Kd.C_alloc | apply Kd.C_drewN | apply Kd.C_drew)); exact HC_y.out) hb); clear HC_y; have HC_y := Hn_; clear Hn_
  have Hn_ := Aside0.mk ((HV.out.below (by repeat (first | exact Below.refl _ _ | apply below_alloc | apply pw_below_drewN | apply below_drew1))).below hb); clear HV; have HV := Hn_; clear Hn_
  have HBn : Aside0 (Below w.heap.size w wb) := ⟨below_next (by repeat (first | (with_reducible exact HB.out) | apply below_alloc | apply pw_below_drewN | apply below_drew1)) hb⟩; clear HB; have HB := HBn; clear HBn; clear hb
  go_wp2_with fail
  refine (W4 _).mono ?_
  rintro e wb ⟨rfl, hb⟩
  have Hn_ := Aside0.mk (Kd.C_below (by (with_reducible repeat (first | apply Kd.C_alloc | apply Kd.C_drewN | apply Kd.C_drew)); exact HC_x.out) hb); clear HC_x; have HC_x := Hn_; clear Hn_
  have Hn_ := Aside0.mk (Kd.C_below (by (with_reducible repeat (first | apply Kd.C_alloc | apply Kd.C_drewN | apply Kd.C_drew)); exact HC_y.out) hb); clear HC_y; have HC_y := Hn_; clear Hn_
  have Hn_ := Aside0.mk ((HV.out.below (by repeat (first | exact Below.refl _ _ | apply below_alloc | apply pw_below_drewN | apply below_drew1))).below hb); clear HV; have HV := Hn_; clear Hn_
  have HBn : Aside0 (Below w.heap.size w wb) := ⟨below_next (by repeat (first | (with_reducible exact HB.out) | apply below_alloc | apply pw_below_drewN | apply below_drew1)) hb⟩; clear HB; have HB := HBn; clear HBn; clear hb
  go_wp2_with fail
  refine (wbytes_any num s _ hb1).mono ?_
  rintro e wb ⟨rfl, hb⟩
  have Hn_ := Aside0.mk (Kd.C_below (by (with_reducible repeat (first | apply Kd.C_alloc | apply Kd.C_drewN | apply Kd.C_drew)); exact HC_x.out) hb); clear HC_x; have HC_x := Hn_; clear Hn_
  have Hn_ := Aside0.mk (Kd.C_below (by (with_reducible repeat (first | apply Kd.C_alloc | apply Kd.C_drewN | apply Kd.C_drew)); exact HC_y.out) hb); clear HC_y; have HC_y := Hn_; clear Hn_
  have Hn_ := Aside0.mk ((HV.out.below (by repeat (first | exact Below.refl _ _ | apply below_alloc | apply pw_below_drewN | apply below_drew1))).below hb); clear HV; have HV := Hn_; clear Hn_
  have HBn : Aside0 (Below w.heap.size w wb) := ⟨below_next (by repeat (first | (with_reducible exact HB.out) | apply below_alloc | apply pw_below_drewN | apply below_drew1)) hb⟩; clear HB; have HB := HBn; clear HBn; clear hb
  go_wp2_with fail
  refine (rbytes_any num s _ hb2).mono ?_
  rintro e wb ⟨rfl, hb⟩
  have Hn_ := Aside0.mk (Kd.C_below (by (with_reducible repeat (first | apply Kd.C_alloc | apply Kd.C_drewN | apply Kd.C_drew)); exact HC_x.out) hb); clear HC_x; have HC_x := Hn_; clear Hn_
  have Hn_ := Aside0.mk (Kd.C_below (by (with_reducible repeat (first | apply Kd.C_alloc | apply Kd.C_drewN | apply Kd.C_drew)); exact HC_y.out) hb); clear HC_y; have HC_y := Hn_; clear Hn_
  have Hn_ := Aside0.mk ((HV.out.below (by repeat (first | exact Below.refl _ _ | apply below_alloc | apply pw_below_drewN | apply below_drew1))).below hb); clear HV; have HV := Hn_; clear Hn_
  have HBn : Aside0 (Below w.heap.size w wb) := ⟨below_next (by repeat (first | (with_reducible exact HB.out) | apply below_alloc | apply pw_below_drewN | apply below_drew1)) hb⟩; clear HB; have HB := HBn; clear HBn; clear hb
  go_wp2_with fail
  refine (nums_any A_x c_x l A_y c_y l _ (by (with_reducible repeat (first | apply Kd.C_alloc | apply Kd.C_drewN | apply Kd.C_drew)); exact HC_x.out) hc_x (by (with_reducible repeat (first | apply Kd.C_alloc | apply Kd.C_drewN | apply Kd.C_drew)); exact HC_y.out) hc_y hnl).mono ?_
  rintro e wd ⟨rfl, ⟨ndx, rfl⟩⟩
  rw [show decide (l = l) = true from decide_eq_true rfl]
  go_wp2_with fail
  refine (numsNil A_t c_t _).mono ?_
  rintro e wd ⟨rfl, ⟨ndt, rfl⟩⟩
  go_wp2_with fail
  refine (codeAt p2 (k : Int) T2 x2 _ (HG.out.below (by repeat (first | (with_reducible exact HB.out) | apply below_alloc | apply pw_below_drewN | apply below_drew1))) (HV.out.below (by repeat (first | exact Below.refl _ _ | apply below_alloc | apply pw_below_drewN | apply below_drew1)))).mono ?_
  rintro e wb ⟨rfl, hb⟩
  have HBn : Aside0 (Below w.heap.size w wb) := ⟨below_next (by repeat (first | (with_reducible exact HB.out) | apply below_alloc | apply pw_below_drewN | apply below_drew1)) hb⟩; clear HB; have HB := HBn; clear HBn; clear hb
  go_wp2_with fail
  go_ret
  exact ⟨rfl, (by repeat (first | (with_reducible exact HB.out) | apply below_alloc | apply pw_below_drewN | apply below_drew1))⟩
set_option maxHeartbeats 8000000 in
set_option maxRecDepth 100000 in
theorem ww_10 (num kind n : Int) (s : ByteArray) (w : World) (h0 : 0 ≤ n) (h1 : n < 18446744073709551616) (hb1 : s.size ≤ 100000000) (hb2 : s.size ≤ 10000) (hd4 : ¬ (4000 < (s.size : Int))) (hg : Laid w) (h8 : s.size % 8 ≠ 0) (m : List Int) (pos : Nat → Nat) (hv : VsAt s 0 m pos) (hnm : m.length ≤ 140737488355328) (he : pos m.length = s.size) :
    Calls Tryd.prog 5 #[.int .i64 num, .int .i64 kind, .int .u64 n, .string s] w fun e w' => e = .returned (.bool true) ∧ Below w.heap.size w w' := by
  have HB := Aside0.mk (Below.refl w.heap.size w)
  have HG := Aside0.mk hg
  obtain ⟨v, hv0⟩ : ∃ v : Nat, n = (v : Int) := ⟨n.toNat, by omega⟩
  have W3 := fun w => wfixed_any num v w (by omega)
  have W4 := fun w => rfixed_any num v w
  rw [← hv0] at W3 W4
  have F1 := fun w => pfix_bad s w hb2 h8
  have F2 := fun w => r_to_nil (rfixeds_bad s w h8)
  have V1 := fun w => pvs_ok s w hb2 m pos hv he
  have V2 := fun w => r_to_c (rvs_any s w hb2 m pos hv m 0 (.inl ⟨he, rfl⟩))
  clear hg hv0 hv he h8
  go_enter Tryd.func5, Tryd.ntmps5
  go_wp2_with fail
  refine (wire_first _).mono ?_
  rintro e wb ⟨rfl, hb⟩
  have HBn : Aside0 (Below w.heap.size w wb) := ⟨below_next (by repeat (first | (with_reducible exact HB.out) | apply below_alloc | apply pw_below_drewN | apply below_drew1)) hb⟩; clear HB; have HB := HBn; clear HBn; clear hb
  go_wp2_with fail
  refine (F1 _).mono ?_
  rintro e wb ⟨T1, x1, p1, rfl, hu, hb⟩
  have HU := Aside0.mk hu; clear hu
  have HBn : Aside0 (Below w.heap.size w wb) := ⟨below_next (by repeat (first | (with_reducible exact HB.out) | apply below_alloc | apply pw_below_drewN | apply below_drew1)) hb⟩; clear HB; have HB := HBn; clear HBn; clear hb
  go_wp2_with fail
  refine (F2 _).mono ?_
  rintro e wb ⟨A_y, c_y, rfl, hb⟩
  have Hn_ := Aside0.mk ((HU.out.below (by repeat (first | exact Below.refl _ _ | apply below_alloc | apply pw_below_drewN | apply below_drew1))).below hb); clear HU; have HU := Hn_; clear Hn_
  have HBn : Aside0 (Below w.heap.size w wb) := ⟨below_next (by repeat (first | (with_reducible exact HB.out) | apply below_alloc | apply pw_below_drewN | apply below_drew1)) hb⟩; clear HB; have HB := HBn; clear HBn; clear hb
  go_wp2_with fail
  refine (V1 _).mono ?_
  rintro e wb ⟨A_z, c_z, rfl, hC_, hc_z, hb⟩
  have Hn_ := Aside0.mk ((HU.out.below (by repeat (first | exact Below.refl _ _ | apply below_alloc | apply pw_below_drewN | apply below_drew1))).below hb); clear HU; have HU := Hn_; clear Hn_
  have HC_z := Aside0.mk hC_; clear hC_
  have HBn : Aside0 (Below w.heap.size w wb) := ⟨below_next (by repeat (first | (with_reducible exact HB.out) | apply below_alloc | apply pw_below_drewN | apply below_drew1)) hb⟩; clear HB; have HB := HBn; clear HBn; clear hb
  go_wp2_with fail
  refine (V2 _).mono ?_
  rintro e wb ⟨A_t, c_t, rfl, hC_, hc_t, hb⟩
  have Hn_ := Aside0.mk (Kd.C_below (by (with_reducible repeat (first | apply Kd.C_alloc | apply Kd.C_drewN | apply Kd.C_drew)); exact HC_z.out) hb); clear HC_z; have HC_z := Hn_; clear Hn_
  have Hn_ := Aside0.mk ((HU.out.below (by repeat (first | exact Below.refl _ _ | apply below_alloc | apply pw_below_drewN | apply below_drew1))).below hb); clear HU; have HU := Hn_; clear Hn_
  have HC_t := Aside0.mk hC_; clear hC_
  have HBn : Aside0 (Below w.heap.size w wb) := ⟨below_next (by repeat (first | (with_reducible exact HB.out) | apply below_alloc | apply pw_below_drewN | apply below_drew1)) hb⟩; clear HB; have HB := HBn; clear HBn; clear hb
  go_wp2_with fail
  refine (wire_first _).mono ?_
  rintro e wb ⟨rfl, hb⟩
  have Hn_ := Aside0.mk (Kd.C_below (by (with_reducible repeat (first | apply Kd.C_alloc | apply Kd.C_drewN | apply Kd.C_drew)); exact HC_z.out) hb); clear HC_z; have HC_z := Hn_; clear Hn_
  have Hn_ := Aside0.mk (Kd.C_below (by (with_reducible repeat (first | apply Kd.C_alloc | apply Kd.C_drewN | apply Kd.C_drew)); exact HC_t.out) hb); clear HC_t; have HC_t := Hn_; clear Hn_
  have Hn_ := Aside0.mk ((HU.out.below (by repeat (first | exact Below.refl _ _ | apply below_alloc | apply pw_below_drewN | apply below_drew1))).below hb); clear HU; have HU := Hn_; clear Hn_
  have HBn : Aside0 (Below w.heap.size w wb) := ⟨below_next (by repeat (first | (with_reducible exact HB.out) | apply below_alloc | apply pw_below_drewN | apply below_drew1)) hb⟩; clear HB; have HB := HBn; clear HBn; clear hb
  go_wp2_with fail
  refine (tag_any num kind _).mono ?_
  rintro e wb ⟨rfl, hb⟩
  have Hn_ := Aside0.mk (Kd.C_below (by (with_reducible repeat (first | apply Kd.C_alloc | apply Kd.C_drewN | apply Kd.C_drew)); exact HC_z.out) hb); clear HC_z; have HC_z := Hn_; clear Hn_
  have Hn_ := Aside0.mk (Kd.C_below (by (with_reducible repeat (first | apply Kd.C_alloc | apply Kd.C_drewN | apply Kd.C_drew)); exact HC_t.out) hb); clear HC_t; have HC_t := Hn_; clear Hn_
  have Hn_ := Aside0.mk ((HU.out.below (by repeat (first | exact Below.refl _ _ | apply below_alloc | apply pw_below_drewN | apply below_drew1))).below hb); clear HU; have HU := Hn_; clear Hn_
  have HBn : Aside0 (Below w.heap.size w wb) := ⟨below_next (by repeat (first | (with_reducible exact HB.out) | apply below_alloc | apply pw_below_drewN | apply below_drew1)) hb⟩; clear HB; have HB := HBn; clear HBn; clear hb
  go_wp2_with fail
  refine (rtag_any num kind _).mono ?_
  rintro e wb ⟨rfl, hb⟩
  have Hn_ := Aside0.mk (Kd.C_below (by (with_reducible repeat (first | apply Kd.C_alloc | apply Kd.C_drewN | apply Kd.C_drew)); exact HC_z.out) hb); clear HC_z; have HC_z := Hn_; clear Hn_
  have Hn_ := Aside0.mk (Kd.C_below (by (with_reducible repeat (first | apply Kd.C_alloc | apply Kd.C_drewN | apply Kd.C_drew)); exact HC_t.out) hb); clear HC_t; have HC_t := Hn_; clear Hn_
  have Hn_ := Aside0.mk ((HU.out.below (by repeat (first | exact Below.refl _ _ | apply below_alloc | apply pw_below_drewN | apply below_drew1))).below hb); clear HU; have HU := Hn_; clear Hn_
  have HBn : Aside0 (Below w.heap.size w wb) := ⟨below_next (by repeat (first | (with_reducible exact HB.out) | apply below_alloc | apply pw_below_drewN | apply below_drew1)) hb⟩; clear HB; have HB := HBn; clear HBn; clear hb
  go_wp2_with fail
  refine (wvarint_any num n _ h0 h1).mono ?_
  rintro e wb ⟨rfl, hb⟩
  have Hn_ := Aside0.mk (Kd.C_below (by (with_reducible repeat (first | apply Kd.C_alloc | apply Kd.C_drewN | apply Kd.C_drew)); exact HC_z.out) hb); clear HC_z; have HC_z := Hn_; clear Hn_
  have Hn_ := Aside0.mk (Kd.C_below (by (with_reducible repeat (first | apply Kd.C_alloc | apply Kd.C_drewN | apply Kd.C_drew)); exact HC_t.out) hb); clear HC_t; have HC_t := Hn_; clear Hn_
  have Hn_ := Aside0.mk ((HU.out.below (by repeat (first | exact Below.refl _ _ | apply below_alloc | apply pw_below_drewN | apply below_drew1))).below hb); clear HU; have HU := Hn_; clear Hn_
  have HBn : Aside0 (Below w.heap.size w wb) := ⟨below_next (by repeat (first | (with_reducible exact HB.out) | apply below_alloc | apply pw_below_drewN | apply below_drew1)) hb⟩; clear HB; have HB := HBn; clear HBn; clear hb
  go_wp2_with fail
  refine (rnum_any num n _ h0 h1).mono ?_
  rintro e wb ⟨rfl, hb⟩
  have Hn_ := Aside0.mk (Kd.C_below (by (with_reducible repeat (first | apply Kd.C_alloc | apply Kd.C_drewN | apply Kd.C_drew)); exact HC_z.out) hb); clear HC_z; have HC_z := Hn_; clear Hn_
  have Hn_ := Aside0.mk (Kd.C_below (by (with_reducible repeat (first | apply Kd.C_alloc | apply Kd.C_drewN | apply Kd.C_drew)); exact HC_t.out) hb); clear HC_t; have HC_t := Hn_; clear Hn_
  have Hn_ := Aside0.mk ((HU.out.below (by repeat (first | exact Below.refl _ _ | apply below_alloc | apply pw_below_drewN | apply below_drew1))).below hb); clear HU; have HU := Hn_; clear Hn_
  have HBn : Aside0 (Below w.heap.size w wb) := ⟨below_next (by repeat (first | (with_reducible exact HB.out) | apply below_alloc | apply pw_below_drewN | apply below_drew1)) hb⟩; clear HB; have HB := HBn; clear HBn; clear hb
  go_wp2_with fail
  refine (W3 _).mono ?_
  rintro e wb ⟨rfl, hb⟩
  have Hn_ := Aside0.mk (Kd.C_below (by (with_reducible repeat (first | apply Kd.C_alloc | apply Kd.C_drewN | apply Kd.C_drew)); exact HC_z.out) hb); clear HC_z; have HC_z := Hn_; clear Hn_
  have Hn_ := Aside0.mk (Kd.C_below (by (with_reducible repeat (first | apply Kd.C_alloc | apply Kd.C_drewN | apply Kd.C_drew)); exact HC_t.out) hb); clear HC_t; have HC_t := Hn_; clear Hn_
  have Hn_ := Aside0.mk ((HU.out.below (by repeat (first | exact Below.refl _ _ | apply below_alloc | apply pw_below_drewN | apply below_drew1))).below hb); clear HU; have HU := Hn_; clear Hn_
  have HBn : Aside0 (Below w.heap.size w wb) := ⟨below_next (by repeat (first | (with_reducible exact HB.out) | apply below_alloc | apply pw_below_drewN | apply below_drew1)) hb⟩; clear HB; have HB := HBn; clear HBn; clear hb
  go_wp2_with fail
  refine (W4 _).mono ?_
  rintro e wb ⟨rfl, hb⟩
  have Hn_ := Aside0.mk (Kd.C_below (by (with_reducible repeat (first | apply Kd.C_alloc | apply Kd.C_drewN | apply Kd.C_drew)); exact HC_z.out) hb); clear HC_z; have HC_z := Hn_; clear Hn_
  have Hn_ := Aside0.mk (Kd.C_below (by (with_reducible repeat (first | apply Kd.C_alloc | apply Kd.C_drewN | apply Kd.C_drew)); exact HC_t.out) hb); clear HC_t; have HC_t := Hn_; clear Hn_
  have Hn_ := Aside0.mk ((HU.out.below (by repeat (first | exact Below.refl _ _ | apply below_alloc | apply pw_below_drewN | apply below_drew1))).below hb); clear HU; have HU := Hn_; clear Hn_
  have HBn : Aside0 (Below w.heap.size w wb) := ⟨below_next (by repeat (first | (with_reducible exact HB.out) | apply below_alloc | apply pw_below_drewN | apply below_drew1)) hb⟩; clear HB; have HB := HBn; clear HBn; clear hb
  go_wp2_with fail
  refine (wbytes_any num s _ hb1).mono ?_
  rintro e wb ⟨rfl, hb⟩
  have Hn_ := Aside0.mk (Kd.C_below (by (with_reducible repeat (first | apply Kd.C_alloc | apply Kd.C_drewN | apply Kd.C_drew)); exact HC_z.out) hb); clear HC_z; have HC_z := Hn_; clear Hn_
  have Hn_ := Aside0.mk (Kd.C_below (by (with_reducible repeat (first | apply Kd.C_alloc | apply Kd.C_drewN | apply Kd.C_drew)); exact HC_t.out) hb); clear HC_t; have HC_t := Hn_; clear Hn_
  have Hn_ := Aside0.mk ((HU.out.below (by repeat (first | exact Below.refl _ _ | apply below_alloc | apply pw_below_drewN | apply below_drew1))).below hb); clear HU; have HU := Hn_; clear Hn_
  have HBn : Aside0 (Below w.heap.size w wb) := ⟨below_next (by repeat (first | (with_reducible exact HB.out) | apply below_alloc | apply pw_below_drewN | apply below_drew1)) hb⟩; clear HB; have HB := HBn; clear HBn; clear hb
  go_wp2_with fail
  refine (rbytes_any num s _ hb2).mono ?_
  rintro e wb ⟨rfl, hb⟩
  have Hn_ := Aside0.mk (Kd.C_below (by (with_reducible repeat (first | apply Kd.C_alloc | apply Kd.C_drewN | apply Kd.C_drew)); exact HC_z.out) hb); clear HC_z; have HC_z := Hn_; clear Hn_
  have Hn_ := Aside0.mk (Kd.C_below (by (with_reducible repeat (first | apply Kd.C_alloc | apply Kd.C_drewN | apply Kd.C_drew)); exact HC_t.out) hb); clear HC_t; have HC_t := Hn_; clear Hn_
  have Hn_ := Aside0.mk ((HU.out.below (by repeat (first | exact Below.refl _ _ | apply below_alloc | apply pw_below_drewN | apply below_drew1))).below hb); clear HU; have HU := Hn_; clear Hn_
  have HBn : Aside0 (Below w.heap.size w wb) := ⟨below_next (by repeat (first | (with_reducible exact HB.out) | apply below_alloc | apply pw_below_drewN | apply below_drew1)) hb⟩; clear HB; have HB := HBn; clear HBn; clear hb
  go_wp2_with fail
  refine (numsNil A_y c_y _).mono ?_
  rintro e wd ⟨rfl, ⟨ndy, rfl⟩⟩
  go_wp2_with fail
  refine (codeAt p1 1 T1 x1 _ (HG.out.below (by repeat (first | (with_reducible exact HB.out) | apply below_alloc | apply pw_below_drewN | apply below_drew1))) (HU.out.below (by repeat (first | exact Below.refl _ _ | apply below_alloc | apply pw_below_drewN | apply below_drew1)))).mono ?_
  rintro e wb ⟨rfl, hb⟩
  have Hn_ := Aside0.mk (Kd.C_below (by (with_reducible repeat (first | apply Kd.C_alloc | apply Kd.C_drewN | apply Kd.C_drew)); exact HC_z.out) hb); clear HC_z; have HC_z := Hn_; clear Hn_
  have Hn_ := Aside0.mk (Kd.C_below (by (with_reducible repeat (first | apply Kd.C_alloc | apply Kd.C_drewN | apply Kd.C_drew)); exact HC_t.out) hb); clear HC_t; have HC_t := Hn_; clear Hn_
  have Hn_ := Aside0.mk ((HU.out.below (by repeat (first | exact Below.refl _ _ | apply below_alloc | apply pw_below_drewN | apply below_drew1))).below hb); clear HU; have HU := Hn_; clear Hn_
  have HBn : Aside0 (Below w.heap.size w wb) := ⟨below_next (by repeat (first | (with_reducible exact HB.out) | apply below_alloc | apply pw_below_drewN | apply below_drew1)) hb⟩; clear HB; have HB := HBn; clear HBn; clear hb
  go_wp2_with fail
  refine (nums_any A_z c_z m A_t c_t m _ (by (with_reducible repeat (first | apply Kd.C_alloc | apply Kd.C_drewN | apply Kd.C_drew)); exact HC_z.out) hc_z (by (with_reducible repeat (first | apply Kd.C_alloc | apply Kd.C_drewN | apply Kd.C_drew)); exact HC_t.out) hc_t hnm).mono ?_
  rintro e wd ⟨rfl, ⟨ndz, rfl⟩⟩
  rw [show decide (m = m) = true from decide_eq_true rfl]
  go_wp2_with fail
  refine (codeNil _ (HG.out.below (by repeat (first | (with_reducible exact HB.out) | apply below_alloc | apply pw_below_drewN | apply below_drew1)))).mono ?_
  rintro e wb ⟨rfl, hb⟩
  have HBn : Aside0 (Below w.heap.size w wb) := ⟨below_next (by repeat (first | (with_reducible exact HB.out) | apply below_alloc | apply pw_below_drewN | apply below_drew1)) hb⟩; clear HB; have HB := HBn; clear HBn; clear hb
  go_wp2_with fail
  go_ret
  exact ⟨rfl, (by repeat (first | (with_reducible exact HB.out) | apply below_alloc | apply pw_below_drewN | apply below_drew1))⟩
set_option maxHeartbeats 8000000 in
set_option maxRecDepth 100000 in
theorem ww_11 (num kind n : Int) (s : ByteArray) (w : World) (h0 : 0 ≤ n) (h1 : n < 18446744073709551616) (hb1 : s.size ≤ 100000000) (hb2 : s.size ≤ 10000) (hd4 : ¬ (4000 < (s.size : Int))) (hg : Laid w) (h8 : s.size % 8 ≠ 0) (m : List Int) (pos : Nat → Nat) (hv : VsAt s 0 m pos) (_hnm : m.length ≤ 140737488355328) (he : pos m.length < s.size) (k : Nat) (hk : dec 0 ((bs s).drop (pos m.length)) = .inl k) :
    Calls Tryd.prog 5 #[.int .i64 num, .int .i64 kind, .int .u64 n, .string s] w fun e w' => e = .returned (.bool true) ∧ Below w.heap.size w w' := by
  have HB := Aside0.mk (Below.refl w.heap.size w)
  have HG := Aside0.mk hg
  obtain ⟨v, hv0⟩ : ∃ v : Nat, n = (v : Int) := ⟨n.toNat, by omega⟩
  have W3 := fun w => wfixed_any num v w (by omega)
  have W4 := fun w => rfixed_any num v w
  rw [← hv0] at W3 W4
  have F1 := fun w => pfix_bad s w hb2 h8
  have F2 := fun w => r_to_nil (rfixeds_bad s w h8)
  have V1 := fun w => pvs_bad s w hb2 m pos hv he k hk
  have V2 := fun w => r_to_nil (rvs_any s w hb2 m pos hv [] (k : Int) (.inr ⟨he, k, hk, rfl⟩))
  clear hg hv0 hv he h8 hk
  go_enter Tryd.func5, Tryd.ntmps5
  go_wp2_with fail
  refine (wire_first _).mono ?_
  rintro e wb ⟨rfl, hb⟩
  have HBn : Aside0 (Below w.heap.size w wb) := ⟨below_next (by repeat (first | (with_reducible exact HB.out) | apply below_alloc | apply pw_below_drewN | apply below_drew1)) hb⟩; clear HB; have HB := HBn; clear HBn; clear hb
  go_wp2_with fail
  refine (F1 _).mono ?_
  rintro e wb ⟨T1, x1, p1, rfl, hu, hb⟩
  have HU := Aside0.mk hu; clear hu
  have HBn : Aside0 (Below w.heap.size w wb) := ⟨below_next (by repeat (first | (with_reducible exact HB.out) | apply below_alloc | apply pw_below_drewN | apply below_drew1)) hb⟩; clear HB; have HB := HBn; clear HBn; clear hb
  go_wp2_with fail
  refine (F2 _).mono ?_
  rintro e wb ⟨A_y, c_y, rfl, hb⟩
  have Hn_ := Aside0.mk ((HU.out.below (by repeat (first | exact Below.refl _ _ | apply below_alloc | apply pw_below_drewN | apply below_drew1))).below hb); clear HU; have HU := Hn_; clear Hn_
  have HBn : Aside0 (Below w.heap.size w wb) := ⟨below_next (by repeat (first | (with_reducible exact HB.out) | apply below_alloc | apply pw_below_drewN | apply below_drew1)) hb⟩; clear HB; have HB := HBn; clear HBn; clear hb
  go_wp2_with fail
  refine (V1 _).mono ?_
  rintro e wb ⟨T2, x2, p2, rfl, hu, hb⟩
  have Hn_ := Aside0.mk ((HU.out.below (by repeat (first | exact Below.refl _ _ | apply below_alloc | apply pw_below_drewN | apply below_drew1))).below hb); clear HU; have HU := Hn_; clear Hn_
  have HV := Aside0.mk hu; clear hu
  have HBn : Aside0 (Below w.heap.size w wb) := ⟨below_next (by repeat (first | (with_reducible exact HB.out) | apply below_alloc | apply pw_below_drewN | apply below_drew1)) hb⟩; clear HB; have HB := HBn; clear HBn; clear hb
  go_wp2_with fail
  refine (V2 _).mono ?_
  rintro e wb ⟨A_t, c_t, rfl, hb⟩
  have Hn_ := Aside0.mk ((HU.out.below (by repeat (first | exact Below.refl _ _ | apply below_alloc | apply pw_below_drewN | apply below_drew1))).below hb); clear HU; have HU := Hn_; clear Hn_
  have Hn_ := Aside0.mk ((HV.out.below (by repeat (first | exact Below.refl _ _ | apply below_alloc | apply pw_below_drewN | apply below_drew1))).below hb); clear HV; have HV := Hn_; clear Hn_
  have HBn : Aside0 (Below w.heap.size w wb) := ⟨below_next (by repeat (first | (with_reducible exact HB.out) | apply below_alloc | apply pw_below_drewN | apply below_drew1)) hb⟩; clear HB; have HB := HBn; clear HBn; clear hb
  go_wp2_with fail
  refine (wire_first _).mono ?_
  rintro e wb ⟨rfl, hb⟩
  have Hn_ := Aside0.mk ((HU.out.below (by repeat (first | exact Below.refl _ _ | apply below_alloc | apply pw_below_drewN | apply below_drew1))).below hb); clear HU; have HU := Hn_; clear Hn_
  have Hn_ := Aside0.mk ((HV.out.below (by repeat (first | exact Below.refl _ _ | apply below_alloc | apply pw_below_drewN | apply below_drew1))).below hb); clear HV; have HV := Hn_; clear Hn_
  have HBn : Aside0 (Below w.heap.size w wb) := ⟨below_next (by repeat (first | (with_reducible exact HB.out) | apply below_alloc | apply pw_below_drewN | apply below_drew1)) hb⟩; clear HB; have HB := HBn; clear HBn; clear hb
  go_wp2_with fail
  refine (tag_any num kind _).mono ?_
  rintro e wb ⟨rfl, hb⟩
  have Hn_ := Aside0.mk ((HU.out.below (by repeat (first | exact Below.refl _ _ | apply below_alloc | apply pw_below_drewN | apply below_drew1))).below hb); clear HU; have HU := Hn_; clear Hn_
  have Hn_ := Aside0.mk ((HV.out.below (by repeat (first | exact Below.refl _ _ | apply below_alloc | apply pw_below_drewN | apply below_drew1))).below hb); clear HV; have HV := Hn_; clear Hn_
  have HBn : Aside0 (Below w.heap.size w wb) := ⟨below_next (by repeat (first | (with_reducible exact HB.out) | apply below_alloc | apply pw_below_drewN | apply below_drew1)) hb⟩; clear HB; have HB := HBn; clear HBn; clear hb
  go_wp2_with fail
  refine (rtag_any num kind _).mono ?_
  rintro e wb ⟨rfl, hb⟩
  have Hn_ := Aside0.mk ((HU.out.below (by repeat (first | exact Below.refl _ _ | apply below_alloc | apply pw_below_drewN | apply below_drew1))).below hb); clear HU; have HU := Hn_; clear Hn_
  have Hn_ := Aside0.mk ((HV.out.below (by repeat (first | exact Below.refl _ _ | apply below_alloc | apply pw_below_drewN | apply below_drew1))).below hb); clear HV; have HV := Hn_; clear Hn_
  have HBn : Aside0 (Below w.heap.size w wb) := ⟨below_next (by repeat (first | (with_reducible exact HB.out) | apply below_alloc | apply pw_below_drewN | apply below_drew1)) hb⟩; clear HB; have HB := HBn; clear HBn; clear hb
  go_wp2_with fail
  refine (wvarint_any num n _ h0 h1).mono ?_
  rintro e wb ⟨rfl, hb⟩
  have Hn_ := Aside0.mk ((HU.out.below (by repeat (first | exact Below.refl _ _ | apply below_alloc | apply pw_below_drewN | apply below_drew1))).below hb); clear HU; have HU := Hn_; clear Hn_
  have Hn_ := Aside0.mk ((HV.out.below (by repeat (first | exact Below.refl _ _ | apply below_alloc | apply pw_below_drewN | apply below_drew1))).below hb); clear HV; have HV := Hn_; clear Hn_
  have HBn : Aside0 (Below w.heap.size w wb) := ⟨below_next (by repeat (first | (with_reducible exact HB.out) | apply below_alloc | apply pw_below_drewN | apply below_drew1)) hb⟩; clear HB; have HB := HBn; clear HBn; clear hb
  go_wp2_with fail
  refine (rnum_any num n _ h0 h1).mono ?_
  rintro e wb ⟨rfl, hb⟩
  have Hn_ := Aside0.mk ((HU.out.below (by repeat (first | exact Below.refl _ _ | apply below_alloc | apply pw_below_drewN | apply below_drew1))).below hb); clear HU; have HU := Hn_; clear Hn_
  have Hn_ := Aside0.mk ((HV.out.below (by repeat (first | exact Below.refl _ _ | apply below_alloc | apply pw_below_drewN | apply below_drew1))).below hb); clear HV; have HV := Hn_; clear Hn_
  have HBn : Aside0 (Below w.heap.size w wb) := ⟨below_next (by repeat (first | (with_reducible exact HB.out) | apply below_alloc | apply pw_below_drewN | apply below_drew1)) hb⟩; clear HB; have HB := HBn; clear HBn; clear hb
  go_wp2_with fail
  refine (W3 _).mono ?_
  rintro e wb ⟨rfl, hb⟩
  have Hn_ := Aside0.mk ((HU.out.below (by repeat (first | exact Below.refl _ _ | apply below_alloc | apply pw_below_drewN | apply below_drew1))).below hb); clear HU; have HU := Hn_; clear Hn_
  have Hn_ := Aside0.mk ((HV.out.below (by repeat (first | exact Below.refl _ _ | apply below_alloc | apply pw_below_drewN | apply below_drew1))).below hb); clear HV; have HV := Hn_; clear Hn_
  have HBn : Aside0 (Below w.heap.size w wb) := ⟨below_next (by repeat (first | (with_reducible exact HB.out) | apply below_alloc | apply pw_below_drewN | apply below_drew1)) hb⟩; clear HB; have HB := HBn; clear HBn; clear hb
  go_wp2_with fail
  refine (W4 _).mono ?_
  rintro e wb ⟨rfl, hb⟩
  have Hn_ := Aside0.mk ((HU.out.below (by repeat (first | exact Below.refl _ _ | apply below_alloc | apply pw_below_drewN | apply below_drew1))).below hb); clear HU; have HU := Hn_; clear Hn_
  have Hn_ := Aside0.mk ((HV.out.below (by repeat (first | exact Below.refl _ _ | apply below_alloc | apply pw_below_drewN | apply below_drew1))).below hb); clear HV; have HV := Hn_; clear Hn_
  have HBn : Aside0 (Below w.heap.size w wb) := ⟨below_next (by repeat (first | (with_reducible exact HB.out) | apply below_alloc | apply pw_below_drewN | apply below_drew1)) hb⟩; clear HB; have HB := HBn; clear HBn; clear hb
  go_wp2_with fail
  refine (wbytes_any num s _ hb1).mono ?_
  rintro e wb ⟨rfl, hb⟩
  have Hn_ := Aside0.mk ((HU.out.below (by repeat (first | exact Below.refl _ _ | apply below_alloc | apply pw_below_drewN | apply below_drew1))).below hb); clear HU; have HU := Hn_; clear Hn_
  have Hn_ := Aside0.mk ((HV.out.below (by repeat (first | exact Below.refl _ _ | apply below_alloc | apply pw_below_drewN | apply below_drew1))).below hb); clear HV; have HV := Hn_; clear Hn_
  have HBn : Aside0 (Below w.heap.size w wb) := ⟨below_next (by repeat (first | (with_reducible exact HB.out) | apply below_alloc | apply pw_below_drewN | apply below_drew1)) hb⟩; clear HB; have HB := HBn; clear HBn; clear hb
  go_wp2_with fail
  refine (rbytes_any num s _ hb2).mono ?_
  rintro e wb ⟨rfl, hb⟩
  have Hn_ := Aside0.mk ((HU.out.below (by repeat (first | exact Below.refl _ _ | apply below_alloc | apply pw_below_drewN | apply below_drew1))).below hb); clear HU; have HU := Hn_; clear Hn_
  have Hn_ := Aside0.mk ((HV.out.below (by repeat (first | exact Below.refl _ _ | apply below_alloc | apply pw_below_drewN | apply below_drew1))).below hb); clear HV; have HV := Hn_; clear Hn_
  have HBn : Aside0 (Below w.heap.size w wb) := ⟨below_next (by repeat (first | (with_reducible exact HB.out) | apply below_alloc | apply pw_below_drewN | apply below_drew1)) hb⟩; clear HB; have HB := HBn; clear HBn; clear hb
  go_wp2_with fail
  refine (numsNil A_y c_y _).mono ?_
  rintro e wd ⟨rfl, ⟨ndy, rfl⟩⟩
  go_wp2_with fail
  refine (codeAt p1 1 T1 x1 _ (HG.out.below (by repeat (first | (with_reducible exact HB.out) | apply below_alloc | apply pw_below_drewN | apply below_drew1))) (HU.out.below (by repeat (first | exact Below.refl _ _ | apply below_alloc | apply pw_below_drewN | apply below_drew1)))).mono ?_
  rintro e wb ⟨rfl, hb⟩
  have Hn_ := Aside0.mk ((HU.out.below (by repeat (first | exact Below.refl _ _ | apply below_alloc | apply pw_below_drewN | apply below_drew1))).below hb); clear HU; have HU := Hn_; clear Hn_
  have Hn_ := Aside0.mk ((HV.out.below (by repeat (first | exact Below.refl _ _ | apply below_alloc | apply pw_below_drewN | apply below_drew1))).below hb); clear HV; have HV := Hn_; clear Hn_
  have HBn : Aside0 (Below w.heap.size w wb) := ⟨below_next (by repeat (first | (with_reducible exact HB.out) | apply below_alloc | apply pw_below_drewN | apply below_drew1)) hb⟩; clear HB; have HB := HBn; clear HBn; clear hb
  go_wp2_with fail
  refine (numsNil A_t c_t _).mono ?_
  rintro e wd ⟨rfl, ⟨ndt, rfl⟩⟩
  go_wp2_with fail
  refine (codeAt p2 (k : Int) T2 x2 _ (HG.out.below (by repeat (first | (with_reducible exact HB.out) | apply below_alloc | apply pw_below_drewN | apply below_drew1))) (HV.out.below (by repeat (first | exact Below.refl _ _ | apply below_alloc | apply pw_below_drewN | apply below_drew1)))).mono ?_
  rintro e wb ⟨rfl, hb⟩
  have HBn : Aside0 (Below w.heap.size w wb) := ⟨below_next (by repeat (first | (with_reducible exact HB.out) | apply below_alloc | apply pw_below_drewN | apply below_drew1)) hb⟩; clear HB; have HB := HBn; clear HBn; clear hb
  go_wp2_with fail
  go_ret
  exact ⟨rfl, (by repeat (first | (with_reducible exact HB.out) | apply below_alloc | apply pw_below_drewN | apply below_drew1))⟩

set_option maxHeartbeats 4000000 in
set_option maxRecDepth 100000 in
theorem wireWrites_walk (num kind n : Int) (s : ByteArray) (w : World) (_hn0 : -9223372036854775808 ≤ num) (_hn1 : num < 9223372036854775808) (_hk0 : -9223372036854775808 ≤ kind) (_hk1 : kind < 9223372036854775808) (h0 : 0 ≤ n) (h1 : n < 18446744073709551616) (hs : s.size ≤ 140737488351232) (hg : Laid w) :
    Calls Tryd.prog 5 #[.int .i64 num, .int .i64 kind, .int .u64 n, .string s] w fun e w' => e = .returned (.bool true) ∧ Below w.heap.size w w' := by
  by_cases hd4 : 4000 < (s.size : Int)
  · have HB := Aside0.mk (Below.refl w.heap.size w)
    clear hg
    go_enter Tryd.func5, Tryd.ntmps5
    go_wp2_with (first
      | (go_at_call 6; refine (wire_first _).mono ?_; rintro e wb ⟨rfl, hb⟩; have HBn : Aside0 (Below w.heap.size w wb) := ⟨below_next (by repeat (first | (with_reducible exact HB.out) | apply below_alloc | apply pw_below_drewN | apply below_drew1)) hb⟩; clear HB hb; have HB := HBn; clear HBn))
    go_ret
    exact ⟨rfl, (by repeat (first | (with_reducible exact HB.out) | apply below_alloc | apply pw_below_drewN | apply below_drew1))⟩
  · obtain ⟨m, pos, hv, he⟩ := vs_split s s.size 0 (by omega)
    have hm := hv.le m.length (Nat.le_refl _)
    by_cases h8 : s.size % 8 = 0
    · obtain ⟨l, hl, hll, hlu⟩ := fix_of (s.size / 8) (bs s) (bs_ok s) (by rw [bs_length]; omega)
      rcases he with he | ⟨he, k, hk⟩
      · exact ww_00 num kind n s w h0 h1 (by omega) (by omega) hd4 hg l hl hlu (by omega) (by omega) m pos hv (by omega) he
      · exact ww_01 num kind n s w h0 h1 (by omega) (by omega) hd4 hg l hl hlu (by omega) (by omega) m pos hv (by omega) he k hk
    · rcases he with he | ⟨he, k, hk⟩
      · exact ww_10 num kind n s w h0 h1 (by omega) (by omega) hd4 hg h8 m pos hv (by omega) he
      · exact ww_11 num kind n s w h0 h1 (by omega) (by omega) hd4 hg h8 m pos hv (by omega) he k hk
end Go.Proofs.YtklkiofhenhafaaDoor
