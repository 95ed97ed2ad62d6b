import Derived.Test.YtnghlkbmfhkmoaaGreatDoorMwagxwuio
import Derived.Test.YtnghlkbmfhkmoaaGreatDoorMacxxvkxl
import Derived.Test.YtnghlkbmfhkmoaaGreatDoorMwqwlqksd
namespace Go.Proofs.YtnghlkbmfhkmoaaGreatDoor
open Go.RowKit Go.Proofs.YtnghlkbmfhkmoaaGreatDoorW.PrintWords Go.Proofs.YtnghlkbmfhkmoaaGreatDoorW.PrintLast Go.Proofs.YtnghlkbmfhkmoaaGreatDoorW.PrintMore Hy
open CExw

/-! ### exem.Marshal at the two exemplars of first() -/
set_option maxRecDepth 100000 in
theorem maykeys_none (d : Int) (w : World) : Calls Tryz.prog 29 #[.slice none 0 0, .int .i64 d] w fun e w' => e = .returned (.bool true) ∧ Below w.heap.size w w' := by
  go_enter Tryz.func29, Tryz.ntmps29
  go_wp2_with fail
  go_loopw [9] (fun v9 w' => v9 = .int .i64 0 ∧ Aside0 (Below w.heap.size w w')) (fun _ _ => 0)
  case atStart => exact ⟨rfl, ⟨Below.refl _ _⟩⟩
  case round =>
    obtain ⟨rfl, HB⟩ := hrel
    go_wp2_with fail
    go_ret
    exact ⟨rfl, HB.out⟩
set_option maxRecDepth 100000 in
theorem wall_none (d : Int) (w : World) : Calls Tryz.prog 52 #[.string ⟨#[]⟩, .int .i64 d] w fun e w' => e = .returned (.tuple #[.slice none 0 0, .nilIface]) ∧ Below w.heap.size w w' := by
  go_enter Tryz.func52, Tryz.ntmps52
  go_wp2_with fail
  have HR1 := Aside0.mk (heap_alloc_new w (.cells #[.string ⟨#[]⟩, .int .i64 0, .nilIface, .int .i64 d] 114 (0, 0)))
  have HB1 := Aside0.mk ((Below.refl w.heap.size w).alloc (Nat.le_refl _) (.cells #[.string ⟨#[]⟩, .int .i64 0, .nilIface, .int .i64 d] 114))
  generalize w.alloc (.cells #[.string ⟨#[]⟩, .int .i64 0, .nilIface, .int .i64 d] 114) = W1 at *
  generalize hrr : w.heap.size = r at HR1 ⊢
  clear hrr
  go_loopw [6] (fun v6 w' => v6 = .slice none 0 0 ∧ w' = W1) (fun _ _ => 0)
  case atStart => exact ⟨rfl, rfl⟩
  case round =>
    obtain ⟨rfl, rfl⟩ := hrel
    have c1 : wr.cell? ⟨r, 1, none⟩ = some (.int .i64 0) := by rw [blk_cell HR1.out]; rfl
    go_wp2_with fail
    go_ret2
    exact ⟨rfl, HB1.out⟩
set_option maxRecDepth 100000 in
theorem rest_none (d : Int) (f : Value) (w : World) : Calls Tryz.prog 30 #[.string ⟨#[]⟩, .int .i64 d, f] w fun e w' => e = .returned (.bool true) ∧ Below w.heap.size w w' := by
  have H := Aside0.mk (wall_none d w)
  go_enter Tryz.func30, Tryz.ntmps30
  go_wp2_with (go_at_call 52; with_reducible refine H.out.mono ?_; rintro e w2 ⟨rfl, hb⟩; have HB := Aside0.mk hb; clear hb)
  go_loopw [19] (fun v19 w' => v19 = .int .i64 0 ∧ Aside0 (Below w.heap.size w w')) (fun _ _ => 0)
  case atStart => exact ⟨rfl, HB⟩
  case round =>
    clear HB
    obtain ⟨rfl, HB⟩ := hrel
    go_wp2_with fail
    go_ret
    exact ⟨rfl, HB.out⟩
def exmZ (k n : Int) : Value := .agg #[.slice none 0 0, .int .u64 0, .int .i64 k, .int .u64 n, .string ⟨#[]⟩, .string ⟨#[]⟩, .string ⟨#[]⟩]
set_option maxRecDepth 100000 in
set_option maxHeartbeats 1000000 in
theorem may_at (k n : Int) (r : Bool) (w : World) (h : msg_MayNumber.f k n = some r) : Calls Tryz.prog 11 #[exmZ k n, .int .i64 0] w fun e w' => e = .returned (.bool r) ∧ Below w.heap.size w w' := by
  have A1 := fun w => Calls.mono (msg_MayNumber.calls k n r w h) (R' := fun e w' => e = .returned (.bool r) ∧ Below w.heap.size w w') (by rintro e w' ⟨he, nd, rfl⟩; exact ⟨he, pw_below_drewN (Below.refl _ _) nd⟩)
  have A2 := fun w => maykeys_none (-1) w
  have A3 := fun w => rest_none 0 (.func (.func 31) #[] #[]) w
  have A1 := Aside0.mk A1
  have A2 := Aside0.mk A2
  have A3 := Aside0.mk A3
  clear h
  unfold exmZ
  go_enter Tryz.func11, Tryz.ntmps11
  go_upto_region 1 with fail
  have HX : Aside0 (XEm (w.alloc (.cells #[.slice none 0 0, .int .u64 0, .int .i64 k, .int .u64 n, .string ⟨#[]⟩, .string ⟨#[]⟩, .string ⟨#[]⟩] 25)) w.heap.size ⟨⟨none, 0, 0⟩, 0, k, n, ⟨#[]⟩, ⟨#[]⟩, ⟨#[]⟩⟩) := ⟨⟨heap_alloc_new w _⟩⟩
  have HB : Aside0 (Below w.heap.size w (w.alloc (.cells #[.slice none 0 0, .int .u64 0, .int .i64 k, .int .u64 n, .string ⟨#[]⟩, .string ⟨#[]⟩, .string ⟨#[]⟩] 25))) := ⟨(Below.refl _ _).alloc (Nat.le_refl _) _⟩
  generalize w.alloc (.cells #[.slice none 0 0, .int .u64 0, .int .i64 k, .int .u64 n, .string ⟨#[]⟩, .string ⟨#[]⟩, .string ⟨#[]⟩] 25) = w1 at *
  generalize w.heap.size = g at HX ⊢
  have x0 := HX.out.c0
  have x2 := HX.out.c2
  have x3 := HX.out.c3
  have x6 := HX.out.c6
  cases r
  all_goals
    go_wp2_with (first
      | (go_at_call 28; with_reducible refine (A1.out _).mono ?_; rintro e w2 ⟨rfl, hb2⟩; have n0_ := Aside0.mk (below_next HB.out hb2); have n1_ := Aside0.mk (HX.out.below hb2); clear HB HX hb2 x0 x2 x3 x6; have HB := n0_; have HX := n1_; clear n0_ n1_; have x0 := HX.out.c0; have x2 := HX.out.c2; have x3 := HX.out.c3; have x6 := HX.out.c6)
      | (go_at_call 29; with_reducible refine (A2.out _).mono ?_; rintro e w2 ⟨rfl, hb2⟩; have n0_ := Aside0.mk (below_next HB.out hb2); have n1_ := Aside0.mk (HX.out.below hb2); clear HB HX hb2 x0 x2 x3 x6; have HB := n0_; have HX := n1_; clear n0_ n1_; have x0 := HX.out.c0; have x2 := HX.out.c2; have x3 := HX.out.c3; have x6 := HX.out.c6)
      | (go_at_call 30; with_reducible refine (A3.out _).mono ?_; rintro e w2 ⟨rfl, hb2⟩; have n0_ := Aside0.mk (below_next HB.out hb2); have n1_ := Aside0.mk (HX.out.below hb2); clear HB HX hb2 x0 x2 x3 x6; have HB := n0_; have HX := n1_; clear n0_ n1_; have x0 := HX.out.c0; have x2 := HX.out.c2; have x3 := HX.out.c3; have x6 := HX.out.c6))
    go_ret
    exact ⟨rfl, HB.out⟩
end Go.Proofs.YtnghlkbmfhkmoaaGreatDoor
namespace Go.Proofs.YtnghlkbmfhkmoaaGreatDoor
open Go.RowKit Go.Proofs.YtnghlkbmfhkmoaaGreatDoorW.PrintWords Go.Proofs.YtnghlkbmfhkmoaaGreatDoorW.PrintLast Go.Proofs.YtnghlkbmfhkmoaaGreatDoorW.PrintMore Hy
open CExw

/-! ### exem.Marshal -/
theorem XEm.kept {w w' : World} {g B : Nat} {x : Exm} (h : XEm w g x) (hb : Below B w w') (hg : g < B) : XEm w' g x := ⟨by rw [hb.block g hg]; exact h.blk⟩
theorem recB_size (n k : Int) (s : ByteArray) : (recB n k s).size ≤ s.size + 10 := by
  unfold recB
  split
  · exact Nat.zero_le _
  · rename_i h
    rw [ByteArray.size_append, put_size]
    have := putL_len10 (n * 8 + k).toNat (by omega)
    omega
theorem whenB_size (b : Bool) (s : ByteArray) : (whenB b s).size ≤ s.size := by
  cases b
  · exact Nat.zero_le _
  · exact Nat.le_refl _
/-- An exemplar's bytes, its attributes' being P. -/
def exmB (tm nn : Nat) (kd : Int) (sp tr uk P : ByteArray) : ByteArray := (((((((⟨#[]⟩ ++ whenB (decide (0 < tm)) (recB 2 1 (st (leL 8 tm)))) ++ whenB (kd == 1) (recB 3 1 (st (leL 8 nn)))) ++ whenB (!(sp.toList == [])) (recB 4 2 (put (sp.size : Int) ++ sp))) ++ whenB (!(tr.toList == [])) (recB 5 2 (put (tr.size : Int) ++ tr))) ++ whenB (kd == 2) (recB 6 1 (st (leL 8 nn)))) ++ P) ++ uk)
set_option maxHeartbeats 4000000 in
set_option maxRecDepth 100000 in
theorem marsh_ok (w : World) (at_ : Sl) (tm nn : Nat) (kd d : Int) (sp tr uk P : ByteArray) (htm : tm < 18446744073709551616) (hnn : nn < 18446744073709551616) (hsp : sp.size ≤ 100000000) (htr : tr.size ≤ 100000000) (huk : uk.size ≤ 100000000) (hP : P.size ≤ 1000000000)
    (HM : CB w 11 #[.agg (exmC ⟨at_, (tm : Int), kd, (nn : Int), sp, tr, uk⟩).toArray, .int .i64 d] true)
    (HP : ∀ (b : Nat) (s : ByteArray) (w2 : World), Below w.heap.size w w2 → b ≤ w2.heap.size → w.heap.size ≤ b → s.size ≤ 1000000000 → WB b b s w2 → WAdds 24 b b s P [.int .i64 7, at_.v, .int .i64 d, .func (.func 25) #[] #[]] w2) :
    Calls Tryz.prog 10 #[.agg (exmC ⟨at_, (tm : Int), kd, (nn : Int), sp, tr, uk⟩).toArray, .int .i64 d] w fun e w' => e = .returned (.tuple #[.string (exmB tm nn kd sp tr uk P), .nilIface]) ∧ Below w.heap.size w w' := by
  have z0 : (⟨#[]⟩ : ByteArray).size = 0 := rfl
  obtain ⟨a0, ha0⟩ : ∃ a : ByteArray, a = ⟨#[]⟩ := ⟨_, rfl⟩
  obtain ⟨a1, ha1⟩ : ∃ a : ByteArray, a = (⟨#[]⟩ ++ whenB (decide (0 < tm)) (recB 2 1 (st (leL 8 tm)))) := ⟨_, rfl⟩
  obtain ⟨a2, ha2⟩ : ∃ a : ByteArray, a = ((⟨#[]⟩ ++ whenB (decide (0 < tm)) (recB 2 1 (st (leL 8 tm)))) ++ whenB (kd == 1) (recB 3 1 (st (leL 8 nn)))) := ⟨_, rfl⟩
  obtain ⟨a3, ha3⟩ : ∃ a : ByteArray, a = (((⟨#[]⟩ ++ whenB (decide (0 < tm)) (recB 2 1 (st (leL 8 tm)))) ++ whenB (kd == 1) (recB 3 1 (st (leL 8 nn)))) ++ whenB (!(sp.toList == [])) (recB 4 2 (put (sp.size : Int) ++ sp))) := ⟨_, rfl⟩
  obtain ⟨a4, ha4⟩ : ∃ a : ByteArray, a = ((((⟨#[]⟩ ++ whenB (decide (0 < tm)) (recB 2 1 (st (leL 8 tm)))) ++ whenB (kd == 1) (recB 3 1 (st (leL 8 nn)))) ++ whenB (!(sp.toList == [])) (recB 4 2 (put (sp.size : Int) ++ sp))) ++ whenB (!(tr.toList == [])) (recB 5 2 (put (tr.size : Int) ++ tr))) := ⟨_, rfl⟩
  obtain ⟨a5, ha5⟩ : ∃ a : ByteArray, a = (((((⟨#[]⟩ ++ whenB (decide (0 < tm)) (recB 2 1 (st (leL 8 tm)))) ++ whenB (kd == 1) (recB 3 1 (st (leL 8 nn)))) ++ whenB (!(sp.toList == [])) (recB 4 2 (put (sp.size : Int) ++ sp))) ++ whenB (!(tr.toList == [])) (recB 5 2 (put (tr.size : Int) ++ tr))) ++ whenB (kd == 2) (recB 6 1 (st (leL 8 nn)))) := ⟨_, rfl⟩
  obtain ⟨a6, ha6⟩ : ∃ a : ByteArray, a = ((((((⟨#[]⟩ ++ whenB (decide (0 < tm)) (recB 2 1 (st (leL 8 tm)))) ++ whenB (kd == 1) (recB 3 1 (st (leL 8 nn)))) ++ whenB (!(sp.toList == [])) (recB 4 2 (put (sp.size : Int) ++ sp))) ++ whenB (!(tr.toList == [])) (recB 5 2 (put (tr.size : Int) ++ tr))) ++ whenB (kd == 2) (recB 6 1 (st (leL 8 nn)))) ++ P) := ⟨_, rfl⟩
  have l8 : ∀ n k v, (recB n k (st (leL 8 v))).size ≤ 18 := fun n k v => Nat.le_trans (recB_size _ _ _) (by rw [st_size, leL_length]; decide)
  have lt : ∀ n k (s : ByteArray), s.size ≤ 100000000 → (recB n k (put (s.size : Int) ++ s)).size ≤ s.size + 20 := fun n k s hs => Nat.le_trans (recB_size _ _ _) (by rw [ByteArray.size_append, put_size]; have := putL_len10 (s.size : Int).toNat (by omega); omega)
  have s0 : a0.size ≤ 0 := by rw [ha0]; exact Nat.le_refl _
  have s1 : a1.size ≤ 18 := by rw [ha1, ByteArray.size_append, ← ha0]; have h1 : _ ≤ 18 := l8 2 1 tm; have h2 := whenB_size (decide (0 < tm)) (recB 2 1 (st (leL 8 tm))); omega
  have s2 : a2.size ≤ 36 := by rw [ha2, ByteArray.size_append, ← ha1]; have h1 : _ ≤ 18 := l8 3 1 nn; have h2 := whenB_size (kd == 1) (recB 3 1 (st (leL 8 nn))); omega
  have s3 : a3.size ≤ 100000056 := by rw [ha3, ByteArray.size_append, ← ha2]; have h1 : _ ≤ 100000020 := Nat.le_trans (lt 4 2 sp hsp) (by omega); have h2 := whenB_size (!(sp.toList == [])) (recB 4 2 (put (sp.size : Int) ++ sp)); omega
  have s4 : a4.size ≤ 200000076 := by rw [ha4, ByteArray.size_append, ← ha3]; have h1 : _ ≤ 100000020 := Nat.le_trans (lt 5 2 tr htr) (by omega); have h2 := whenB_size (!(tr.toList == [])) (recB 5 2 (put (tr.size : Int) ++ tr)); omega
  have s5 : a5.size ≤ 200000094 := by rw [ha5, ByteArray.size_append, ← ha4]; have h1 : _ ≤ 18 := l8 6 1 nn; have h2 := whenB_size (kd == 2) (recB 6 1 (st (leL 8 nn))); omega
  have s6 : a6.size ≤ 1200000094 := by rw [ha6, ByteArray.size_append, ← ha5]; omega
  have hE : exmB tm nn kd sp tr uk P = a6 ++ uk := by unfold exmB; rw [ha6]
  rw [hE]
  have E0 := Aside0.mk ha0
  have W0 : Aside0 (∀ (b : Nat) (w2 : World), WB b b a0 w2 → b ≤ w2.heap.size → Calls Tryz.prog 21 #[.pointer (some ⟨b, 0, none⟩), .int .i64 2, .int .u64 (tm : Int)] w2 fun e w' => e = .returned (.tuple #[]) ∧ WB b b a1 w' ∧ Below b w2 w') := ⟨fun b w2 hw hb => by rw [ha1, ← ha0]; exact wfixedw_any b b a0 2 tm htm w2 hw (by have := l8 2 1 tm; omega) hb⟩
  have W1 : Aside0 (∀ (b : Nat) (w2 : World), WB b b a1 w2 → b ≤ w2.heap.size → Calls Tryz.prog 22 #[.pointer (some ⟨b, 0, none⟩), .bool (kd == 1), .int .i64 3, .int .u64 (nn : Int)] w2 fun e w' => e = .returned (.tuple #[]) ∧ WB b b a2 w' ∧ Below b w2 w') := ⟨fun b w2 hw hb => by rw [ha2, ← ha1]; exact weither_any b b a1 (kd == 1) 3 nn hnn w2 hw (by have := l8 3 1 nn; omega) hb⟩
  have W2 : Aside0 (∀ (b : Nat) (w2 : World), WB b b a2 w2 → b ≤ w2.heap.size → Calls Tryz.prog 23 #[.pointer (some ⟨b, 0, none⟩), .int .i64 4, .string sp] w2 fun e w' => e = .returned (.tuple #[]) ∧ WB b b a3 w' ∧ Below b w2 w') := ⟨fun b w2 hw hb => by rw [ha3, ← ha2]; exact wtext_any b b a2 4 sp hsp w2 hw (by have := lt 4 2 sp hsp; omega) hb⟩
  have W3 : Aside0 (∀ (b : Nat) (w2 : World), WB b b a3 w2 → b ≤ w2.heap.size → Calls Tryz.prog 23 #[.pointer (some ⟨b, 0, none⟩), .int .i64 5, .string tr] w2 fun e w' => e = .returned (.tuple #[]) ∧ WB b b a4 w' ∧ Below b w2 w') := ⟨fun b w2 hw hb => by rw [ha4, ← ha3]; exact wtext_any b b a3 5 tr htr w2 hw (by have := lt 5 2 tr htr; omega) hb⟩
  have W4 : Aside0 (∀ (b : Nat) (w2 : World), WB b b a4 w2 → b ≤ w2.heap.size → Calls Tryz.prog 22 #[.pointer (some ⟨b, 0, none⟩), .bool (kd == 2), .int .i64 6, .int .u64 (nn : Int)] w2 fun e w' => e = .returned (.tuple #[]) ∧ WB b b a5 w' ∧ Below b w2 w') := ⟨fun b w2 hw hb => by rw [ha5, ← ha4]; exact weither_any b b a4 (kd == 2) 6 nn hnn w2 hw (by have := l8 6 1 nn; omega) hb⟩
  have W5 : Aside0 (∀ (b : Nat) (w2 : World), Below w.heap.size w w2 → w.heap.size ≤ b → WB b b a5 w2 → b ≤ w2.heap.size → Calls Tryz.prog 24 #[.pointer (some ⟨b, 0, none⟩), .int .i64 7, at_.v, .int .i64 d, .func (.func 25) #[] #[]] w2 fun e w' => e = .returned (.tuple #[]) ∧ WB b b a6 w' ∧ Below b w2 w') := ⟨fun b w2 hB hwb hw hb => by rw [ha6, ← ha5]; exact HP b a5 w2 hB hb hwb (by omega) hw⟩
  have W6 : Aside0 (∀ (b : Nat) (w2 : World), WB b b a6 w2 → b ≤ w2.heap.size → Calls Tryz.prog 26 #[.pointer (some ⟨b, 0, none⟩), .string uk] w2 fun e w' => e = .returned (.tuple #[]) ∧ WB b b (a6 ++ uk) w' ∧ Below b w2 w') := ⟨fun b w2 hw hb => wraw_any b b a6 uk w2 hw (by omega) hb⟩
  unfold CB at HM
  unfold Sl.v at W5
  have HMM := Aside0.mk HM
  clear HM HP ha0 s0 ha1 s1 ha2 s2 ha3 s3 ha4 s4 ha5 s5 ha6 s6 hE l8 lt htm hnn hsp htr huk hP z0
  go_enter Tryz.func10, Tryz.ntmps10
  go_upto_region 1 with (with_reducible refine gate_dst (N := 2) rfl ?_; refine Great.wpList_boxTo rfl 25 _ rfl _ rfl w.heap.size rfl (exmC ⟨at_, (tm : Int), kd, (nn : Int), sp, tr, uk⟩).toArray rfl ?_)
  have HX : Aside0 (XEm (w.alloc (.cells (exmC ⟨at_, (tm : Int), kd, (nn : Int), sp, tr, uk⟩).toArray 25)) w.heap.size ⟨at_, (tm : Int), kd, (nn : Int), sp, tr, uk⟩) := ⟨⟨heap_alloc_new w _⟩⟩
  have HB0 : Aside0 (Below w.heap.size w (w.alloc (.cells (exmC ⟨at_, (tm : Int), kd, (nn : Int), sp, tr, uk⟩).toArray 25))) := ⟨(Below.refl _ _).alloc (Nat.le_refl _) _⟩
  have HG0 : Aside0 (w.heap.size < (w.alloc (.cells (exmC ⟨at_, (tm : Int), kd, (nn : Int), sp, tr, uk⟩).toArray 25)).heap.size) := ⟨by rw [World.size_alloc]; omega⟩
  generalize (w.alloc (.cells (exmC ⟨at_, (tm : Int), kd, (nn : Int), sp, tr, uk⟩).toArray 25)) = w1 at *
  generalize hg : w.heap.size = g at HX HG0 ⊢
  have HGG := Aside0.mk hg
  clear hg
  go_upto_region 3 with (first
    | (refine wpList_load_row rfl 25 _ rfl g rfl 25 (exmC ⟨at_, (tm : Int), kd, (nn : Int), sp, tr, uk⟩).toArray (0, 0) _ HX.out.blk Tryz.underlying25 rfl (by kernel_rfl) ?_)
    | (go_at_call 11; with_reducible refine (HMM.out _ HB0.out).mono ?_; rintro e w2 ⟨rfl, hb2⟩; have n0_ := Aside0.mk (below_next HB0.out hb2); have n1_ := Aside0.mk (HX.out.below hb2); have n2_ := Aside0.mk (Nat.lt_of_lt_of_le HG0.out hb2.size); clear HB0 HX HG0 hb2; have HB0 := n0_; have HX := n1_; have HG0 := n2_; clear n0_ n1_ n2_))
  go_upto_region 4 with fail
  have HB : Aside0 (Below w.heap.size w (w2.alloc (.cells #[.pointer none, .slice none 0 0] 50))) := ⟨HB0.out.alloc HB0.out.size _⟩
  have HX1 : Aside0 (XEm (w2.alloc (.cells #[.pointer none, .slice none 0 0] 50)) g ⟨at_, (tm : Int), kd, (nn : Int), sp, tr, uk⟩) := ⟨HX.out.below ((Below.refl _ _).alloc (Nat.le_refl _) _)⟩
  have HWB : Aside0 (WB w2.heap.size w2.heap.size a0 (w2.alloc (.cells #[.pointer none, .slice none 0 0] 50))) := ⟨by rw [E0.out]; exact WB.new w2⟩
  have HWS : Aside0 (w2.heap.size ≤ (w2.alloc (.cells #[.pointer none, .slice none 0 0] 50)).heap.size) := ⟨by rw [World.size_alloc]; omega⟩
  have HWb : Aside0 (w.heap.size ≤ w2.heap.size) := ⟨HB0.out.size⟩
  clear HX HB0 E0 HMM
  have HX := HX1
  clear HX1
  generalize (w2.alloc (.cells #[.pointer none, .slice none 0 0] 50)) = w3 at *
  generalize w2.heap.size = b at *
  have x0 : w3.cell? ⟨g, 0, none⟩ = some (.slice at_.a at_.len at_.cap) := HX.out.c0
  have x1 : w3.cell? ⟨g, 1, none⟩ = some (.int .u64 (tm : Int)) := HX.out.c1
  have x2 : w3.cell? ⟨g, 2, none⟩ = some (.int .i64 kd) := HX.out.c2
  have x3 : w3.cell? ⟨g, 3, none⟩ = some (.int .u64 (nn : Int)) := HX.out.c3
  have x4 : w3.cell? ⟨g, 4, none⟩ = some (.string sp) := HX.out.c4
  have x5 : w3.cell? ⟨g, 5, none⟩ = some (.string tr) := HX.out.c5
  have x6 : w3.cell? ⟨g, 6, none⟩ = some (.string uk) := HX.out.c6
  go_wp2_with (first
    | (go_at_call 21; with_reducible refine (W0.out b _ HWB.out HWS.out).mono ?_; rintro e wn ⟨rfl, hw2, hb2⟩; have n0_ := Aside0.mk (HB.out.trans (hb2.mono HWb.out)); have n1_ := Aside0.mk (HX.out.kept hb2 HG0.out); have n2_ := Aside0.mk hw2; have n3_ := Aside0.mk (Nat.le_trans HWS.out hb2.size); clear HB HX HWB HWS hb2 hw2 x0 x1 x2 x3 x4 x5 x6; have HB := n0_; have HX := n1_; have HWB := n2_; have HWS := n3_; clear n0_ n1_ n2_ n3_; have x0 : wn.cell? ⟨g, 0, none⟩ = some (.slice at_.a at_.len at_.cap) := HX.out.c0; have x1 : wn.cell? ⟨g, 1, none⟩ = some (.int .u64 (tm : Int)) := HX.out.c1; have x2 : wn.cell? ⟨g, 2, none⟩ = some (.int .i64 kd) := HX.out.c2; have x3 : wn.cell? ⟨g, 3, none⟩ = some (.int .u64 (nn : Int)) := HX.out.c3; have x4 : wn.cell? ⟨g, 4, none⟩ = some (.string sp) := HX.out.c4; have x5 : wn.cell? ⟨g, 5, none⟩ = some (.string tr) := HX.out.c5; have x6 : wn.cell? ⟨g, 6, none⟩ = some (.string uk) := HX.out.c6)
    | (go_at_call 22; with_reducible refine (W1.out b _ HWB.out HWS.out).mono ?_; rintro e wn ⟨rfl, hw2, hb2⟩; have n0_ := Aside0.mk (HB.out.trans (hb2.mono HWb.out)); have n1_ := Aside0.mk (HX.out.kept hb2 HG0.out); have n2_ := Aside0.mk hw2; have n3_ := Aside0.mk (Nat.le_trans HWS.out hb2.size); clear HB HX HWB HWS hb2 hw2 x0 x1 x2 x3 x4 x5 x6; have HB := n0_; have HX := n1_; have HWB := n2_; have HWS := n3_; clear n0_ n1_ n2_ n3_; have x0 : wn.cell? ⟨g, 0, none⟩ = some (.slice at_.a at_.len at_.cap) := HX.out.c0; have x1 : wn.cell? ⟨g, 1, none⟩ = some (.int .u64 (tm : Int)) := HX.out.c1; have x2 : wn.cell? ⟨g, 2, none⟩ = some (.int .i64 kd) := HX.out.c2; have x3 : wn.cell? ⟨g, 3, none⟩ = some (.int .u64 (nn : Int)) := HX.out.c3; have x4 : wn.cell? ⟨g, 4, none⟩ = some (.string sp) := HX.out.c4; have x5 : wn.cell? ⟨g, 5, none⟩ = some (.string tr) := HX.out.c5; have x6 : wn.cell? ⟨g, 6, none⟩ = some (.string uk) := HX.out.c6)
    | (go_at_call 23; with_reducible refine (W2.out b _ HWB.out HWS.out).mono ?_; rintro e wn ⟨rfl, hw2, hb2⟩; have n0_ := Aside0.mk (HB.out.trans (hb2.mono HWb.out)); have n1_ := Aside0.mk (HX.out.kept hb2 HG0.out); have n2_ := Aside0.mk hw2; have n3_ := Aside0.mk (Nat.le_trans HWS.out hb2.size); clear HB HX HWB HWS hb2 hw2 x0 x1 x2 x3 x4 x5 x6; have HB := n0_; have HX := n1_; have HWB := n2_; have HWS := n3_; clear n0_ n1_ n2_ n3_; have x0 : wn.cell? ⟨g, 0, none⟩ = some (.slice at_.a at_.len at_.cap) := HX.out.c0; have x1 : wn.cell? ⟨g, 1, none⟩ = some (.int .u64 (tm : Int)) := HX.out.c1; have x2 : wn.cell? ⟨g, 2, none⟩ = some (.int .i64 kd) := HX.out.c2; have x3 : wn.cell? ⟨g, 3, none⟩ = some (.int .u64 (nn : Int)) := HX.out.c3; have x4 : wn.cell? ⟨g, 4, none⟩ = some (.string sp) := HX.out.c4; have x5 : wn.cell? ⟨g, 5, none⟩ = some (.string tr) := HX.out.c5; have x6 : wn.cell? ⟨g, 6, none⟩ = some (.string uk) := HX.out.c6)
    | (go_at_call 23; with_reducible refine (W3.out b _ HWB.out HWS.out).mono ?_; rintro e wn ⟨rfl, hw2, hb2⟩; have n0_ := Aside0.mk (HB.out.trans (hb2.mono HWb.out)); have n1_ := Aside0.mk (HX.out.kept hb2 HG0.out); have n2_ := Aside0.mk hw2; have n3_ := Aside0.mk (Nat.le_trans HWS.out hb2.size); clear HB HX HWB HWS hb2 hw2 x0 x1 x2 x3 x4 x5 x6; have HB := n0_; have HX := n1_; have HWB := n2_; have HWS := n3_; clear n0_ n1_ n2_ n3_; have x0 : wn.cell? ⟨g, 0, none⟩ = some (.slice at_.a at_.len at_.cap) := HX.out.c0; have x1 : wn.cell? ⟨g, 1, none⟩ = some (.int .u64 (tm : Int)) := HX.out.c1; have x2 : wn.cell? ⟨g, 2, none⟩ = some (.int .i64 kd) := HX.out.c2; have x3 : wn.cell? ⟨g, 3, none⟩ = some (.int .u64 (nn : Int)) := HX.out.c3; have x4 : wn.cell? ⟨g, 4, none⟩ = some (.string sp) := HX.out.c4; have x5 : wn.cell? ⟨g, 5, none⟩ = some (.string tr) := HX.out.c5; have x6 : wn.cell? ⟨g, 6, none⟩ = some (.string uk) := HX.out.c6)
    | (go_at_call 22; with_reducible refine (W4.out b _ HWB.out HWS.out).mono ?_; rintro e wn ⟨rfl, hw2, hb2⟩; have n0_ := Aside0.mk (HB.out.trans (hb2.mono HWb.out)); have n1_ := Aside0.mk (HX.out.kept hb2 HG0.out); have n2_ := Aside0.mk hw2; have n3_ := Aside0.mk (Nat.le_trans HWS.out hb2.size); clear HB HX HWB HWS hb2 hw2 x0 x1 x2 x3 x4 x5 x6; have HB := n0_; have HX := n1_; have HWB := n2_; have HWS := n3_; clear n0_ n1_ n2_ n3_; have x0 : wn.cell? ⟨g, 0, none⟩ = some (.slice at_.a at_.len at_.cap) := HX.out.c0; have x1 : wn.cell? ⟨g, 1, none⟩ = some (.int .u64 (tm : Int)) := HX.out.c1; have x2 : wn.cell? ⟨g, 2, none⟩ = some (.int .i64 kd) := HX.out.c2; have x3 : wn.cell? ⟨g, 3, none⟩ = some (.int .u64 (nn : Int)) := HX.out.c3; have x4 : wn.cell? ⟨g, 4, none⟩ = some (.string sp) := HX.out.c4; have x5 : wn.cell? ⟨g, 5, none⟩ = some (.string tr) := HX.out.c5; have x6 : wn.cell? ⟨g, 6, none⟩ = some (.string uk) := HX.out.c6)
    | (go_at_call 24; with_reducible refine (W5.out b _ HB.out HWb.out HWB.out HWS.out).mono ?_; rintro e wn ⟨rfl, hw2, hb2⟩; have n0_ := Aside0.mk (HB.out.trans (hb2.mono HWb.out)); have n1_ := Aside0.mk (HX.out.kept hb2 HG0.out); have n2_ := Aside0.mk hw2; have n3_ := Aside0.mk (Nat.le_trans HWS.out hb2.size); clear HB HX HWB HWS hb2 hw2 x0 x1 x2 x3 x4 x5 x6; have HB := n0_; have HX := n1_; have HWB := n2_; have HWS := n3_; clear n0_ n1_ n2_ n3_; have x0 : wn.cell? ⟨g, 0, none⟩ = some (.slice at_.a at_.len at_.cap) := HX.out.c0; have x1 : wn.cell? ⟨g, 1, none⟩ = some (.int .u64 (tm : Int)) := HX.out.c1; have x2 : wn.cell? ⟨g, 2, none⟩ = some (.int .i64 kd) := HX.out.c2; have x3 : wn.cell? ⟨g, 3, none⟩ = some (.int .u64 (nn : Int)) := HX.out.c3; have x4 : wn.cell? ⟨g, 4, none⟩ = some (.string sp) := HX.out.c4; have x5 : wn.cell? ⟨g, 5, none⟩ = some (.string tr) := HX.out.c5; have x6 : wn.cell? ⟨g, 6, none⟩ = some (.string uk) := HX.out.c6)
    | (go_at_call 26; with_reducible refine (W6.out b _ HWB.out HWS.out).mono ?_; rintro e wn ⟨rfl, hw2, hb2⟩; have n0_ := Aside0.mk (HB.out.trans (hb2.mono HWb.out)); have n1_ := Aside0.mk (HX.out.kept hb2 HG0.out); have n2_ := Aside0.mk hw2; have n3_ := Aside0.mk (Nat.le_trans HWS.out hb2.size); clear HB HX HWB HWS hb2 hw2 x0 x1 x2 x3 x4 x5 x6; have HB := n0_; have HX := n1_; have HWB := n2_; have HWS := n3_; clear n0_ n1_ n2_ n3_; have x0 : wn.cell? ⟨g, 0, none⟩ = some (.slice at_.a at_.len at_.cap) := HX.out.c0; have x1 : wn.cell? ⟨g, 1, none⟩ = some (.int .u64 (tm : Int)) := HX.out.c1; have x2 : wn.cell? ⟨g, 2, none⟩ = some (.int .i64 kd) := HX.out.c2; have x3 : wn.cell? ⟨g, 3, none⟩ = some (.int .u64 (nn : Int)) := HX.out.c3; have x4 : wn.cell? ⟨g, 4, none⟩ = some (.string sp) := HX.out.c4; have x5 : wn.cell? ⟨g, 5, none⟩ = some (.string tr) := HX.out.c5; have x6 : wn.cell? ⟨g, 6, none⟩ = some (.string uk) := HX.out.c6)
    | (go_at_call 27; with_reducible refine (wstring_any b b _ _ HWB.out HWS.out).mono ?_; rintro e wn ⟨rfl, hb2⟩; have n0_ := Aside0.mk (HB.out.trans (hb2.mono HWb.out)); clear HB hb2; have HB := n0_; clear n0_))
  go_ret2
  exact ⟨rfl, HB.out⟩
set_option maxHeartbeats 1000000 in
set_option maxRecDepth 100000 in
theorem marsh_bad (w : World) (x : Exm) (d : Int) (HM : CB w 11 #[.agg (exmC x).toArray, .int .i64 d] false) : Calls Tryz.prog 10 #[.agg (exmC x).toArray, .int .i64 d] w fun e w' => e = .returned (.tuple #[.string ⟨#[]⟩, .iface 36 (.int .i64 8)]) ∧ Below w.heap.size w w' := by
  unfold CB at HM
  have HMM := Aside0.mk HM
  clear HM
  go_enter Tryz.func10, Tryz.ntmps10
  go_upto_region 1 with (with_reducible refine gate_dst (N := 2) rfl ?_; refine Great.wpList_boxTo rfl 25 _ rfl _ rfl w.heap.size rfl (exmC x).toArray rfl ?_)
  have HX : Aside0 (XEm (w.alloc (.cells (exmC x).toArray 25)) w.heap.size x) := ⟨⟨heap_alloc_new w _⟩⟩
  have HB0 : Aside0 (Below w.heap.size w (w.alloc (.cells (exmC x).toArray 25))) := ⟨(Below.refl _ _).alloc (Nat.le_refl _) _⟩
  generalize (w.alloc (.cells (exmC x).toArray 25)) = w1 at *
  generalize hg : w.heap.size = g at HX ⊢
  have HGG := Aside0.mk hg
  clear hg
  go_wp2_with (first
    | (refine wpList_load_row rfl 25 _ rfl g rfl 25 (exmC x).toArray (0, 0) _ HX.out.blk Tryz.underlying25 rfl (by kernel_rfl) ?_)
    | (go_at_call 11; with_reducible refine (HMM.out _ HB0.out).mono ?_; rintro e w2 ⟨rfl, hb2⟩; have n0_ := Aside0.mk (below_next HB0.out hb2); clear HB0 HX hb2; have HB0 := n0_; clear n0_))
  go_ret2
  exact ⟨rfl, HB0.out⟩
set_option maxRecDepth 100000 in
theorem parts_none (b : Nat) (s : ByteArray) (num d : Int) (f : Value) (w : World) (h : WB b b s w) (_hb : b ≤ w.heap.size) : WAdds 24 b b s ⟨#[]⟩ [.int .i64 num, .slice none 0 0, .int .i64 d, f] w := by
  have HH := Aside0.mk h
  clear h _hb
  unfold WAdds
  show Calls _ _ #[.pointer (some ⟨b, 0, none⟩), .int .i64 num, .slice none 0 0, .int .i64 d, f] _ _
  go_enter Tryz.func24, Tryz.ntmps24
  go_wp2_with fail
  go_loopw [16] (fun v16 w' => v16 = .int .i64 0 ∧ w' = w) (fun _ _ => 0)
  case atStart => exact ⟨rfl, rfl⟩
  case round =>
    obtain ⟨rfl, rfl⟩ := hrel
    go_wp2_with fail
    go_end0
    exact ⟨rfl, by rw [app_none]; exact HH.out, Below.refl _ _⟩

/-! ### first() -/
def e21 : ByteArray := ⟨#[49, 1, 0, 0, 0, 0, 0, 0, 0]⟩
theorem exmB_21 : exmB 0 1 2 ⟨#[]⟩ ⟨#[]⟩ ⟨#[]⟩ ⟨#[]⟩ = e21 := by
  have h2 : (decide (0 < 0)) = false := rfl
  have h3 : ((⟨#[]⟩ : ByteArray).toList == ([] : List UInt8)) = true := by rw [ByteArray.toList_eq]; rfl
  unfold exmB
  rw [h3]
  have h4 : recB 6 1 (st (leL 8 1)) = e21 := by
    unfold recB
    rw [if_neg (by decide)]
    have e0 : put (6 * 8 + 1) = ⟨#[49]⟩ := by
      unfold put
      rw [show (6 * 8 + 1 : Int).toNat = 49 from rfl]
      unfold putL
      rfl
    rw [e0]
    rfl
  rw [h4]
  rfl
theorem marsh_21 (w : World) : Calls Tryz.prog 10 #[exmZ 2 1, .int .i64 0] w fun e w' => e = .returned (.tuple #[.string e21, .nilIface]) ∧ Below w.heap.size w w' := by
  have h := marsh_ok w ⟨none, 0, 0⟩ 0 1 2 0 ⟨#[]⟩ ⟨#[]⟩ ⟨#[]⟩ ⟨#[]⟩ (by decide) (by decide) (by decide) (by decide) (by decide) (by decide) (fun w2 _ => may_at 2 1 true w2 rfl) (fun b s w2 _ hb _ _ hw => parts_none b s 7 0 _ w2 hw hb)
  rw [exmB_21] at h
  exact h
theorem marsh_01 (w : World) : Calls Tryz.prog 10 #[exmZ 0 1, .int .i64 0] w fun e w' => e = .returned (.tuple #[.string ⟨#[]⟩, .iface 36 (.int .i64 8)]) ∧ Below w.heap.size w w' := marsh_bad w ⟨⟨none, 0, 0⟩, 0, 0, 1, ⟨#[]⟩, ⟨#[]⟩, ⟨#[]⟩⟩ 0 (fun w2 _ => may_at 0 1 false w2 rfl)
set_option maxRecDepth 100000 in
theorem exfirst_any (w : World) (hg : Laid w) : Calls Tryz.prog 5 #[] w fun e w' => e = .returned (.bool true) ∧ Below w.heap.size w w' := by
  have HG := Aside0.mk hg
  clear hg
  have M1 := Aside0.mk (marsh_21 w)
  have M2 := Aside0.mk marsh_01
  have HC := Aside0.mk (fun w2 (hb : Below w.heap.size w w2) => code_any (.code 8) (.iface 36 (.int .i64 8)) w2 (HG.out.below hb) rfl)
  have hs : (e21.toList == [49, 1, 0, 0, 0, 0, 0, 0, 0]) = true := by rw [ByteArray.toList_eq]; rfl
  unfold exmZ at M1 M2
  generalize e21 = E at *
  go_enter Tryz.func5, Tryz.ntmps5
  go_wp2_with (first
    | (go_at_call 10; with_reducible refine M1.out.mono ?_; rintro e w2 ⟨rfl, hb⟩; have HB := Aside0.mk hb; clear hb)
    | (go_at_call 10; with_reducible refine (M2.out _).mono ?_; rintro e w3 ⟨rfl, hb⟩; have n0_ := Aside0.mk (below_next HB.out hb); clear HB hb; have HB := n0_; clear n0_)
    | (go_at_call 14; with_reducible refine (HC.out _ HB.out).mono ?_; rintro e w4 ⟨rfl, hb⟩; have n0_ := Aside0.mk (below_next HB.out hb); clear HB hb; have HB := n0_; clear n0_))
  go_ret
  exact ⟨rfl, HB.out⟩
end Go.Proofs.YtnghlkbmfhkmoaaGreatDoor
