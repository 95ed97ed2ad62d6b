import Derived.Test.YtnghlkbmfhkmoaaGreatDoorMkufzdjdj
import Derived.Test.YtnghlkbmfhkmoaaGreatDoorMwkduwoke
import Derived.Test.YtnghlkbmfhkmoaaGreatDoorMlbqecauz
import Derived.Test.YtnghlkbmfhkmoaaGreatDoorMqazhvmzc
import Derived.Test.YtnghlkbmfhkmoaaGreatDoorMbhwgezqr
import Derived.Test.YtnghlkbmfhkmoaaGreatDoorProg
import Derived.Test.YtnghlkbmfhkmoaaGreatDoorMhhfprggg
import Derived.WalkKit
import Derived.Deep.QuietTactic
import Derived.BigQuiet
import Derived.LoopTactic
import Derived.IntWalk
namespace Go.Proofs.YtnghlkbmfhkmoaaGreatDoor
open Go.RowKit Go.Proofs.YtnghlkbmfhkmoaaGreatDoorW.PrintWords Go.Proofs.YtnghlkbmfhkmoaaGreatDoorW.PrintLast Go.Proofs.YtnghlkbmfhkmoaaGreatDoorW.PrintMore Hy
theorem record_bad (s : ByteArray) (hs : s.size ≤ 140737488351232) (W : World) (r a : Nat) (dp : Int) (h : RW W r s a .nilIface dp) (ha : a ≤ s.size) (hd0 : -9223372036854775808 ≤ dp) (hd1 : dp < 9223372036854775808) (hr : recL dp.toNat ((bs s).drop a) = none) :
    Calls Tryz.prog 75 #[.pointer (some ⟨r, 0, none⟩)] W fun e w' => e = .returned (recV 0 0 0 ByteArray.empty ByteArray.empty) ∧ WBad W r s dp w' := by
  cases ht : tagL ((bs s).drop a) with
  | none => exact wrecord_tagbad W r s a dp h ha hs ht
  | some q =>
    obtain ⟨m, t, k1⟩ := q
    obtain ⟨p1, p2, _⟩ := tagL_pos ht
    rw [List.length_drop, bs_length] at p2
    rw [rec_rst ht, List.drop_drop] at hr
    cases hrs : rst dp.toNat m t ((bs s).drop (a + k1)) with
    | some k2 => rw [hrs] at hr; cases hr
    | none =>
      exact wrecord_restbad W r s a dp h ha hs m t k1 ht (fun W' x hW hx hxr => (rest_all s hs (s.size - (a + k1)) W' r x m t (a + k1) a dp hW hx hxr (by omega) ha rfl hd0 hd1).2 hrs)
/-! ### rows of records -/
def recC (x : RecL) : List Value := [.int .i64 (x.num : Int), .int .i64 (x.type : Int), .int .u64 (x.n : Int), .string (st x.s), .string (st x.raw)]
def Rc : Kd RecL := Kd.iso (Kd.raw 5) recC
theorem recC_one (x : RecL) : ∀ u ∈ recC x, u.oneCell' = true := by
  intro u hu
  simp only [recC, List.mem_cons, List.not_mem_nil, or_false] at hu
  rcases hu with rfl | rfl | rfl | rfl | rfl <;> rfl
theorem info_rec : (Tryz.prog.info? 91).map (fun i => (i.zero, i.size, i.bytes)) = some (some (.agg #[.int .i64 0, .int .i64 0, .int .u64 0, .string ⟨#[]⟩, .string ⟨#[]⟩]), 5, 56) := by kernel_rfl
theorem rc_sz : Rc.sz = 5 := rfl
theorem info_rc : (Tryz.prog.info? 91).map (fun i => (i.zero, i.size, i.bytes)) = some (some (.agg #[.int .i64 0, .int .i64 0, .int .u64 0, .string ⟨#[]⟩, .string ⟨#[]⟩]), Rc.sz, 56) := by rw [rc_sz]; exact info_rec
theorem zero_rc : (Value.agg #[.int .i64 0, .int .i64 0, .int .u64 0, .string ⟨#[]⟩, .string ⟨#[]⟩]).cells.size = Rc.sz := by rw [rc_sz]; kernel_rfl
theorem rc_pos : 0 < Rc.sz := by rw [rc_sz]; decide
theorem rc_M (w : World) (base : Nat) (R : RecL) (f0 f1 f2 : Int) (f3 f4 : ByteArray) (h : recC R = [.int .i64 f0, .int .i64 f1, .int .u64 f2, .string f3, .string f4]) : Rc.M w base (fun _ => False) R [.int .i64 f0, .int .i64 f1, .int .u64 f2, .string f3, .string f4] := ⟨h.symm, rfl, by have := recC_one R; rwa [h] at this⟩
def AllOk (s : ByteArray) (dp : Int) (w : World) (e : Ending) (w' : World) : Prop :=
  (∃ L A c, recsL dp.toNat (bs s) = some L ∧ e = .returned (.tuple #[.slice A L.length c, .nilIface]) ∧ Kd.C Rc w' A L.length L ∧ L.length ≤ c ∧ Below w.heap.size w w') ∨
  (recsL dp.toNat (bs s) = none ∧ ∃ T v E, e = .returned (.tuple #[.slice none 0 0, .iface T v]) ∧ IsE w' E (.iface T v) ∧ WE s E ∧ Below w.heap.size w w')
set_option maxHeartbeats 4000000 in
set_option maxRecDepth 100000 in
theorem wall_any (w : World) (s : ByteArray) (dp : Int) (hs : s.size ≤ 100000) (hd0 : -9223372036854775808 ≤ dp) (hd1 : dp < 9223372036854775808) :
    Calls Tryz.prog 52 #[.string s, .int .i64 dp] w (AllOk s dp w) := by
  have HB0 := Aside0.mk (Below.refl w.heap.size w)
  go_enter Tryz.func52, Tryz.ntmps52
  go_wp2_with fail
  have hr1 : RW (w.alloc (.cells #[.string s, .int .i64 0, .nilIface, .int .i64 dp] 114)) w.heap.size s 0 .nilIface dp := heap_alloc_new w _
  have HB1 := Aside0.mk (HB0.out.alloc (Nat.le_refl _) (.cells #[.string s, .int .i64 0, .nilIface, .int .i64 dp] 114))
  have HR1 := Aside0.mk hr1
  clear hr1 HB0
  generalize w.alloc (.cells #[.string s, .int .i64 0, .nilIface, .int .i64 dp] 114) = W1 at *
  generalize hrr : w.heap.size = r at HR1 ⊢
  have HRR := Aside0.mk hrr
  clear hrr
  go_loopg [6] s.size (fun kq v6 w' => ∃ (D : List RecL) (A : Option Addr) (c b : Nat), v6 = .slice A D.length c ∧ b ≤ s.size ∧ kq = s.size - b ∧ D.length ≤ b ∧ Aside0 (RW w' r s b .nilIface dp) ∧ Aside0 (Kd.R Rc 91 w' w.heap.size (fun k => k ≠ r) (.slice A D.length c) D) ∧ Aside0 (Below w.heap.size w w') ∧ Aside0 (recsL dp.toNat (bs s) = (recsL dp.toNat ((bs s).drop b)).map (D ++ ·)))
  case atStart => exact ⟨[], none, 0, 0, rfl, Nat.zero_le _, by omega, Nat.le_refl _, HR1, ⟨Kd.R_nil _ _ _ _ _⟩, HB1, ⟨by rw [List.drop_zero]; cases recsL dp.toNat (bs s) <;> simp⟩⟩
  case round =>
    clear HR1 HB1
    obtain ⟨D, A, c, b, rfl, hb, hkq, hDb, HR, HO, HB, HL⟩ := hrel
    have q1 := HR.out.c1
    have HKQ := Aside0.mk hkq
    clear hkq
    by_cases hlt : b < s.size
    · have d1 : (b : Int) < (s.size : Int) := by omega
      have hne : (bs s).drop b ≠ [] := by
        intro e
        have := congrArg List.length e
        rw [List.length_drop, bs_length] at this
        simp at this
        omega
      cases hrec : recL dp.toNat ((bs s).drop b) with
      | none =>
        have HN := Aside0.mk (show recsL dp.toNat (bs s) = none by rw [HL.out, recsL_step _ _ hne, hrec]; rfl)
        have G := record_bad s (by omega) wr r b dp HR.out hb hd0 hd1 hrec
        clear hrec hne
        go_wp2_with fail
        refine G.mono ?_
        rintro e w2 ⟨rfl, a', T, v, E, ha', hr2, hu2, hE2, hk2⟩
        unfold recV
        have HR2 := Aside0.mk hr2
        have HU2 := Aside0.mk hu2
        have HB2 := Aside0.mk (HB.out.trans (hk2.toBelow HB.out.size (fun k e => by rw [e, HRR.out]; exact Nat.le_refl r)))
        clear hr2 hu2 hk2 G HB HO HR q1
        go_wp2_with (first
          | ((with_reducible refine gate_dst (N := 8) rfl ?_); refine box_event ?hg (N := 8) ?hd (cs := #[.int .i64 0, .int .i64 0, .int .u64 0, .string ⟨#[]⟩, .string ⟨#[]⟩]) (t := 91) ?hr ?_; (case hd => rfl); (case hg => rfl); (case hr => first | (go_simp; done) | (go_simp; rfl)); intro x hx w4 hx4 hb4
             have hx4 : XW w4 x 0 0 0 ByteArray.empty ByteArray.empty := hx4
             have hlt2 := blk_lt HR2.out
             have hxr : x ≠ r := by omega
             have hbx : w.heap.size ≤ x := by have := HB2.out.size; omega
             clear hx
             have HR4 := Aside0.mk (HR2.out.below hb4)
             have hu4 := HU2.out.below hb4
             have HB4 := Aside0.mk (HB2.out.trans (hb4.mono HB2.out.size))
             have z0 := hx4.c0
             have z1 := hx4.c1
             have z2 := hx4.c2
             have z3 := hx4.c3
             have z4 := hx4.c4
             have zf := fun i => hx4.fz i
             have k5 := kp_all w4 x (.int .i64 0) (.int .i64 0) (.int .u64 0) (.string ByteArray.empty) (.string ByteArray.empty)
             have hr5 := HR4.out.kp k5 (fun e => hxr e.symm)
             have HB5 := Aside0.mk (HB4.out.trans (k5.toBelow HB4.out.size (fun k e => by rw [e]; exact hbx)))
             have HU5 := Aside0.mk (hu4.xkp hx4 k5)
             have q2 := hr5.c2
             clear hx4 k5 hr5 hb4 hu4))
        go_quiet (fail)
        go_wp2_with fail
        go_ret2
        exact .inr ⟨HN.out, T, v, E, rfl, HU5.out.below (by apply pw_below_drewN; exact Below.refl _ _), hE2, by rw [HRR.out]; have h := HB5.out; rw [HRR.out] at h; apply pw_below_drewN; exact h⟩
      | some q =>
        obtain ⟨R, k⟩ := q
        obtain ⟨hk1, hk2, _, _⟩ := recL_le hrec
        rw [List.length_drop, bs_length] at hk2
        have HN := Aside0.mk (show recsL dp.toNat (bs s) = (recsL dp.toNat ((bs s).drop (b + k))).map ((D ++ [R]) ++ ·) by
          rw [HL.out, recsL_step _ _ hne, hrec]
          show Option.map _ (match recsL dp.toNat (((bs s).drop b).drop k) with | none => none | some l => some (R :: l)) = _
          rw [List.drop_drop]
          cases recsL dp.toNat ((bs s).drop (b + k)) with
          | none => rfl
          | some l => simp)
        have G := record_ok s (by omega) wr r b k R dp HR.out hb hd0 hd1 hrec
        have hC : recC R = [.int .i64 (R.num : Int), .int .i64 (R.type : Int), .int .u64 (R.n : Int), .string (st R.s), .string (st R.raw)] := rfl
        generalize (R.num : Int) = f0 at *
        generalize (R.type : Int) = f1 at *
        generalize (R.n : Int) = f2 at *
        generalize st R.s = f3 at *
        generalize st R.raw = f4 at *
        have HC := Aside0.mk hC
        clear hrec hne hC
        go_wp2_with fail
        refine G.mono ?_
        rintro e w2 ⟨rfl, hr2, hk2⟩
        unfold recV
        have HR2 := Aside0.mk hr2
        have HB2 := Aside0.mk (HB.out.trans (hk2.toBelow HB.out.size (fun k e => by rw [e, HRR.out]; exact Nat.le_refl r)))
        have HO2 := Aside0.mk (hk2.row HO.out (fun k hk => hk))
        clear hr2 hk2 G HB HO HR q1
        go_wp2_with (first
          | ((with_reducible refine gate_dst (N := 8) rfl ?_); refine box_event ?hg (N := 8) ?hd (cs := #[.int .i64 0, .int .i64 0, .int .u64 0, .string ⟨#[]⟩, .string ⟨#[]⟩]) (t := 91) ?hr ?_; (case hd => rfl); (case hg => rfl); (case hr => first | (go_simp; done) | (go_simp; rfl)); intro x hx w4 hx4 hb4
             have hx4 : XW w4 x 0 0 0 ByteArray.empty ByteArray.empty := hx4
             have hlt2 := blk_lt HR2.out
             have hxr : x ≠ r := by omega
             have hbx : w.heap.size ≤ x := by have := HB2.out.size; omega
             have hxw : w2.heap.size ≤ x := by omega
             clear hx
             have HR4 := Aside0.mk (HR2.out.below hb4)
             have HB4 := Aside0.mk (HB2.out.trans (hb4.mono HB2.out.size))
             have ho4 := Kd.R_below (Kd.R_bound HO2.out) hb4
             have z0 := hx4.c0
             have z1 := hx4.c1
             have z2 := hx4.c2
             have z3 := hx4.c3
             have z4 := hx4.c4
             have zf := fun i => hx4.fz i
             have k5 := kp_all w4 x (.int .i64 f0) (.int .i64 f1) (.int .u64 f2) (.string f3) (.string f4)
             have hr5 := HR4.out.kp k5 (fun e => hxr e.symm)
             have hx5 := hx4.all f0 f1 f2 f3 f4
             have HB5 := Aside0.mk (HB4.out.trans (k5.toBelow HB4.out.size (fun k e => by rw [e]; exact hbx)))
             have HR5 := Aside0.mk hr5
             have HO5 := Aside0.mk (Kd.R_mono (k5.row ho4 (fun k hk e => by have := hk.2.2.1; omega)) (fun k hk => hk.1))
             have hlt5 := blk_lt hr5
             have HRL := Aside0.mk hlt5
             have q2 := hr5.c2
             have HX5 := Aside0.mk hx5
             clear hx4 k5 hr5 hx5 hb4 ho4 hlt5)
          | ((with_reducible refine gate_dst (N := 32) rfl ?_); refine wpList_load_row rfl 91 (.tmp 8) rfl x rfl 91 #[.int .i64 f0, .int .i64 f1, .int .u64 f2, .string f3, .string f4] (0, 0) _ HX5.out Tryz.underlying91 rfl (by kernel_rfl) ?_; generalize ((((w4.setCell ⟨x, 0, none⟩ (.int .i64 f0)).setCell ⟨x, 1, none⟩ (.int .i64 f1)).setCell ⟨x, 2, none⟩ (.int .u64 f2)).setCell ⟨x, 3, none⟩ (.string f3)).setCell ⟨x, 4, none⟩ (.string f4) = w5 at *)
          | ((with_reducible refine gate_builtin (b := .append) (xs := #[.tmp 31, .tmp 33]) rfl ?_); at_builtin; refine Kd.R_append Rc (w0 := w) w.heap.size rfl (.tmp 31) (.tmp 33) 88 91 (.agg #[.int .i64 0, .int .i64 0, .int .u64 0, .string ⟨#[]⟩, .string ⟨#[]⟩]) 56 rfl Tryz.underlying88 info_rc zero_rc rc_pos (by decide) (.slice A D.length c) D R [.int .i64 f0, .int .i64 f1, .int .u64 f2, .string f3, .string f4] (fun k => k ≠ r) (fun _ => False) rfl rfl ?aP (fun _ hk => hk.elim) ?aF ?aO ?aB ?aS ?aL ?_; (case aP => exact rc_M _ _ R _ _ _ _ _ HC.out); (case aB => exact HB5.out); (case aF => exact (fun k hk e => by have := HRL.out; omega)); (case aO => exact HO5.out); (case aS => exact HB5.out.size); (case aL => omega)
             intro va wa ho hb hg hat
             have HB6 := Aside0.mk hb
             have HR6 := Aside0.mk (HR5.out.grown hg HO5.out.1)
             obtain ⟨A', c', hva⟩ := Kd.R_slice ho
             subst hva
             have HO6 := Aside0.mk ho
             clear ho hb hg hat))
        have hlD : (D ++ [R]).length = D.length + 1 := by simp
        go_roundg (s.size - (b + k))
        case measure => have := HKQ.out; omega
        case rel => exact ⟨D ++ [R], A', c', b + k, by rw [hlD], by omega, rfl, by rw [hlD]; omega, HR6, HO6, HB6, HN⟩
    · have hbe : b = s.size := by omega
      have hd : (bs s).drop b = [] := List.drop_of_length_le (by rw [bs_length]; omega)
      have HN := Aside0.mk (show recsL dp.toNat (bs s) = some D by rw [HL.out, hd, recsL_nil]; simp)
      have d1 : ¬ (b : Int) < (s.size : Int) := by omega
      clear hbe hd hlt
      obtain ⟨hC, _, hc⟩ := R_Cw HO.out
      have HC := Aside0.mk hC
      have Hc := Aside0.mk hc
      clear hC hc
      go_wp2_with fail
      go_ret2
      exact .inl ⟨D, A, c, HN.out, rfl, HC.out, Hc.out, by rw [HRR.out]; have := HB.out; rwa [HRR.out] at this⟩
end Go.Proofs.YtnghlkbmfhkmoaaGreatDoor
namespace Go.Proofs.YtnghlkbmfhkmoaaGreatDoor
open Go.RowKit Go.Proofs.YtnghlkbmfhkmoaaGreatDoorW.PrintWords Go.Proofs.YtnghlkbmfhkmoaaGreatDoorW.PrintLast Go.Proofs.YtnghlkbmfhkmoaaGreatDoorW.PrintMore Hy
theorem info_rrec : (Tryz.prog.info? 83).map (fun i => (i.zero, i.size, i.bytes)) = some (some (.agg #[.int .i64 0, .int .i64 0, .int .u64 0, .string ⟨#[]⟩, .string ⟨#[]⟩]), Rc.sz, 56) := by rw [rc_sz]; kernel_rfl
def AllR (s : ByteArray) (dp : Int) (w : World) (e : Ending) (w' : World) : Prop :=
  (∃ L A c, recsL dp.toNat (bs s) = some L ∧ e = .returned (.tuple #[.slice A L.length c, .bool true]) ∧ Kd.C Rc w' A L.length L ∧ L.length ≤ c ∧ Below w.heap.size w w') ∨
  (recsL dp.toNat (bs s) = none ∧ e = .returned (.tuple #[.slice none 0 0, .bool false]) ∧ Below w.heap.size w w')
set_option maxHeartbeats 4000000 in
set_option maxRecDepth 100000 in
theorem rall_any (w : World) (s : ByteArray) (dp : Int) (hs : s.size ≤ 100000) (hd1 : dp < 9223372036854775808) :
    Calls Tryz.prog 67 #[.string s, .int .i64 dp] w (AllR s dp w) := by
  have HB0 := Aside0.mk (Below.refl w.heap.size w)
  have HNN : Aside0 (∀ b, b ≤ s.size → NextAt s b dp) := ⟨fun b hb => rnext_at s hs _ b dp rfl hb hd1⟩
  clear hd1
  go_enter Tryz.func67, Tryz.ntmps67
  go_wp2_with fail
  go_loopg [6, 7] s.size (fun kq v6 v7 w' => ∃ (D : List RecL) (A : Option Addr) (c b : Nat), v6 = .slice A D.length c ∧ v7 = .int .i64 (b : Int) ∧ b ≤ s.size ∧ kq = s.size - b ∧ D.length ≤ b ∧ Aside0 (Kd.R Rc 83 w' w.heap.size (fun _ => True) (.slice A D.length c) D) ∧ Aside0 (Below w.heap.size w w') ∧ Aside0 (recsL dp.toNat (bs s) = (recsL dp.toNat ((bs s).drop b)).map (D ++ ·)))
  case atStart => exact ⟨[], none, 0, 0, rfl, rfl, Nat.zero_le _, by omega, Nat.le_refl _, ⟨Kd.R_nil _ _ _ _ _⟩, HB0, ⟨by rw [List.drop_zero]; cases recsL dp.toNat (bs s) <;> simp⟩⟩
  case round =>
    clear HB0
    obtain ⟨D, A, c, b, rfl, rfl, hb, hkq, hDb, HO, HB, HL⟩ := hrel
    have HKQ := Aside0.mk hkq
    clear hkq
    by_cases hlt : b < s.size
    · have d1 : (b : Int) < (s.size : Int) := by omega
      have hne : (bs s).drop b ≠ [] := by
        intro e
        have := congrArg List.length e
        rw [List.length_drop, bs_length] at this
        simp at this
        omega
      have hN := HNN.out b hb
      cases hrec : recL dp.toNat ((bs s).drop b) with
      | none =>
        have HN := Aside0.mk (show recsL dp.toNat (bs s) = none by rw [HL.out, recsL_step _ _ hne, hrec]; rfl)
        have G := fun W => (hN W).2 hrec
        clear hrec hne hN
        go_wp2_with fail
        refine (G _).mono ?_
        rintro e w2 ⟨rfl, hb2⟩
        unfold recV
        have HB2 := Aside0.mk (below_next HB.out hb2)
        clear hb2 G HB HO
        go_wp2_with (first
          | ((with_reducible refine gate_dst (N := 8) rfl ?_); refine box_event ?hg (N := 8) ?hd (cs := #[.int .i64 0, .int .i64 0, .int .u64 0, .string ⟨#[]⟩, .string ⟨#[]⟩]) (t := 83) ?hr ?_; (case hd => rfl); (case hg => rfl); (case hr => first | (go_simp; done) | (go_simp; rfl)); intro x hx w4 hx4 hb4
             have hx4 : XR w4 x 0 0 0 ByteArray.empty ByteArray.empty := hx4
             have hbx : w.heap.size ≤ x := by have := HB2.out.size; omega
             clear hx
             have HB4 := Aside0.mk (HB2.out.trans (hb4.mono HB2.out.size))
             have z0 := hx4.c0
             have z1 := hx4.c1
             have z2 := hx4.c2
             have z3 := hx4.c3
             have z4 := hx4.c4
             have zf := fun i => hx4.fz i
             have k5 := kp_all w4 x (.int .i64 0) (.int .i64 0) (.int .u64 0) (.string ByteArray.empty) (.string ByteArray.empty)
             have HB5 := Aside0.mk (HB4.out.trans (k5.toBelow HB4.out.size (fun k e => by rw [e]; exact hbx)))
             clear hx4 k5 hb4))
        go_ret2
        exact .inr ⟨HN.out, rfl, HB5.out⟩
      | some q =>
        obtain ⟨R, k⟩ := q
        obtain ⟨hk1, hk2, _, _⟩ := recL_le hrec
        rw [List.length_drop, bs_length] at hk2
        have HN := Aside0.mk (show recsL dp.toNat (bs s) = (recsL dp.toNat ((bs s).drop (b + k))).map ((D ++ [R]) ++ ·) by
          rw [HL.out, recsL_step _ _ hne, hrec]
          show Option.map _ (match recsL dp.toNat (((bs s).drop b).drop k) with | none => none | some l => some (R :: l)) = _
          rw [List.drop_drop]
          cases recsL dp.toNat ((bs s).drop (b + k)) with
          | none => rfl
          | some l => simp)
        have G := fun W => (hN W).1 R k hrec
        have hC : recC R = [.int .i64 (R.num : Int), .int .i64 (R.type : Int), .int .u64 (R.n : Int), .string (st R.s), .string (st R.raw)] := rfl
        generalize (R.num : Int) = f0 at *
        generalize (R.type : Int) = f1 at *
        generalize (R.n : Int) = f2 at *
        generalize st R.s = f3 at *
        generalize st R.raw = f4 at *
        have HC := Aside0.mk hC
        clear hrec hne hC hN
        go_wp2_with fail
        refine (G _).mono ?_
        rintro e w2 ⟨rfl, hb2⟩
        unfold recV
        have HO2 := Aside0.mk (Kd.R_below HO.out (hb2.mono (Nat.le_refl _)))
        have HB2 := Aside0.mk (below_next HB.out hb2)
        clear hb2 G HB HO
        go_wp2_with (first
          | ((with_reducible refine gate_dst (N := 8) rfl ?_); refine box_event ?hg (N := 8) ?hd (cs := #[.int .i64 0, .int .i64 0, .int .u64 0, .string ⟨#[]⟩, .string ⟨#[]⟩]) (t := 83) ?hr ?_; (case hd => rfl); (case hg => rfl); (case hr => first | (go_simp; done) | (go_simp; rfl)); intro x hx w4 hx4 hb4
             have hx4 : XR w4 x 0 0 0 ByteArray.empty ByteArray.empty := hx4
             have hbx : w.heap.size ≤ x := by have := HB2.out.size; omega
             have hxw : w2.heap.size ≤ x := by omega
             clear hx
             have HB4 := Aside0.mk (HB2.out.trans (hb4.mono HB2.out.size))
             have ho4 := Kd.R_below (Kd.R_bound HO2.out) hb4
             have z0 := hx4.c0
             have z1 := hx4.c1
             have z2 := hx4.c2
             have z3 := hx4.c3
             have z4 := hx4.c4
             have zf := fun i => hx4.fz i
             have k5 := kp_all w4 x (.int .i64 f0) (.int .i64 f1) (.int .u64 f2) (.string f3) (.string f4)
             have hx5 := hx4.all f0 f1 f2 f3 f4
             have HB5 := Aside0.mk (HB4.out.trans (k5.toBelow HB4.out.size (fun k e => by rw [e]; exact hbx)))
             have HO5 := Aside0.mk (Kd.R_mono (k5.row ho4 (fun k hk e => by have := hk.2.2.1; omega)) (fun k hk => hk.1))
             have HX5 := Aside0.mk hx5
             clear hx4 k5 hx5 hb4 ho4)
          | ((with_reducible refine gate_dst (N := 26) rfl ?_); refine wpList_load_row rfl 83 (.tmp 8) rfl x rfl 83 #[.int .i64 f0, .int .i64 f1, .int .u64 f2, .string f3, .string f4] (0, 0) _ HX5.out Tryz.underlying83 rfl (by kernel_rfl) ?_; generalize ((((w4.setCell ⟨x, 0, none⟩ (.int .i64 f0)).setCell ⟨x, 1, none⟩ (.int .i64 f1)).setCell ⟨x, 2, none⟩ (.int .u64 f2)).setCell ⟨x, 3, none⟩ (.string f3)).setCell ⟨x, 4, none⟩ (.string f4) = w5 at *)
          | ((with_reducible refine gate_builtin (b := .append) (xs := #[.tmp 25, .tmp 27]) rfl ?_); at_builtin; refine Kd.R_append Rc (w0 := w) w.heap.size rfl (.tmp 25) (.tmp 27) 78 83 (.agg #[.int .i64 0, .int .i64 0, .int .u64 0, .string ⟨#[]⟩, .string ⟨#[]⟩]) 56 rfl Tryz.underlying78 info_rrec zero_rc rc_pos (by decide) (.slice A D.length c) D R [.int .i64 f0, .int .i64 f1, .int .u64 f2, .string f3, .string f4] (fun _ => True) (fun _ => False) rfl rfl ?aP (fun _ hk => hk.elim) ?aF ?aO ?aB ?aS ?aL ?_; (case aP => exact rc_M _ _ R _ _ _ _ _ HC.out); (case aB => exact HB5.out); (case aF => exact (fun _ _ => trivial)); (case aO => exact HO5.out); (case aS => exact HB5.out.size); (case aL => omega)
             intro va wa ho hb hg hat
             have HB6 := Aside0.mk hb
             obtain ⟨A', c', hva⟩ := Kd.R_slice ho
             subst hva
             have HO6 := Aside0.mk ho
             clear ho hb hg hat))
        have hlD : (D ++ [R]).length = D.length + 1 := by simp
        go_roundg (s.size - (b + k))
        case measure => have := HKQ.out; omega
        case rel => exact ⟨D ++ [R], A', c', b + k, by rw [hlD], rfl, by omega, rfl, by rw [hlD]; omega, HO6, HB6, HN⟩
    · have hbe : b = s.size := by omega
      have hd : (bs s).drop b = [] := List.drop_of_length_le (by rw [bs_length]; omega)
      have HN := Aside0.mk (show recsL dp.toNat (bs s) = some D by rw [HL.out, hd, recsL_nil]; simp)
      have d1 : ¬ (b : Int) < (s.size : Int) := by omega
      clear hbe hd hlt
      obtain ⟨hC, _, hc⟩ := R_Cw HO.out
      have HC := Aside0.mk hC
      have Hc := Aside0.mk hc
      clear hC hc
      go_wp2_with fail
      go_ret2
      exact .inl ⟨D, A, c, HN.out, rfl, HC.out, Hc.out, HB.out⟩
end Go.Proofs.YtnghlkbmfhkmoaaGreatDoor
namespace Go.Proofs.YtnghlkbmfhkmoaaGreatDoor
open Go.RowKit Go.Proofs.YtnghlkbmfhkmoaaGreatDoorW.PrintWords Hy
/-! ### the document's own sign -/
def rsV (s : ByteArray) (a : Nat) (w : World) (e : Ending) (w' : World) : Prop := e = .returned (.int .i64 ((sgn ((bs s).drop a) : Nat) : Int)) ∧ w' = w
theorem dr_len (s : ByteArray) (a : Nat) : ((bs s).drop a).length = s.size - a := by rw [List.length_drop, bs_length]
theorem dr_get (s : ByteArray) (a j : Nat) (h : a + j < s.size) : ((bs s).drop a).getD j 0 = s[a + j].toNat := by
  rw [List.getD_eq_getElem?_getD, List.getElem?_drop, ← List.getD_eq_getElem?_getD, ← get_bs s (a + j) h]
/-- What has been looked at. -/
def Seen (s : ByteArray) (a f i : Nat) : Prop := ∀ j, 1 ≤ j → j < i → a + j < s.size ∧ (j = 1 → sec f (((bs s).drop a).getD 1 0) = true) ∧ (2 ≤ j → fol (((bs s).drop a).getD j 0) = true)
theorem Seen.next {s : ByteArray} {a f i : Nat} (h : Seen s a f i) (hl : a + i < s.size) (h1 : i = 1 → sec f (((bs s).drop a).getD 1 0) = true) (h2 : 2 ≤ i → fol (((bs s).drop a).getD i 0) = true) : Seen s a f (i + 1) := by
  intro j hj1 hj2
  rcases Nat.lt_or_ge j i with hji | hji
  · exact h j hj1 hji
  · obtain rfl : j = i := by omega
    exact ⟨hl, h1, h2⟩
theorem fol_iff (c : Nat) : fol c = true ↔ 128 ≤ c ∧ c ≤ 191 := by unfold fol; simp
theorem fol_no (c : Nat) (h : ¬ (128 ≤ c ∧ c ≤ 191)) : fol c = false := by cases hf : fol c with | false => rfl | true => exact absurd ((fol_iff c).1 hf) h
set_option maxHeartbeats 4000000 in
set_option maxRecDepth 100000 in
theorem rsign_a (s : ByteArray) (a c : Nat) (w : World) (_hs : s.size ≤ 100000) (ha : a < s.size) (hc : ((bs s).drop a).getD 0 0 = c) (h : c < 128) :
    Calls Tryz.prog 101 #[.string s, .int .i64 (a : Int)] w (rsV s a w) := by
  have hb0 := dr_get s a 0 (by omega)
  have hbyte : ((s[a].toNat : Nat) : Int) = (c : Int) := by rw [hc] at hb0; simp only [Nat.add_zero] at hb0; rw [← hb0]
  have hlp : 0 < ((bs s).drop a).length := by rw [dr_len]; omega
  have hai : (a : Int) < (s.size : Int) := by omega
  have hz : szc (((bs s).drop a).getD 0 0) = 1 := by rw [hc]; unfold szc; (repeat' split) <;> omega
  have HZ : Aside0 (sgn ((bs s).drop a) = 1) := ⟨by rw [sgn_small _ hlp (by rw [hz]; omega), hz]⟩
  have q0 : (c : Int) < 128 := by omega
  clear hz hb0 hc hlp
  go_enter Tryz.func101, Tryz.ntmps101
  go_wp2_with fail
  go_ret
  exact ⟨by rw [HZ.out]; rfl, rfl⟩
set_option maxHeartbeats 4000000 in
set_option maxRecDepth 100000 in
theorem rsign_b (s : ByteArray) (a c : Nat) (w : World) (_hs : s.size ≤ 100000) (ha : a < s.size) (hc : ((bs s).drop a).getD 0 0 = c) (h : 128 ≤ c) (h' : c < 194) :
    Calls Tryz.prog 101 #[.string s, .int .i64 (a : Int)] w (rsV s a w) := by
  have hb0 := dr_get s a 0 (by omega)
  have hbyte : ((s[a].toNat : Nat) : Int) = (c : Int) := by rw [hc] at hb0; simp only [Nat.add_zero] at hb0; rw [← hb0]
  have hlp : 0 < ((bs s).drop a).length := by rw [dr_len]; omega
  have hai : (a : Int) < (s.size : Int) := by omega
  have hz : szc (((bs s).drop a).getD 0 0) = 0 := by rw [hc]; unfold szc; (repeat' split) <;> omega
  have HZ : Aside0 (sgn ((bs s).drop a) = 0) := ⟨by rw [sgn_small _ hlp (by rw [hz]; omega), hz]⟩
  have q0 : ¬ (c : Int) < 128 := by omega
  have q1 : ¬ (194 : Int) ≤ (c : Int) := by omega
  have q2 : ¬ (224 : Int) ≤ (c : Int) := by omega
  have q3 : ¬ (240 : Int) ≤ (c : Int) := by omega
  clear hz hb0 hc hlp
  go_enter Tryz.func101, Tryz.ntmps101
  go_wp2_with fail
  go_ret
  exact ⟨by rw [HZ.out]; rfl, rfl⟩
set_option maxHeartbeats 4000000 in
set_option maxRecDepth 100000 in
theorem rsign_z (s : ByteArray) (a c : Nat) (w : World) (_hs : s.size ≤ 100000) (ha : a < s.size) (hc : ((bs s).drop a).getD 0 0 = c) (h : 244 < c) :
    Calls Tryz.prog 101 #[.string s, .int .i64 (a : Int)] w (rsV s a w) := by
  have hb0 := dr_get s a 0 (by omega)
  have hbyte : ((s[a].toNat : Nat) : Int) = (c : Int) := by rw [hc] at hb0; simp only [Nat.add_zero] at hb0; rw [← hb0]
  have hlp : 0 < ((bs s).drop a).length := by rw [dr_len]; omega
  have hai : (a : Int) < (s.size : Int) := by omega
  have hz : szc (((bs s).drop a).getD 0 0) = 0 := by rw [hc]; unfold szc; (repeat' split) <;> omega
  have HZ : Aside0 (sgn ((bs s).drop a) = 0) := ⟨by rw [sgn_small _ hlp (by rw [hz]; omega), hz]⟩
  have q0 : ¬ (c : Int) < 128 := by omega
  have q1 : (194 : Int) ≤ (c : Int) := by omega
  have q2 : ¬ (c : Int) ≤ 223 := by omega
  have q3 : (224 : Int) ≤ (c : Int) := by omega
  have q4 : ¬ (c : Int) ≤ 239 := by omega
  have q5 : (240 : Int) ≤ (c : Int) := by omega
  have q6 : ¬ (c : Int) ≤ 244 := by omega
  clear hz hb0 hc hlp
  go_enter Tryz.func101, Tryz.ntmps101
  go_wp2_with fail
  go_ret
  exact ⟨by rw [HZ.out]; rfl, rfl⟩
set_option maxHeartbeats 4000000 in
set_option maxRecDepth 100000 in
theorem rsign_c (s : ByteArray) (a c : Nat) (w : World) (hs : s.size ≤ 100000) (ha : a < s.size) (hc : ((bs s).drop a).getD 0 0 = c) (h : 194 ≤ c) (h' : c ≤ 223) :
    Calls Tryz.prog 101 #[.string s, .int .i64 (a : Int)] w (rsV s a w) := by
  have hb0 := dr_get s a 0 (by omega)
  have hbyte : ((s[a].toNat : Nat) : Int) = (c : Int) := by rw [hc] at hb0; simp only [Nat.add_zero] at hb0; rw [← hb0]
  have hlp : 0 < ((bs s).drop a).length := by rw [dr_len]; omega
  have hai : (a : Int) < (s.size : Int) := by omega
  have hz : szc (((bs s).drop a).getD 0 0) = 2 := by rw [hc]; unfold szc; (repeat' split) <;> omega
  have hsec : ∀ x, sec c x = true ↔ 128 ≤ x ∧ x ≤ 191 := by intro x; unfold sec fol; (repeat' split) <;> (try omega) <;> simp <;> omega
  have hsecN : ∀ x, ¬ (128 ≤ x ∧ x ≤ 191) → sec c x = false := fun x h => by cases hf : sec c x with | false => rfl | true => exact absurd ((hsec x).1 hf) h
  have HZ := Aside0.mk hz
  have HC := Aside0.mk hc
  have HS := Aside0.mk hsec
  have HSN := Aside0.mk hsecN
  have q0 : ¬ (c : Int) < 128 := by omega
  have q1 : (194 : Int) ≤ (c : Int) := by omega
  have q2 : (c : Int) ≤ 223 := by omega
  have n224 : ((c : Int) == 224) = false := by rw [beq_eq_false_iff_ne]; omega
  have n237 : ((c : Int) == 237) = false := by rw [beq_eq_false_iff_ne]; omega
  have n240 : ((c : Int) == 240) = false := by rw [beq_eq_false_iff_ne]; omega
  have n244 : ((c : Int) == 244) = false := by rw [beq_eq_false_iff_ne]; omega
  clear hz hb0 hc hlp hsec hsecN
  go_enter Tryz.func101, Tryz.ntmps101
  go_wp2_with fail
  go_loop [7, 8, 9] (fun v7 v8 v9 => ∃ i : Nat, 1 ≤ i ∧ i ≤ 2 ∧ v9 = .int .i64 (i : Int) ∧ ((i = 1 ∧ v7 = .int .u8 128 ∧ v8 = .int .u8 191) ∨ (2 ≤ i ∧ v7 = .int .u8 128 ∧ v8 = .int .u8 191)) ∧ Aside0 (Seen s a c i)) (fun _ _ v9 => 2 - (intOf v9).toNat)
  case atStart => exact ⟨1, by omega, by omega, rfl, .inl ⟨rfl, rfl, rfl⟩, ⟨fun j h1 h2 => absurd h2 (by omega)⟩⟩
  case round =>
    obtain ⟨i, hi1, hi2, rfl, hv, HE⟩ := hrel
    by_cases hd : i = 2
    · subst hd
      have hf := HE.out
      have HR : Aside0 (sgn ((bs s).drop a) = 2) := ⟨by
        have hl1 := (hf (2 - 1) (by omega) (by omega)).1
        rw [← HZ.out]
        exact sgn_all _ (by rw [HZ.out]; omega) (by rw [HZ.out, dr_len]; omega) (by rw [HC.out]; exact (hf 1 (by omega) (by omega)).2.1 rfl) (fun j h1 h2 => by rw [HZ.out] at h2; exact (hf j (by omega) h2).2.2 h1)⟩
      clear hf
      rcases hv with ⟨h1, rfl, rfl⟩ | ⟨h1, rfl, rfl⟩
      · exact absurd h1 (by omega)
      · clear h1
        go_wp2_with fail
        go_ret
        exact ⟨by rw [HR.out]; rfl, rfl⟩
    · by_cases hl : a + i < s.size
      · have hg := dr_get s a i hl
        obtain ⟨x, hx⟩ : ∃ x, ((bs s).drop a).getD i 0 = x := ⟨_, rfl⟩
        obtain ⟨q, hq⟩ : ∃ q, a + i = q := ⟨_, rfl⟩
        have hql : q < s.size := by omega
        have hxb : ((s[q].toNat : Nat) : Int) = (x : Int) := by subst hq; rw [← hx, hg]
        have hq2 : (a : Int) + (i : Int) = (q : Int) := by omega
        have hqi : (q : Int) < (s.size : Int) := by omega
        have HX := Aside0.mk hx
        have HQ := Aside0.mk hq
        have hil : (i : Int) < 2 := by omega
        clear hg hx hq
        rcases hv with ⟨h1, rfl, rfl⟩ | ⟨h1, rfl, rfl⟩
        · by_cases hlo : x < 128
          · have HR : Aside0 (sgn ((bs s).drop a) = 0) := ⟨sgn_sec _ (by rw [HZ.out]; omega) (by rw [HC.out]; have := HX.out; rw [h1] at this; rw [this]; exact HSN.out x (by omega))⟩
            have g1 : (x : Int) < 128 := by omega
            clear hlo h1
            go_wp2_with fail
            go_ret
            exact ⟨by rw [HR.out]; rfl, rfl⟩
          · by_cases hhi : 191 < x
            · have HR : Aside0 (sgn ((bs s).drop a) = 0) := ⟨sgn_sec _ (by rw [HZ.out]; omega) (by rw [HC.out]; have := HX.out; rw [h1] at this; rw [this]; exact HSN.out x (by omega))⟩
              have g1 : ¬ (x : Int) < 128 := by omega
              have g2 : (191 : Int) < (x : Int) := by omega
              clear hlo hhi h1
              go_wp2_with fail
              go_ret
              exact ⟨by rw [HR.out]; rfl, rfl⟩
            · have HN := Aside0.mk (HE.out.next (by have := HQ.out; omega) (fun _ => by have := HX.out; rw [h1] at this; rw [this]; exact (HS.out x).2 ⟨by omega, by omega⟩) (fun h => absurd h (by omega)))
              have g1 : ¬ (x : Int) < 128 := by omega
              have g2 : ¬ (191 : Int) < (x : Int) := by omega
              have H1 := Aside0.mk h1
              clear hlo hhi h1
              go_wp2_with fail
              go_round
              case rel => exact ⟨i + 1, by omega, by have := H1.out; omega, by go_num, .inr ⟨by omega, rfl, rfl⟩, HN⟩
              case measure => simp [intOf]; omega
        · exact absurd h1 (by omega)
      · have HR : Aside0 (sgn ((bs s).drop a) = 0) := ⟨sgn_short _ (by rw [HZ.out, dr_len]; omega)⟩
        have hil : (i : Int) < 2 := by omega
        have hge : (s.size : Int) ≤ (a : Int) + (i : Int) := by omega
        rcases hv with ⟨h1, rfl, rfl⟩ | ⟨h1, rfl, rfl⟩
        all_goals
          clear h1
          go_wp2_with fail
          go_ret
          exact ⟨by rw [HR.out]; rfl, rfl⟩
set_option maxHeartbeats 4000000 in
set_option maxRecDepth 100000 in
theorem rsign_d (s : ByteArray) (a c : Nat) (w : World) (hs : s.size ≤ 100000) (ha : a < s.size) (hc : ((bs s).drop a).getD 0 0 = c) (h : c = 224) :
    Calls Tryz.prog 101 #[.string s, .int .i64 (a : Int)] w (rsV s a w) := by
  have hb0 := dr_get s a 0 (by omega)
  have hbyte : ((s[a].toNat : Nat) : Int) = (c : Int) := by rw [hc] at hb0; simp only [Nat.add_zero] at hb0; rw [← hb0]
  have hlp : 0 < ((bs s).drop a).length := by rw [dr_len]; omega
  have hai : (a : Int) < (s.size : Int) := by omega
  have hz : szc (((bs s).drop a).getD 0 0) = 3 := by rw [hc]; unfold szc; (repeat' split) <;> omega
  have hsec : ∀ x, sec c x = true ↔ 160 ≤ x ∧ x ≤ 191 := by intro x; unfold sec fol; (repeat' split) <;> (try omega) <;> simp <;> omega
  have hsecN : ∀ x, ¬ (160 ≤ x ∧ x ≤ 191) → sec c x = false := fun x h => by cases hf : sec c x with | false => rfl | true => exact absurd ((hsec x).1 hf) h
  have HZ := Aside0.mk hz
  have HC := Aside0.mk hc
  have HS := Aside0.mk hsec
  have HSN := Aside0.mk hsecN
  have q0 : ¬ (c : Int) < 128 := by omega
  have q1 : (194 : Int) ≤ (c : Int) := by omega
  have q2 : ¬ (c : Int) ≤ 223 := by omega
  have q3 : (224 : Int) ≤ (c : Int) := by omega
  have q4 : (c : Int) ≤ 239 := by omega
  have e224 : ((c : Int) == 224) = true := by rw [beq_iff_eq]; omega
  clear hz hb0 hc hlp hsec hsecN
  go_enter Tryz.func101, Tryz.ntmps101
  go_wp2_with fail
  go_loop [7, 8, 9] (fun v7 v8 v9 => ∃ i : Nat, 1 ≤ i ∧ i ≤ 3 ∧ v9 = .int .i64 (i : Int) ∧ ((i = 1 ∧ v7 = .int .u8 160 ∧ v8 = .int .u8 191) ∨ (2 ≤ i ∧ v7 = .int .u8 128 ∧ v8 = .int .u8 191)) ∧ Aside0 (Seen s a c i)) (fun _ _ v9 => 3 - (intOf v9).toNat)
  case atStart => exact ⟨1, by omega, by omega, rfl, .inl ⟨rfl, rfl, rfl⟩, ⟨fun j h1 h2 => absurd h2 (by omega)⟩⟩
  case round =>
    obtain ⟨i, hi1, hi2, rfl, hv, HE⟩ := hrel
    by_cases hd : i = 3
    · subst hd
      have hf := HE.out
      have HR : Aside0 (sgn ((bs s).drop a) = 3) := ⟨by
        have hl1 := (hf (3 - 1) (by omega) (by omega)).1
        rw [← HZ.out]
        exact sgn_all _ (by rw [HZ.out]; omega) (by rw [HZ.out, dr_len]; omega) (by rw [HC.out]; exact (hf 1 (by omega) (by omega)).2.1 rfl) (fun j h1 h2 => by rw [HZ.out] at h2; exact (hf j (by omega) h2).2.2 h1)⟩
      clear hf
      rcases hv with ⟨h1, rfl, rfl⟩ | ⟨h1, rfl, rfl⟩
      · exact absurd h1 (by omega)
      · clear h1
        go_wp2_with fail
        go_ret
        exact ⟨by rw [HR.out]; rfl, rfl⟩
    · by_cases hl : a + i < s.size
      · have hg := dr_get s a i hl
        obtain ⟨x, hx⟩ : ∃ x, ((bs s).drop a).getD i 0 = x := ⟨_, rfl⟩
        obtain ⟨q, hq⟩ : ∃ q, a + i = q := ⟨_, rfl⟩
        have hql : q < s.size := by omega
        have hxb : ((s[q].toNat : Nat) : Int) = (x : Int) := by subst hq; rw [← hx, hg]
        have hq2 : (a : Int) + (i : Int) = (q : Int) := by omega
        have hqi : (q : Int) < (s.size : Int) := by omega
        have HX := Aside0.mk hx
        have HQ := Aside0.mk hq
        have hil : (i : Int) < 3 := by omega
        clear hg hx hq
        rcases hv with ⟨h1, rfl, rfl⟩ | ⟨h1, rfl, rfl⟩
        · by_cases hlo : x < 160
          · have HR : Aside0 (sgn ((bs s).drop a) = 0) := ⟨sgn_sec _ (by rw [HZ.out]; omega) (by rw [HC.out]; have := HX.out; rw [h1] at this; rw [this]; exact HSN.out x (by omega))⟩
            have g1 : (x : Int) < 160 := by omega
            clear hlo h1
            go_wp2_with fail
            go_ret
            exact ⟨by rw [HR.out]; rfl, rfl⟩
          · by_cases hhi : 191 < x
            · have HR : Aside0 (sgn ((bs s).drop a) = 0) := ⟨sgn_sec _ (by rw [HZ.out]; omega) (by rw [HC.out]; have := HX.out; rw [h1] at this; rw [this]; exact HSN.out x (by omega))⟩
              have g1 : ¬ (x : Int) < 160 := by omega
              have g2 : (191 : Int) < (x : Int) := by omega
              clear hlo hhi h1
              go_wp2_with fail
              go_ret
              exact ⟨by rw [HR.out]; rfl, rfl⟩
            · have HN := Aside0.mk (HE.out.next (by have := HQ.out; omega) (fun _ => by have := HX.out; rw [h1] at this; rw [this]; exact (HS.out x).2 ⟨by omega, by omega⟩) (fun h => absurd h (by omega)))
              have g1 : ¬ (x : Int) < 160 := by omega
              have g2 : ¬ (191 : Int) < (x : Int) := by omega
              have H1 := Aside0.mk h1
              clear hlo hhi h1
              go_wp2_with fail
              go_round
              case rel => exact ⟨i + 1, by omega, by have := H1.out; omega, by go_num, .inr ⟨by omega, rfl, rfl⟩, HN⟩
              case measure => simp [intOf]; omega
        · by_cases hlo : x < 128
          · have HR : Aside0 (sgn ((bs s).drop a) = 0) := ⟨sgn_fol _ i h1 (by rw [HZ.out]; omega) (by rw [HX.out]; exact fol_no x (by omega))⟩
            have g1 : (x : Int) < 128 := by omega
            clear hlo
            go_wp2_with fail
            go_ret
            exact ⟨by rw [HR.out]; rfl, rfl⟩
          · by_cases hhi : 191 < x
            · have HR : Aside0 (sgn ((bs s).drop a) = 0) := ⟨sgn_fol _ i h1 (by rw [HZ.out]; omega) (by rw [HX.out]; exact fol_no x (by omega))⟩
              have g1 : ¬ (x : Int) < 128 := by omega
              have g2 : (191 : Int) < (x : Int) := by omega
              clear hlo hhi
              go_wp2_with fail
              go_ret
              exact ⟨by rw [HR.out]; rfl, rfl⟩
            · have HN := Aside0.mk (HE.out.next (by have := HQ.out; omega) (fun h => absurd h (by omega)) (fun _ => by rw [HX.out]; exact (fol_iff x).2 ⟨by omega, by omega⟩))
              have g1 : ¬ (x : Int) < 128 := by omega
              have g2 : ¬ (191 : Int) < (x : Int) := by omega
              clear hlo hhi
              go_wp2_with fail
              go_round
              case rel => exact ⟨i + 1, by omega, by omega, by go_num, .inr ⟨by omega, rfl, rfl⟩, HN⟩
              case measure => simp [intOf]; omega
      · have HR : Aside0 (sgn ((bs s).drop a) = 0) := ⟨sgn_short _ (by rw [HZ.out, dr_len]; omega)⟩
        have hil : (i : Int) < 3 := by omega
        have hge : (s.size : Int) ≤ (a : Int) + (i : Int) := by omega
        rcases hv with ⟨h1, rfl, rfl⟩ | ⟨h1, rfl, rfl⟩
        all_goals
          clear h1
          go_wp2_with fail
          go_ret
          exact ⟨by rw [HR.out]; rfl, rfl⟩
end Go.Proofs.YtnghlkbmfhkmoaaGreatDoor
namespace Go.Proofs.YtnghlkbmfhkmoaaGreatDoor
open Go.RowKit Go.Proofs.YtnghlkbmfhkmoaaGreatDoorW.PrintWords Hy
set_option maxHeartbeats 4000000 in
set_option maxRecDepth 100000 in
theorem rsign_e (s : ByteArray) (a c : Nat) (w : World) (hs : s.size ≤ 100000) (ha : a < s.size) (hc : ((bs s).drop a).getD 0 0 = c) (h : 224 < c) (h' : c ≤ 239) (h2 : c ≠ 237) :
    Calls Tryz.prog 101 #[.string s, .int .i64 (a : Int)] w (rsV s a w) := by
  have hb0 := dr_get s a 0 (by omega)
  have hbyte : ((s[a].toNat : Nat) : Int) = (c : Int) := by rw [hc] at hb0; simp only [Nat.add_zero] at hb0; rw [← hb0]
  have hlp : 0 < ((bs s).drop a).length := by rw [dr_len]; omega
  have hai : (a : Int) < (s.size : Int) := by omega
  have hz : szc (((bs s).drop a).getD 0 0) = 3 := by rw [hc]; unfold szc; (repeat' split) <;> omega
  have hsec : ∀ x, sec c x = true ↔ 128 ≤ x ∧ x ≤ 191 := by intro x; unfold sec fol; (repeat' split) <;> (try omega) <;> simp <;> omega
  have hsecN : ∀ x, ¬ (128 ≤ x ∧ x ≤ 191) → sec c x = false := fun x h => by cases hf : sec c x with | false => rfl | true => exact absurd ((hsec x).1 hf) h
  have HZ := Aside0.mk hz
  have HC := Aside0.mk hc
  have HS := Aside0.mk hsec
  have HSN := Aside0.mk hsecN
  have q0 : ¬ (c : Int) < 128 := by omega
  have q1 : (194 : Int) ≤ (c : Int) := by omega
  have q2 : ¬ (c : Int) ≤ 223 := by omega
  have q3 : (224 : Int) ≤ (c : Int) := by omega
  have q4 : (c : Int) ≤ 239 := by omega
  have n224 : ((c : Int) == 224) = false := by rw [beq_eq_false_iff_ne]; omega
  have n237 : ((c : Int) == 237) = false := by rw [beq_eq_false_iff_ne]; omega
  have n240 : ((c : Int) == 240) = false := by rw [beq_eq_false_iff_ne]; omega
  have n244 : ((c : Int) == 244) = false := by rw [beq_eq_false_iff_ne]; omega
  clear hz hb0 hc hlp hsec hsecN
  go_enter Tryz.func101, Tryz.ntmps101
  go_wp2_with fail
  go_loop [7, 8, 9] (fun v7 v8 v9 => ∃ i : Nat, 1 ≤ i ∧ i ≤ 3 ∧ v9 = .int .i64 (i : Int) ∧ ((i = 1 ∧ v7 = .int .u8 128 ∧ v8 = .int .u8 191) ∨ (2 ≤ i ∧ v7 = .int .u8 128 ∧ v8 = .int .u8 191)) ∧ Aside0 (Seen s a c i)) (fun _ _ v9 => 3 - (intOf v9).toNat)
  case atStart => exact ⟨1, by omega, by omega, rfl, .inl ⟨rfl, rfl, rfl⟩, ⟨fun j h1 h2 => absurd h2 (by omega)⟩⟩
  case round =>
    obtain ⟨i, hi1, hi2, rfl, hv, HE⟩ := hrel
    by_cases hd : i = 3
    · subst hd
      have hf := HE.out
      have HR : Aside0 (sgn ((bs s).drop a) = 3) := ⟨by
        have hl1 := (hf (3 - 1) (by omega) (by omega)).1
        rw [← HZ.out]
        exact sgn_all _ (by rw [HZ.out]; omega) (by rw [HZ.out, dr_len]; omega) (by rw [HC.out]; exact (hf 1 (by omega) (by omega)).2.1 rfl) (fun j h1 h2 => by rw [HZ.out] at h2; exact (hf j (by omega) h2).2.2 h1)⟩
      clear hf
      rcases hv with ⟨h1, rfl, rfl⟩ | ⟨h1, rfl, rfl⟩
      · exact absurd h1 (by omega)
      · clear h1
        go_wp2_with fail
        go_ret
        exact ⟨by rw [HR.out]; rfl, rfl⟩
    · by_cases hl : a + i < s.size
      · have hg := dr_get s a i hl
        obtain ⟨x, hx⟩ : ∃ x, ((bs s).drop a).getD i 0 = x := ⟨_, rfl⟩
        obtain ⟨q, hq⟩ : ∃ q, a + i = q := ⟨_, rfl⟩
        have hql : q < s.size := by omega
        have hxb : ((s[q].toNat : Nat) : Int) = (x : Int) := by subst hq; rw [← hx, hg]
        have hq2 : (a : Int) + (i : Int) = (q : Int) := by omega
        have hqi : (q : Int) < (s.size : Int) := by omega
        have HX := Aside0.mk hx
        have HQ := Aside0.mk hq
        have hil : (i : Int) < 3 := by omega
        clear hg hx hq
        rcases hv with ⟨h1, rfl, rfl⟩ | ⟨h1, rfl, rfl⟩
        · by_cases hlo : x < 128
          · have HR : Aside0 (sgn ((bs s).drop a) = 0) := ⟨sgn_sec _ (by rw [HZ.out]; omega) (by rw [HC.out]; have := HX.out; rw [h1] at this; rw [this]; exact HSN.out x (by omega))⟩
            have g1 : (x : Int) < 128 := by omega
            clear hlo h1
            go_wp2_with fail
            go_ret
            exact ⟨by rw [HR.out]; rfl, rfl⟩
          · by_cases hhi : 191 < x
            · have HR : Aside0 (sgn ((bs s).drop a) = 0) := ⟨sgn_sec _ (by rw [HZ.out]; omega) (by rw [HC.out]; have := HX.out; rw [h1] at this; rw [this]; exact HSN.out x (by omega))⟩
              have g1 : ¬ (x : Int) < 128 := by omega
              have g2 : (191 : Int) < (x : Int) := by omega
              clear hlo hhi h1
              go_wp2_with fail
              go_ret
              exact ⟨by rw [HR.out]; rfl, rfl⟩
            · have HN := Aside0.mk (HE.out.next (by have := HQ.out; omega) (fun _ => by have := HX.out; rw [h1] at this; rw [this]; exact (HS.out x).2 ⟨by omega, by omega⟩) (fun h => absurd h (by omega)))
              have g1 : ¬ (x : Int) < 128 := by omega
              have g2 : ¬ (191 : Int) < (x : Int) := by omega
              have H1 := Aside0.mk h1
              clear hlo hhi h1
              go_wp2_with fail
              go_round
              case rel => exact ⟨i + 1, by omega, by have := H1.out; omega, by go_num, .inr ⟨by omega, rfl, rfl⟩, HN⟩
              case measure => simp [intOf]; omega
        · by_cases hlo : x < 128
          · have HR : Aside0 (sgn ((bs s).drop a) = 0) := ⟨sgn_fol _ i h1 (by rw [HZ.out]; omega) (by rw [HX.out]; exact fol_no x (by omega))⟩
            have g1 : (x : Int) < 128 := by omega
            clear hlo
            go_wp2_with fail
            go_ret
            exact ⟨by rw [HR.out]; rfl, rfl⟩
          · by_cases hhi : 191 < x
            · have HR : Aside0 (sgn ((bs s).drop a) = 0) := ⟨sgn_fol _ i h1 (by rw [HZ.out]; omega) (by rw [HX.out]; exact fol_no x (by omega))⟩
              have g1 : ¬ (x : Int) < 128 := by omega
              have g2 : (191 : Int) < (x : Int) := by omega
              clear hlo hhi
              go_wp2_with fail
              go_ret
              exact ⟨by rw [HR.out]; rfl, rfl⟩
            · have HN := Aside0.mk (HE.out.next (by have := HQ.out; omega) (fun h => absurd h (by omega)) (fun _ => by rw [HX.out]; exact (fol_iff x).2 ⟨by omega, by omega⟩))
              have g1 : ¬ (x : Int) < 128 := by omega
              have g2 : ¬ (191 : Int) < (x : Int) := by omega
              clear hlo hhi
              go_wp2_with fail
              go_round
              case rel => exact ⟨i + 1, by omega, by omega, by go_num, .inr ⟨by omega, rfl, rfl⟩, HN⟩
              case measure => simp [intOf]; omega
      · have HR : Aside0 (sgn ((bs s).drop a) = 0) := ⟨sgn_short _ (by rw [HZ.out, dr_len]; omega)⟩
        have hil : (i : Int) < 3 := by omega
        have hge : (s.size : Int) ≤ (a : Int) + (i : Int) := by omega
        rcases hv with ⟨h1, rfl, rfl⟩ | ⟨h1, rfl, rfl⟩
        all_goals
          clear h1
          go_wp2_with fail
          go_ret
          exact ⟨by rw [HR.out]; rfl, rfl⟩
set_option maxHeartbeats 4000000 in
set_option maxRecDepth 100000 in
theorem rsign_f (s : ByteArray) (a c : Nat) (w : World) (hs : s.size ≤ 100000) (ha : a < s.size) (hc : ((bs s).drop a).getD 0 0 = c) (h : c = 237) :
    Calls Tryz.prog 101 #[.string s, .int .i64 (a : Int)] w (rsV s a w) := by
  have hb0 := dr_get s a 0 (by omega)
  have hbyte : ((s[a].toNat : Nat) : Int) = (c : Int) := by rw [hc] at hb0; simp only [Nat.add_zero] at hb0; rw [← hb0]
  have hlp : 0 < ((bs s).drop a).length := by rw [dr_len]; omega
  have hai : (a : Int) < (s.size : Int) := by omega
  have hz : szc (((bs s).drop a).getD 0 0) = 3 := by rw [hc]; unfold szc; (repeat' split) <;> omega
  have hsec : ∀ x, sec c x = true ↔ 128 ≤ x ∧ x ≤ 159 := by intro x; unfold sec fol; (repeat' split) <;> (try omega) <;> simp <;> omega
  have hsecN : ∀ x, ¬ (128 ≤ x ∧ x ≤ 159) → sec c x = false := fun x h => by cases hf : sec c x with | false => rfl | true => exact absurd ((hsec x).1 hf) h
  have HZ := Aside0.mk hz
  have HC := Aside0.mk hc
  have HS := Aside0.mk hsec
  have HSN := Aside0.mk hsecN
  have q0 : ¬ (c : Int) < 128 := by omega
  have q1 : (194 : Int) ≤ (c : Int) := by omega
  have q2 : ¬ (c : Int) ≤ 223 := by omega
  have q3 : (224 : Int) ≤ (c : Int) := by omega
  have q4 : (c : Int) ≤ 239 := by omega
  have n224 : ((c : Int) == 224) = false := by rw [beq_eq_false_iff_ne]; omega
  have e237 : ((c : Int) == 237) = true := by rw [beq_iff_eq]; omega
  clear hz hb0 hc hlp hsec hsecN
  go_enter Tryz.func101, Tryz.ntmps101
  go_wp2_with fail
  go_loop [7, 8, 9] (fun v7 v8 v9 => ∃ i : Nat, 1 ≤ i ∧ i ≤ 3 ∧ v9 = .int .i64 (i : Int) ∧ ((i = 1 ∧ v7 = .int .u8 128 ∧ v8 = .int .u8 159) ∨ (2 ≤ i ∧ v7 = .int .u8 128 ∧ v8 = .int .u8 191)) ∧ Aside0 (Seen s a c i)) (fun _ _ v9 => 3 - (intOf v9).toNat)
  case atStart => exact ⟨1, by omega, by omega, rfl, .inl ⟨rfl, rfl, rfl⟩, ⟨fun j h1 h2 => absurd h2 (by omega)⟩⟩
  case round =>
    obtain ⟨i, hi1, hi2, rfl, hv, HE⟩ := hrel
    by_cases hd : i = 3
    · subst hd
      have hf := HE.out
      have HR : Aside0 (sgn ((bs s).drop a) = 3) := ⟨by
        have hl1 := (hf (3 - 1) (by omega) (by omega)).1
        rw [← HZ.out]
        exact sgn_all _ (by rw [HZ.out]; omega) (by rw [HZ.out, dr_len]; omega) (by rw [HC.out]; exact (hf 1 (by omega) (by omega)).2.1 rfl) (fun j h1 h2 => by rw [HZ.out] at h2; exact (hf j (by omega) h2).2.2 h1)⟩
      clear hf
      rcases hv with ⟨h1, rfl, rfl⟩ | ⟨h1, rfl, rfl⟩
      · exact absurd h1 (by omega)
      · clear h1
        go_wp2_with fail
        go_ret
        exact ⟨by rw [HR.out]; rfl, rfl⟩
    · by_cases hl : a + i < s.size
      · have hg := dr_get s a i hl
        obtain ⟨x, hx⟩ : ∃ x, ((bs s).drop a).getD i 0 = x := ⟨_, rfl⟩
        obtain ⟨q, hq⟩ : ∃ q, a + i = q := ⟨_, rfl⟩
        have hql : q < s.size := by omega
        have hxb : ((s[q].toNat : Nat) : Int) = (x : Int) := by subst hq; rw [← hx, hg]
        have hq2 : (a : Int) + (i : Int) = (q : Int) := by omega
        have hqi : (q : Int) < (s.size : Int) := by omega
        have HX := Aside0.mk hx
        have HQ := Aside0.mk hq
        have hil : (i : Int) < 3 := by omega
        clear hg hx hq
        rcases hv with ⟨h1, rfl, rfl⟩ | ⟨h1, rfl, rfl⟩
        · by_cases hlo : x < 128
          · have HR : Aside0 (sgn ((bs s).drop a) = 0) := ⟨sgn_sec _ (by rw [HZ.out]; omega) (by rw [HC.out]; have := HX.out; rw [h1] at this; rw [this]; exact HSN.out x (by omega))⟩
            have g1 : (x : Int) < 128 := by omega
            clear hlo h1
            go_wp2_with fail
            go_ret
            exact ⟨by rw [HR.out]; rfl, rfl⟩
          · by_cases hhi : 159 < x
            · have HR : Aside0 (sgn ((bs s).drop a) = 0) := ⟨sgn_sec _ (by rw [HZ.out]; omega) (by rw [HC.out]; have := HX.out; rw [h1] at this; rw [this]; exact HSN.out x (by omega))⟩
              have g1 : ¬ (x : Int) < 128 := by omega
              have g2 : (159 : Int) < (x : Int) := by omega
              clear hlo hhi h1
              go_wp2_with fail
              go_ret
              exact ⟨by rw [HR.out]; rfl, rfl⟩
            · have HN := Aside0.mk (HE.out.next (by have := HQ.out; omega) (fun _ => by have := HX.out; rw [h1] at this; rw [this]; exact (HS.out x).2 ⟨by omega, by omega⟩) (fun h => absurd h (by omega)))
              have g1 : ¬ (x : Int) < 128 := by omega
              have g2 : ¬ (159 : Int) < (x : Int) := by omega
              have H1 := Aside0.mk h1
              clear hlo hhi h1
              go_wp2_with fail
              go_round
              case rel => exact ⟨i + 1, by omega, by have := H1.out; omega, by go_num, .inr ⟨by omega, rfl, rfl⟩, HN⟩
              case measure => simp [intOf]; omega
        · by_cases hlo : x < 128
          · have HR : Aside0 (sgn ((bs s).drop a) = 0) := ⟨sgn_fol _ i h1 (by rw [HZ.out]; omega) (by rw [HX.out]; exact fol_no x (by omega))⟩
            have g1 : (x : Int) < 128 := by omega
            clear hlo
            go_wp2_with fail
            go_ret
            exact ⟨by rw [HR.out]; rfl, rfl⟩
          · by_cases hhi : 191 < x
            · have HR : Aside0 (sgn ((bs s).drop a) = 0) := ⟨sgn_fol _ i h1 (by rw [HZ.out]; omega) (by rw [HX.out]; exact fol_no x (by omega))⟩
              have g1 : ¬ (x : Int) < 128 := by omega
              have g2 : (191 : Int) < (x : Int) := by omega
              clear hlo hhi
              go_wp2_with fail
              go_ret
              exact ⟨by rw [HR.out]; rfl, rfl⟩
            · have HN := Aside0.mk (HE.out.next (by have := HQ.out; omega) (fun h => absurd h (by omega)) (fun _ => by rw [HX.out]; exact (fol_iff x).2 ⟨by omega, by omega⟩))
              have g1 : ¬ (x : Int) < 128 := by omega
              have g2 : ¬ (191 : Int) < (x : Int) := by omega
              clear hlo hhi
              go_wp2_with fail
              go_round
              case rel => exact ⟨i + 1, by omega, by omega, by go_num, .inr ⟨by omega, rfl, rfl⟩, HN⟩
              case measure => simp [intOf]; omega
      · have HR : Aside0 (sgn ((bs s).drop a) = 0) := ⟨sgn_short _ (by rw [HZ.out, dr_len]; omega)⟩
        have hil : (i : Int) < 3 := by omega
        have hge : (s.size : Int) ≤ (a : Int) + (i : Int) := by omega
        rcases hv with ⟨h1, rfl, rfl⟩ | ⟨h1, rfl, rfl⟩
        all_goals
          clear h1
          go_wp2_with fail
          go_ret
          exact ⟨by rw [HR.out]; rfl, rfl⟩
end Go.Proofs.YtnghlkbmfhkmoaaGreatDoor
