import Derived.Test.YtklkiofhenhafaaDoorMdrkezvgj
import Derived.Test.YtklkiofhenhafaaDoorMjorrvulm
import Derived.Test.YtklkiofhenhafaaDoorMvkuxiryh
import Derived.Test.YtklkiofhenhafaaDoorCPlainx
import Derived.Test.YtklkiofhenhafaaDoorMlrlhopvx
namespace Go.Proofs.YtklkiofhenhafaaDoor
open Go.RowKit Go.Proofs.YtklkiofhenhafaaDoorW.PrintWords Go.Proofs.YtklkiofhenhafaaDoorW.PrintLast Go.Proofs.YtklkiofhenhafaaDoorW.PrintMore Hy

theorem info_rrec : (Tryd.prog.info? 30).map (fun i => (i.zero, i.size, i.bytes)) = some (some (.agg #[.int .i64 0, .int .i64 0, .int .u64 0, .string ⟨#[]⟩, .string ⟨#[]⟩]), Rc.sz, 56) := by rw [rc_sz]; kernel_rfl
def AllR (s : ByteArray) (dp : Int) (w : World) (e : Ending) (w' : World) : Prop :=
  (∃ L A c, recsL dp.toNat (bs s) = some L ∧ e = .returned (.tuple #[.slice A L.length c, .bool true]) ∧ Kd.C Rc w' A L.length L ∧ L.length ≤ c ∧ Below w.heap.size w w') ∨
  (recsL dp.toNat (bs s) = none ∧ e = .returned (.tuple #[.slice none 0 0, .bool false]) ∧ Below w.heap.size w w')
set_option maxHeartbeats 4000000 in
set_option maxRecDepth 100000 in
theorem rall_any (w : World) (s : ByteArray) (dp : Int) (hs : s.size ≤ 100000) (hd1 : dp < 9223372036854775808) :
    Calls Tryd.prog 13 #[.string s, .int .i64 dp] w (AllR s dp w) := by
  have HB0 := Aside0.mk (Below.refl w.heap.size w)
  have HNN : Aside0 (∀ b, b ≤ s.size → NextAt s b dp) := ⟨fun b hb => rnext_at s hs _ b dp rfl hb hd1⟩
  clear hd1
  go_enter Tryd.func13, Tryd.ntmps13
  go_wp2_with fail
  go_loopg [6, 7] s.size (fun kq v6 v7 w' => ∃ (D : List RecL) (A : Option Addr) (c b : Nat), v6 = .slice A D.length c ∧ v7 = .int .i64 (b : Int) ∧ b ≤ s.size ∧ kq = s.size - b ∧ D.length ≤ b ∧ Aside0 (Kd.R Rc 30 w' w.heap.size (fun _ => True) (.slice A D.length c) D) ∧ Aside0 (Below w.heap.size w w') ∧ Aside0 (recsL dp.toNat (bs s) = (recsL dp.toNat ((bs s).drop b)).map (D ++ ·)))
  case atStart => exact ⟨[], none, 0, 0, rfl, rfl, Nat.zero_le _, by omega, Nat.le_refl _, ⟨Kd.R_nil _ _ _ _ _⟩, HB0, ⟨by rw [List.drop_zero]; cases recsL dp.toNat (bs s) <;> simp⟩⟩
  case round =>
    clear HB0
    obtain ⟨D, A, c, b, rfl, rfl, hb, hkq, hDb, HO, HB, HL⟩ := hrel
    have HKQ := Aside0.mk hkq
    clear hkq
    by_cases hlt : b < s.size
    · have d1 : (b : Int) < (s.size : Int) := by omega
      have hne : (bs s).drop b ≠ [] := by
        intro e
        have := congrArg List.length e
        rw [List.length_drop, bs_length] at this
        simp at this
        omega
      have hN := HNN.out b hb
      cases hrec : recL dp.toNat ((bs s).drop b) with
      | none =>
        have HN := Aside0.mk (show recsL dp.toNat (bs s) = none by rw [HL.out, recsL_step _ _ hne, hrec]; rfl)
        have G := fun W => (hN W).2 hrec
        clear hrec hne hN
        go_wp2_with fail
        refine (G _).mono ?_
        rintro e w2 ⟨rfl, hb2⟩
        unfold recV
        have HB2 := Aside0.mk (below_next HB.out hb2)
        clear hb2 G HB HO
        go_wp2_with (first
          | ((with_reducible refine gate_dst (N := 8) rfl ?_); refine box_event ?hg (N := 8) ?hd (cs := #[.int .i64 0, .int .i64 0, .int .u64 0, .string ⟨#[]⟩, .string ⟨#[]⟩]) (t := 30) ?hr ?_; (case hd => rfl); (case hg => rfl); (case hr => first | (go_simp; done) | (go_simp; rfl)); intro x hx w4 hx4 hb4
             have hx4 : XR w4 x 0 0 0 ByteArray.empty ByteArray.empty := hx4
             have hbx : w.heap.size ≤ x := by have := HB2.out.size; omega
             clear hx
             have HB4 := Aside0.mk (HB2.out.trans (hb4.mono HB2.out.size))
             have z0 := hx4.c0
             have z1 := hx4.c1
             have z2 := hx4.c2
             have z3 := hx4.c3
             have z4 := hx4.c4
             have zf := fun i => hx4.fz i
             have k5 := kp_all w4 x (.int .i64 0) (.int .i64 0) (.int .u64 0) (.string ByteArray.empty) (.string ByteArray.empty)
             have HB5 := Aside0.mk (HB4.out.trans (k5.toBelow HB4.out.size (fun k e => by rw [e]; exact hbx)))
             clear hx4 k5 hb4))
        go_ret2
        exact .inr ⟨HN.out, rfl, HB5.out⟩
      | some q =>
        obtain ⟨R, k⟩ := q
        obtain ⟨hk1, hk2, _, _⟩ := recL_le hrec
        rw [List.length_drop, bs_length] at hk2
        have HN := Aside0.mk (show recsL dp.toNat (bs s) = (recsL dp.toNat ((bs s).drop (b + k))).map ((D ++ [R]) ++ ·) by
          rw [HL.out, recsL_step _ _ hne, hrec]
          show Option.map _ (match recsL dp.toNat (((bs s).drop b).drop k) with | none => none | some l => some (R :: l)) = _
          rw [List.drop_drop]
          cases recsL dp.toNat ((bs s).drop (b + k)) with
          | none => rfl
          | some l => simp)
        have G := fun W => (hN W).1 R k hrec
        have hC : recC R = [.int .i64 (R.num : Int), .int .i64 (R.type : Int), .int .u64 (R.n : Int), .string (st R.s), .string (st R.raw)] := rfl
        generalize (R.num : Int) = f0 at *
        generalize (R.type : Int) = f1 at *
        generalize (R.n : Int) = f2 at *
        generalize st R.s = f3 at *
        generalize st R.raw = f4 at *
        have HC := Aside0.mk hC
        clear hrec hne hC hN
        go_wp2_with fail
        refine (G _).mono ?_
        rintro e w2 ⟨rfl, hb2⟩
        unfold recV
        have HO2 := Aside0.mk (Kd.R_below HO.out (hb2.mono (Nat.le_refl _)))
        have HB2 := Aside0.mk (below_next HB.out hb2)
        clear hb2 G HB HO
        go_wp2_with (first
          | ((with_reducible refine gate_dst (N := 8) rfl ?_); refine box_event ?hg (N := 8) ?hd (cs := #[.int .i64 0, .int .i64 0, .int .u64 0, .string ⟨#[]⟩, .string ⟨#[]⟩]) (t := 30) ?hr ?_; (case hd => rfl); (case hg => rfl); (case hr => first | (go_simp; done) | (go_simp; rfl)); intro x hx w4 hx4 hb4
             have hx4 : XR w4 x 0 0 0 ByteArray.empty ByteArray.empty := hx4
             have hbx : w.heap.size ≤ x := by have := HB2.out.size; omega
             have hxw : w2.heap.size ≤ x := by omega
             clear hx
             have HB4 := Aside0.mk (HB2.out.trans (hb4.mono HB2.out.size))
             have ho4 := Kd.R_below (Kd.R_bound HO2.out) hb4
             have z0 := hx4.c0
             have z1 := hx4.c1
             have z2 := hx4.c2
             have z3 := hx4.c3
             have z4 := hx4.c4
             have zf := fun i => hx4.fz i
             have k5 := kp_all w4 x (.int .i64 f0) (.int .i64 f1) (.int .u64 f2) (.string f3) (.string f4)
             have hx5 := hx4.all f0 f1 f2 f3 f4
             have HB5 := Aside0.mk (HB4.out.trans (k5.toBelow HB4.out.size (fun k e => by rw [e]; exact hbx)))
             have HO5 := Aside0.mk (Kd.R_mono (k5.row ho4 (fun k hk e => by have := hk.2.2.1; omega)) (fun k hk => hk.1))
             have HX5 := Aside0.mk hx5
             clear hx4 k5 hx5 hb4 ho4)
          | ((with_reducible refine gate_dst (N := 26) rfl ?_); refine wpList_load_row rfl 30 (.tmp 8) rfl x rfl 30 #[.int .i64 f0, .int .i64 f1, .int .u64 f2, .string f3, .string f4] (0, 0) _ HX5.out Tryd.underlying30 rfl (by kernel_rfl) ?_; generalize ((((w4.setCell ⟨x, 0, none⟩ (.int .i64 f0)).setCell ⟨x, 1, none⟩ (.int .i64 f1)).setCell ⟨x, 2, none⟩ (.int .u64 f2)).setCell ⟨x, 3, none⟩ (.string f3)).setCell ⟨x, 4, none⟩ (.string f4) = w5 at *)
          | ((with_reducible refine gate_builtin (b := .append) (xs := #[.tmp 25, .tmp 27]) rfl ?_); at_builtin; refine Kd.R_append Rc (w0 := w) w.heap.size rfl (.tmp 25) (.tmp 27) 40 30 (.agg #[.int .i64 0, .int .i64 0, .int .u64 0, .string ⟨#[]⟩, .string ⟨#[]⟩]) 56 rfl Tryd.underlying40 info_rrec zero_rc rc_pos (by decide) (.slice A D.length c) D R [.int .i64 f0, .int .i64 f1, .int .u64 f2, .string f3, .string f4] (fun _ => True) (fun _ => False) rfl rfl ?aP (fun _ hk => hk.elim) ?aF ?aO ?aB ?aS ?aL ?_; (case aP => exact rc_M _ _ R _ _ _ _ _ HC.out); (case aB => exact HB5.out); (case aF => exact (fun _ _ => trivial)); (case aO => exact HO5.out); (case aS => exact HB5.out.size); (case aL => omega)
             intro va wa ho hb hg hat
             have HB6 := Aside0.mk hb
             obtain ⟨A', c', hva⟩ := Kd.R_slice ho
             subst hva
             have HO6 := Aside0.mk ho
             clear ho hb hg hat))
        have hlD : (D ++ [R]).length = D.length + 1 := by simp
        go_roundg (s.size - (b + k))
        case measure => have := HKQ.out; omega
        case rel => exact ⟨D ++ [R], A', c', b + k, by rw [hlD], rfl, by omega, rfl, by rw [hlD]; omega, HO6, HB6, HN⟩
    · have hbe : b = s.size := by omega
      have hd : (bs s).drop b = [] := List.drop_of_length_le (by rw [bs_length]; omega)
      have HN := Aside0.mk (show recsL dp.toNat (bs s) = some D by rw [HL.out, hd, recsL_nil]; simp)
      have d1 : ¬ (b : Int) < (s.size : Int) := by omega
      clear hbe hd hlt
      obtain ⟨hC, _, hc⟩ := R_Cw HO.out
      have HC := Aside0.mk hC
      have Hc := Aside0.mk hc
      clear hC hc
      go_wp2_with fail
      go_ret2
      exact .inl ⟨D, A, c, HN.out, rfl, HC.out, Hc.out, HB.out⟩
end Go.Proofs.YtklkiofhenhafaaDoor
namespace Go.Proofs.YtklkiofhenhafaaDoor
open Go.RowKit Go.Proofs.YtklkiofhenhafaaDoorW.PrintWords Go.Proofs.YtklkiofhenhafaaDoorW.PrintLast Go.Proofs.YtklkiofhenhafaaDoorW.PrintMore Hy

def NErr (s : ByteArray) (w : World) (e : Ending) (w' : World) : Prop := ∃ T v E, e = .returned (.tuple #[recV 0 0 0 ByteArray.empty ByteArray.empty, .int .i64 0, .iface T v]) ∧ IsE w' E (.iface T v) ∧ WE s E ∧ Below w.heap.size w w'
set_option maxHeartbeats 1000000 in
set_option maxRecDepth 100000 in
theorem wnext_bad (w : World) (s : ByteArray) (a : Nat) (dp : Int) (ha : a ≤ s.size) (_hs : s.size ≤ 140737488351232)
    (HQ : ∀ W r, RW W r s a .nilIface dp → Calls Tryd.prog 29 #[.pointer (some ⟨r, 0, none⟩)] W fun e w' => e = .returned (recV 0 0 0 ByteArray.empty ByteArray.empty) ∧ WBad W r s dp w') :
    Calls Tryd.prog 7 #[.string s, .int .i64 (a : Int), .int .i64 dp] w (NErr s w) := by
  have HG := Aside0.mk HQ
  have d1 : ¬ ((a : Int) < 0) := by omega
  have d2 : ¬ ((a : Int) > (s.size : Int)) := by omega
  clear HQ
  go_enter Tryd.func7, Tryd.ntmps7
  go_wp2_with fail
  have hb1 : Below w.heap.size w (w.alloc (.cells #[.int .i64 0, .int .i64 0, .int .u64 0, .string ⟨#[]⟩, .string ⟨#[]⟩] 25)) := (Below.refl _ _).alloc (Nat.le_refl _) _
  have hz1 : XW (w.alloc (.cells #[.int .i64 0, .int .i64 0, .int .u64 0, .string ⟨#[]⟩, .string ⟨#[]⟩] 25)) w.heap.size 0 0 0 ByteArray.empty ByteArray.empty := heap_alloc_new w _
  have hsz : (w.alloc (.cells #[.int .i64 0, .int .i64 0, .int .u64 0, .string ⟨#[]⟩, .string ⟨#[]⟩] 25)).heap.size = w.heap.size + 1 := Array.size_push _
  generalize w.alloc (.cells #[.int .i64 0, .int .i64 0, .int .u64 0, .string ⟨#[]⟩, .string ⟨#[]⟩] 25) = W1 at *
  have hr2 : RW (W1.alloc (.cells #[.string s, .int .i64 (a : Int), .nilIface, .int .i64 dp] 63)) W1.heap.size s a .nilIface dp := heap_alloc_new W1 _
  have hz2 : XW (W1.alloc (.cells #[.string s, .int .i64 (a : Int), .nilIface, .int .i64 dp] 63)) w.heap.size 0 0 0 ByteArray.empty ByteArray.empty := blk_below hz1 ((Below.refl _ _).alloc (Nat.le_refl _) _)
  have HB2 := Aside0.mk (hb1.alloc (by omega) (.cells #[.string s, .int .i64 (a : Int), .nilIface, .int .i64 dp] 63))
  rw [hsz] at hr2
  generalize W1.alloc (.cells #[.string s, .int .i64 (a : Int), .nilIface, .int .i64 dp] 63) = W2 at *
  generalize hg : w.heap.size = g at *
  generalize hrg : g + 1 = r at *
  clear hz1 hb1 hsz
  have HZ2 := Aside0.mk hz2
  refine (HG.out W2 r hr2).mono ?_
  rintro e w3 ⟨rfl, a', T, xv, E, ha', hr3, hu3, hE3, hk3⟩
  unfold recV
  have hgr : ¬ g = r := by omega
  have HZ3 := Aside0.mk (HZ2.out.kp hk3 hgr)
  have HB3 := Aside0.mk (HB2.out.trans (hk3.toBelow (by have := HB2.out.size; omega) (fun k e => by omega)))
  have HR3 := Aside0.mk hr3
  have HU3 := Aside0.mk hu3
  have hrx : r < w3.heap.size := blk_lt hr3
  clear hr3 hk3 hr2 hz2 HZ2 HG hu3
  go_wp2_with (first
    | ((with_reducible refine gate_dst (N := 10) rfl ?_); refine box_event ?hg (N := 10) ?hd (cs := #[.int .i64 0, .int .i64 0, .int .u64 0, .string ⟨#[]⟩, .string ⟨#[]⟩]) (t := 25) ?hr ?_; (case hd => rfl); (case hg => rfl); (case hr => first | (go_simp; done) | (go_simp; rfl)); intro x hx w4 hx4 hb4
       have hx4 : XW w4 x 0 0 0 ByteArray.empty ByteArray.empty := hx4
       have hxs := hb4.size
       have hr4 := HR3.out.below hb4
       have hu4 := HU3.out.below hb4
       have hz4 : XW w4 g 0 0 0 ByteArray.empty ByteArray.empty := blk_below HZ3.out hb4
       have HB4 := Aside0.mk (HB3.out.trans (hb4.mono (by have := HB3.out.size; omega)))
       have hxg : g < x := by have := HB3.out.size; omega
       have hrx2 : r < x := by omega
       clear hx
       have z0 := hx4.c0
       have z1 := hx4.c1
       have z2 := hx4.c2
       have z3 := hx4.c3
       have z4 := hx4.c4
       have zf := fun i => hx4.fz i
       have k5 := kp_all w4 x (.int .i64 0) (.int .i64 0) (.int .u64 0) (.string ByteArray.empty) (.string ByteArray.empty)
       have hr5 := hr4.kp k5 (fun e => by omega)
       have hz5 := hz4.kp k5 (fun e => by omega)
       have hb5 := HB4.out.trans (k5.toBelow (by have := HB4.out.size; omega) (fun k e => by omega))
       have HR5 := Aside0.mk hr5
       have HZ5 := Aside0.mk hz5
       have HU5 := Aside0.mk (hu4.xkp hx4 k5)
       have HB5 := Aside0.mk hb5
       have q2 := hr5.c2
       clear hx4 hr4 hz4 k5 hr5 hz5 hb5 hb4 hxs hu4))
  clear z0 z1 z2 z3 z4 zf q2 HR3 HZ3 HB3 HB2 HB4 hx4 HU3
  generalize ((((w4.setCell ⟨x, 0, none⟩ (.int .i64 0)).setCell ⟨x, 1, none⟩ (.int .i64 0)).setCell ⟨x, 2, none⟩ (.int .u64 0)).setCell ⟨x, 3, none⟩ (.string ByteArray.empty)).setCell ⟨x, 4, none⟩ (.string ByteArray.empty) = w5 at *
  have hr6 : RW w5 r s a' (.iface T xv) dp := HR5.out
  have hz6 : XW w5 g 0 0 0 ByteArray.empty ByteArray.empty := HZ5.out
  have HB6 : Aside0 (Below g w w5) := ⟨HB5.out⟩
  have z0 := hz6.c0
  have z1 := hz6.c1
  have z2 := hz6.c2
  have z3 := hz6.c3
  have z4 := hz6.c4
  have zf := fun i => hz6.fz i
  have q1 := hr6.c2
  have k7 := kp_all w5 g (.int .i64 0) (.int .i64 0) (.int .u64 0) (.string ⟨#[]⟩) (.string ⟨#[]⟩)
  have hr7 := hr6.kp k7 (fun e => by omega)
  have q2 := hr7.c2
  have HX7 := Aside0.mk (hz6.all 0 0 0 ⟨#[]⟩ ⟨#[]⟩)
  have HB7 := Aside0.mk (HB6.out.trans (k7.toBelow (by have := HB6.out.size; omega) (fun k e => by omega)))
  have HU7 := Aside0.mk (HU5.out.xkp hz6 k7)
  clear hz6 hr6 k7 hr7 HR5 HZ5 HB5 HB6 HU5
  have hrg2 : ¬ r = g := by omega
  go_region
  go_wp2_with fail
  refine bodyPost_ret (results_cell_two rfl _ _ g 25 #[.int .i64 0, .int .i64 0, .int .u64 0, .string ⟨#[]⟩, .string ⟨#[]⟩] (0, 0) rfl HX7.out Tryd.underlying25 (by kernel_rfl)) rfl ?_
  exact ⟨T, xv, E, rfl, HU7.out.below (below_drew1 (Below.refl _ _)), hE3, by rw [hg]; exact HB7.out.drew⟩
def NRange (p : Int) (w : World) (e : Ending) (w' : World) : Prop := ∃ T v, e = .returned (.tuple #[recV 0 0 0 ByteArray.empty ByteArray.empty, .int .i64 0, .iface T v]) ∧ IsE w' (.at_ p (.code 9)) (.iface T v) ∧ Below w.heap.size w w'
set_option maxHeartbeats 1000000 in
set_option maxRecDepth 100000 in
theorem wnext_range (w : World) (s : ByteArray) (a p dp : Int) (hs : s.size ≤ 140737488351232) (ha : a < 0 ∧ p = 0 ∨ (s.size : Int) < a ∧ p = s.size) :
    Calls Tryd.prog 7 #[.string s, .int .i64 a, .int .i64 dp] w (NRange p w) := by
  have HA := Aside0.mk ha
  have hz1 : XW (w.alloc (.cells #[.int .i64 0, .int .i64 0, .int .u64 0, .string ⟨#[]⟩, .string ⟨#[]⟩] 25)) w.heap.size 0 0 0 ByteArray.empty ByteArray.empty := heap_alloc_new w _
  have HB1 := Aside0.mk ((Below.refl w.heap.size w).alloc (Nat.le_refl _) (.cells #[.int .i64 0, .int .i64 0, .int .u64 0, .string ⟨#[]⟩, .string ⟨#[]⟩] 25))
  have HZ1 := Aside0.mk hz1
  have G := fun w => at_any p (.iface 35 (.int .i64 9)) w ⟨_, _, rfl⟩
  clear hz1 ha
  rcases HA.out with ⟨h1, rfl⟩ | ⟨h1, rfl⟩
  · skip
    go_enter Tryd.func7, Tryd.ntmps7
    go_wp2_with fail
    generalize w.alloc (.cells #[.int .i64 0, .int .i64 0, .int .u64 0, .string ⟨#[]⟩, .string ⟨#[]⟩] 25) = W1 at *
    generalize hg : w.heap.size = g at *
    refine (G _).mono ?_
    rintro e w2 ⟨rfl, rfl⟩
    have hu2 : IsE (W1.alloc (.cells #[.int .i64 0, .iface 35 (.int .i64 9)] 80 (0, 0))) (.at_ 0 (.code 9)) (.iface 78 (.pointer (some ⟨W1.heap.size, 0, none⟩))) := IsE.new (show IsE W1 (.code 9) (.iface 35 (.int .i64 9)) from rfl)
    have hb2 : Below W1.heap.size W1 (W1.alloc (.cells #[.int .i64 0, .iface 35 (.int .i64 9)] 80 (0, 0))) := (Below.refl _ _).alloc (Nat.le_refl _) _
    have hz2 : XW (W1.alloc (.cells #[.int .i64 0, .iface 35 (.int .i64 9)] 80 (0, 0))) g 0 0 0 ByteArray.empty ByteArray.empty := blk_below HZ1.out hb2
    have HB2 := Aside0.mk (HB1.out.trans (hb2.mono (by have := HB1.out.size; omega)))
    have HU2 := Aside0.mk hu2
    generalize W1.alloc (.cells #[.int .i64 0, .iface 35 (.int .i64 9)] 80 (0, 0)) = W2 at *
    generalize W1.heap.size = g1 at *
    have z0 := hz2.c0
    have z1 := hz2.c1
    have z2 := hz2.c2
    have z3 := hz2.c3
    have z4 := hz2.c4
    have zf := fun i => hz2.fz i
    have k7 := kp_all W2 g (.int .i64 0) (.int .i64 0) (.int .u64 0) (.string ⟨#[]⟩) (.string ⟨#[]⟩)
    have HX7 := Aside0.mk (hz2.all 0 0 0 ⟨#[]⟩ ⟨#[]⟩)
    have HB7 := Aside0.mk (HB2.out.trans (k7.toBelow (by have := HB2.out.size; omega) (fun k e => by omega)))
    have HU7 := Aside0.mk (HU2.out.xkp hz2 k7)
    clear hz2 k7 hu2 hb2 HU2 HB1 HZ1 HB2
    go_wp2_with fail
    refine bodyPost_ret (results_cell_two rfl _ _ g 25 #[.int .i64 0, .int .i64 0, .int .u64 0, .string ⟨#[]⟩, .string ⟨#[]⟩] (0, 0) rfl HX7.out Tryd.underlying25 (by kernel_rfl)) rfl ?_
    exact ⟨_, _, rfl, HU7.out, by rw [hg]; exact HB7.out⟩
  · skip
    have h2 : ¬ a < 0 := by omega
    go_enter Tryd.func7, Tryd.ntmps7
    go_wp2_with fail
    generalize w.alloc (.cells #[.int .i64 0, .int .i64 0, .int .u64 0, .string ⟨#[]⟩, .string ⟨#[]⟩] 25) = W1 at *
    generalize hg : w.heap.size = g at *
    refine (G _).mono ?_
    rintro e w2 ⟨rfl, rfl⟩
    have hu2 : IsE (W1.alloc (.cells #[.int .i64 (s.size : Int), .iface 35 (.int .i64 9)] 80 (0, 0))) (.at_ (s.size : Int) (.code 9)) (.iface 78 (.pointer (some ⟨W1.heap.size, 0, none⟩))) := IsE.new (show IsE W1 (.code 9) (.iface 35 (.int .i64 9)) from rfl)
    have hb2 : Below W1.heap.size W1 (W1.alloc (.cells #[.int .i64 (s.size : Int), .iface 35 (.int .i64 9)] 80 (0, 0))) := (Below.refl _ _).alloc (Nat.le_refl _) _
    have hz2 : XW (W1.alloc (.cells #[.int .i64 (s.size : Int), .iface 35 (.int .i64 9)] 80 (0, 0))) g 0 0 0 ByteArray.empty ByteArray.empty := blk_below HZ1.out hb2
    have HB2 := Aside0.mk (HB1.out.trans (hb2.mono (by have := HB1.out.size; omega)))
    have HU2 := Aside0.mk hu2
    generalize W1.alloc (.cells #[.int .i64 (s.size : Int), .iface 35 (.int .i64 9)] 80 (0, 0)) = W2 at *
    generalize W1.heap.size = g1 at *
    have z0 := hz2.c0
    have z1 := hz2.c1
    have z2 := hz2.c2
    have z3 := hz2.c3
    have z4 := hz2.c4
    have zf := fun i => hz2.fz i
    have k7 := kp_all W2 g (.int .i64 0) (.int .i64 0) (.int .u64 0) (.string ⟨#[]⟩) (.string ⟨#[]⟩)
    have HX7 := Aside0.mk (hz2.all 0 0 0 ⟨#[]⟩ ⟨#[]⟩)
    have HB7 := Aside0.mk (HB2.out.trans (k7.toBelow (by have := HB2.out.size; omega) (fun k e => by omega)))
    have HU7 := Aside0.mk (HU2.out.xkp hz2 k7)
    clear hz2 k7 hu2 hb2 HU2 HB1 HZ1 HB2
    go_wp2_with fail
    refine bodyPost_ret (results_cell_two rfl _ _ g 25 #[.int .i64 0, .int .i64 0, .int .u64 0, .string ⟨#[]⟩, .string ⟨#[]⟩] (0, 0) rfl HX7.out Tryd.underlying25 (by kernel_rfl)) rfl ?_
    exact ⟨_, _, rfl, HU7.out, by rw [hg]; exact HB7.out⟩
end Go.Proofs.YtklkiofhenhafaaDoor
namespace Go.Proofs.YtklkiofhenhafaaDoor
open Go.RowKit Go.Proofs.YtklkiofhenhafaaDoorW.PrintWords Go.Proofs.YtklkiofhenhafaaDoorW.PrintLast Go.Proofs.YtklkiofhenhafaaDoorW.PrintMore Hy

theorem IsE.drewN {w : World} {e : Err} {v : Value} (h : IsE w e v) (m : Nat) : IsE (w.drewN m) e v := h.below (pw_below_drewN (Below.refl _ _) m)
theorem codeAt (a c : Int) (u : Value) (w : World) (hg : Laid w) (hu : IsE w (.at_ a (.code c)) u) : Calls Tryd.prog 11 #[u] w fun e w' => e = .returned (.int .i64 c) ∧ Below w.heap.size w w' := code_any _ u w hg hu
theorem placeAt (a c : Int) (u : Value) (w : World) (hg : Laid w) (hu : IsE w (.at_ a (.code c)) u) : Calls Tryd.prog 33 #[u] w fun e w' => e = .returned (.tuple #[.int .i64 a, .bool true]) ∧ Below w.heap.size w w' := place_any _ u w hg hu
set_option maxHeartbeats 1000000 in
theorem wrong_at (a c : Int) (n : Int) (T : TypeId) (v : Value) (w : World) (hg : Laid w) (hu : IsE w (.at_ a (.code c)) (.iface T v)) (ha : 0 ≤ a) (han : a ≤ n) (hc : c = 1 ∨ c = 3 ∨ c = 4 ∨ c = 6) :
    Calls Tryd.prog 10 #[.iface T v, .int .i64 n] w fun e w' => e = .returned (.bool true) ∧ Below w.heap.size w w' := by
  have HB := Aside0.mk (Below.refl w.heap.size w)
  have HU := Aside0.mk hu
  have HG := Aside0.mk hg
  clear hg hu
  rcases hc with rfl | rfl | rfl | rfl
  all_goals
    go_enter Tryd.func10, Tryd.ntmps10
    go_wp2_with (first
      | (go_at_call 33; refine (placeAt _ _ _ _ HG.out HU.out).mono ?_; rintro e wb ⟨rfl, hb⟩; have HV := Aside0.mk (HU.out.below hb); have HBn : Aside0 (Below w.heap.size w wb) := ⟨below_next (by repeat (first | (with_reducible exact HB.out) | apply below_alloc | apply pw_below_drewN | apply below_drew1)) hb⟩; clear HB hb; have HB := HBn; clear HBn)
      | (go_at_call 11; refine (codeAt _ _ _ _ (HG.out.below (by repeat (first | (with_reducible exact HB.out) | apply below_alloc | apply pw_below_drewN | apply below_drew1))) HV.out).mono ?_; rintro e wb ⟨rfl, hb⟩; have HBn : Aside0 (Below w.heap.size w wb) := ⟨below_next (by repeat (first | (with_reducible exact HB.out) | apply below_alloc | apply pw_below_drewN | apply below_drew1)) hb⟩; clear HB hb; have HB := HBn; clear HBn))
    go_ret
    exact ⟨rfl, (by repeat (first | (with_reducible exact HB.out) | apply below_alloc | apply pw_below_drewN | apply below_drew1))⟩
theorem wrong_any (E : Err) (s : ByteArray) (T : TypeId) (v : Value) (w : World) (hg : Laid w) (hu : IsE w E (.iface T v)) (hE : WE s E) :
    Calls Tryd.prog 10 #[.iface T v, .int .i64 (s.size : Int)] w fun e w' => e = .returned (.bool true) ∧ Below w.heap.size w w' := by
  obtain ⟨p, c, rfl, hp, hc⟩ := hE
  exact wrong_at p c _ T v w hg hu (by omega) (by omega) hc
theorem plain_any (n t N : Int) (S raw : ByteArray) (w : World) :
    Calls Tryd.prog 9 #[.agg #[.int .i64 n, .int .i64 t, .int .u64 N, .string S, .string raw]] w fun e w' => e = .returned (.agg #[.int .i64 n, .int .i64 t, .int .u64 N, .string S, .string raw]) ∧ Below w.heap.size w w' :=
  CPlain.hyglaw4_plain.calls n t N S raw n t N S raw w rfl
end Go.Proofs.YtklkiofhenhafaaDoor
namespace Go.Proofs.YtklkiofhenhafaaDoor
open Go.RowKit Go.Proofs.YtklkiofhenhafaaDoorW.PrintWords Go.Proofs.YtklkiofhenhafaaDoorW.PrintLast Go.Proofs.YtklkiofhenhafaaDoorW.PrintMore Hy

/-- A record's cells in a row. -/
structure RecC (w : World) (ad : Addr) (i : Nat) (n t N : Int) (S raw : ByteArray) : Prop where
  c0 : w.cell? (ad.add (i * 5)) = some (.int .i64 n)
  c1 : w.cell? ⟨(ad.add (i * 5)).block, (ad.add (i * 5)).off + 1, none⟩ = some (.int .i64 t)
  c2 : w.cell? ⟨(ad.add (i * 5)).block, (ad.add (i * 5)).off + 2, none⟩ = some (.int .u64 N)
  c3 : w.cell? ⟨(ad.add (i * 5)).block, (ad.add (i * 5)).off + 3, none⟩ = some (.string S)
  c4 : w.cell? ⟨(ad.add (i * 5)).block, (ad.add (i * 5)).off + 4, none⟩ = some (.string raw)
theorem RecC.below {w w' : World} {ad : Addr} {i : Nat} {n t N : Int} {S raw : ByteArray} (h : RecC w ad i n t N S raw) (hb : Below w.heap.size w w') : RecC w' ad i n t N S raw :=
  ⟨by rw [hb.cell (cell_lt h.c0)]; exact h.c0, by rw [hb.cell (cell_lt h.c1)]; exact h.c1, by rw [hb.cell (cell_lt h.c2)]; exact h.c2, by rw [hb.cell (cell_lt h.c3)]; exact h.c3, by rw [hb.cell (cell_lt h.c4)]; exact h.c4⟩
theorem recCells {w : World} {A : Option Addr} {L : List RecL} (h : Kd.C Rc w A L.length L) (j : Nat) (hj : j < L.length) : ∃ ad, A = some ad ∧ RecC w ad j (L[j].num : Int) (L[j].type : Int) (L[j].n : Int) (st L[j].s) (st L[j].raw) := by
  obtain ⟨ad, e, hc⟩ := h.2.2 (by omega)
  obtain ⟨c, hs, hr, hcell⟩ := hc j _ (List.getElem?_eq_getElem hj)
  refine ⟨ad, e, ?_⟩
  have hr' : c = recC L[j] := hr.1
  rw [rc_sz] at hcell
  have e2 : (ad.add (j * 5)).block = ad.block ∧ (ad.add (j * 5)).off = ad.off + j * 5 := by unfold Addr.add; split <;> simp_all
  have at_ : ∀ k v, c[k + 1]? = some v → w.cell? ⟨(ad.add (j * 5)).block, (ad.add (j * 5)).off + (k + 1), none⟩ = some v := by
    intro k v hv
    have h4 := hcell (k + 1) _ hv
    rw [show j * 5 + (k + 1) = (j * 5 + k) + 1 by omega, Addr.add_succ'] at h4
    rw [e2.1, e2.2, show ad.off + j * 5 + (k + 1) = ad.off + (j * 5 + k + 1) by omega]
    exact h4
  exact ⟨hcell 0 _ (by rw [hr']; rfl), at_ 0 _ (by rw [hr']; rfl), at_ 1 _ (by rw [hr']; rfl), at_ 2 _ (by rw [hr']; rfl), at_ 3 _ (by rw [hr']; rfl)⟩
theorem len_raws : ∀ (L : List RecL), (∀ R ∈ L, 2 ≤ R.raw.length) → L.length ≤ (raws L).length := by
  intro L
  induction L with
  | nil => intro _; exact Nat.zero_le _
  | cons Q L ih =>
    intro h
    have h1 := ih (fun R hR => h R (List.mem_cons_of_mem _ hR))
    have h2 := h Q List.mem_cons_self
    rw [show raws (Q :: L) = Q.raw ++ raws L from rfl, List.length_append, List.length_cons]
    omega
theorem recs_few (s : ByteArray) (L : List RecL) (d : Nat) (hs : s.size ≤ 4000) (h : recsL d (bs s) = some L) : L.length ≤ 4000 := by
  have h1 := recs_raws _ (bs s) d L rfl h
  have h2 := len_raws L h1.2
  rw [h1.1, bs_length] at h2
  omega
theorem IsE.rkp {w w' : World} {e : Err} {v : Value} {x' : Nat} {n t N : Int} {S raw : ByteArray} (hv : IsE w e v) (hx : XR w x' n t N S raw) (hk : Kp (fun k => k = x') w w') : IsE w' e v :=
  hv.kp hk (fun k c hc e => by
    subst e
    unfold XR at hx
    rw [hx] at hc
    injection hc with hc
    injection hc with _ hc
    exact absurd hc (by decide))
end Go.Proofs.YtklkiofhenhafaaDoor
