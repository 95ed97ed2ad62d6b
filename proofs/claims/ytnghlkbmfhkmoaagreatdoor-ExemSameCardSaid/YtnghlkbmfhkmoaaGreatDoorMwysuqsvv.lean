import Derived.Test.YtnghlkbmfhkmoaaGreatDoorMspptewff
import Derived.Test.YtnghlkbmfhkmoaaGreatDoorMvjyhaahm
import Derived.Test.YtnghlkbmfhkmoaaGreatDoorWLast
import Derived.Test.YtnghlkbmfhkmoaaGreatDoorWMore
import Derived.Test.YtnghlkbmfhkmoaaGreatDoorCExmx
import Derived.WalkKit
import Derived.Great.Walk
namespace Go.Proofs.YtnghlkbmfhkmoaaGreatDoor
open Go.RowKit Go.Proofs.YtnghlkbmfhkmoaaGreatDoorW.PrintWords Go.Proofs.YtnghlkbmfhkmoaaGreatDoorW.PrintLast Go.Proofs.YtnghlkbmfhkmoaaGreatDoorW.PrintMore

/-! ### how much there is: what is known of the answer -/
def tk (a0 a1 : Int) : Int := if a0 < 0 then -1 else if a1 > wrap64 (a0 - 20) then -1 else wrap64 (wrap64 (a0 - a1) - 20)
theorem take_q (a0 a1 : Int) (w : World) : Calls Tryz.prog 38 #[.int .i64 a0, .int .i64 a1] w fun e w' => e = .returned (.int .i64 (tk a0 a1)) ∧ Drawn0 w w' :=
  CExm.hygref_take.calls a0 a1 _ w (by
    unfold CExm.hygref_take.f tk
    by_cases h1 : a0 < 0
    · rw [if_pos h1, if_pos h1]
    · rw [if_neg h1, if_neg h1]
      by_cases h2 : a1 > wrap64 (a0 - 20)
      · rw [if_pos h2, if_pos h2]
      · rw [if_neg h2, if_neg h2])
theorem take_qq (a0 a1 : Int) (w : World) : Calls Tryz.prog 38 #[.int .i64 a0, .int .i64 a1] w fun e w' => e = .returned (.int .i64 (tk a0 a1)) ∧ ∃ m, w' = w.drewN m :=
  (take_q a0 a1 w).mono fun _ _ ⟨h1, ⟨m, h2⟩⟩ => ⟨h1, m, h2⟩
def RP (room : Int) (k : Nat) (r : Int) : Prop := -1 ≤ r ∧ r ≤ room ∧ (0 ≤ r → r + 20 * k ≤ room)
theorem tk_rp (room n : Int) (h : -1 ≤ room) (h2 : room ≤ 12000) (hn : 0 ≤ n) : RP room 1 (tk room n) := by
  unfold RP tk
  by_cases h1 : room < 0
  · rw [if_pos h1]; omega
  · rw [if_neg h1]
    have e1 : wrap64 (room - 20) = room - 20 := by unfold wrap64; omega
    rw [e1]
    by_cases h3 : n > room - 20
    · rw [if_pos h3]; omega
    · rw [if_neg h3]
      have e2 : wrap64 (room - n) = room - n := by unfold wrap64; omega
      rw [e2]
      have e3 : wrap64 (room - n - 20) = room - n - 20 := by unfold wrap64; omega
      rw [e3]
      omega
theorem RP.refl {room : Int} (h : -1 ≤ room) : RP room 0 room := ⟨h, Int.le_refl _, fun _ => by omega⟩
theorem RP.trans {a b c : Int} {j k : Nat} (h : RP a j b) (h' : RP b k c) : RP a (j + k) c := by
  obtain ⟨h1, h2, h3⟩ := h
  obtain ⟨k1, k2, k3⟩ := h'
  refine ⟨k1, by omega, fun h0 => ?_⟩
  have := k3 h0
  have := h3 (by omega)
  omega
theorem RP.less {a b : Int} {j k : Nat} (h : RP a j b) (hk : k ≤ j) : RP a k b := ⟨h.1, h.2.1, fun h0 => by have := h.2.2 h0; omega⟩
theorem RP.neg {a b : Int} {j : Nat} (k : Nat) (h : RP a j b) (hb : b < 0) : RP a k b := ⟨h.1, h.2.1, fun h0 => by omega⟩
theorem tk3 (room : Int) (a b c : Nat) (h : -1 ≤ room) (h2 : room ≤ 12000) : RP room 3 (tk (tk (tk room a) b) c) := by
  have r1 := tk_rp room a h h2 (by omega)
  have r2 := tk_rp (tk room a) b r1.1 (by have := r1.2.1; omega) (by omega)
  have r12 := r1.trans r2
  exact r12.trans (tk_rp (tk (tk room a) b) c r2.1 (by have := r12.2.1; omega) (by omega))
theorem tk2 (room : Int) (a b : Nat) (h : -1 ≤ room) (h2 : room ≤ 12000) : RP room 2 (tk (tk room a) b) := by
  have r1 := tk_rp room a h h2 (by omega)
  exact r1.trans (tk_rp (tk room a) b r1.1 (by have := r1.2.1; omega) (by omega))

/-! ### values, attributes -/
def RRes (room : Int) (k : Nat) (w : World) (e : Ending) (w' : World) : Prop := ∃ r : Int, e = .returned (.int .i64 r) ∧ RP room k r ∧ Below w.heap.size w w'
def vlA (v : Vl) : Value := .agg #[.int .i64 v.kind, .string v.s, .bool v.b, .int .u64 v.n, v.l.v, v.m.v, .string v.inner, .string v.unk]
def RVAt (m : Nat) : Prop := ∀ (W w : World) (v : Vl) (room : Int), Below W.heap.size W w → VlOk W v → -1 ≤ room → room ≤ 12000 →
  Calls Tryz.prog 61 #[vlA v, .int .i64 ((m : Int) - 1), .int .i64 room] w (RRes room 0 w)
def RKAt (m : Nat) : Prop := ∀ (W w : World) (s : Sl) (l : List Kv) (room : Int), Below W.heap.size W w → SlAt 11 kvC KvOk W s l → -1 ≤ room → room ≤ 12000 →
  Calls Tryz.prog 39 #[s.v, .int .i64 ((m : Int) - 1), .int .i64 room] w (RRes room l.length w)
/-- A value's block. -/
def XV (w : World) (g : Nat) (v : Vl) : Prop := w.heap[g]? = some (.cells #[.int .i64 v.kind, .string v.s, .bool v.b, .int .u64 v.n, v.l.v, v.m.v, .string v.inner, .string v.unk] 57 (0, 0))
theorem XV.c1 {w : World} {g : Nat} {v : Vl} (h : XV w g v) : w.cell? ⟨g, 1, none⟩ = some (.string v.s) := by rw [blk_cell h]; rfl
theorem XV.c4 {w : World} {g : Nat} {v : Vl} (h : XV w g v) : w.cell? ⟨g, 4, none⟩ = some (.slice v.l.a v.l.len v.l.cap) := by rw [blk_cell h]; rfl
theorem XV.c5 {w : World} {g : Nat} {v : Vl} (h : XV w g v) : w.cell? ⟨g, 5, none⟩ = some (.slice v.m.a v.m.len v.m.cap) := by rw [blk_cell h]; rfl
theorem XV.c6 {w : World} {g : Nat} {v : Vl} (h : XV w g v) : w.cell? ⟨g, 6, none⟩ = some (.string v.inner) := by rw [blk_cell h]; rfl
theorem XV.c7 {w : World} {g : Nat} {v : Vl} (h : XV w g v) : w.cell? ⟨g, 7, none⟩ = some (.string v.unk) := by rw [blk_cell h]; rfl
theorem rv_neg : RVAt 0 := by
  intro W w v room _ _ h1 _
  unfold vlA Sl.v
  go_enter Tryz.func61, Tryz.ntmps61
  go_wp2_with fail
  go_ret
  exact ⟨-1, rfl, ⟨by omega, by omega, fun h => by omega⟩, (Below.refl _ _).alloc (Nat.le_refl _) _⟩
set_option maxHeartbeats 2000000 in
set_option maxRecDepth 100000 in
theorem rv_next (m : Nat) (hm : m ≤ 100) (HV : RVAt m) (HK : RKAt m) : RVAt (m + 1) := by
  intro W w v room hW hv h1 h2
  obtain ⟨ls, hls⟩ := rd_vls hv.l
  obtain ⟨ms, hms⟩ := rd_kvs hv.m
  obtain ⟨kind, s, b, n, ⟨la, ln, lc⟩, ⟨ma, mn, mc⟩, inner, unk⟩ := v
  obtain rfl : ln = ls.length := hls.1
  have HVV := Aside0.mk HV
  have HKK := Aside0.mk HK
  have HW := Aside0.mk hW
  have HO := Aside0.mk hv
  have HB0 := Aside0.mk (Below.refl w.heap.size w)
  have HLS := Aside0.mk hls
  have HMS := Aside0.mk hms
  have e1 : ((m + 1 : Nat) : Int) - 1 = (m : Int) := by omega
  have T3 := Aside0.mk (tk3 room s.size inner.size unk.size h1 h2)
  have H12 := Aside0.mk h2
  rw [e1]
  clear HV HK hW hv hls hms e1 h1 h2
  unfold vlA Sl.v
  go_enter Tryz.func61, Tryz.ntmps61
  go_upto_region 3 with fail
  have hx1 : XV (w.alloc (.cells #[.int .i64 kind, .string s, .bool b, .int .u64 n, .slice la ls.length lc, .slice ma mn mc, .string inner, .string unk] 57)) w.heap.size ⟨kind, s, b, n, ⟨la, ls.length, lc⟩, ⟨ma, mn, mc⟩, inner, unk⟩ := heap_alloc_new w _
  have HX := Aside0.mk hx1
  have HB := Aside0.mk ((Below.refl w.heap.size w).alloc (Nat.le_refl _) (.cells #[.int .i64 kind, .string s, .bool b, .int .u64 n, .slice la ls.length lc, .slice ma mn mc, .string inner, .string unk] 57))
  clear hx1 HB0
  generalize w.alloc (.cells #[.int .i64 kind, .string s, .bool b, .int .u64 n, .slice la ls.length lc, .slice ma mn mc, .string inner, .string unk] 57) = w1 at *
  generalize hgg : w.heap.size = g at HX ⊢
  have HGG := Aside0.mk hgg
  clear hgg
  have q1 := HX.out.c1
  have q6 := HX.out.c6
  have q7 := HX.out.c7
  have q4 := HX.out.c4
  go_quiet ((go_at_call 38; exact Calls.quiet_of (take_qq _ _ _)))
  have HXn : Aside0 (XV (w1.drewN nq) g ⟨kind, s, b, n, ⟨la, ls.length, lc⟩, ⟨ma, mn, mc⟩, inner, unk⟩) := ⟨HX.out⟩
  have HBn : Aside0 (Below w.heap.size w (w1.drewN nq)) := ⟨pw_below_drewN HB.out _⟩
  clear HX HB q1 q6 q7 q4
  have HX := HXn
  have HB := HBn
  clear HXn HBn
  generalize w1.drewN nq = w2 at *
  generalize tk (tk (tk room (s.size : Int)) (inner.size : Int)) (unk.size : Int) = r0 at *
  have hgw := blk_lt HX.out
  have HGW := Aside0.mk hgw
  clear hgw
  go_wp2_with fail
  have HQ0 := Aside0.mk (T3.out.less (Nat.zero_le _))
  go_loopw [2, 7] (fun v2 v7 w' => ∃ (i : Nat) (r : Int), v2 = .int .i64 r ∧ v7 = .int .i64 (i : Int) ∧ i ≤ ls.length ∧ Aside0 (RP room 0 r) ∧ Aside0 (XV w' g ⟨kind, s, b, n, ⟨la, ls.length, lc⟩, ⟨ma, mn, mc⟩, inner, unk⟩) ∧ Aside0 (Below w.heap.size w w')) (fun _ v7 _ => ls.length - (intOf v7).toNat)
  case atStart => exact ⟨0, r0, rfl, rfl, Nat.zero_le _, HQ0, HX, HB⟩
  case round =>
    clear HQ0 T3 HX HB HGW
    obtain ⟨i, r, rfl, rfl, hi, HQ, HX, HB⟩ := hrel
    have q4 := HX.out.c4
    have q5 := HX.out.c5
    have hWr : Below W.heap.size W wr := HW.out.trans (HB.out.mono HW.out.size)
    have HWr := Aside0.mk hWr
    have hgr := blk_lt HX.out
    have HGR := Aside0.mk hgr
    clear hWr hgr
    by_cases hgo : i < ls.length ∧ 0 ≤ r
    · obtain ⟨hlt, hr0⟩ := hgo
      obtain ⟨a, rfl, hel⟩ := HLS.out.2.2.2 (by omega)
      obtain ⟨he1, he2⟩ := hel i hlt
      have hxa := (vl_at he1).below HWr.out
      have HN := Aside0.mk he2
      generalize ls[i] = x at *
      obtain ⟨kx, sx, bx, nx, ⟨lax, lnx, lcx⟩, ⟨max, mnx, mcx⟩, ix, ux⟩ := x
      have p0 := hxa.c0
      have p1 := hxa.c1
      have p2 := hxa.c2
      have p3 := hxa.c3
      have p4 := hxa.c4
      have p5 := hxa.c5
      have p6 := hxa.c6
      have p7 := hxa.c7
      have H := HVV.out W wr _ r HWr.out HN.out HQ.out.1 (by have := HQ.out.2.1; have := H12.out; omega)
      unfold vlA Sl.v at H
      unfold Sl.v at p4 p5
      have hlm : ls.length ≤ 9223372036854775807 := by have h := HLS.out.2.1; have h2 := HLS.out.2.2.1; unfold maxLen at h2; simp only at h h2; omega
      clear he1 he2 hel hxa
      go_wp2_with fail
      refine H.mono ?_
      rintro e w3 ⟨r2, rfl, hr2, hb⟩
      have HQn := Aside0.mk (HQ.out.trans hr2)
      have HXn : Aside0 (XV w3 g _) := ⟨blk_below HX.out hb⟩
      have HBn := Aside0.mk (below_next HB.out hb)
      clear hb hr2 p0 p1 p2 p3 p4 p5 p6 p7 q4 q5 HX HB HQ H
      go_wp2_with fail
      go_roundw
      case rel => exact ⟨i + 1, r2, rfl, by go_num, by omega, HQn, HXn, HBn⟩
      case measure => simp [intOf]; omega
    · have H := HKK.out W wr _ ms r HWr.out HMS.out HQ.out.1 (by have := HQ.out.2.1; have := H12.out; omega)
      unfold Sl.v at H
      have hor : ¬ i < ls.length ∨ (i < ls.length ∧ r < 0) := by
        by_cases h1 : i < ls.length
        · exact .inr ⟨h1, by by_cases h : 0 ≤ r; exact absurd ⟨h1, h⟩ hgo; omega⟩
        · exact .inl h1
      clear hgo
      rcases hor with d1 | ⟨d1, d2⟩
      all_goals
        go_wp2_with fail
        all_goals first
          | (exfalso; omega)
          | (refine H.mono ?_
             rintro e w3 ⟨r2, rfl, hr2, hb⟩
             have HQn := Aside0.mk ((HQ.out.trans hr2).less (Nat.zero_le _))
             have HBn := Aside0.mk (below_next HB.out hb)
             clear hb hr2 q4 q5 HX HB HQ H
             go_wp2_with fail
             go_ret
             exact ⟨r2, rfl, HQn.out, HBn.out⟩)
end Go.Proofs.YtnghlkbmfhkmoaaGreatDoor
namespace Go.Proofs.YtnghlkbmfhkmoaaGreatDoor
open Go.RowKit Go.Proofs.YtnghlkbmfhkmoaaGreatDoorW.PrintWords Go.Proofs.YtnghlkbmfhkmoaaGreatDoorW.PrintLast Go.Proofs.YtnghlkbmfhkmoaaGreatDoorW.PrintMore

set_option maxHeartbeats 2000000 in
set_option maxRecDepth 100000 in
theorem rk_any (m : Nat) (hm : m ≤ 100) (HV : RVAt m) : RKAt m := by
  intro W w s l room hW hs h1 h2
  obtain ⟨sa, sn, sc⟩ := s
  obtain rfl : sn = l.length := hs.1
  have HVV := Aside0.mk HV
  have HW := Aside0.mk hW
  have HS := Aside0.mk hs
  have HB := Aside0.mk (Below.refl w.heap.size w)
  have H12 := Aside0.mk h2
  have HQ := Aside0.mk (RP.refl h1)
  obtain ⟨dp, hdp⟩ : ∃ dp : Int, (m : Int) - 1 = dp := ⟨_, rfl⟩
  have HDP := Aside0.mk hdp
  rw [hdp]
  have hdp1 : dp ≤ 99 := by omega
  have hdp2 : -1 ≤ dp := by omega
  have hlm : l.length ≤ 9223372036854775807 := by have h := hs.2.1; have h2 := hs.2.2.1; unfold maxLen at h2; simp only at h h2; omega
  unfold Sl.v
  clear HV hW hs h2 hdp hm
  by_cases hneg : dp < 0 ∧ 0 < l.length
  · obtain ⟨n1, n2⟩ := hneg
    go_enter Tryz.func39, Tryz.ntmps39
    go_wp2_with fail
    all_goals first
      | (exfalso; omega)
      | (go_ret
         exact ⟨-1, rfl, ⟨by omega, by omega, fun h => by omega⟩, HB.out⟩)
  · have hor : ¬ dp < 0 ∨ (dp < 0 ∧ ¬ 0 < l.length) := by
      by_cases h : dp < 0
      · exact .inr ⟨h, fun h' => hneg ⟨h, h'⟩⟩
      · exact .inl h
    clear hneg
    rcases hor with n1 | ⟨n1, n2⟩
    · skip
      go_enter Tryz.func39, Tryz.ntmps39
      go_wp2_with fail
      go_loopw [2, 7] (fun v2 v7 w' => ∃ (i : Nat) (r : Int), v2 = .int .i64 r ∧ v7 = .int .i64 (i : Int) ∧ i ≤ l.length ∧ Aside0 (RP room i r) ∧ Aside0 (Below w.heap.size w w')) (fun _ v7 _ => l.length - (intOf v7).toNat)
      case atStart => exact ⟨0, room, rfl, rfl, Nat.zero_le _, HQ, HB⟩
      case round =>
        clear HQ HB
        obtain ⟨i, r, rfl, rfl, hi, HQ, HB⟩ := hrel
        by_cases hgo : i < l.length ∧ 0 ≤ r
        · obtain ⟨hlt, hr0⟩ := hgo
          obtain ⟨ad, rfl, hel⟩ := HS.out.2.2.2 (by omega)
          obtain ⟨he1, he2⟩ := hel i hlt
          have hWr : Below W.heap.size W wr := HW.out.trans (HB.out.mono HW.out.size)
          have hxa := (kv_at he1).below hWr
          have HXA := Aside0.mk hxa
          have HWr := Aside0.mk hWr
          have HN := Aside0.mk he2
          generalize l[i] = x at *
          obtain ⟨key, has, ⟨kx, sx, bx, nx, ⟨lax, lnx, lcx⟩, ⟨max, mnx, mcx⟩, ix, ux⟩, unk⟩ := x
          have p0 := hxa.c0
          have p10 := hxa.c10
          have T2 := Aside0.mk (tk2 r key.size unk.size (by omega) (by have := HQ.out.2.1; have := H12.out; omega))
          clear he1 he2 hel hxa hWr
          go_wp2_with fail
          go_quiet ((go_at_call 38; exact Calls.quiet_of (take_qq _ _ _)))
          generalize tk (tk r (key.size : Int)) (unk.size : Int) = r1 at *
          have HBd : Aside0 (Below w.heap.size w (wr.drewN nq)) := ⟨pw_below_drewN HB.out _⟩
          have HWd : Aside0 (Below W.heap.size W (wr.drewN nq)) := ⟨pw_below_drewN HWr.out _⟩
          have hxd := HXA.out.below (pw_below_drewN (Below.refl wr.heap.size wr) nq)
          generalize wr.drewN nq = w2 at *
          have H := HVV.out W w2 _ r1 HWd.out HN.out.v T2.out.1 (by have := T2.out.2.1; have := HQ.out.2.1; have := H12.out; omega)
          unfold vlA Sl.v at H
          rw [HDP.out] at H
          have p2 := hxd.c2
          have p3 := hxd.c3
          have p4 := hxd.c4
          have p5 := hxd.c5
          have p6 := hxd.c6
          have p7 := hxd.c7
          have p8 := hxd.c8
          have p9 := hxd.c9
          unfold Sl.v at p6 p7
          have z42 := Tryz.sizeOf57
          clear p0 p10 hxd HB HWr HXA
          go_wp2_with fail
          refine H.mono ?_
          rintro e w3 ⟨r2, rfl, hr2, hb⟩
          have HQn := Aside0.mk (((HQ.out.trans T2.out).trans hr2).less (show i + 1 ≤ i + 2 + 0 by omega))
          have HBn := Aside0.mk (below_next HBd.out hb)
          clear hb hr2 p2 p3 p4 p5 p6 p7 p8 p9 H HBd HWd HQ T2
          go_wp2_with fail
          go_roundw
          case rel => exact ⟨i + 1, r2, rfl, by go_num, by omega, HQn, HBn⟩
          case measure => simp [intOf]; omega
        · have hor : ¬ i < l.length ∨ (i < l.length ∧ r < 0) := by
            by_cases h1 : i < l.length
            · exact .inr ⟨h1, by by_cases h : 0 ≤ r; exact absurd ⟨h1, h⟩ hgo; omega⟩
            · exact .inl h1
          have HQn : Aside0 (RP room l.length r) := ⟨by
            rcases hor with h | ⟨_, h⟩
            · exact HQ.out.less (by omega)
            · exact HQ.out.neg _ h⟩
          clear hgo
          rcases hor with d1 | ⟨d1, d2⟩
          all_goals
            go_wp2_with fail
            all_goals first
              | (exfalso; omega)
              | (go_ret
                 exact ⟨r, rfl, HQn.out, HB.out⟩)
    · go_enter Tryz.func39, Tryz.ntmps39
      go_wp2_with fail
      go_loopw [2, 7] (fun v2 v7 w' => v2 = .int .i64 room ∧ v7 = .int .i64 0 ∧ Aside0 (Below w.heap.size w w')) (fun _ _ _ => 0)
      case atStart => exact ⟨rfl, rfl, HB⟩
      case round =>
        clear HB
        obtain ⟨rfl, rfl, HB⟩ := hrel
        go_wp2_with fail
        go_ret
        exact ⟨room, rfl, ⟨h1, Int.le_refl _, fun _ => by omega⟩, HB.out⟩
theorem room_both : ∀ m : Nat, m ≤ 90 → RVAt m ∧ RKAt m := by
  intro m
  induction m with
  | zero => intro _; exact ⟨rv_neg, rk_any 0 (by omega) rv_neg⟩
  | succ m ih =>
    intro hm
    obtain ⟨h1, h2⟩ := ih (by omega)
    have h := rv_next m (by omega) h1 h2
    exact ⟨h, rk_any (m + 1) (by omega) h⟩
theorem rkeys_40 (W w : World) (s : Sl) (l : List Kv) (room : Int) (hW : Below W.heap.size W w) (hs : SlAt 11 kvC KvOk W s l) (h1 : -1 ≤ room) (h2 : room ≤ 12000) :
    Calls Tryz.prog 39 #[s.v, .int .i64 40, .int .i64 room] w (RRes room l.length w) := (room_both 41 (by omega)).2 W w s l room hW hs h1 h2
end Go.Proofs.YtnghlkbmfhkmoaaGreatDoor
namespace Go.Proofs.YtnghlkbmfhkmoaaGreatDoor
open Go.RowKit Go.Proofs.YtnghlkbmfhkmoaaGreatDoorW.PrintWords Go.Proofs.YtnghlkbmfhkmoaaGreatDoorW.PrintLast Go.Proofs.YtnghlkbmfhkmoaaGreatDoorW.PrintMore

open Classical in
/-- The values of a slice, as they are read. -/
noncomputable def vls (W : World) (s : Sl) : List Vl := if h : ∃ l, SlAt 8 vlC VlOk W s l then h.choose else []
open Classical in
/-- The attributes of a slice, as they are read. -/
noncomputable def kvs (W : World) (s : Sl) : List Kv := if h : ∃ l, SlAt 11 kvC KvOk W s l then h.choose else []
theorem vls_at {W : World} {s : Sl} (h : Rd Tryz.prog W 55 [s.v]) : SlAt 8 vlC VlOk W s (vls W s) := by
  have h' := rd_vls h
  unfold vls
  rw [dif_pos h']
  exact h'.choose_spec
theorem kvs_at {W : World} {s : Sl} (h : Rd Tryz.prog W 22 [s.v]) : SlAt 11 kvC KvOk W s (kvs W s) := by
  have h' := rd_kvs h
  unfold kvs
  rw [dif_pos h']
  exact h'.choose_spec
/-- Read through within this depth. -/
def FinV (W : World) : Nat → Vl → Prop
  | 0, _ => False
  | d + 1, x => (∀ y ∈ vls W x.l, FinV W d y) ∧ ∀ y ∈ kvs W x.m, FinV W d y.v
def RResF (room : Int) (k : Nat) (F : Prop) (w : World) (e : Ending) (w' : World) : Prop := ∃ r : Int, e = .returned (.int .i64 r) ∧ (RP room k r ∧ (0 ≤ r → F)) ∧ Below w.heap.size w w'
def RVFt (m : Nat) : Prop := ∀ (W w : World) (v : Vl) (room : Int), Below W.heap.size W w → VlOk W v → -1 ≤ room → room ≤ 12000 →
  Calls Tryz.prog 61 #[vlA v, .int .i64 ((m : Int) - 1), .int .i64 room] w (RResF room 0 (FinV W m v) w)
def RKFt (m : Nat) : Prop := ∀ (W w : World) (s : Sl) (l : List Kv) (room : Int), Below W.heap.size W w → SlAt 11 kvC KvOk W s l → -1 ≤ room → room ≤ 12000 →
  Calls Tryz.prog 39 #[s.v, .int .i64 ((m : Int) - 1), .int .i64 room] w (RResF room l.length (∀ y ∈ l, FinV W m y.v) w)
theorem all_of_get {α : Type} {l : List α} {p : α → Prop} (h : ∀ j y, j < l.length → l[j]? = some y → p y) : ∀ y ∈ l, p y := by
  intro y hy
  obtain ⟨j, hj, e⟩ := List.mem_iff_getElem.1 hy
  exact h j y hj (by rw [List.getElem?_eq_getElem hj, e])
theorem get_next {α : Type} {l : List α} {p : α → Prop} {i : Nat} {x : α} (h : ∀ j y, j < i → l[j]? = some y → p y) (hx : l[i]? = some x) (hp : p x) : ∀ j y, j < i + 1 → l[j]? = some y → p y := by
  intro j y hj hy
  by_cases hji : j < i
  · exact h j y hji hy
  · obtain rfl : j = i := by omega
    rw [hx] at hy
    injection hy with hy
    subst hy
    exact hp
theorem rvf_neg : RVFt 0 := by
  intro W w v room _ _ h1 _
  unfold vlA Sl.v
  go_enter Tryz.func61, Tryz.ntmps61
  go_wp2_with fail
  go_ret
  exact ⟨-1, rfl, ⟨⟨by omega, by omega, fun h => by omega⟩, fun h => by omega⟩, (Below.refl _ _).alloc (Nat.le_refl _) _⟩
set_option maxHeartbeats 2000000 in
set_option maxRecDepth 100000 in
theorem rvf_next (m : Nat) (hm : m ≤ 100) (HV : RVFt m) (HK : RKFt m) : RVFt (m + 1) := by
  intro W w v room hW hv h1 h2
  have hls := vls_at hv.l
  have hms := kvs_at hv.m
  have hfin : ∀ P Q : Prop, ((∀ y ∈ vls W v.l, FinV W m y) → (∀ y ∈ kvs W v.m, FinV W m y.v) → FinV W (m + 1) v) := fun _ _ h1 h2 => ⟨h1, h2⟩
  have HFIN := Aside0.mk (hfin True True)
  clear hfin
  generalize hlE : vls W v.l = ls at *
  generalize hmE : kvs W v.m = ms at *
  clear hlE hmE
  obtain ⟨kind, s, b, n, ⟨la, ln, lc⟩, ⟨ma, mn, mc⟩, inner, unk⟩ := v
  obtain rfl : ln = ls.length := hls.1
  have HVV := Aside0.mk HV
  have HKK := Aside0.mk HK
  have HW := Aside0.mk hW
  have HO := Aside0.mk hv
  have HB0 := Aside0.mk (Below.refl w.heap.size w)
  have HLS := Aside0.mk hls
  have HMS := Aside0.mk hms
  have e1 : ((m + 1 : Nat) : Int) - 1 = (m : Int) := by omega
  have T3 := Aside0.mk (tk3 room s.size inner.size unk.size h1 h2)
  have H12 := Aside0.mk h2
  rw [e1]
  clear HV HK hW hv hls hms e1 h1 h2
  unfold vlA Sl.v
  go_enter Tryz.func61, Tryz.ntmps61
  go_upto_region 3 with fail
  have hx1 : XV (w.alloc (.cells #[.int .i64 kind, .string s, .bool b, .int .u64 n, .slice la ls.length lc, .slice ma mn mc, .string inner, .string unk] 57)) w.heap.size ⟨kind, s, b, n, ⟨la, ls.length, lc⟩, ⟨ma, mn, mc⟩, inner, unk⟩ := heap_alloc_new w _
  have HX := Aside0.mk hx1
  have HB := Aside0.mk ((Below.refl w.heap.size w).alloc (Nat.le_refl _) (.cells #[.int .i64 kind, .string s, .bool b, .int .u64 n, .slice la ls.length lc, .slice ma mn mc, .string inner, .string unk] 57))
  clear hx1 HB0
  generalize w.alloc (.cells #[.int .i64 kind, .string s, .bool b, .int .u64 n, .slice la ls.length lc, .slice ma mn mc, .string inner, .string unk] 57) = w1 at *
  generalize hgg : w.heap.size = g at HX ⊢
  have HGG := Aside0.mk hgg
  clear hgg
  have q1 := HX.out.c1
  have q6 := HX.out.c6
  have q7 := HX.out.c7
  have q4 := HX.out.c4
  go_quiet ((go_at_call 38; exact Calls.quiet_of (take_qq _ _ _)))
  have HXn : Aside0 (XV (w1.drewN nq) g ⟨kind, s, b, n, ⟨la, ls.length, lc⟩, ⟨ma, mn, mc⟩, inner, unk⟩) := ⟨HX.out⟩
  have HBn : Aside0 (Below w.heap.size w (w1.drewN nq)) := ⟨pw_below_drewN HB.out _⟩
  clear HX HB q1 q6 q7 q4
  have HX := HXn
  have HB := HBn
  clear HXn HBn
  generalize w1.drewN nq = w2 at *
  generalize tk (tk (tk room (s.size : Int)) (inner.size : Int)) (unk.size : Int) = r0 at *
  have hgw := blk_lt HX.out
  have HGW := Aside0.mk hgw
  clear hgw
  go_wp2_with fail
  have HQ0 := Aside0.mk (T3.out.less (Nat.zero_le _))
  go_loopw [2, 7] (fun v2 v7 w' => ∃ (i : Nat) (r : Int), v2 = .int .i64 r ∧ v7 = .int .i64 (i : Int) ∧ i ≤ ls.length ∧ Aside0 (RP room 0 r) ∧ Aside0 (0 ≤ r → ∀ j y, j < i → ls[j]? = some y → FinV W m y) ∧ Aside0 (XV w' g ⟨kind, s, b, n, ⟨la, ls.length, lc⟩, ⟨ma, mn, mc⟩, inner, unk⟩) ∧ Aside0 (Below w.heap.size w w')) (fun _ v7 _ => ls.length - (intOf v7).toNat)
  case atStart => exact ⟨0, r0, rfl, rfl, Nat.zero_le _, HQ0, ⟨fun _ j y hj => absurd hj (Nat.not_lt_zero j)⟩, HX, HB⟩
  case round =>
    clear HQ0 T3 HX HB HGW
    obtain ⟨i, r, rfl, rfl, hi, HQ, HFI, HX, HB⟩ := hrel
    have q4 := HX.out.c4
    have q5 := HX.out.c5
    have hWr : Below W.heap.size W wr := HW.out.trans (HB.out.mono HW.out.size)
    have HWr := Aside0.mk hWr
    have hgr := blk_lt HX.out
    have HGR := Aside0.mk hgr
    clear hWr hgr
    by_cases hgo : i < ls.length ∧ 0 ≤ r
    · obtain ⟨hlt, hr0⟩ := hgo
      obtain ⟨a, rfl, hel⟩ := HLS.out.2.2.2 (by omega)
      obtain ⟨he1, he2⟩ := hel i hlt
      have hxa := (vl_at he1).below HWr.out
      have HN := Aside0.mk he2
      have HGX := Aside0.mk (List.getElem?_eq_getElem hlt)
      generalize ls[i] = x at *
      obtain ⟨kx, sx, bx, nx, ⟨lax, lnx, lcx⟩, ⟨max, mnx, mcx⟩, ix, ux⟩ := x
      have p0 := hxa.c0
      have p1 := hxa.c1
      have p2 := hxa.c2
      have p3 := hxa.c3
      have p4 := hxa.c4
      have p5 := hxa.c5
      have p6 := hxa.c6
      have p7 := hxa.c7
      have H := HVV.out W wr _ r HWr.out HN.out HQ.out.1 (by have := HQ.out.2.1; have := H12.out; omega)
      unfold vlA Sl.v at H
      unfold Sl.v at p4 p5
      have hlm : ls.length ≤ 9223372036854775807 := by have h := HLS.out.2.1; have h2 := HLS.out.2.2.1; unfold maxLen at h2; simp only at h h2; omega
      clear he1 he2 hel hxa
      go_wp2_with fail
      refine H.mono ?_
      rintro e w3 ⟨r2, rfl, hr2, hb⟩
      have HQn := Aside0.mk (HQ.out.trans hr2.1)
      have HFn := Aside0.mk (show 0 ≤ r2 → ∀ j y, j < i + 1 → ls[j]? = some y → FinV W m y from fun h0 => get_next (HFI.out hr0) HGX.out (hr2.2 h0))
      have HXn : Aside0 (XV w3 g _) := ⟨blk_below HX.out hb⟩
      have HBn := Aside0.mk (below_next HB.out hb)
      clear hb hr2 p0 p1 p2 p3 p4 p5 p6 p7 q4 q5 HX HB HQ H
      go_wp2_with fail
      go_roundw
      case rel => exact ⟨i + 1, r2, rfl, by go_num, by omega, HQn, HFn, HXn, HBn⟩
      case measure => simp [intOf]; omega
    · have H := HKK.out W wr _ ms r HWr.out HMS.out HQ.out.1 (by have := HQ.out.2.1; have := H12.out; omega)
      unfold Sl.v at H
      have hor : ¬ i < ls.length ∨ (i < ls.length ∧ r < 0) := by
        by_cases h1 : i < ls.length
        · exact .inr ⟨h1, by by_cases h : 0 ≤ r; exact absurd ⟨h1, h⟩ hgo; omega⟩
        · exact .inl h1
      clear hgo
      rcases hor with d1 | ⟨d1, d2⟩
      all_goals
        go_wp2_with fail
        all_goals first
          | (exfalso; omega)
          | (refine H.mono ?_
             rintro e w3 ⟨r2, rfl, hr2, hb⟩
             have HQn := Aside0.mk ((HQ.out.trans hr2.1).less (Nat.zero_le _))
             have HFn := Aside0.mk (show 0 ≤ r2 → FinV W (m + 1) _ from fun h0 => HFIN.out (all_of_get (fun j y hj hy => HFI.out (by have := hr2.1.2.1; omega) j y (by have := hr2.1.2.1; omega) hy)) (hr2.2 h0))
             have HBn := Aside0.mk (below_next HB.out hb)
             clear hb hr2 q4 q5 HX HB HQ H
             go_wp2_with fail
             go_ret
             exact ⟨r2, rfl, ⟨HQn.out, HFn.out⟩, HBn.out⟩)
set_option maxHeartbeats 2000000 in
set_option maxRecDepth 100000 in
theorem rkf_any (m : Nat) (hm : m ≤ 100) (HV : RVFt m) : RKFt m := by
  intro W w s l room hW hs h1 h2
  obtain ⟨sa, sn, sc⟩ := s
  obtain rfl : sn = l.length := hs.1
  have HVV := Aside0.mk HV
  have HW := Aside0.mk hW
  have HS := Aside0.mk hs
  have HB := Aside0.mk (Below.refl w.heap.size w)
  have H12 := Aside0.mk h2
  have HQ := Aside0.mk (RP.refl h1)
  obtain ⟨dp, hdp⟩ : ∃ dp : Int, (m : Int) - 1 = dp := ⟨_, rfl⟩
  have HDP := Aside0.mk hdp
  rw [hdp]
  have hdp1 : dp ≤ 99 := by omega
  have hdp2 : -1 ≤ dp := by omega
  have hlm : l.length ≤ 9223372036854775807 := by have h := hs.2.1; have h2 := hs.2.2.1; unfold maxLen at h2; simp only at h h2; omega
  unfold Sl.v
  clear HV hW hs h2 hdp hm
  by_cases hneg : dp < 0 ∧ 0 < l.length
  · obtain ⟨n1, n2⟩ := hneg
    go_enter Tryz.func39, Tryz.ntmps39
    go_wp2_with fail
    all_goals first
      | (exfalso; omega)
      | (go_ret
         exact ⟨-1, rfl, ⟨⟨by omega, by omega, fun h => by omega⟩, fun h => by omega⟩, HB.out⟩)
  · have hor : ¬ dp < 0 ∨ (dp < 0 ∧ ¬ 0 < l.length) := by
      by_cases h : dp < 0
      · exact .inr ⟨h, fun h' => hneg ⟨h, h'⟩⟩
      · exact .inl h
    clear hneg
    rcases hor with n1 | ⟨n1, n2⟩
    · skip
      go_enter Tryz.func39, Tryz.ntmps39
      go_wp2_with fail
      go_loopw [2, 7] (fun v2 v7 w' => ∃ (i : Nat) (r : Int), v2 = .int .i64 r ∧ v7 = .int .i64 (i : Int) ∧ i ≤ l.length ∧ Aside0 (RP room i r) ∧ Aside0 (0 ≤ r → ∀ j y, j < i → l[j]? = some y → FinV W m y.v) ∧ Aside0 (Below w.heap.size w w')) (fun _ v7 _ => l.length - (intOf v7).toNat)
      case atStart => exact ⟨0, room, rfl, rfl, Nat.zero_le _, HQ, ⟨fun _ j y hj => absurd hj (Nat.not_lt_zero j)⟩, HB⟩
      case round =>
        clear HQ HB
        obtain ⟨i, r, rfl, rfl, hi, HQ, HFI, HB⟩ := hrel
        by_cases hgo : i < l.length ∧ 0 ≤ r
        · obtain ⟨hlt, hr0⟩ := hgo
          obtain ⟨ad, rfl, hel⟩ := HS.out.2.2.2 (by omega)
          obtain ⟨he1, he2⟩ := hel i hlt
          have hWr : Below W.heap.size W wr := HW.out.trans (HB.out.mono HW.out.size)
          have hxa := (kv_at he1).below hWr
          have HXA := Aside0.mk hxa
          have HWr := Aside0.mk hWr
          have HN := Aside0.mk he2
          have HGX := Aside0.mk (List.getElem?_eq_getElem hlt)
          generalize l[i] = x at *
          obtain ⟨key, has, ⟨kx, sx, bx, nx, ⟨lax, lnx, lcx⟩, ⟨max, mnx, mcx⟩, ix, ux⟩, unk⟩ := x
          have p0 := hxa.c0
          have p10 := hxa.c10
          have T2 := Aside0.mk (tk2 r key.size unk.size (by omega) (by have := HQ.out.2.1; have := H12.out; omega))
          clear he1 he2 hel hxa hWr
          go_wp2_with fail
          go_quiet ((go_at_call 38; exact Calls.quiet_of (take_qq _ _ _)))
          generalize tk (tk r (key.size : Int)) (unk.size : Int) = r1 at *
          have HBd : Aside0 (Below w.heap.size w (wr.drewN nq)) := ⟨pw_below_drewN HB.out _⟩
          have HWd : Aside0 (Below W.heap.size W (wr.drewN nq)) := ⟨pw_below_drewN HWr.out _⟩
          have hxd := HXA.out.below (pw_below_drewN (Below.refl wr.heap.size wr) nq)
          generalize wr.drewN nq = w2 at *
          have H := HVV.out W w2 _ r1 HWd.out HN.out.v T2.out.1 (by have := T2.out.2.1; have := HQ.out.2.1; have := H12.out; omega)
          unfold vlA Sl.v at H
          rw [HDP.out] at H
          have p2 := hxd.c2
          have p3 := hxd.c3
          have p4 := hxd.c4
          have p5 := hxd.c5
          have p6 := hxd.c6
          have p7 := hxd.c7
          have p8 := hxd.c8
          have p9 := hxd.c9
          unfold Sl.v at p6 p7
          have z42 := Tryz.sizeOf57
          clear p0 p10 hxd HB HWr HXA
          go_wp2_with fail
          refine H.mono ?_
          rintro e w3 ⟨r2, rfl, hr2, hb⟩
          have HQn := Aside0.mk (((HQ.out.trans T2.out).trans hr2.1).less (show i + 1 ≤ i + 2 + 0 by omega))
          have HFn := Aside0.mk (show 0 ≤ r2 → ∀ j y, j < i + 1 → l[j]? = some y → FinV W m y.v from fun h0 => get_next (p := fun y : Kv => FinV W m y.v) (HFI.out hr0) HGX.out (hr2.2 h0))
          have HBn := Aside0.mk (below_next HBd.out hb)
          clear hb hr2 p2 p3 p4 p5 p6 p7 p8 p9 H HBd HWd HQ T2
          go_wp2_with fail
          go_roundw
          case rel => exact ⟨i + 1, r2, rfl, by go_num, by omega, HQn, HFn, HBn⟩
          case measure => simp [intOf]; omega
        · have hor : ¬ i < l.length ∨ (i < l.length ∧ r < 0) := by
            by_cases h1 : i < l.length
            · exact .inr ⟨h1, by by_cases h : 0 ≤ r; exact absurd ⟨h1, h⟩ hgo; omega⟩
            · exact .inl h1
          have HQn : Aside0 (RP room l.length r) := ⟨by
            rcases hor with h | ⟨_, h⟩
            · exact HQ.out.less (by omega)
            · exact HQ.out.neg _ h⟩
          clear hgo
          rcases hor with d1 | ⟨d1, d2⟩
          all_goals
            go_wp2_with fail
            all_goals first
              | (exfalso; omega)
              | (go_ret
                 exact ⟨r, rfl, ⟨HQn.out, fun h0 => all_of_get (p := fun y : Kv => FinV W m y.v) (fun j y hj hy => HFI.out h0 j y (by omega) hy)⟩, HB.out⟩)
    · go_enter Tryz.func39, Tryz.ntmps39
      go_wp2_with fail
      go_loopw [2, 7] (fun v2 v7 w' => v2 = .int .i64 room ∧ v7 = .int .i64 0 ∧ Aside0 (Below w.heap.size w w')) (fun _ _ _ => 0)
      case atStart => exact ⟨rfl, rfl, HB⟩
      case round =>
        clear HB
        obtain ⟨rfl, rfl, HB⟩ := hrel
        go_wp2_with fail
        go_ret
        exact ⟨room, rfl, ⟨⟨h1, Int.le_refl _, fun _ => by omega⟩, fun _ y hy => by obtain ⟨j, hj, _⟩ := List.mem_iff_getElem.1 hy; omega⟩, HB.out⟩
theorem roomf_both : ∀ m : Nat, m ≤ 90 → RVFt m ∧ RKFt m := by
  intro m
  induction m with
  | zero => intro _; exact ⟨rvf_neg, rkf_any 0 (by omega) rvf_neg⟩
  | succ m ih =>
    intro hm
    obtain ⟨h1, h2⟩ := ih (by omega)
    have h := rvf_next m (by omega) h1 h2
    exact ⟨h, rkf_any (m + 1) (by omega) h⟩
end Go.Proofs.YtnghlkbmfhkmoaaGreatDoor
namespace Go.Proofs.YtnghlkbmfhkmoaaGreatDoor
open Go.RowKit Go.Proofs.YtnghlkbmfhkmoaaGreatDoorW.PrintWords Go.Proofs.YtnghlkbmfhkmoaaGreatDoorW.PrintLast Go.Proofs.YtnghlkbmfhkmoaaGreatDoorW.PrintMore

/-! ### values alike, however deep -/
def listB {α : Type} (f : α → α → Bool) : List α → List α → Bool
  | [], [] => true
  | a :: l, b :: l' => f a b && listB f l l'
  | _, _ => false
def stB (s t : ByteArray) : Bool := s.toList == t.toList
def baseV (a b : Vl) : Bool := decide (a.kind = b.kind) && (stB a.s b.s && (decide (a.b = b.b) && (decide (a.n = b.n) && (stB a.inner b.inner && stB a.unk b.unk))))
def eqK (f : Vl → Vl → Bool) (x y : Kv) : Bool := stB x.key y.key && (decide (x.has = y.has) && (stB x.unk y.unk && f x.v y.v))
/-- Two values that were read in W, to this depth. -/
noncomputable def eqV (W : World) : Nat → Vl → Vl → Bool
  | 0, _, _ => false
  | d + 1, a, b => baseV a b && (listB (eqV W d) (vls W a.l) (vls W b.l) && listB (eqK (eqV W d)) (kvs W a.m) (kvs W b.m))
theorem stB_self (s : ByteArray) : stB s s = true := beq_self_eq_true _
theorem listB_self {α : Type} {f : α → α → Bool} : ∀ l : List α, (∀ x ∈ l, f x x = true) → listB f l l = true
  | [], _ => rfl
  | a :: l, h => by
    unfold listB
    rw [h a List.mem_cons_self, listB_self l (fun x hx => h x (List.mem_cons_of_mem _ hx))]
    rfl
theorem eqV_self (W : World) : ∀ (d : Nat) (a : Vl), FinV W d a → eqV W d a a = true
  | 0, _, h => h.elim
  | d + 1, a, h => by
    unfold eqV baseV
    rw [listB_self _ (fun x hx => eqV_self W d x (h.1 x hx)), listB_self _ (fun x hx => by unfold eqK; rw [eqV_self W d x.v (h.2 x hx), stB_self, stB_self]; simp)]
    simp [stB_self]
theorem listB_len {α : Type} {f : α → α → Bool} : ∀ l l' : List α, l.length ≠ l'.length → listB f l l' = false
  | [], [], h => absurd rfl h
  | [], _ :: _, _ => rfl
  | _ :: _, [], _ => rfl
  | a :: l, b :: l', h => by
    unfold listB
    rw [listB_len l l' (fun e => h (by simp [e]))]
    simp
/-- One more of both. -/
theorem listB_drop {α : Type} {f : α → α → Bool} (l l' : List α) (i : Nat) (h : i < l.length) (h' : i < l'.length) : listB f (l.drop i) (l'.drop i) = (f l[i] l'[i] && listB f (l.drop (i + 1)) (l'.drop (i + 1))) := by
  rw [List.drop_eq_getElem_cons h, List.drop_eq_getElem_cons h']
  rfl
end Go.Proofs.YtnghlkbmfhkmoaaGreatDoor
namespace Go.Proofs.YtnghlkbmfhkmoaaGreatDoor
open Go.RowKit Go.Proofs.YtnghlkbmfhkmoaaGreatDoorW.PrintWords Go.Proofs.YtnghlkbmfhkmoaaGreatDoorW.PrintLast Go.Proofs.YtnghlkbmfhkmoaaGreatDoorW.PrintMore

/-- An exemplar's block. -/
def XE (w : World) (g : Nat) (a : Value) (t k n : Int) (sp tr u : ByteArray) : Prop := w.heap[g]? = some (.cells #[a, .int .u64 t, .int .i64 k, .int .u64 n, .string sp, .string tr, .string u] 25 (0, 0))
section
variable {w : World} {g : Nat} {a : Value} {t k n : Int} {sp tr u : ByteArray}
theorem XE.c0 (h : XE w g a t k n sp tr u) : w.cell? ⟨g, 0, none⟩ = some a := by rw [blk_cell h]; rfl
theorem XE.c1 (h : XE w g a t k n sp tr u) : w.cell? ⟨g, 1, none⟩ = some (.int .u64 t) := by rw [blk_cell h]; rfl
theorem XE.c2 (h : XE w g a t k n sp tr u) : w.cell? ⟨g, 2, none⟩ = some (.int .i64 k) := by rw [blk_cell h]; rfl
theorem XE.c3 (h : XE w g a t k n sp tr u) : w.cell? ⟨g, 3, none⟩ = some (.int .u64 n) := by rw [blk_cell h]; rfl
theorem XE.c4 (h : XE w g a t k n sp tr u) : w.cell? ⟨g, 4, none⟩ = some (.string sp) := by rw [blk_cell h]; rfl
theorem XE.c5 (h : XE w g a t k n sp tr u) : w.cell? ⟨g, 5, none⟩ = some (.string tr) := by rw [blk_cell h]; rfl
theorem XE.c6 (h : XE w g a t k n sp tr u) : w.cell? ⟨g, 6, none⟩ = some (.string u) := by rw [blk_cell h]; rfl
theorem XE.fz (h : XE w g a t k n sp tr u) (i : Nat) : w.frozen? ⟨g, i, none⟩ = false := blk_frozen h i
def exSt (w : World) (x : Nat) (a' : Value) (t' k' n' : Int) (sp' tr' u' : ByteArray) : World :=
  ((((((w.setCell ⟨x, 0, none⟩ a').setCell ⟨x, 1, none⟩ (.int .u64 t')).setCell ⟨x, 2, none⟩ (.int .i64 k')).setCell ⟨x, 3, none⟩ (.int .u64 n')).setCell ⟨x, 4, none⟩ (.string sp')).setCell ⟨x, 5, none⟩ (.string tr')).setCell ⟨x, 6, none⟩ (.string u')
theorem XE.all (h : XE w g a t k n sp tr u) (a' : Value) (t' k' n' : Int) (sp' tr' u' : ByteArray) : XE (exSt w g a' t' k' n' sp' tr' u') g a' t' k' n' sp' tr' u' := by
  unfold XE exSt
  rw [blk_set (blk_set (blk_set (blk_set (blk_set (blk_set (blk_set h 0 _) 1 _) 2 _) 3 _) 4 _) 5 _) 6 _]
  rfl
end
theorem ex_kp (w : World) (x : Nat) (a' : Value) (t' k' n' : Int) (sp' tr' u' : ByteArray) : Kp (fun k => k = x) w (exSt w x a' t' k' n' sp' tr' u') :=
  (((((((Kp.refl (fun k => k = x) w).set (p := ⟨x, 0, none⟩) rfl _).set (p := ⟨x, 1, none⟩) rfl _).set (p := ⟨x, 2, none⟩) rfl _).set (p := ⟨x, 3, none⟩) rfl _).set (p := ⟨x, 4, none⟩) rfl _).set (p := ⟨x, 5, none⟩) rfl _).set (p := ⟨x, 6, none⟩) rfl _
set_option maxHeartbeats 2000000 in
set_option maxRecDepth 100000 in
theorem rexs_any (W w : World) (s : Sl) (l : List Exm) (room : Int) (hW : Below W.heap.size W w) (hs : SlAt 7 exmC ExmOk W s l) (h1 : -1 ≤ room) (h2 : room ≤ 12000) :
    Calls Tryz.prog 15 #[s.v, .int .i64 room] w (RRes room 0 w) := by
  obtain ⟨sa, sn, sc⟩ := s
  obtain rfl : sn = l.length := hs.1
  have HW := Aside0.mk hW
  have HS := Aside0.mk hs
  have HB := Aside0.mk (Below.refl w.heap.size w)
  have H12 := Aside0.mk h2
  have HQ := Aside0.mk (RP.refl h1)
  have hlm : l.length ≤ 9223372036854775807 := by have h := hs.2.1; have h2 := hs.2.2.1; unfold maxLen at h2; simp only at h h2; omega
  unfold Sl.v
  clear hW hs h2
  go_enter Tryz.func15, Tryz.ntmps15
  go_wp2_with fail
  go_loopw [1, 5, 6] (fun v1 v5 _ w' => ∃ (i : Nat) (r : Int), v1 = .int .i64 r ∧ v5 = .int .i64 (i : Int) ∧ i ≤ l.length ∧ Aside0 (RP room 0 r) ∧ Aside0 (Below w.heap.size w w')) (fun _ v5 _ _ => l.length - (intOf v5).toNat)
  case atStart => exact ⟨0, room, rfl, rfl, Nat.zero_le _, HQ, HB⟩
  case round =>
    clear HQ HB
    obtain ⟨i, r, rfl, rfl, hi, HQ, HB⟩ := hrel
    by_cases hgo : i < l.length ∧ 0 ≤ r
    · obtain ⟨hlt, hr0⟩ := hgo
      obtain ⟨ad, rfl, hel⟩ := HS.out.2.2.2 (by omega)
      obtain ⟨he1, he2⟩ := hel i hlt
      have hWr : Below W.heap.size W wr := HW.out.trans (HB.out.mono HW.out.size)
      have hxa := (exm_at he1).below hWr
      have HWr := Aside0.mk hWr
      have HN := Aside0.mk he2
      generalize l[i] = x at *
      obtain ⟨⟨aa, an, ac⟩, tm, kd, nn, sp, tr, unk⟩ := x
      have p0 := hxa.c0
      have p1 := hxa.c1
      have p2 := hxa.c2
      have p3 := hxa.c3
      have p4 := hxa.c4
      have p5 := hxa.c5
      have p6 := hxa.c6
      unfold Sl.v at p0
      have T3 := Aside0.mk (tk3 r sp.size tr.size unk.size (by omega) (by have := HQ.out.2.1; have := H12.out; omega))
      clear he1 he2 hel hxa hWr
      go_upto_region 5 with (first
        | ((with_reducible refine gate_dst (N := 6) rfl ?_); refine box_event ?hg (N := 6) ?hd (cs := #[.slice none 0 0, .int .u64 0, .int .i64 0, .int .u64 0, .string ⟨#[]⟩, .string ⟨#[]⟩, .string ⟨#[]⟩]) (t := 25) ?hr ?_; (case hd => rfl); (case hg => rfl); (case hr => first | (go_simp; done) | (go_simp; rfl)); intro x hx w4 hx4 hb4
           have hx4 : XE w4 x (.slice none 0 0) 0 0 0 ByteArray.empty ByteArray.empty ByteArray.empty := hx4
           have hxw : wr.heap.size ≤ x := by omega
           have p0 := pw_cell_below hb4 p0
           have p1 := pw_cell_below hb4 p1
           have p2 := pw_cell_below hb4 p2
           have p3 := pw_cell_below hb4 p3
           have p4 := pw_cell_below hb4 p4
           have p5 := pw_cell_below hb4 p5
           have p6 := pw_cell_below hb4 p6
           have z0 := hx4.c0
           have z1 := hx4.c1
           have z2 := hx4.c2
           have z3 := hx4.c3
           have z4 := hx4.c4
           have z5 := hx4.c5
           have z6 := hx4.c6
           have zf := fun i => hx4.fz i
           have HX := Aside0.mk (hx4.all (.slice aa an ac) tm kd nn sp tr unk)
           have k5 := ex_kp w4 x (.slice aa an ac) tm kd nn sp tr unk
           have hb := hb4.trans (k5.toBelow hb4.size (fun k e => by rw [e]; exact hxw))
           have HB5 := Aside0.mk (below_next HB.out hb)
           clear hx hx4 k5 hb4 hb))
      clear z0 z1 z2 z3 z4 z5 z6 zf hxw hx4 HB HWr p0 p1 p2 p3 p4 p5 p6
      unfold exSt at HX HB5
      generalize ((((((w4.setCell ⟨x, 0, none⟩ (.slice aa an ac)).setCell ⟨x, 1, none⟩ (.int .u64 tm)).setCell ⟨x, 2, none⟩ (.int .i64 kd)).setCell ⟨x, 3, none⟩ (.int .u64 nn)).setCell ⟨x, 4, none⟩ (.string sp)).setCell ⟨x, 5, none⟩ (.string tr)).setCell ⟨x, 6, none⟩ (.string unk) = w5 at *
      have q4 := HX.out.c4
      have q5 := HX.out.c5
      have q6 := HX.out.c6
      go_quiet ((go_at_call 38; exact Calls.quiet_of (take_qq _ _ _)))
      generalize tk (tk (tk r (sp.size : Int)) (tr.size : Int)) (unk.size : Int) = r1 at *
      have HBd : Aside0 (Below w.heap.size w (w5.drewN nq)) := ⟨pw_below_drewN HB5.out _⟩
      have HXd : Aside0 (XE (w5.drewN nq) x (.slice aa an ac) tm kd nn sp tr unk) := ⟨HX.out⟩
      generalize w5.drewN nq = w6 at *
      have q0 := HXd.out.c0
      obtain ⟨ks, hks⟩ := rd_kvs HN.out.attrs
      have H := rkeys_40 W w6 ⟨aa, an, ac⟩ ks r1 (HW.out.trans (HBd.out.mono HW.out.size)) hks T3.out.1 (by have := T3.out.2.1; have := HQ.out.2.1; have := H12.out; omega)
      unfold Sl.v at H
      clear q4 q5 q6 HX HB5 hks
      go_wp2_with fail
      refine H.mono ?_
      rintro e w7 ⟨r2, rfl, hr2, hb⟩
      have HQn := Aside0.mk (((HQ.out.trans T3.out).trans hr2).less (Nat.zero_le _))
      have HBn := Aside0.mk (below_next HBd.out hb)
      clear hb hr2 q0 H HBd HXd HQ T3
      go_wp2_with fail
      go_roundw
      case rel => exact ⟨i + 1, r2, rfl, by go_num, by omega, HQn, HBn⟩
      case measure => simp [intOf]; omega
    · have hor : ¬ i < l.length ∨ (i < l.length ∧ r < 0) := by
        by_cases h1 : i < l.length
        · exact .inr ⟨h1, by by_cases h : 0 ≤ r; exact absurd ⟨h1, h⟩ hgo; omega⟩
        · exact .inl h1
      clear hgo
      rcases hor with d1 | ⟨d1, d2⟩
      all_goals
        go_wp2_with fail
        all_goals first
          | (exfalso; omega)
          | (go_ret
             exact ⟨r, rfl, HQ.out, HB.out⟩)
end Go.Proofs.YtnghlkbmfhkmoaaGreatDoor
namespace Go.Proofs.YtnghlkbmfhkmoaaGreatDoor
open Go.RowKit Go.Proofs.YtnghlkbmfhkmoaaGreatDoorW.PrintWords Go.Proofs.YtnghlkbmfhkmoaaGreatDoorW.PrintLast Go.Proofs.YtnghlkbmfhkmoaaGreatDoorW.PrintMore

theorem rkeysf_40 (W w : World) (s : Sl) (l : List Kv) (room : Int) (hW : Below W.heap.size W w) (hs : SlAt 11 kvC KvOk W s l) (h1 : -1 ≤ room) (h2 : room ≤ 12000) :
    Calls Tryz.prog 39 #[s.v, .int .i64 40, .int .i64 room] w (RResF room l.length (∀ y ∈ l, FinV W 41 y.v) w) := (roomf_both 41 (by omega)).2 W w s l room hW hs h1 h2
set_option maxHeartbeats 2000000 in
set_option maxRecDepth 100000 in
theorem rexsf_any (W0 W w : World) (s : Sl) (l : List Exm) (room : Int) (hW0 : Below W0.heap.size W0 W) (hW : Below W.heap.size W w) (hs : SlAt 7 exmC (fun _ x => ExmOk W0 x) W s l) (h1 : -1 ≤ room) (h2 : room ≤ 12000) :
    Calls Tryz.prog 15 #[s.v, .int .i64 room] w (RResF room 0 (∀ x ∈ l, ∀ y ∈ kvs W0 x.attrs, FinV W0 41 y.v) w) := by
  obtain ⟨sa, sn, sc⟩ := s
  obtain rfl : sn = l.length := hs.1
  have HW := Aside0.mk hW
  have HW0 := Aside0.mk hW0
  have HS := Aside0.mk hs
  have HB := Aside0.mk (Below.refl w.heap.size w)
  have H12 := Aside0.mk h2
  have HQ := Aside0.mk (RP.refl h1)
  have hlm : l.length ≤ 9223372036854775807 := by have h := hs.2.1; have h2 := hs.2.2.1; unfold maxLen at h2; simp only at h h2; omega
  unfold Sl.v
  clear hW hW0 hs h2
  go_enter Tryz.func15, Tryz.ntmps15
  go_wp2_with fail
  go_loopw [1, 5, 6] (fun v1 v5 _ w' => ∃ (i : Nat) (r : Int), v1 = .int .i64 r ∧ v5 = .int .i64 (i : Int) ∧ i ≤ l.length ∧ Aside0 (RP room 0 r) ∧ Aside0 (0 ≤ r → ∀ j x, j < i → l[j]? = some x → ∀ y ∈ kvs W0 x.attrs, FinV W0 41 y.v) ∧ Aside0 (Below w.heap.size w w')) (fun _ v5 _ _ => l.length - (intOf v5).toNat)
  case atStart => exact ⟨0, room, rfl, rfl, Nat.zero_le _, HQ, ⟨fun _ j y hj => absurd hj (Nat.not_lt_zero j)⟩, HB⟩
  case round =>
    clear HQ HB
    obtain ⟨i, r, rfl, rfl, hi, HQ, HFI, HB⟩ := hrel
    by_cases hgo : i < l.length ∧ 0 ≤ r
    · obtain ⟨hlt, hr0⟩ := hgo
      obtain ⟨ad, rfl, hel⟩ := HS.out.2.2.2 (by omega)
      obtain ⟨he1, he2⟩ := hel i hlt
      have hWr : Below W.heap.size W wr := HW.out.trans (HB.out.mono HW.out.size)
      have hxa := (exm_at he1).below hWr
      have HWr := Aside0.mk hWr
      have HN := Aside0.mk (show ExmOk W0 l[i] from he2)
      have HGX := Aside0.mk (List.getElem?_eq_getElem hlt)
      generalize l[i] = x at *
      obtain ⟨⟨aa, an, ac⟩, tm, kd, nn, sp, tr, unk⟩ := x
      have p0 := hxa.c0
      have p1 := hxa.c1
      have p2 := hxa.c2
      have p3 := hxa.c3
      have p4 := hxa.c4
      have p5 := hxa.c5
      have p6 := hxa.c6
      unfold Sl.v at p0
      have T3 := Aside0.mk (tk3 r sp.size tr.size unk.size (by omega) (by have := HQ.out.2.1; have := H12.out; omega))
      clear he1 he2 hel hxa hWr
      go_upto_region 5 with (first
        | ((with_reducible refine gate_dst (N := 6) rfl ?_); refine box_event ?hg (N := 6) ?hd (cs := #[.slice none 0 0, .int .u64 0, .int .i64 0, .int .u64 0, .string ⟨#[]⟩, .string ⟨#[]⟩, .string ⟨#[]⟩]) (t := 25) ?hr ?_; (case hd => rfl); (case hg => rfl); (case hr => first | (go_simp; done) | (go_simp; rfl)); intro x hx w4 hx4 hb4
           have hx4 : XE w4 x (.slice none 0 0) 0 0 0 ByteArray.empty ByteArray.empty ByteArray.empty := hx4
           have hxw : wr.heap.size ≤ x := by omega
           have p0 := pw_cell_below hb4 p0
           have p1 := pw_cell_below hb4 p1
           have p2 := pw_cell_below hb4 p2
           have p3 := pw_cell_below hb4 p3
           have p4 := pw_cell_below hb4 p4
           have p5 := pw_cell_below hb4 p5
           have p6 := pw_cell_below hb4 p6
           have z0 := hx4.c0
           have z1 := hx4.c1
           have z2 := hx4.c2
           have z3 := hx4.c3
           have z4 := hx4.c4
           have z5 := hx4.c5
           have z6 := hx4.c6
           have zf := fun i => hx4.fz i
           have HX := Aside0.mk (hx4.all (.slice aa an ac) tm kd nn sp tr unk)
           have k5 := ex_kp w4 x (.slice aa an ac) tm kd nn sp tr unk
           have hb := hb4.trans (k5.toBelow hb4.size (fun k e => by rw [e]; exact hxw))
           have HB5 := Aside0.mk (below_next HB.out hb)
           clear hx hx4 k5 hb4 hb))
      clear z0 z1 z2 z3 z4 z5 z6 zf hxw hx4 HB HWr p0 p1 p2 p3 p4 p5 p6
      unfold exSt at HX HB5
      generalize ((((((w4.setCell ⟨x, 0, none⟩ (.slice aa an ac)).setCell ⟨x, 1, none⟩ (.int .u64 tm)).setCell ⟨x, 2, none⟩ (.int .i64 kd)).setCell ⟨x, 3, none⟩ (.int .u64 nn)).setCell ⟨x, 4, none⟩ (.string sp)).setCell ⟨x, 5, none⟩ (.string tr)).setCell ⟨x, 6, none⟩ (.string unk) = w5 at *
      have q4 := HX.out.c4
      have q5 := HX.out.c5
      have q6 := HX.out.c6
      go_quiet ((go_at_call 38; exact Calls.quiet_of (take_qq _ _ _)))
      generalize tk (tk (tk r (sp.size : Int)) (tr.size : Int)) (unk.size : Int) = r1 at *
      have HBd : Aside0 (Below w.heap.size w (w5.drewN nq)) := ⟨pw_below_drewN HB5.out _⟩
      have HXd : Aside0 (XE (w5.drewN nq) x (.slice aa an ac) tm kd nn sp tr unk) := ⟨HX.out⟩
      generalize w5.drewN nq = w6 at *
      have q0 := HXd.out.c0
      have hks := kvs_at HN.out.attrs
      have H := rkeysf_40 W0 w6 ⟨aa, an, ac⟩ _ r1 (HW0.out.trans ((HW.out.trans (HBd.out.mono HW.out.size)).mono HW0.out.size)) hks T3.out.1 (by have := T3.out.2.1; have := HQ.out.2.1; have := H12.out; omega)
      unfold Sl.v at H
      clear q4 q5 q6 HX HB5 hks
      go_wp2_with fail
      refine H.mono ?_
      rintro e w7 ⟨r2, rfl, hr2, hb⟩
      have HQn := Aside0.mk (((HQ.out.trans T3.out).trans hr2.1).less (Nat.zero_le _))
      have HFn := Aside0.mk (show 0 ≤ r2 → ∀ j x, j < i + 1 → l[j]? = some x → ∀ y ∈ kvs W0 x.attrs, FinV W0 41 y.v from fun h0 => get_next (p := fun x : Exm => ∀ y ∈ kvs W0 x.attrs, FinV W0 41 y.v) (HFI.out hr0) HGX.out (hr2.2 h0))
      have HBn := Aside0.mk (below_next HBd.out hb)
      clear hb hr2 q0 H HBd HXd HQ T3
      go_wp2_with fail
      go_roundw
      case rel => exact ⟨i + 1, r2, rfl, by go_num, by omega, HQn, HFn, HBn⟩
      case measure => simp [intOf]; omega
    · have hor : ¬ i < l.length ∨ (i < l.length ∧ r < 0) := by
        by_cases h1 : i < l.length
        · exact .inr ⟨h1, by by_cases h : 0 ≤ r; exact absurd ⟨h1, h⟩ hgo; omega⟩
        · exact .inl h1
      clear hgo
      rcases hor with d1 | ⟨d1, d2⟩
      all_goals
        go_wp2_with fail
        all_goals first
          | (exfalso; omega)
          | (go_ret
             exact ⟨r, rfl, ⟨HQ.out, fun h0 => all_of_get (p := fun x : Exm => ∀ y ∈ kvs W0 x.attrs, FinV W0 41 y.v) (fun j x hj hx => HFI.out h0 j x (by omega) hx)⟩, HB.out⟩)
end Go.Proofs.YtnghlkbmfhkmoaaGreatDoor
namespace Go.Proofs.YtnghlkbmfhkmoaaGreatDoor
open Go.RowKit Go.Proofs.YtnghlkbmfhkmoaaGreatDoorW.PrintWords Go.Proofs.YtnghlkbmfhkmoaaGreatDoorW.PrintLast Go.Proofs.YtnghlkbmfhkmoaaGreatDoorW.PrintMore

/-! ### hygref.RoomExemplar -/
theorem exm_lone {W w : World} {b : Nat} {x : Exm} (h : w.heap[b]? = some (.cells (exmC x).toArray 25 (0, 0))) (hx : ExmOk W x) : SlAt 7 exmC (fun _ x => ExmOk W x) w ⟨some ⟨b, 0, none⟩, 1, 1⟩ [x] := by
  refine ⟨rfl, Nat.le_refl _, (by decide : 1 ≤ maxLen), fun _ => ⟨⟨b, 0, none⟩, rfl, fun i hi => ?_⟩⟩
  obtain rfl : i = 0 := by simp at hi; omega
  refine ⟨fun j hj => ?_, hx⟩
  have : (((⟨b, 0, none⟩ : Addr).add (0 * 7)).add j) = ⟨b, j, none⟩ := by cases j <;> simp [Addr.add]
  rw [this, blk_cell h]
  simp
set_option maxHeartbeats 2000000 in
set_option maxRecDepth 100000 in
theorem rex_any (W w : World) (x : Exm) (room : Int) (hW : Below W.heap.size W w) (hx : ExmOk W x) (h1 : -1 ≤ room) (h2 : room ≤ 12000) :
    Calls Tryz.prog 6 #[.agg (exmC x).toArray, .int .i64 room] w (RResF room 0 (∀ y ∈ kvs W x.attrs, FinV W 41 y.v) w) := by
  have HW := Aside0.mk hW
  have HX := Aside0.mk hx
  have H1 := Aside0.mk (And.intro h1 h2)
  clear hW hx h1 h2
  go_enter Tryz.func6, Tryz.ntmps6
  go_upto_region 1 with (with_reducible refine gate_dst (N := 2) rfl ?_; refine Great.wpList_boxTo rfl 25 _ rfl _ rfl w.heap.size rfl (exmC x).toArray rfl ?_)
  have HK : Aside0 ((w.alloc (.cells (exmC x).toArray 25)).heap[w.heap.size]? = some (.cells (exmC x).toArray 25 (0, 0))) := ⟨heap_alloc_new w _⟩
  have HB : Aside0 (Below w.heap.size w (w.alloc (.cells (exmC x).toArray 25))) := ⟨(Below.refl _ _).alloc (Nat.le_refl _) _⟩
  generalize (w.alloc (.cells (exmC x).toArray 25)) = w1 at *
  generalize hg : w.heap.size = g at HK ⊢
  have HGG := Aside0.mk hg
  clear hg
  have hl7 : (exmC x).length = 7 := rfl
  go_wp2_with (first
    | (refine wpList_load_row rfl 25 _ rfl g rfl 25 (exmC x).toArray (0, 0) _ HK.out Tryz.underlying25 rfl (by kernel_rfl) ?_))
  have HB2 := Aside0.mk (HB.out.alloc HB.out.size (.cells (exmC x).toArray 25))
  have HN := heap_alloc_new w1 (.cells (exmC x).toArray 25)
  have hW1 : Below W.heap.size W w1 := HW.out.trans (HB.out.mono HW.out.size)
  have hW2 := hW1.alloc hW1.size (.cells (exmC x).toArray 25)
  have G := rexsf_any W _ _ ⟨some ⟨w1.heap.size, 0, none⟩, 1, 1⟩ [x] room hW2 (Below.refl _ _) (exm_lone HN HX.out) H1.out.1 H1.out.2
  obtain ⟨a1, a2, a3, a4, a5, a6, a7⟩ := x
  refine Calls.mono (show Calls _ _ _ _ _ from G) ?_
  rintro e w3 ⟨r, rfl, hr, hb⟩
  have HB3 := Aside0.mk (HB2.out.trans (hb.mono HB2.out.size))
  have HR := Aside0.mk hr
  clear hr hb HB2 HN hW1 hW2 G HK
  go_wp2_with fail
  go_ret
  exact ⟨r, rfl, ⟨HR.out.1, fun h0 => (HR.out.2 h0) _ List.mem_cons_self⟩, HB3.out⟩
end Go.Proofs.YtnghlkbmfhkmoaaGreatDoor
