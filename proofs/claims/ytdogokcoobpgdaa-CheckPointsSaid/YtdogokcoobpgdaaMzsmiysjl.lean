import Derived.Test.YtdogokcoobpgdaaMgvmrfvsf
import Derived.Test.YtdogokcoobpgdaaWLsx
import Derived.Test.YtdogokcoobpgdaaMox
import Derived.Test.YtdogokcoobpgdaaCSmx
import Derived.WalkKit
import Derived.Test.YtdogokcoobpgdaaWTrm
import Derived.Below
namespace Go.Proofs.Ytdogokcoobpgdaa
open Go.RowKit Go.Proofs.YtdogokcoobpgdaaW.PrintWords Go.Proofs.YtdogokcoobpgdaaW.PrintLast Go.Proofs.YtdogokcoobpgdaaW.PrintMore

/-! ### how much there is: what is known of the answer -/
def tk (a0 a1 : Int) : Int := if a0 < 0 then -1 else if a1 > wrap64 (a0 - 20) then -1 else wrap64 (wrap64 (a0 - a1) - 20)
theorem take_q (a0 a1 : Int) (w : World) : Calls Try.prog 20 #[.int .i64 a0, .int .i64 a1] w fun e w' => e = .returned (.int .i64 (tk a0 a1)) ∧ Drawn0 w w' :=
  CChk.hygref_take.calls a0 a1 _ w (by
    unfold CChk.hygref_take.f tk
    by_cases h1 : a0 < 0
    · rw [if_pos h1, if_pos h1]
    · rw [if_neg h1, if_neg h1]
      by_cases h2 : a1 > wrap64 (a0 - 20)
      · rw [if_pos h2, if_pos h2]
      · rw [if_neg h2, if_neg h2])
theorem take_qq (a0 a1 : Int) (w : World) : Calls Try.prog 20 #[.int .i64 a0, .int .i64 a1] w fun e w' => e = .returned (.int .i64 (tk a0 a1)) ∧ ∃ m, w' = w.drewN m :=
  (take_q a0 a1 w).mono fun _ _ ⟨h1, ⟨m, h2⟩⟩ => ⟨h1, m, h2⟩
def RP (room : Int) (k : Nat) (r : Int) : Prop := -1 ≤ r ∧ r ≤ room ∧ (0 ≤ r → r + 20 * k ≤ room)
theorem tk_rp (room n : Int) (h : -1 ≤ room) (h2 : room ≤ 12000) (hn : 0 ≤ n) : RP room 1 (tk room n) := by
  unfold RP tk
  by_cases h1 : room < 0
  · rw [if_pos h1]; omega
  · rw [if_neg h1]
    have e1 : wrap64 (room - 20) = room - 20 := by unfold wrap64; omega
    rw [e1]
    by_cases h3 : n > room - 20
    · rw [if_pos h3]; omega
    · rw [if_neg h3]
      have e2 : wrap64 (room - n) = room - n := by unfold wrap64; omega
      rw [e2]
      have e3 : wrap64 (room - n - 20) = room - n - 20 := by unfold wrap64; omega
      rw [e3]
      omega
theorem RP.refl {room : Int} (h : -1 ≤ room) : RP room 0 room := ⟨h, Int.le_refl _, fun _ => by omega⟩
theorem RP.trans {a b c : Int} {j k : Nat} (h : RP a j b) (h' : RP b k c) : RP a (j + k) c := by
  obtain ⟨h1, h2, h3⟩ := h
  obtain ⟨k1, k2, k3⟩ := h'
  refine ⟨k1, by omega, fun h0 => ?_⟩
  have := k3 h0
  have := h3 (by omega)
  omega
theorem RP.less {a b : Int} {j k : Nat} (h : RP a j b) (hk : k ≤ j) : RP a k b := ⟨h.1, h.2.1, fun h0 => by have := h.2.2 h0; omega⟩
theorem RP.neg {a b : Int} {j : Nat} (k : Nat) (h : RP a j b) (hb : b < 0) : RP a k b := ⟨h.1, h.2.1, fun h0 => by omega⟩
theorem tk3 (room : Int) (a b c : Nat) (h : -1 ≤ room) (h2 : room ≤ 12000) : RP room 3 (tk (tk (tk room a) b) c) := by
  have r1 := tk_rp room a h h2 (by omega)
  have r2 := tk_rp (tk room a) b r1.1 (by have := r1.2.1; omega) (by omega)
  have r12 := r1.trans r2
  exact r12.trans (tk_rp (tk (tk room a) b) c r2.1 (by have := r12.2.1; omega) (by omega))
theorem tk2 (room : Int) (a b : Nat) (h : -1 ≤ room) (h2 : room ≤ 12000) : RP room 2 (tk (tk room a) b) := by
  have r1 := tk_rp room a h h2 (by omega)
  exact r1.trans (tk_rp (tk room a) b r1.1 (by have := r1.2.1; omega) (by omega))

/-! ### values, attributes -/
def RRes (room : Int) (k : Nat) (w : World) (e : Ending) (w' : World) : Prop := ∃ r : Int, e = .returned (.int .i64 r) ∧ RP room k r ∧ Below w.heap.size w w'
def vlA (v : Vl) : Value := .agg #[.int .i64 v.kind, .string v.s, .bool v.b, .int .u64 v.n, v.l.v, v.m.v, .string v.inner, .string v.unk]
def RVAt (m : Nat) : Prop := ∀ (W w : World) (v : Vl) (room : Int), Below W.heap.size W w → VlOk W v → -1 ≤ room → room ≤ 12000 →
  Calls Try.prog 41 #[vlA v, .int .i64 ((m : Int) - 1), .int .i64 room] w (RRes room 0 w)
def RKAt (m : Nat) : Prop := ∀ (W w : World) (s : Sl) (l : List Kv) (room : Int), Below W.heap.size W w → SlAt 11 kvC KvOk W s l → -1 ≤ room → room ≤ 12000 →
  Calls Try.prog 22 #[s.v, .int .i64 ((m : Int) - 1), .int .i64 room] w (RRes room l.length w)
/-- A value's block. -/
def XV (w : World) (g : Nat) (v : Vl) : Prop := w.heap[g]? = some (.cells #[.int .i64 v.kind, .string v.s, .bool v.b, .int .u64 v.n, v.l.v, v.m.v, .string v.inner, .string v.unk] 42 (0, 0))
theorem XV.c1 {w : World} {g : Nat} {v : Vl} (h : XV w g v) : w.cell? ⟨g, 1, none⟩ = some (.string v.s) := by rw [blk_cell h]; rfl
theorem XV.c4 {w : World} {g : Nat} {v : Vl} (h : XV w g v) : w.cell? ⟨g, 4, none⟩ = some (.slice v.l.a v.l.len v.l.cap) := by rw [blk_cell h]; rfl
theorem XV.c5 {w : World} {g : Nat} {v : Vl} (h : XV w g v) : w.cell? ⟨g, 5, none⟩ = some (.slice v.m.a v.m.len v.m.cap) := by rw [blk_cell h]; rfl
theorem XV.c6 {w : World} {g : Nat} {v : Vl} (h : XV w g v) : w.cell? ⟨g, 6, none⟩ = some (.string v.inner) := by rw [blk_cell h]; rfl
theorem XV.c7 {w : World} {g : Nat} {v : Vl} (h : XV w g v) : w.cell? ⟨g, 7, none⟩ = some (.string v.unk) := by rw [blk_cell h]; rfl
theorem rv_neg : RVAt 0 := by
  intro W w v room _ _ h1 _
  unfold vlA Sl.v
  go_enter Try.func41, Try.ntmps41
  go_wp2_with fail
  go_ret
  exact ⟨-1, rfl, ⟨by omega, by omega, fun h => by omega⟩, (Below.refl _ _).alloc (Nat.le_refl _) _⟩
set_option maxHeartbeats 2000000 in
set_option maxRecDepth 100000 in
theorem rv_next (m : Nat) (hm : m ≤ 100) (HV : RVAt m) (HK : RKAt m) : RVAt (m + 1) := by
  intro W w v room hW hv h1 h2
  obtain ⟨ls, hls⟩ := rd_vls hv.l
  obtain ⟨ms, hms⟩ := rd_kvs hv.m
  obtain ⟨kind, s, b, n, ⟨la, ln, lc⟩, ⟨ma, mn, mc⟩, inner, unk⟩ := v
  obtain rfl : ln = ls.length := hls.1
  have HVV := Aside0.mk HV
  have HKK := Aside0.mk HK
  have HW := Aside0.mk hW
  have HO := Aside0.mk hv
  have HB0 := Aside0.mk (Below.refl w.heap.size w)
  have HLS := Aside0.mk hls
  have HMS := Aside0.mk hms
  have e1 : ((m + 1 : Nat) : Int) - 1 = (m : Int) := by omega
  have T3 := Aside0.mk (tk3 room s.size inner.size unk.size h1 h2)
  have H12 := Aside0.mk h2
  rw [e1]
  clear HV HK hW hv hls hms e1 h1 h2
  unfold vlA Sl.v
  go_enter Try.func41, Try.ntmps41
  go_upto_region 3 with fail
  have hx1 : XV (w.alloc (.cells #[.int .i64 kind, .string s, .bool b, .int .u64 n, .slice la ls.length lc, .slice ma mn mc, .string inner, .string unk] 42)) w.heap.size ⟨kind, s, b, n, ⟨la, ls.length, lc⟩, ⟨ma, mn, mc⟩, inner, unk⟩ := heap_alloc_new w _
  have HX := Aside0.mk hx1
  have HB := Aside0.mk ((Below.refl w.heap.size w).alloc (Nat.le_refl _) (.cells #[.int .i64 kind, .string s, .bool b, .int .u64 n, .slice la ls.length lc, .slice ma mn mc, .string inner, .string unk] 42))
  clear hx1 HB0
  generalize w.alloc (.cells #[.int .i64 kind, .string s, .bool b, .int .u64 n, .slice la ls.length lc, .slice ma mn mc, .string inner, .string unk] 42) = w1 at *
  generalize hgg : w.heap.size = g at HX ⊢
  have HGG := Aside0.mk hgg
  clear hgg
  have q1 := HX.out.c1
  have q6 := HX.out.c6
  have q7 := HX.out.c7
  have q4 := HX.out.c4
  go_quiet ((go_at_call 20; exact Calls.quiet_of (take_qq _ _ _)))
  have HXn : Aside0 (XV (w1.drewN nq) g ⟨kind, s, b, n, ⟨la, ls.length, lc⟩, ⟨ma, mn, mc⟩, inner, unk⟩) := ⟨HX.out⟩
  have HBn : Aside0 (Below w.heap.size w (w1.drewN nq)) := ⟨pw_below_drewN HB.out _⟩
  clear HX HB q1 q6 q7 q4
  have HX := HXn
  have HB := HBn
  clear HXn HBn
  generalize w1.drewN nq = w2 at *
  generalize tk (tk (tk room (s.size : Int)) (inner.size : Int)) (unk.size : Int) = r0 at *
  have hgw := blk_lt HX.out
  have HGW := Aside0.mk hgw
  clear hgw
  go_wp2_with fail
  have HQ0 := Aside0.mk (T3.out.less (Nat.zero_le _))
  go_loopw [2, 7] (fun v2 v7 w' => ∃ (i : Nat) (r : Int), v2 = .int .i64 r ∧ v7 = .int .i64 (i : Int) ∧ i ≤ ls.length ∧ Aside0 (RP room 0 r) ∧ Aside0 (XV w' g ⟨kind, s, b, n, ⟨la, ls.length, lc⟩, ⟨ma, mn, mc⟩, inner, unk⟩) ∧ Aside0 (Below w.heap.size w w')) (fun _ v7 _ => ls.length - (intOf v7).toNat)
  case atStart => exact ⟨0, r0, rfl, rfl, Nat.zero_le _, HQ0, HX, HB⟩
  case round =>
    clear HQ0 T3 HX HB HGW
    obtain ⟨i, r, rfl, rfl, hi, HQ, HX, HB⟩ := hrel
    have q4 := HX.out.c4
    have q5 := HX.out.c5
    have hWr : Below W.heap.size W wr := HW.out.trans (HB.out.mono HW.out.size)
    have HWr := Aside0.mk hWr
    have hgr := blk_lt HX.out
    have HGR := Aside0.mk hgr
    clear hWr hgr
    by_cases hgo : i < ls.length ∧ 0 ≤ r
    · obtain ⟨hlt, hr0⟩ := hgo
      obtain ⟨a, rfl, hel⟩ := HLS.out.2.2.2 (by omega)
      obtain ⟨he1, he2⟩ := hel i hlt
      have hxa := (vl_at he1).below HWr.out
      have HN := Aside0.mk he2
      generalize ls[i] = x at *
      obtain ⟨kx, sx, bx, nx, ⟨lax, lnx, lcx⟩, ⟨max, mnx, mcx⟩, ix, ux⟩ := x
      have p0 := hxa.c0
      have p1 := hxa.c1
      have p2 := hxa.c2
      have p3 := hxa.c3
      have p4 := hxa.c4
      have p5 := hxa.c5
      have p6 := hxa.c6
      have p7 := hxa.c7
      have H := HVV.out W wr _ r HWr.out HN.out HQ.out.1 (by have := HQ.out.2.1; have := H12.out; omega)
      unfold vlA Sl.v at H
      unfold Sl.v at p4 p5
      have hlm : ls.length ≤ 9223372036854775807 := by have h := HLS.out.2.1; have h2 := HLS.out.2.2.1; unfold maxLen at h2; simp only at h h2; omega
      clear he1 he2 hel hxa
      go_wp2_with fail
      refine H.mono ?_
      rintro e w3 ⟨r2, rfl, hr2, hb⟩
      have HQn := Aside0.mk (HQ.out.trans hr2)
      have HXn : Aside0 (XV w3 g _) := ⟨blk_below HX.out hb⟩
      have HBn := Aside0.mk (below_next HB.out hb)
      clear hb hr2 p0 p1 p2 p3 p4 p5 p6 p7 q4 q5 HX HB HQ H
      go_wp2_with fail
      go_roundw
      case rel => exact ⟨i + 1, r2, rfl, by go_num, by omega, HQn, HXn, HBn⟩
      case measure => simp [intOf]; omega
    · have H := HKK.out W wr _ ms r HWr.out HMS.out HQ.out.1 (by have := HQ.out.2.1; have := H12.out; omega)
      unfold Sl.v at H
      have hor : ¬ i < ls.length ∨ (i < ls.length ∧ r < 0) := by
        by_cases h1 : i < ls.length
        · exact .inr ⟨h1, by by_cases h : 0 ≤ r; exact absurd ⟨h1, h⟩ hgo; omega⟩
        · exact .inl h1
      clear hgo
      rcases hor with d1 | ⟨d1, d2⟩
      all_goals
        go_wp2_with fail
        all_goals first
          | (exfalso; omega)
          | (refine H.mono ?_
             rintro e w3 ⟨r2, rfl, hr2, hb⟩
             have HQn := Aside0.mk ((HQ.out.trans hr2).less (Nat.zero_le _))
             have HBn := Aside0.mk (below_next HB.out hb)
             clear hb hr2 q4 q5 HX HB HQ H
             go_wp2_with fail
             go_ret
             exact ⟨r2, rfl, HQn.out, HBn.out⟩)
end Go.Proofs.Ytdogokcoobpgdaa
namespace Go.Proofs.Ytdogokcoobpgdaa
open Go.RowKit Go.Proofs.YtdogokcoobpgdaaW.PrintWords Go.Proofs.YtdogokcoobpgdaaW.PrintLast Go.Proofs.YtdogokcoobpgdaaW.PrintMore

set_option maxHeartbeats 2000000 in
set_option maxRecDepth 100000 in
theorem rk_any (m : Nat) (hm : m ≤ 100) (HV : RVAt m) : RKAt m := by
  intro W w s l room hW hs h1 h2
  obtain ⟨sa, sn, sc⟩ := s
  obtain rfl : sn = l.length := hs.1
  have HVV := Aside0.mk HV
  have HW := Aside0.mk hW
  have HS := Aside0.mk hs
  have HB := Aside0.mk (Below.refl w.heap.size w)
  have H12 := Aside0.mk h2
  have HQ := Aside0.mk (RP.refl h1)
  obtain ⟨dp, hdp⟩ : ∃ dp : Int, (m : Int) - 1 = dp := ⟨_, rfl⟩
  have HDP := Aside0.mk hdp
  rw [hdp]
  have hdp1 : dp ≤ 99 := by omega
  have hdp2 : -1 ≤ dp := by omega
  have hlm : l.length ≤ 9223372036854775807 := by have h := hs.2.1; have h2 := hs.2.2.1; unfold maxLen at h2; simp only at h h2; omega
  unfold Sl.v
  clear HV hW hs h2 hdp hm
  by_cases hneg : dp < 0 ∧ 0 < l.length
  · obtain ⟨n1, n2⟩ := hneg
    go_enter Try.func22, Try.ntmps22
    go_wp2_with fail
    all_goals first
      | (exfalso; omega)
      | (go_ret
         exact ⟨-1, rfl, ⟨by omega, by omega, fun h => by omega⟩, HB.out⟩)
  · have hor : ¬ dp < 0 ∨ (dp < 0 ∧ ¬ 0 < l.length) := by
      by_cases h : dp < 0
      · exact .inr ⟨h, fun h' => hneg ⟨h, h'⟩⟩
      · exact .inl h
    clear hneg
    rcases hor with n1 | ⟨n1, n2⟩
    · skip
      go_enter Try.func22, Try.ntmps22
      go_wp2_with fail
      go_loopw [2, 7] (fun v2 v7 w' => ∃ (i : Nat) (r : Int), v2 = .int .i64 r ∧ v7 = .int .i64 (i : Int) ∧ i ≤ l.length ∧ Aside0 (RP room i r) ∧ Aside0 (Below w.heap.size w w')) (fun _ v7 _ => l.length - (intOf v7).toNat)
      case atStart => exact ⟨0, room, rfl, rfl, Nat.zero_le _, HQ, HB⟩
      case round =>
        clear HQ HB
        obtain ⟨i, r, rfl, rfl, hi, HQ, HB⟩ := hrel
        by_cases hgo : i < l.length ∧ 0 ≤ r
        · obtain ⟨hlt, hr0⟩ := hgo
          obtain ⟨ad, rfl, hel⟩ := HS.out.2.2.2 (by omega)
          obtain ⟨he1, he2⟩ := hel i hlt
          have hWr : Below W.heap.size W wr := HW.out.trans (HB.out.mono HW.out.size)
          have hxa := (kv_at he1).below hWr
          have HXA := Aside0.mk hxa
          have HWr := Aside0.mk hWr
          have HN := Aside0.mk he2
          generalize l[i] = x at *
          obtain ⟨key, has, ⟨kx, sx, bx, nx, ⟨lax, lnx, lcx⟩, ⟨max, mnx, mcx⟩, ix, ux⟩, unk⟩ := x
          have p0 := hxa.c0
          have p10 := hxa.c10
          have T2 := Aside0.mk (tk2 r key.size unk.size (by omega) (by have := HQ.out.2.1; have := H12.out; omega))
          clear he1 he2 hel hxa hWr
          go_wp2_with fail
          go_quiet ((go_at_call 20; exact Calls.quiet_of (take_qq _ _ _)))
          generalize tk (tk r (key.size : Int)) (unk.size : Int) = r1 at *
          have HBd : Aside0 (Below w.heap.size w (wr.drewN nq)) := ⟨pw_below_drewN HB.out _⟩
          have HWd : Aside0 (Below W.heap.size W (wr.drewN nq)) := ⟨pw_below_drewN HWr.out _⟩
          have hxd := HXA.out.below (pw_below_drewN (Below.refl wr.heap.size wr) nq)
          generalize wr.drewN nq = w2 at *
          have H := HVV.out W w2 _ r1 HWd.out HN.out.v T2.out.1 (by have := T2.out.2.1; have := HQ.out.2.1; have := H12.out; omega)
          unfold vlA Sl.v at H
          rw [HDP.out] at H
          have p2 := hxd.c2
          have p3 := hxd.c3
          have p4 := hxd.c4
          have p5 := hxd.c5
          have p6 := hxd.c6
          have p7 := hxd.c7
          have p8 := hxd.c8
          have p9 := hxd.c9
          unfold Sl.v at p6 p7
          have z42 := Try.sizeOf42
          clear p0 p10 hxd HB HWr HXA
          go_wp2_with fail
          refine H.mono ?_
          rintro e w3 ⟨r2, rfl, hr2, hb⟩
          have HQn := Aside0.mk (((HQ.out.trans T2.out).trans hr2).less (show i + 1 ≤ i + 2 + 0 by omega))
          have HBn := Aside0.mk (below_next HBd.out hb)
          clear hb hr2 p2 p3 p4 p5 p6 p7 p8 p9 H HBd HWd HQ T2
          go_wp2_with fail
          go_roundw
          case rel => exact ⟨i + 1, r2, rfl, by go_num, by omega, HQn, HBn⟩
          case measure => simp [intOf]; omega
        · have hor : ¬ i < l.length ∨ (i < l.length ∧ r < 0) := by
            by_cases h1 : i < l.length
            · exact .inr ⟨h1, by by_cases h : 0 ≤ r; exact absurd ⟨h1, h⟩ hgo; omega⟩
            · exact .inl h1
          have HQn : Aside0 (RP room l.length r) := ⟨by
            rcases hor with h | ⟨_, h⟩
            · exact HQ.out.less (by omega)
            · exact HQ.out.neg _ h⟩
          clear hgo
          rcases hor with d1 | ⟨d1, d2⟩
          all_goals
            go_wp2_with fail
            all_goals first
              | (exfalso; omega)
              | (go_ret
                 exact ⟨r, rfl, HQn.out, HB.out⟩)
    · go_enter Try.func22, Try.ntmps22
      go_wp2_with fail
      go_loopw [2, 7] (fun v2 v7 w' => v2 = .int .i64 room ∧ v7 = .int .i64 0 ∧ Aside0 (Below w.heap.size w w')) (fun _ _ _ => 0)
      case atStart => exact ⟨rfl, rfl, HB⟩
      case round =>
        clear HB
        obtain ⟨rfl, rfl, HB⟩ := hrel
        go_wp2_with fail
        go_ret
        exact ⟨room, rfl, ⟨h1, Int.le_refl _, fun _ => by omega⟩, HB.out⟩
theorem room_both : ∀ m : Nat, m ≤ 90 → RVAt m ∧ RKAt m := by
  intro m
  induction m with
  | zero => intro _; exact ⟨rv_neg, rk_any 0 (by omega) rv_neg⟩
  | succ m ih =>
    intro hm
    obtain ⟨h1, h2⟩ := ih (by omega)
    have h := rv_next m (by omega) h1 h2
    exact ⟨h, rk_any (m + 1) (by omega) h⟩
theorem rkeys_40 (W w : World) (s : Sl) (l : List Kv) (room : Int) (hW : Below W.heap.size W w) (hs : SlAt 11 kvC KvOk W s l) (h1 : -1 ≤ room) (h2 : room ≤ 12000) :
    Calls Try.prog 22 #[s.v, .int .i64 40, .int .i64 room] w (RRes room l.length w) := (room_both 41 (by omega)).2 W w s l room hW hs h1 h2
end Go.Proofs.Ytdogokcoobpgdaa
namespace Go.Proofs.Ytdogokcoobpgdaa
open Go.RowKit Go.Proofs.YtdogokcoobpgdaaW.PrintWords

/-- All blocks that were there are as they were, but for those of M. -/
structure Kp (M : Nat → Prop) (w w' : World) : Prop where
  os : w'.os = w.os
  tape : w'.tape = w.tape
  output : w'.output = w.output
  size : w.heap.size ≤ w'.heap.size
  block : ∀ k, k < w.heap.size → ¬ M k → w'.heap[k]? = w.heap[k]?
variable {M M' : Nat → Prop} {w w1 w2 : World}
theorem Kp.refl (M : Nat → Prop) (w : World) : Kp M w w := ⟨rfl, rfl, rfl, Nat.le_refl _, fun _ _ _ => rfl⟩
theorem Kp.trans (h : Kp M w w1) (k : Kp M w1 w2) : Kp M w w2 :=
  ⟨k.os.trans h.os, k.tape.trans h.tape, k.output.trans h.output, Nat.le_trans h.size k.size, fun i hi hm => (k.block i (Nat.lt_of_lt_of_le hi h.size) hm).trans (h.block i hi hm)⟩
theorem Kp.mono (h : Kp M w w1) (hm : ∀ k, M k → M' k) : Kp M' w w1 := ⟨h.os, h.tape, h.output, h.size, fun k hk hn => h.block k hk (fun x => hn (hm k x))⟩
theorem Kp.drewN (h : Kp M w w1) (m : Nat) : Kp M w (w1.drewN m) := ⟨h.os, h.tape, h.output, h.size, h.block⟩
theorem Kp.drew (h : Kp M w w1) : Kp M w w1.drew := ⟨h.os, h.tape, h.output, h.size, h.block⟩
theorem Kp.ofBelow (h : Below w.heap.size w w1) : Kp M w w1 := ⟨h.os, h.tape, h.output, h.size, fun k hk _ => h.block k hk⟩
theorem Kp.toBelow {B : Nat} (h : Kp M w w1) (hB : B ≤ w.heap.size) (hM : ∀ k, M k → B ≤ k) : Below B w w1 :=
  ⟨h.os, h.tape, h.output, h.size, fun k hk => h.block k (Nat.lt_of_lt_of_le hk hB) (fun x => by have := hM k x; omega)⟩
/-- What came behind the call's beginning may have been written to. -/
theorem Kp.below {w0 : World} (h0 : Below w0.heap.size w0 w) (h : Kp M w w1) (hM : ∀ k, M k → w0.heap.size ≤ k) : Below w0.heap.size w0 w1 := h0.trans (h.toBelow h0.size hM)
theorem Kp.next (h : Kp M w w1) (k : Below w1.heap.size w1 w2) : Kp M w w2 := h.trans (Kp.ofBelow k)
theorem Kp.alloc (h : Kp M w w1) (o : Obj) : Kp M w (w1.alloc o) := h.next ((Below.refl _ _).alloc (Nat.le_refl _) o)
theorem Kp.set (h : Kp M w w1) {p : Addr} (hp : M p.block) (u : Value) : Kp M w (w1.setCell p u) :=
  ⟨h.os, h.tape, h.output, by simpa using h.size, fun k hk hn => (Below.heap_setCell w1 p u k (fun e => hn (e ▸ hp))).trans (h.block k hk hn)⟩
theorem Kp.obj {g : Nat} {o : Obj} (h : Kp M w w1) (hb : w.heap[g]? = some o) (hn : ¬ M g) : w1.heap[g]? = some o := (h.block g (blk_lt hb) hn).trans hb
theorem Kp.row {α : Type} {d : Kd α} {e base : Nat} {ok : Nat → Prop} {v : Value} {xs : List α} (h : Kp M w w1) (hr : d.R e w base ok v xs) (hok : ∀ k, ok k → ¬ M k) : d.R e w1 base ok v xs := Kd.R_step hr (fun k ho hk => h.block k hk (hok k ho))
theorem Kp.own {base : Nat} {e : TypeId} {size n : Nat} {v : Value} {xs : List Value} (h : Kp M w w1) (ho : w.ownsRow base e size v n xs) (hn : ∀ k, v.ownBlock = some k → ¬ M k) : w1.ownsRow base e size v n xs :=
  own_move ho (fun k hk => h.block k (own_lt ho k hk) (hn k hk))
end Go.Proofs.Ytdogokcoobpgdaa
namespace Go.Proofs.Ytdogokcoobpgdaa
open Go.RowKit Go.Proofs.YtdogokcoobpgdaaW.PrintWords Go.Proofs.YtdogokcoobpgdaaW.PrintLast Go.Proofs.YtdogokcoobpgdaaW.PrintMore

/-- An exemplar's block. -/
def XE (w : World) (g : Nat) (a : Value) (t k n : Int) (sp tr u : ByteArray) : Prop := w.heap[g]? = some (.cells #[a, .int .u64 t, .int .i64 k, .int .u64 n, .string sp, .string tr, .string u] 83 (0, 0))
section
variable {w : World} {g : Nat} {a : Value} {t k n : Int} {sp tr u : ByteArray}
theorem XE.c0 (h : XE w g a t k n sp tr u) : w.cell? ⟨g, 0, none⟩ = some a := by rw [blk_cell h]; rfl
theorem XE.c1 (h : XE w g a t k n sp tr u) : w.cell? ⟨g, 1, none⟩ = some (.int .u64 t) := by rw [blk_cell h]; rfl
theorem XE.c2 (h : XE w g a t k n sp tr u) : w.cell? ⟨g, 2, none⟩ = some (.int .i64 k) := by rw [blk_cell h]; rfl
theorem XE.c3 (h : XE w g a t k n sp tr u) : w.cell? ⟨g, 3, none⟩ = some (.int .u64 n) := by rw [blk_cell h]; rfl
theorem XE.c4 (h : XE w g a t k n sp tr u) : w.cell? ⟨g, 4, none⟩ = some (.string sp) := by rw [blk_cell h]; rfl
theorem XE.c5 (h : XE w g a t k n sp tr u) : w.cell? ⟨g, 5, none⟩ = some (.string tr) := by rw [blk_cell h]; rfl
theorem XE.c6 (h : XE w g a t k n sp tr u) : w.cell? ⟨g, 6, none⟩ = some (.string u) := by rw [blk_cell h]; rfl
theorem XE.fz (h : XE w g a t k n sp tr u) (i : Nat) : w.frozen? ⟨g, i, none⟩ = false := blk_frozen h i
def exSt (w : World) (x : Nat) (a' : Value) (t' k' n' : Int) (sp' tr' u' : ByteArray) : World :=
  ((((((w.setCell ⟨x, 0, none⟩ a').setCell ⟨x, 1, none⟩ (.int .u64 t')).setCell ⟨x, 2, none⟩ (.int .i64 k')).setCell ⟨x, 3, none⟩ (.int .u64 n')).setCell ⟨x, 4, none⟩ (.string sp')).setCell ⟨x, 5, none⟩ (.string tr')).setCell ⟨x, 6, none⟩ (.string u')
theorem XE.all (h : XE w g a t k n sp tr u) (a' : Value) (t' k' n' : Int) (sp' tr' u' : ByteArray) : XE (exSt w g a' t' k' n' sp' tr' u') g a' t' k' n' sp' tr' u' := by
  unfold XE exSt
  rw [blk_set (blk_set (blk_set (blk_set (blk_set (blk_set (blk_set h 0 _) 1 _) 2 _) 3 _) 4 _) 5 _) 6 _]
  rfl
end
theorem ex_kp (w : World) (x : Nat) (a' : Value) (t' k' n' : Int) (sp' tr' u' : ByteArray) : Kp (fun k => k = x) w (exSt w x a' t' k' n' sp' tr' u') :=
  (((((((Kp.refl (fun k => k = x) w).set (p := ⟨x, 0, none⟩) rfl _).set (p := ⟨x, 1, none⟩) rfl _).set (p := ⟨x, 2, none⟩) rfl _).set (p := ⟨x, 3, none⟩) rfl _).set (p := ⟨x, 4, none⟩) rfl _).set (p := ⟨x, 5, none⟩) rfl _).set (p := ⟨x, 6, none⟩) rfl _
set_option maxHeartbeats 2000000 in
set_option maxRecDepth 100000 in
theorem rexs_any (W w : World) (s : Sl) (l : List Exm) (room : Int) (hW : Below W.heap.size W w) (hs : SlAt 7 exmC ExmOk W s l) (h1 : -1 ≤ room) (h2 : room ≤ 12000) :
    Calls Try.prog 21 #[s.v, .int .i64 room] w (RRes room 0 w) := by
  obtain ⟨sa, sn, sc⟩ := s
  obtain rfl : sn = l.length := hs.1
  have HW := Aside0.mk hW
  have HS := Aside0.mk hs
  have HB := Aside0.mk (Below.refl w.heap.size w)
  have H12 := Aside0.mk h2
  have HQ := Aside0.mk (RP.refl h1)
  have hlm : l.length ≤ 9223372036854775807 := by have h := hs.2.1; have h2 := hs.2.2.1; unfold maxLen at h2; simp only at h h2; omega
  unfold Sl.v
  clear hW hs h2
  go_enter Try.func21, Try.ntmps21
  go_wp2_with fail
  go_loopw [1, 5, 6] (fun v1 v5 _ w' => ∃ (i : Nat) (r : Int), v1 = .int .i64 r ∧ v5 = .int .i64 (i : Int) ∧ i ≤ l.length ∧ Aside0 (RP room 0 r) ∧ Aside0 (Below w.heap.size w w')) (fun _ v5 _ _ => l.length - (intOf v5).toNat)
  case atStart => exact ⟨0, room, rfl, rfl, Nat.zero_le _, HQ, HB⟩
  case round =>
    clear HQ HB
    obtain ⟨i, r, rfl, rfl, hi, HQ, HB⟩ := hrel
    by_cases hgo : i < l.length ∧ 0 ≤ r
    · obtain ⟨hlt, hr0⟩ := hgo
      obtain ⟨ad, rfl, hel⟩ := HS.out.2.2.2 (by omega)
      obtain ⟨he1, he2⟩ := hel i hlt
      have hWr : Below W.heap.size W wr := HW.out.trans (HB.out.mono HW.out.size)
      have hxa := (exm_at he1).below hWr
      have HWr := Aside0.mk hWr
      have HN := Aside0.mk he2
      generalize l[i] = x at *
      obtain ⟨⟨aa, an, ac⟩, tm, kd, nn, sp, tr, unk⟩ := x
      have p0 := hxa.c0
      have p1 := hxa.c1
      have p2 := hxa.c2
      have p3 := hxa.c3
      have p4 := hxa.c4
      have p5 := hxa.c5
      have p6 := hxa.c6
      unfold Sl.v at p0
      have T3 := Aside0.mk (tk3 r sp.size tr.size unk.size (by omega) (by have := HQ.out.2.1; have := H12.out; omega))
      clear he1 he2 hel hxa hWr
      go_upto_region 5 with (first
        | ((with_reducible refine gate_dst (N := 6) rfl ?_); refine box_event ?hg (N := 6) ?hd (cs := #[.slice none 0 0, .int .u64 0, .int .i64 0, .int .u64 0, .string ⟨#[]⟩, .string ⟨#[]⟩, .string ⟨#[]⟩]) (t := 83) ?hr ?_; (case hd => rfl); (case hg => rfl); (case hr => first | (go_simp; done) | (go_simp; rfl)); intro x hx w4 hx4 hb4
           have hx4 : XE w4 x (.slice none 0 0) 0 0 0 ByteArray.empty ByteArray.empty ByteArray.empty := hx4
           have hxw : wr.heap.size ≤ x := by omega
           have p0 := pw_cell_below hb4 p0
           have p1 := pw_cell_below hb4 p1
           have p2 := pw_cell_below hb4 p2
           have p3 := pw_cell_below hb4 p3
           have p4 := pw_cell_below hb4 p4
           have p5 := pw_cell_below hb4 p5
           have p6 := pw_cell_below hb4 p6
           have z0 := hx4.c0
           have z1 := hx4.c1
           have z2 := hx4.c2
           have z3 := hx4.c3
           have z4 := hx4.c4
           have z5 := hx4.c5
           have z6 := hx4.c6
           have zf := fun i => hx4.fz i
           have HX := Aside0.mk (hx4.all (.slice aa an ac) tm kd nn sp tr unk)
           have k5 := ex_kp w4 x (.slice aa an ac) tm kd nn sp tr unk
           have hb := hb4.trans (k5.toBelow hb4.size (fun k e => by rw [e]; exact hxw))
           have HB5 := Aside0.mk (below_next HB.out hb)
           clear hx hx4 k5 hb4 hb))
      clear z0 z1 z2 z3 z4 z5 z6 zf hxw hx4 HB HWr p0 p1 p2 p3 p4 p5 p6
      unfold exSt at HX HB5
      generalize ((((((w4.setCell ⟨x, 0, none⟩ (.slice aa an ac)).setCell ⟨x, 1, none⟩ (.int .u64 tm)).setCell ⟨x, 2, none⟩ (.int .i64 kd)).setCell ⟨x, 3, none⟩ (.int .u64 nn)).setCell ⟨x, 4, none⟩ (.string sp)).setCell ⟨x, 5, none⟩ (.string tr)).setCell ⟨x, 6, none⟩ (.string unk) = w5 at *
      have q4 := HX.out.c4
      have q5 := HX.out.c5
      have q6 := HX.out.c6
      go_quiet ((go_at_call 20; exact Calls.quiet_of (take_qq _ _ _)))
      generalize tk (tk (tk r (sp.size : Int)) (tr.size : Int)) (unk.size : Int) = r1 at *
      have HBd : Aside0 (Below w.heap.size w (w5.drewN nq)) := ⟨pw_below_drewN HB5.out _⟩
      have HXd : Aside0 (XE (w5.drewN nq) x (.slice aa an ac) tm kd nn sp tr unk) := ⟨HX.out⟩
      generalize w5.drewN nq = w6 at *
      have q0 := HXd.out.c0
      obtain ⟨ks, hks⟩ := rd_kvs HN.out.attrs
      have H := rkeys_40 W w6 ⟨aa, an, ac⟩ ks r1 (HW.out.trans (HBd.out.mono HW.out.size)) hks T3.out.1 (by have := T3.out.2.1; have := HQ.out.2.1; have := H12.out; omega)
      unfold Sl.v at H
      clear q4 q5 q6 HX HB5 hks
      go_wp2_with fail
      refine H.mono ?_
      rintro e w7 ⟨r2, rfl, hr2, hb⟩
      have HQn := Aside0.mk (((HQ.out.trans T3.out).trans hr2).less (Nat.zero_le _))
      have HBn := Aside0.mk (below_next HBd.out hb)
      clear hb hr2 q0 H HBd HXd HQ T3
      go_wp2_with fail
      go_roundw
      case rel => exact ⟨i + 1, r2, rfl, by go_num, by omega, HQn, HBn⟩
      case measure => simp [intOf]; omega
    · have hor : ¬ i < l.length ∨ (i < l.length ∧ r < 0) := by
        by_cases h1 : i < l.length
        · exact .inr ⟨h1, by by_cases h : 0 ≤ r; exact absurd ⟨h1, h⟩ hgo; omega⟩
        · exact .inl h1
      clear hgo
      rcases hor with d1 | ⟨d1, d2⟩
      all_goals
        go_wp2_with fail
        all_goals first
          | (exfalso; omega)
          | (go_ret
             exact ⟨r, rfl, HQ.out, HB.out⟩)
end Go.Proofs.Ytdogokcoobpgdaa
namespace Go.Proofs.Ytdogokcoobpgdaa
open Go.RowKit Go.Proofs.YtdogokcoobpgdaaW.PrintWords Go.Proofs.YtdogokcoobpgdaaW.PrintLast Go.Proofs.YtdogokcoobpgdaaW.PrintMore

theorem take_b (a0 a1 : Int) (w : World) : Calls Try.prog 20 #[.int .i64 a0, .int .i64 a1] w fun e w' => e = .returned (.int .i64 (tk a0 a1)) ∧ Below w.heap.size w w' :=
  (take_qq a0 a1 w).mono fun _ _ ⟨h1, m, h2⟩ => ⟨h1, by rw [h2]; exact pw_below_drewN (Below.refl _ _) _⟩
theorem tk2i (room a b : Int) (h : -1 ≤ room) (h2 : room ≤ 12000) (ha : 0 ≤ a) (hb : 0 ≤ b) : RP room 2 (tk (tk room a) b) := by
  have r1 := tk_rp room a h h2 ha
  exact r1.trans (tk_rp (tk room a) b r1.1 (by have := r1.2.1; omega) hb)
theorem tk3i (room a b c : Int) (h : -1 ≤ room) (h2 : room ≤ 12000) (ha : 0 ≤ a) (hb : 0 ≤ b) (hc : 0 ≤ c) : RP room 3 (tk (tk (tk room a) b) c) := by
  have r1 := tk2i room a b h h2 ha hb
  exact r1.trans (tk_rp _ c r1.1 (by have := r1.2.1; omega) hc)
/-- min(n, 100000) times eight. -/
theorem min8 (n : Nat) : ∃ j : Int, (if (100000 : Int) < (n : Int) then 100000 else (n : Int)) = j ∧ 0 ≤ wrap64 (8 * j) := by
  refine ⟨_, rfl, ?_⟩
  by_cases h : (100000 : Int) < (n : Int)
  · rw [if_pos h]; unfold wrap64; omega
  · rw [if_neg h]; unfold wrap64; omega
/-- A histogram's block. -/
structure XH (w : World) (g : Nat) (x : Hst) : Prop where
  blk : w.heap[g]? = some (.cells (hstC x).toArray 30 (0, 0))
section
variable {w w' : World} {g : Nat} {x : Hst}
theorem XH.c0 (h : XH w g x) : w.cell? ⟨g, 0, none⟩ = some (.slice x.attrs.a x.attrs.len x.attrs.cap) := by rw [blk_cell h.blk]; rfl
theorem XH.c1 (h : XH w g x) : w.cell? ⟨g, 1, none⟩ = some (.int .u64 x.start) := by rw [blk_cell h.blk]; rfl
theorem XH.c2 (h : XH w g x) : w.cell? ⟨g, 2, none⟩ = some (.int .u64 x.time) := by rw [blk_cell h.blk]; rfl
theorem XH.c3 (h : XH w g x) : w.cell? ⟨g, 3, none⟩ = some (.int .u64 x.count) := by rw [blk_cell h.blk]; rfl
theorem XH.c4 (h : XH w g x) : w.cell? ⟨g, 4, none⟩ = some (.bool x.sum.has) := by rw [blk_cell h.blk]; rfl
theorem XH.c5 (h : XH w g x) : w.cell? ⟨g, 5, none⟩ = some (.int .u64 x.sum.n) := by rw [blk_cell h.blk]; rfl
theorem XH.c6 (h : XH w g x) : w.cell? ⟨g, 6, none⟩ = some (.bool x.mn.has) := by rw [blk_cell h.blk]; rfl
theorem XH.c7 (h : XH w g x) : w.cell? ⟨g, 7, none⟩ = some (.int .u64 x.mn.n) := by rw [blk_cell h.blk]; rfl
theorem XH.c8 (h : XH w g x) : w.cell? ⟨g, 8, none⟩ = some (.bool x.mx.has) := by rw [blk_cell h.blk]; rfl
theorem XH.c9 (h : XH w g x) : w.cell? ⟨g, 9, none⟩ = some (.int .u64 x.mx.n) := by rw [blk_cell h.blk]; rfl
theorem XH.c10 (h : XH w g x) : w.cell? ⟨g, 10, none⟩ = some (.slice x.counts.a x.counts.len x.counts.cap) := by rw [blk_cell h.blk]; rfl
theorem XH.c11 (h : XH w g x) : w.cell? ⟨g, 11, none⟩ = some (.slice x.bounds.a x.bounds.len x.bounds.cap) := by rw [blk_cell h.blk]; rfl
theorem XH.c12 (h : XH w g x) : w.cell? ⟨g, 12, none⟩ = some (.slice x.exs.a x.exs.len x.exs.cap) := by rw [blk_cell h.blk]; rfl
theorem XH.c13 (h : XH w g x) : w.cell? ⟨g, 13, none⟩ = some (.int .u32 x.flags) := by rw [blk_cell h.blk]; rfl
theorem XH.c14 (h : XH w g x) : w.cell? ⟨g, 14, none⟩ = some (.string x.unk) := by rw [blk_cell h.blk]; rfl
theorem XH.below (h : XH w g x) (hb : Below w.heap.size w w') : XH w' g x := ⟨blk_below h.blk hb⟩
end
def hstA (x : Hst) : Value := .agg (hstC x).toArray
set_option maxHeartbeats 2000000 in
set_option maxRecDepth 100000 in
theorem rhist_any (W w : World) (x : Hst) (hW : Below W.heap.size W w) (hx : HstOk W x) :
    Calls Try.prog 6 #[hstA x, .int .i64 12000] w (fun e w' => ∃ (r : Int) (l : List Kv), e = .returned (.int .i64 r) ∧ SlAt 11 kvC KvOk W x.attrs l ∧ (0 ≤ r → l.length ≤ 600) ∧ -1 ≤ r ∧ r ≤ 12000 ∧ Below w.heap.size w w') := by
  obtain ⟨ks, hks⟩ := rd_kvs hx.attrs
  obtain ⟨es, hes⟩ := rd_exms hx.exs
  obtain ⟨⟨aa, an, ac⟩, start, time, count, ⟨sh, sn⟩, ⟨mnh, mnn⟩, ⟨mxh, mxn⟩, ⟨ca, cn, cc⟩, ⟨ba, bn, bc⟩, ⟨ea, en, ec⟩, flags, unk⟩ := x
  have HW := Aside0.mk hW
  have HK := Aside0.mk hks
  obtain ⟨j1, hj1, hp1⟩ := min8 cn
  obtain ⟨j2, hj2, hp2⟩ := min8 bn
  have T3 := Aside0.mk (tk3i 12000 unk.size (wrap64 (8 * j1)) (wrap64 (8 * j2)) (by omega) (by omega) (by omega) hp1 hp2)
  have RK : ∀ r1, RP 12000 3 r1 → ∀ w', Below w.heap.size w w' → Calls Try.prog 22 #[.slice aa an ac, .int .i64 40, .int .i64 r1] w' (RRes r1 ks.length w') := fun r1 h w' hb => rkeys_40 W w' ⟨aa, an, ac⟩ ks r1 (hW.trans (hb.mono hW.size)) hks h.1 (by have := h.2.1; omega)
  have RX : ∀ w' r2, Below w.heap.size w w' → -1 ≤ r2 ∧ r2 ≤ 12000 → Calls Try.prog 21 #[.slice ea en ec, .int .i64 r2] w' (RRes r2 0 w') := fun w' r2 hb h => rexs_any W w' ⟨ea, en, ec⟩ es r2 (hW.trans (hb.mono hW.size)) hes h.1 h.2
  have HRK := Aside0.mk RK
  have HRX := Aside0.mk RX
  have HJ := Aside0.mk (show (if (100000 : Int) < (cn : Int) then 100000 else (cn : Int)) = j1 ∧ (if (100000 : Int) < (bn : Int) then 100000 else (bn : Int)) = j2 from ⟨hj1, hj2⟩)
  clear hW hx hks hes RK RX hj1 hp1 hj2 hp2
  unfold hstA hstC Sl.v
  go_enter Try.func6, Try.ntmps6
  go_upto_region 1 with fail
  have hx1 : XH (w.alloc (.cells #[.slice aa an ac, .int .u64 start, .int .u64 time, .int .u64 count, .bool sh, .int .u64 sn, .bool mnh, .int .u64 mnn, .bool mxh, .int .u64 mxn, .slice ca cn cc, .slice ba bn bc, .slice ea en ec, .int .u32 flags, .string unk] 30)) w.heap.size ⟨⟨aa, an, ac⟩, start, time, count, ⟨sh, sn⟩, ⟨mnh, mnn⟩, ⟨mxh, mxn⟩, ⟨ca, cn, cc⟩, ⟨ba, bn, bc⟩, ⟨ea, en, ec⟩, flags, unk⟩ := ⟨heap_alloc_new w _⟩
  have HX : Aside0 (XH (w.alloc (.cells #[.slice aa an ac, .int .u64 start, .int .u64 time, .int .u64 count, .bool sh, .int .u64 sn, .bool mnh, .int .u64 mnn, .bool mxh, .int .u64 mxn, .slice ca cn cc, .slice ba bn bc, .slice ea en ec, .int .u32 flags, .string unk] 30)).drew w.heap.size ⟨⟨aa, an, ac⟩, start, time, count, ⟨sh, sn⟩, ⟨mnh, mnn⟩, ⟨mxh, mxn⟩, ⟨ca, cn, cc⟩, ⟨ba, bn, bc⟩, ⟨ea, en, ec⟩, flags, unk⟩) := ⟨⟨hx1.blk⟩⟩
  have HB : Aside0 (Below w.heap.size w (w.alloc (.cells #[.slice aa an ac, .int .u64 start, .int .u64 time, .int .u64 count, .bool sh, .int .u64 sn, .bool mnh, .int .u64 mnn, .bool mxh, .int .u64 mxn, .slice ca cn cc, .slice ba bn bc, .slice ea en ec, .int .u32 flags, .string unk] 30)).drew) := ⟨below_drew1 ((Below.refl w.heap.size w).alloc (Nat.le_refl _) _)⟩
  clear hx1
  generalize w.alloc (.cells #[.slice aa an ac, .int .u64 start, .int .u64 time, .int .u64 count, .bool sh, .int .u64 sn, .bool mnh, .int .u64 mnn, .bool mxh, .int .u64 mxn, .slice ca cn cc, .slice ba bn bc, .slice ea en ec, .int .u32 flags, .string unk] 30) = w1 at *
  generalize hgg : w.heap.size = g at HX ⊢
  have HGG := Aside0.mk hgg
  clear hgg
  obtain ⟨hj1, hj2⟩ := HJ.out
  refine start_ (n := 18) (S := fun w' => w'.cell? ⟨g, 14, none⟩ = some (.string unk) ∧ w'.cell? ⟨g, 10, none⟩ = some (.slice ca cn cc) ∧ w'.cell? ⟨g, 11, none⟩ = some (.slice ba bn bc)) (ds := []) #[false, false, false, false, false, false, false, false, false, false, false, false, false, false, false, false, false, false] (by kernel_rfl) rfl rfl ⟨HX.out.c14, HX.out.c10, HX.out.c11⟩ (fun hHeld => ?_)
  refine pure_ (i := 0) (N := some 5) (v := ?_) (a' := ?_) (mkM 18 1) rfl rfl (by kernel_rfl) (fun _ _ _ h => h) (Or.inl ⟨by rfl, ?_⟩) ?_ ?_
  rotate_left
  · intro w'
    go_simp
    with_reducible rfl
  rotate_left
  · simp only [Act.put, s1_, s2_, s3_]
    rfl
  refine pure_ (i := 1) (N := some 6) (v := ?_) (a' := ?_) (mkM 18 3) rfl rfl (by kernel_rfl) (fun _ _ _ h => h) (Or.inl ⟨by rfl, ?_⟩) ?_ ?_
  rotate_left
  · intro w'
    go_simp
    with_reducible rfl
  rotate_left
  · simp only [Act.put, s1_, s2_, s3_]
    rfl
  refine pure_ (i := 5) (N := some 10) (v := ?_) (a' := ?_) (mkM 18 35) rfl rfl (by kernel_rfl) (fun _ _ _ h => h) (Or.inl ⟨by rfl, ?_⟩) ?_ ?_
  rotate_left
  · intro w'
    go_simp
    with_reducible rfl
  rotate_left
  · simp only [Act.put, s1_, s2_, s3_]
    rfl
  refine pure_ (i := 11) (N := some 16) (v := ?_) (a' := ?_) (mkM 18 2083) rfl rfl (by kernel_rfl) (fun _ _ _ h => h) (Or.inl ⟨by rfl, ?_⟩) ?_ ?_
  rotate_left
  · intro w'
    go_simp
    with_reducible rfl
  rotate_left
  · simp only [Act.put, s1_, s2_, s3_]
    rfl
  refine take_ (i := 2) (N := some 7) (v := ?_) (a' := ?_) (mkM 18 2087) rfl rfl (by kernel_rfl) (fun _ _ _ h => h) (Or.inl ⟨by rfl, ?_⟩) hHeld ?_ ?_
  rotate_left
  · rintro w' ⟨s0, s1, s2⟩
    go_simp
    with_reducible rfl
  rotate_left
  · simp only [Act.put, s1_, s2_, s3_]
    rfl
  refine pure_ (i := 3) (N := some 8) (v := ?_) (a' := ?_) (mkM 18 2095) rfl rfl (by kernel_rfl) (fun _ _ _ h => h) (Or.inl ⟨by rfl, ?_⟩) ?_ ?_
  rotate_left
  · intro w'
    go_simp
    with_reducible rfl
  rotate_left
  · simp only [Act.put, s1_, s2_, s3_]
    rfl
  refine take_ (i := 6) (N := some 11) (v := ?_) (a' := ?_) (mkM 18 2159) rfl rfl (by kernel_rfl) (fun _ _ _ h => h) (Or.inl ⟨by rfl, ?_⟩) hHeld ?_ ?_
  rotate_left
  · rintro w' ⟨s0, s1, s2⟩
    go_simp
    with_reducible rfl
  rotate_left
  · simp only [Act.put, s1_, s2_, s3_]
    rfl
  refine pure_ (i := 7) (N := some 12) (v := ?_) (a' := ?_) (mkM 18 2287) rfl rfl (by kernel_rfl) (fun _ _ _ h => h) (Or.inl ⟨by rfl, ?_⟩) ?_ ?_
  rotate_left
  · intro w'
    go_simp
    with_reducible rfl
  rotate_left
  · simp only [Act.put, s1_, s2_, s3_]
    rfl
  refine pure_ (i := 8) (N := some 13) (v := ?_) (a' := ?_) (mkM 18 2543) rfl rfl (by kernel_rfl) (fun _ _ _ h => h) (Or.inl ⟨by rfl, ?_⟩) ?_ ?_
  rotate_left
  · intro w'
    go_simp
    with_reducible rfl
  rotate_left
  · simp only [Act.put, s1_, s2_, s3_]
    rfl
  refine pure_ (i := 9) (N := some 14) (v := ?_) (a' := ?_) (mkM 18 3055) rfl rfl (by kernel_rfl) (fun _ _ _ h => h) (Or.inl ⟨by rfl, ?_⟩) ?_ ?_
  rotate_left
  · intro w'
    go_simp
    with_reducible rfl
  rotate_left
  · simp only [Act.put, s1_, s2_, s3_, i64_w]
    rfl
  refine take_ (i := 12) (N := some 17) (v := ?_) (a' := ?_) (mkM 18 7151) rfl rfl (by kernel_rfl) (fun _ _ _ h => h) (Or.inl ⟨by rfl, ?_⟩) hHeld ?_ ?_
  rotate_left
  · rintro w' ⟨s0, s1, s2⟩
    go_simp
    with_reducible rfl
  rotate_left
  · simp only [Act.put, s1_, s2_, s3_]
    rfl
  refine pure_ (i := 13) (N := some 18) (v := ?_) (a' := ?_) (mkM 18 15343) rfl rfl (by kernel_rfl) (fun _ _ _ h => h) (Or.inl ⟨by rfl, ?_⟩) ?_ ?_
  rotate_left
  · intro w'
    go_simp
    with_reducible rfl
  rotate_left
  · simp only [Act.put, s1_, s2_, s3_]
    rfl
  refine pure_ (i := 14) (N := some 19) (v := ?_) (a' := ?_) (mkM 18 31727) rfl rfl (by kernel_rfl) (fun _ _ _ h => h) (Or.inl ⟨by rfl, ?_⟩) ?_ ?_
  rotate_left
  · intro w'
    go_simp
    with_reducible rfl
  rotate_left
  · simp only [Act.put, s1_, s2_, s3_]
    rfl
  refine pure_ (i := 15) (N := some 20) (v := ?_) (a' := ?_) (mkM 18 64495) rfl rfl (by kernel_rfl) (fun _ _ _ h => h) (Or.inl ⟨by rfl, ?_⟩) ?_ ?_
  rotate_left
  · intro w'
    go_simp
    with_reducible rfl
  rotate_left
  · simp only [Act.put, s1_, s2_, s3_, i64_w]
    rfl
  refine one_ (i := 4) (N := some 9) (mkM 18 64511) rfl rfl (by kernel_rfl) (by decide) (fun K hK => ?_)
  refine goes_ Try.func20 (by kernel_rfl) rfl #[.int .i64 12000, .int .i64 (unk.size : Int)] (by rfl) rfl rfl (by simp only [List.map_toArray, List.map_cons, List.map_nil]; rfl) ?_
  with_reducible refine (take_b _ _ _).mono ?_
  rintro e w2 ⟨rfl, hb⟩
  refine ⟨_, rfl, ?_⟩
  replace HB := Aside0.mk (below_next HB.out hb)
  have HXn := Aside0.mk (HX.out.below hb)
  clear HX hb
  have HX := HXn
  clear HXn
  refine hK.out _ _ ⟨HX.out.c14, HX.out.c10, HX.out.c11⟩ (fun hHeld => ?_)
  clear hK K
  refine norm_ (a' := ?_) ?_ ?_
  rotate_left
  · show Act.put _ (some 9) _ = _
    simp only [Act.put, s1_, s2_, s3_]
    rfl
  refine one_ (i := 10) (N := some 15) (mkM 18 65535) rfl rfl (by kernel_rfl) (by decide) (fun K hK => ?_)
  refine goes_ Try.func20 (by kernel_rfl) rfl #[.int .i64 (tk 12000 (unk.size : Int)), .int .i64 (wrap64 (8 * j1))] (by rfl) rfl rfl (by simp only [List.map_toArray, List.map_cons, List.map_nil]; rfl) ?_
  with_reducible refine (take_b _ _ _).mono ?_
  rintro e w3 ⟨rfl, hb⟩
  refine ⟨_, rfl, ?_⟩
  replace HB := Aside0.mk (below_next HB.out hb)
  have HXn := Aside0.mk (HX.out.below hb)
  clear HX hb
  have HX := HXn
  clear HXn
  refine hK.out _ _ ⟨HX.out.c14, HX.out.c10, HX.out.c11⟩ (fun hHeld => ?_)
  clear hK K
  refine norm_ (a' := ?_) ?_ ?_
  rotate_left
  · show Act.put _ (some 15) _ = _
    simp only [Act.put, s1_, s2_, s3_]
    rfl
  refine one_ (i := 16) (N := some 21) (mkM 18 131071) rfl rfl (by kernel_rfl) (by decide) (fun K hK => ?_)
  refine goes_ Try.func20 (by kernel_rfl) rfl #[.int .i64 (tk (tk 12000 (unk.size : Int)) (wrap64 (8 * j1))), .int .i64 (wrap64 (8 * j2))] (by rfl) rfl rfl (by simp only [List.map_toArray, List.map_cons, List.map_nil]; rfl) ?_
  with_reducible refine (take_b _ _ _).mono ?_
  rintro e w4 ⟨rfl, hb⟩
  refine ⟨_, rfl, ?_⟩
  replace HB := Aside0.mk (below_next HB.out hb)
  have HXn := Aside0.mk (HX.out.below hb)
  clear HX hb
  have HX := HXn
  clear HXn
  refine hK.out _ _ ⟨HX.out.c14, HX.out.c10, HX.out.c11⟩ (fun hHeld => ?_)
  clear hK K
  refine norm_ (a' := ?_) ?_ ?_
  rotate_left
  · show Act.put _ (some 21) _ = _
    simp only [Act.put, s1_, s2_, s3_]
    rfl
  refine pure_ (i := 17) (N := some 1) (v := ?_) (a' := ?_) (mkM 18 262143) rfl rfl (by kernel_rfl) (fun _ _ _ h => h) (Or.inl ⟨by rfl, ?_⟩) ?_ ?_
  rotate_left
  · intro w'
    go_simp
    with_reducible rfl
  rotate_left
  · simp only [Act.put, s1_, s2_, s3_]
    rfl
  refine done_ (by kernel_rfl) ?_
  clear hj1 hj2 hHeld
  generalize tk (tk (tk 12000 (unk.size : Int)) (wrap64 (8 * j1))) (wrap64 (8 * j2)) = r1 at *
  have RK := fun w' hb => HRK.out r1 T3.out w' hb
  have RX := fun w' r2 hb (h : RP r1 ks.length r2) => HRX.out w' r2 hb ⟨h.1, by have := h.2.1; have := T3.out.2.1; omega⟩
  generalize w4 = w5 at *
  have HXn : Aside0 (XH w5.drew g ⟨⟨aa, an, ac⟩, start, time, count, ⟨sh, sn⟩, ⟨mnh, mnn⟩, ⟨mxh, mxn⟩, ⟨ca, cn, cc⟩, ⟨ba, bn, bc⟩, ⟨ea, en, ec⟩, flags, unk⟩) := ⟨⟨HX.out.blk⟩⟩
  have HBn : Aside0 (Below w.heap.size w w5.drew) := ⟨below_drew1 HB.out⟩
  clear HX HB
  have HX := HXn
  have HB := HBn
  clear HXn HBn
  go_wp2_with fail
  refine start_ (n := 8) (S := fun w' => w'.cell? ⟨g, 0, none⟩ = some (.slice aa an ac) ∧ w'.cell? ⟨g, 12, none⟩ = some (.slice ea en ec)) (ds := []) #[false, false, false, false, false, false, false, false] (by kernel_rfl) rfl rfl ⟨HX.out.c0, HX.out.c12⟩ (fun hHeld => ?_)
  refine pure_ (i := 0) (N := some 22) (v := ?_) (a' := ?_) #[true, false, false, false, false, false, false, false] rfl rfl (by kernel_rfl) (fun _ _ _ h => h) (Or.inl ⟨by rfl, ?_⟩) ?_ ?_
  rotate_left
  · intro w'
    go_simp
    with_reducible rfl
  rotate_left
  · simp only [Act.put, s1_, s2_, s3_]
    rfl
  refine pure_ (i := 2) (N := some 24) (v := ?_) (a' := ?_) #[true, false, true, false, false, false, false, false] rfl rfl (by kernel_rfl) (fun _ _ _ h => h) (Or.inl ⟨by rfl, ?_⟩) ?_ ?_
  rotate_left
  · intro w'
    go_simp
    with_reducible rfl
  rotate_left
  · simp only [Act.put, s1_, s2_, s3_]
    rfl
  refine pure_ (i := 4) (N := some 26) (v := ?_) (a' := ?_) #[true, false, true, false, true, false, false, false] rfl rfl (by kernel_rfl) (fun _ _ _ h => h) (Or.inl ⟨by rfl, ?_⟩) ?_ ?_
  rotate_left
  · intro w'
    go_simp
    with_reducible rfl
  rotate_left
  · simp only [Act.put, s1_, s2_, s3_]
    rfl
  refine take_ (i := 1) (N := some 23) (v := ?_) (a' := ?_) #[true, true, true, false, true, false, false, false] rfl rfl (by kernel_rfl) (fun _ _ _ h => h) (Or.inl ⟨by rfl, ?_⟩) hHeld ?_ ?_
  rotate_left
  · rintro w' ⟨s0, s1⟩
    go_simp
    with_reducible rfl
  rotate_left
  · simp only [Act.put, s1_, s2_, s3_]
    rfl
  refine take_ (i := 3) (N := some 25) (v := ?_) (a' := ?_) #[true, true, true, true, true, false, false, false] rfl rfl (by kernel_rfl) (fun _ _ _ h => h) (Or.inl ⟨by rfl, ?_⟩) hHeld ?_ ?_
  rotate_left
  · rintro w' ⟨s0, s1⟩
    go_simp
    with_reducible rfl
  rotate_left
  · simp only [Act.put, s1_, s2_, s3_]
    rfl
  refine one_ (i := 5) (N := some 27) #[true, true, true, true, true, true, false, false] rfl rfl (by kernel_rfl) (by decide) (fun K hK => ?_)
  refine goes_ Try.func22 (by kernel_rfl) rfl #[.slice aa an ac, .int .i64 40, .int .i64 r1] (by rfl) rfl rfl (by simp only [List.map_toArray, List.map_cons, List.map_nil]; rfl) ?_
  with_reducible refine (RK _ HB.out).mono ?_
  rintro e w7 ⟨r2, rfl, hr2, hb⟩
  refine ⟨_, rfl, ?_⟩
  have HR2 := Aside0.mk hr2
  replace HB := Aside0.mk (below_next HB.out hb)
  have HXn := Aside0.mk (HX.out.below hb)
  clear HX hb hr2
  have HX := HXn
  clear HXn
  refine hK.out _ _ ⟨HX.out.c0, HX.out.c12⟩ (fun hHeld => ?_)
  clear hK K
  refine norm_ (a' := ?_) ?_ ?_
  rotate_left
  · show Act.put _ (some 27) _ = _
    simp only [Act.put, s1_, s2_, s3_]
    rfl
  refine one_ (i := 6) (N := some 28) #[true, true, true, true, true, true, true, false] rfl rfl (by kernel_rfl) (by decide) (fun K hK => ?_)
  refine goes_ Try.func21 (by kernel_rfl) rfl #[.slice ea en ec, .int .i64 r2] (by rfl) rfl rfl (by simp only [List.map_toArray, List.map_cons, List.map_nil]; rfl) ?_
  with_reducible refine (RX _ r2 HB.out HR2.out).mono ?_
  rintro e w8 ⟨r3, rfl, hr3, hb⟩
  refine ⟨_, rfl, ?_⟩
  have HR3 := Aside0.mk hr3
  replace HB := Aside0.mk (below_next HB.out hb)
  have HXn := Aside0.mk (HX.out.below hb)
  clear HX hb hr3
  have HX := HXn
  clear HXn
  refine hK.out _ _ ⟨HX.out.c0, HX.out.c12⟩ (fun hHeld => ?_)
  clear hK K
  refine norm_ (a' := ?_) ?_ ?_
  rotate_left
  · show Act.put _ (some 28) _ = _
    simp only [Act.put, s1_, s2_, s3_]
    rfl
  refine pure_ (i := 7) (N := some 4) (v := ?_) (a' := ?_) #[true, true, true, true, true, true, true, true] rfl rfl (by kernel_rfl) (fun _ _ _ h => h) (Or.inl ⟨by rfl, ?_⟩) ?_ ?_
  rotate_left
  · intro w'
    go_simp
    with_reducible rfl
  rotate_left
  · simp only [Act.put, s1_, s2_, s3_]
    rfl
  refine done_ (by kernel_rfl) ?_
  go_wp2_with fail
  go_ret
  have h1 := T3.out
  have h2 := HR2.out
  have h3 := HR3.out
  exact ⟨r3, ks, rfl, HK.out, fun h0 => by have k3 := h3.2.1; have k2 := h2.2.2 (by omega); have k1 := h1.2.1; omega, h3.1, by have := h3.2.1; have := h2.2.1; have := h1.2.1; omega, HB.out⟩
end Go.Proofs.Ytdogokcoobpgdaa
namespace Go.Proofs.Ytdogokcoobpgdaa
open Go.RowKit Go.Proofs.YtdogokcoobpgdaaW.PrintWords Go.Proofs.YtdogokcoobpgdaaW.PrintLast Go.Proofs.YtdogokcoobpgdaaW.PrintMore

/-- A block. -/
structure XB (w : World) (g : Nat) (x : Bkt) : Prop where
  blk : w.heap[g]? = some (.cells (bktC x).toArray 32 (0, 0))
section
variable {w w' : World} {g : Nat} {x : Bkt}
theorem XB.c0 (h : XB w g x) : w.cell? ⟨g, 0, none⟩ = some (.int .i32 x.off) := by rw [blk_cell h.blk]; rfl
theorem XB.c1 (h : XB w g x) : w.cell? ⟨g, 1, none⟩ = some (.slice x.counts.a x.counts.len x.counts.cap) := by rw [blk_cell h.blk]; rfl
theorem XB.c2 (h : XB w g x) : w.cell? ⟨g, 2, none⟩ = some (.string x.unk) := by rw [blk_cell h.blk]; rfl
theorem XB.below (h : XB w g x) (hb : Below w.heap.size w w') : XB w' g x := ⟨blk_below h.blk hb⟩
end
def bktA (x : Bkt) : Value := .agg (bktC x).toArray
/-- A block. -/
structure XQ (w : World) (g : Nat) (x : Exq) : Prop where
  blk : w.heap[g]? = some (.cells (exqC x).toArray 34 (0, 0))
section
variable {w w' : World} {g : Nat} {x : Exq}
theorem XQ.c0 (h : XQ w g x) : w.cell? ⟨g, 0, none⟩ = some (.slice x.attrs.a x.attrs.len x.attrs.cap) := by rw [blk_cell h.blk]; rfl
theorem XQ.c1 (h : XQ w g x) : w.cell? ⟨g, 1, none⟩ = some (.int .u64 x.start) := by rw [blk_cell h.blk]; rfl
theorem XQ.c2 (h : XQ w g x) : w.cell? ⟨g, 2, none⟩ = some (.int .u64 x.time) := by rw [blk_cell h.blk]; rfl
theorem XQ.c3 (h : XQ w g x) : w.cell? ⟨g, 3, none⟩ = some (.int .u64 x.count) := by rw [blk_cell h.blk]; rfl
theorem XQ.c4 (h : XQ w g x) : w.cell? ⟨g, 4, none⟩ = some (.bool x.sum.has) := by rw [blk_cell h.blk]; rfl
theorem XQ.c5 (h : XQ w g x) : w.cell? ⟨g, 5, none⟩ = some (.int .u64 x.sum.n) := by rw [blk_cell h.blk]; rfl
theorem XQ.c6 (h : XQ w g x) : w.cell? ⟨g, 6, none⟩ = some (.bool x.mn.has) := by rw [blk_cell h.blk]; rfl
theorem XQ.c7 (h : XQ w g x) : w.cell? ⟨g, 7, none⟩ = some (.int .u64 x.mn.n) := by rw [blk_cell h.blk]; rfl
theorem XQ.c8 (h : XQ w g x) : w.cell? ⟨g, 8, none⟩ = some (.bool x.mx.has) := by rw [blk_cell h.blk]; rfl
theorem XQ.c9 (h : XQ w g x) : w.cell? ⟨g, 9, none⟩ = some (.int .u64 x.mx.n) := by rw [blk_cell h.blk]; rfl
theorem XQ.c10 (h : XQ w g x) : w.cell? ⟨g, 10, none⟩ = some (.int .i32 x.scale) := by rw [blk_cell h.blk]; rfl
theorem XQ.c11 (h : XQ w g x) : w.cell? ⟨g, 11, none⟩ = some (.int .u64 x.zero) := by rw [blk_cell h.blk]; rfl
theorem XQ.c12 (h : XQ w g x) : w.cell? ⟨g, 12, none⟩ = some (.bool x.hasPos) := by rw [blk_cell h.blk]; rfl
theorem XQ.c13 (h : XQ w g x) : w.cell? ⟨g, 13, none⟩ = some (.int .i32 x.pos.off) := by rw [blk_cell h.blk]; rfl
theorem XQ.c14 (h : XQ w g x) : w.cell? ⟨g, 14, none⟩ = some (.slice x.pos.counts.a x.pos.counts.len x.pos.counts.cap) := by rw [blk_cell h.blk]; rfl
theorem XQ.c15 (h : XQ w g x) : w.cell? ⟨g, 15, none⟩ = some (.string x.pos.unk) := by rw [blk_cell h.blk]; rfl
theorem XQ.c16 (h : XQ w g x) : w.cell? ⟨g, 16, none⟩ = some (.bool x.hasNeg) := by rw [blk_cell h.blk]; rfl
theorem XQ.c17 (h : XQ w g x) : w.cell? ⟨g, 17, none⟩ = some (.int .i32 x.neg.off) := by rw [blk_cell h.blk]; rfl
theorem XQ.c18 (h : XQ w g x) : w.cell? ⟨g, 18, none⟩ = some (.slice x.neg.counts.a x.neg.counts.len x.neg.counts.cap) := by rw [blk_cell h.blk]; rfl
theorem XQ.c19 (h : XQ w g x) : w.cell? ⟨g, 19, none⟩ = some (.string x.neg.unk) := by rw [blk_cell h.blk]; rfl
theorem XQ.c20 (h : XQ w g x) : w.cell? ⟨g, 20, none⟩ = some (.slice x.exs.a x.exs.len x.exs.cap) := by rw [blk_cell h.blk]; rfl
theorem XQ.c21 (h : XQ w g x) : w.cell? ⟨g, 21, none⟩ = some (.int .u32 x.flags) := by rw [blk_cell h.blk]; rfl
theorem XQ.c22 (h : XQ w g x) : w.cell? ⟨g, 22, none⟩ = some (.int .u64 x.thr) := by rw [blk_cell h.blk]; rfl
theorem XQ.c23 (h : XQ w g x) : w.cell? ⟨g, 23, none⟩ = some (.string x.unk) := by rw [blk_cell h.blk]; rfl
theorem XQ.below (h : XQ w g x) (hb : Below w.heap.size w w') : XQ w' g x := ⟨blk_below h.blk hb⟩
end
def exqA (x : Exq) : Value := .agg (exqC x).toArray
/-- A block. -/
structure XN (w : World) (g : Nat) (x : Nmb) : Prop where
  blk : w.heap[g]? = some (.cells (nmbC x).toArray 47 (0, 0))
section
variable {w w' : World} {g : Nat} {x : Nmb}
theorem XN.c0 (h : XN w g x) : w.cell? ⟨g, 0, none⟩ = some (.slice x.attrs.a x.attrs.len x.attrs.cap) := by rw [blk_cell h.blk]; rfl
theorem XN.c1 (h : XN w g x) : w.cell? ⟨g, 1, none⟩ = some (.int .u64 x.start) := by rw [blk_cell h.blk]; rfl
theorem XN.c2 (h : XN w g x) : w.cell? ⟨g, 2, none⟩ = some (.int .u64 x.time) := by rw [blk_cell h.blk]; rfl
theorem XN.c3 (h : XN w g x) : w.cell? ⟨g, 3, none⟩ = some (.int .i64 x.kind) := by rw [blk_cell h.blk]; rfl
theorem XN.c4 (h : XN w g x) : w.cell? ⟨g, 4, none⟩ = some (.int .u64 x.n) := by rw [blk_cell h.blk]; rfl
theorem XN.c5 (h : XN w g x) : w.cell? ⟨g, 5, none⟩ = some (.slice x.exs.a x.exs.len x.exs.cap) := by rw [blk_cell h.blk]; rfl
theorem XN.c6 (h : XN w g x) : w.cell? ⟨g, 6, none⟩ = some (.int .u32 x.flags) := by rw [blk_cell h.blk]; rfl
theorem XN.c7 (h : XN w g x) : w.cell? ⟨g, 7, none⟩ = some (.string x.unk) := by rw [blk_cell h.blk]; rfl
theorem XN.below (h : XN w g x) (hb : Below w.heap.size w w') : XN w' g x := ⟨blk_below h.blk hb⟩
end
def nmbA (x : Nmb) : Value := .agg (nmbC x).toArray
/-- A block. -/
structure XS (w : World) (g : Nat) (x : Smm) : Prop where
  blk : w.heap[g]? = some (.cells (smmC x).toArray 50 (0, 0))
section
variable {w w' : World} {g : Nat} {x : Smm}
theorem XS.c0 (h : XS w g x) : w.cell? ⟨g, 0, none⟩ = some (.slice x.attrs.a x.attrs.len x.attrs.cap) := by rw [blk_cell h.blk]; rfl
theorem XS.c1 (h : XS w g x) : w.cell? ⟨g, 1, none⟩ = some (.int .u64 x.start) := by rw [blk_cell h.blk]; rfl
theorem XS.c2 (h : XS w g x) : w.cell? ⟨g, 2, none⟩ = some (.int .u64 x.time) := by rw [blk_cell h.blk]; rfl
theorem XS.c3 (h : XS w g x) : w.cell? ⟨g, 3, none⟩ = some (.int .u64 x.count) := by rw [blk_cell h.blk]; rfl
theorem XS.c4 (h : XS w g x) : w.cell? ⟨g, 4, none⟩ = some (.int .u64 x.sum) := by rw [blk_cell h.blk]; rfl
theorem XS.c5 (h : XS w g x) : w.cell? ⟨g, 5, none⟩ = some (.slice x.qs.a x.qs.len x.qs.cap) := by rw [blk_cell h.blk]; rfl
theorem XS.c6 (h : XS w g x) : w.cell? ⟨g, 6, none⟩ = some (.int .u32 x.flags) := by rw [blk_cell h.blk]; rfl
theorem XS.c7 (h : XS w g x) : w.cell? ⟨g, 7, none⟩ = some (.string x.unk) := by rw [blk_cell h.blk]; rfl
theorem XS.below (h : XS w g x) (hb : Below w.heap.size w w') : XS w' g x := ⟨blk_below h.blk hb⟩
end
def smmA (x : Smm) : Value := .agg (smmC x).toArray
end Go.Proofs.Ytdogokcoobpgdaa
namespace Go.Proofs.Ytdogokcoobpgdaa
open Go.RowKit Go.Proofs.YtdogokcoobpgdaaW.PrintWords Go.Proofs.YtdogokcoobpgdaaW.PrintLast Go.Proofs.YtdogokcoobpgdaaW.PrintMore

set_option maxHeartbeats 2000000 in
set_option maxRecDepth 100000 in
theorem rbkt_any (w : World) (x : Bkt) (room : Int) (h1 : -1 ≤ room) (h2 : room ≤ 12000) :
    Calls Try.prog 23 #[bktA x, .int .i64 room] w (RRes room 0 w) := by
  obtain ⟨offv, ⟨counts_a, counts_n, counts_c⟩, unkv⟩ := x
  obtain ⟨j1, hj1, hp1⟩ := min8 counts_n
  have T2 := Aside0.mk ((tk2i room unkv.size (wrap64 (8 * j1)) h1 h2 (by omega) hp1).less (Nat.zero_le _))
  have HJ := Aside0.mk hj1
  clear hj1 hp1 h1 h2
  unfold bktA bktC Sl.v
  go_enter Try.func23, Try.ntmps23
  go_upto_region 1 with fail
  have HX : Aside0 (XB (w.alloc (.cells #[.int .i32 offv, .slice counts_a counts_n counts_c, .string unkv] 32)).drew w.heap.size ⟨offv, ⟨counts_a, counts_n, counts_c⟩, unkv⟩) := ⟨⟨heap_alloc_new w _⟩⟩
  have HB : Aside0 (Below w.heap.size w (w.alloc (.cells #[.int .i32 offv, .slice counts_a counts_n counts_c, .string unkv] 32)).drew) := ⟨below_drew1 ((Below.refl w.heap.size w).alloc (Nat.le_refl _) _)⟩
  generalize w.alloc (.cells #[.int .i32 offv, .slice counts_a counts_n counts_c, .string unkv] 32) = w1 at *
  generalize hgg : w.heap.size = g at HX ⊢
  have HGG := Aside0.mk hgg
  clear hgg
  have hj1 := HJ.out
  refine start_ (n := 12) (S := fun w' => w'.cell? ⟨g, 2, none⟩ = some (.string unkv) ∧ w'.cell? ⟨g, 1, none⟩ = some (.slice counts_a counts_n counts_c)) (ds := []) #[false, false, false, false, false, false, false, false, false, false, false, false] (by kernel_rfl) rfl rfl ⟨HX.out.c2, HX.out.c1⟩ (fun hHeld => ?_)
  refine pure_ (i := 0) (N := some 5) (v := ?_) (a' := ?_) (mkM 12 1) rfl rfl (by kernel_rfl) (fun _ _ _ h => h) (Or.inl ⟨by rfl, ?_⟩) ?_ ?_
  rotate_left
  · intro w'
    go_simp
    with_reducible rfl
  rotate_left
  · simp only [Act.put, s1_, s2_, s3_]
    rfl
  refine pure_ (i := 1) (N := some 6) (v := ?_) (a' := ?_) (mkM 12 3) rfl rfl (by kernel_rfl) (fun _ _ _ h => h) (Or.inl ⟨by rfl, ?_⟩) ?_ ?_
  rotate_left
  · intro w'
    go_simp
    with_reducible rfl
  rotate_left
  · simp only [Act.put, s1_, s2_, s3_]
    rfl
  refine pure_ (i := 5) (N := some 10) (v := ?_) (a' := ?_) (mkM 12 35) rfl rfl (by kernel_rfl) (fun _ _ _ h => h) (Or.inl ⟨by rfl, ?_⟩) ?_ ?_
  rotate_left
  · intro w'
    go_simp
    with_reducible rfl
  rotate_left
  · simp only [Act.put, s1_, s2_, s3_]
    rfl
  refine take_ (i := 2) (N := some 7) (v := ?_) (a' := ?_) (mkM 12 39) rfl rfl (by kernel_rfl) (fun _ _ _ h => h) (Or.inl ⟨by rfl, ?_⟩) hHeld ?_ ?_
  rotate_left
  · rintro w' ⟨s0, s1⟩
    go_simp
    with_reducible rfl
  rotate_left
  · simp only [Act.put, s1_, s2_, s3_]
    rfl
  refine pure_ (i := 3) (N := some 8) (v := ?_) (a' := ?_) (mkM 12 47) rfl rfl (by kernel_rfl) (fun _ _ _ h => h) (Or.inl ⟨by rfl, ?_⟩) ?_ ?_
  rotate_left
  · intro w'
    go_simp
    with_reducible rfl
  rotate_left
  · simp only [Act.put, s1_, s2_, s3_]
    rfl
  refine take_ (i := 6) (N := some 11) (v := ?_) (a' := ?_) (mkM 12 111) rfl rfl (by kernel_rfl) (fun _ _ _ h => h) (Or.inl ⟨by rfl, ?_⟩) hHeld ?_ ?_
  rotate_left
  · rintro w' ⟨s0, s1⟩
    go_simp
    with_reducible rfl
  rotate_left
  · simp only [Act.put, s1_, s2_, s3_]
    rfl
  refine pure_ (i := 7) (N := some 12) (v := ?_) (a' := ?_) (mkM 12 239) rfl rfl (by kernel_rfl) (fun _ _ _ h => h) (Or.inl ⟨by rfl, ?_⟩) ?_ ?_
  rotate_left
  · intro w'
    go_simp
    with_reducible rfl
  rotate_left
  · simp only [Act.put, s1_, s2_, s3_]
    rfl
  refine pure_ (i := 8) (N := some 13) (v := ?_) (a' := ?_) (mkM 12 495) rfl rfl (by kernel_rfl) (fun _ _ _ h => h) (Or.inl ⟨by rfl, ?_⟩) ?_ ?_
  rotate_left
  · intro w'
    go_simp
    with_reducible rfl
  rotate_left
  · simp only [Act.put, s1_, s2_, s3_]
    rfl
  refine pure_ (i := 9) (N := some 14) (v := ?_) (a' := ?_) (mkM 12 1007) rfl rfl (by kernel_rfl) (fun _ _ _ h => h) (Or.inl ⟨by rfl, ?_⟩) ?_ ?_
  rotate_left
  · intro w'
    go_simp
    with_reducible rfl
  rotate_left
  · simp only [Act.put, s1_, s2_, s3_, i64_w]
    rfl
  refine one_ (i := 4) (N := some 9) (mkM 12 1023) rfl rfl (by kernel_rfl) (by decide) (fun K hK => ?_)
  refine goes_ Try.func20 (by kernel_rfl) rfl #[.int .i64 room, .int .i64 (unkv.size : Int)] (by rfl) rfl rfl (by simp only [List.map_toArray, List.map_cons, List.map_nil]; rfl) ?_
  with_reducible refine (take_b _ _ _).mono ?_
  rintro e w2 ⟨rfl, hb⟩
  refine ⟨_, rfl, ?_⟩
  replace HB := Aside0.mk (below_next HB.out hb)
  have HXn := Aside0.mk (HX.out.below hb)
  clear HX hb
  have HX := HXn
  clear HXn
  refine hK.out _ _ ⟨HX.out.c2, HX.out.c1⟩ (fun hHeld => ?_)
  clear hK K
  refine norm_ (a' := ?_) ?_ ?_
  rotate_left
  · show Act.put _ (some 9) _ = _
    simp only [Act.put, s1_, s2_, s3_]
    rfl
  refine one_ (i := 10) (N := some 15) (mkM 12 2047) rfl rfl (by kernel_rfl) (by decide) (fun K hK => ?_)
  refine goes_ Try.func20 (by kernel_rfl) rfl #[.int .i64 (tk room (unkv.size : Int)), .int .i64 (wrap64 (8 * j1))] (by rfl) rfl rfl (by simp only [List.map_toArray, List.map_cons, List.map_nil]; rfl) ?_
  with_reducible refine (take_b _ _ _).mono ?_
  rintro e w3 ⟨rfl, hb⟩
  refine ⟨_, rfl, ?_⟩
  replace HB := Aside0.mk (below_next HB.out hb)
  have HXn := Aside0.mk (HX.out.below hb)
  clear HX hb
  have HX := HXn
  clear HXn
  refine hK.out _ _ ⟨HX.out.c2, HX.out.c1⟩ (fun hHeld => ?_)
  clear hK K
  refine norm_ (a' := ?_) ?_ ?_
  rotate_left
  · show Act.put _ (some 15) _ = _
    simp only [Act.put, s1_, s2_, s3_]
    rfl
  refine pure_ (i := 11) (N := some 4) (v := ?_) (a' := ?_) (mkM 12 4095) rfl rfl (by kernel_rfl) (fun _ _ _ h => h) (Or.inl ⟨by rfl, ?_⟩) ?_ ?_
  rotate_left
  · intro w'
    go_simp
    with_reducible rfl
  rotate_left
  · simp only [Act.put, s1_, s2_, s3_]
    rfl
  refine done_ (by kernel_rfl) ?_
  clear hj1 hHeld
  go_wp2_with fail
  go_ret
  exact ⟨_, rfl, T2.out, HB.out⟩
set_option maxHeartbeats 2000000 in
set_option maxRecDepth 100000 in
theorem rexp_any (W w : World) (x : Exq) (hW : Below W.heap.size W w) (hx : ExqOk W x) :
    Calls Try.prog 7 #[exqA x, .int .i64 12000] w (fun e w' => ∃ (r : Int) (l : List Kv), e = .returned (.int .i64 r) ∧ SlAt 11 kvC KvOk W x.attrs l ∧ (0 ≤ r → l.length ≤ 600) ∧ -1 ≤ r ∧ r ≤ 12000 ∧ Below w.heap.size w w') := by
  obtain ⟨ks, hks⟩ := rd_kvs hx.attrs
  obtain ⟨es, hes⟩ := rd_exms hx.exs
  obtain ⟨⟨attrs_a, attrs_n, attrs_c⟩, startv, timev, countv, ⟨su_hasv, su_nv⟩, ⟨mn_hasv, mn_nv⟩, ⟨mx_hasv, mx_nv⟩, scalev, zerov, hasPosv, ⟨po_offv, ⟨po_counts_a, po_counts_n, po_counts_c⟩, po_unkv⟩, hasNegv, ⟨ne_offv, ⟨ne_counts_a, ne_counts_n, ne_counts_c⟩, ne_unkv⟩, ⟨exs_a, exs_n, exs_c⟩, flagsv, thrv, unkv⟩ := x
  have HK := Aside0.mk hks
  have T1 := Aside0.mk (tk_rp 12000 unkv.size (by omega) (by omega) (by omega))
  have RN := fun w => rbkt_any w ⟨ne_offv, ⟨ne_counts_a, ne_counts_n, ne_counts_c⟩, ne_unkv⟩ (tk 12000 (unkv.size : Int)) T1.out.1 (by have := T1.out.2.1; omega)
  have RP' := fun w r1 (h : RP (tk 12000 (unkv.size : Int)) 0 r1) => rbkt_any w ⟨po_offv, ⟨po_counts_a, po_counts_n, po_counts_c⟩, po_unkv⟩ r1 h.1 (by have := h.2.1; have := T1.out.2.1; omega)
  have HRK : Aside0 (∀ r1, -1 ≤ r1 → r1 ≤ 12000 → ∀ w', Below w.heap.size w w' → Calls Try.prog 22 #[.slice attrs_a attrs_n attrs_c, .int .i64 40, .int .i64 r1] w' (RRes r1 ks.length w')) := ⟨fun r1 h h' w' hb => rkeys_40 W w' ⟨attrs_a, attrs_n, attrs_c⟩ ks r1 (hW.trans (hb.mono hW.size)) hks h h'⟩
  have HRX : Aside0 (∀ w' r2, Below w.heap.size w w' → -1 ≤ r2 ∧ r2 ≤ 12000 → Calls Try.prog 21 #[.slice exs_a exs_n exs_c, .int .i64 r2] w' (RRes r2 0 w')) := ⟨fun w' r2 hb h => rexs_any W w' ⟨exs_a, exs_n, exs_c⟩ es r2 (hW.trans (hb.mono hW.size)) hes h.1 h.2⟩
  have HRN := Aside0.mk RN
  have HRP := Aside0.mk RP'
  clear hW hx hks hes RN RP'
  unfold exqA exqC Sl.v
  go_enter Try.func7, Try.ntmps7
  go_upto_region 1 with fail
  have HX : Aside0 (XQ (w.alloc (.cells #[.slice attrs_a attrs_n attrs_c, .int .u64 startv, .int .u64 timev, .int .u64 countv, .bool su_hasv, .int .u64 su_nv, .bool mn_hasv, .int .u64 mn_nv, .bool mx_hasv, .int .u64 mx_nv, .int .i32 scalev, .int .u64 zerov, .bool hasPosv, .int .i32 po_offv, .slice po_counts_a po_counts_n po_counts_c, .string po_unkv, .bool hasNegv, .int .i32 ne_offv, .slice ne_counts_a ne_counts_n ne_counts_c, .string ne_unkv, .slice exs_a exs_n exs_c, .int .u32 flagsv, .int .u64 thrv, .string unkv] 34)).drew w.heap.size ⟨⟨attrs_a, attrs_n, attrs_c⟩, startv, timev, countv, ⟨su_hasv, su_nv⟩, ⟨mn_hasv, mn_nv⟩, ⟨mx_hasv, mx_nv⟩, scalev, zerov, hasPosv, ⟨po_offv, ⟨po_counts_a, po_counts_n, po_counts_c⟩, po_unkv⟩, hasNegv, ⟨ne_offv, ⟨ne_counts_a, ne_counts_n, ne_counts_c⟩, ne_unkv⟩, ⟨exs_a, exs_n, exs_c⟩, flagsv, thrv, unkv⟩) := ⟨⟨heap_alloc_new w _⟩⟩
  have HB : Aside0 (Below w.heap.size w (w.alloc (.cells #[.slice attrs_a attrs_n attrs_c, .int .u64 startv, .int .u64 timev, .int .u64 countv, .bool su_hasv, .int .u64 su_nv, .bool mn_hasv, .int .u64 mn_nv, .bool mx_hasv, .int .u64 mx_nv, .int .i32 scalev, .int .u64 zerov, .bool hasPosv, .int .i32 po_offv, .slice po_counts_a po_counts_n po_counts_c, .string po_unkv, .bool hasNegv, .int .i32 ne_offv, .slice ne_counts_a ne_counts_n ne_counts_c, .string ne_unkv, .slice exs_a exs_n exs_c, .int .u32 flagsv, .int .u64 thrv, .string unkv] 34)).drew) := ⟨below_drew1 ((Below.refl w.heap.size w).alloc (Nat.le_refl _) _)⟩
  generalize w.alloc (.cells #[.slice attrs_a attrs_n attrs_c, .int .u64 startv, .int .u64 timev, .int .u64 countv, .bool su_hasv, .int .u64 su_nv, .bool mn_hasv, .int .u64 mn_nv, .bool mx_hasv, .int .u64 mx_nv, .int .i32 scalev, .int .u64 zerov, .bool hasPosv, .int .i32 po_offv, .slice po_counts_a po_counts_n po_counts_c, .string po_unkv, .bool hasNegv, .int .i32 ne_offv, .slice ne_counts_a ne_counts_n ne_counts_c, .string ne_unkv, .slice exs_a exs_n exs_c, .int .u32 flagsv, .int .u64 thrv, .string unkv] 34) = w1 at *
  generalize hgg : w.heap.size = g at HX ⊢
  have HGG := Aside0.mk hgg
  clear hgg
  have RN := HRN.out
  have RP' := HRP.out
  unfold bktA bktC Sl.v at RN RP'
  have z32 := Try.sizeOf32
  refine start_ (n := 12) (S := fun w' => w'.cell? ⟨g, 13, none⟩ = some (.int .i32 po_offv) ∧ w'.cell? ⟨g, 14, none⟩ = some (.slice po_counts_a po_counts_n po_counts_c) ∧ w'.cell? ⟨g, 15, none⟩ = some (.string po_unkv) ∧ w'.cell? ⟨g, 17, none⟩ = some (.int .i32 ne_offv) ∧ w'.cell? ⟨g, 18, none⟩ = some (.slice ne_counts_a ne_counts_n ne_counts_c) ∧ w'.cell? ⟨g, 19, none⟩ = some (.string ne_unkv) ∧ w'.cell? ⟨g, 23, none⟩ = some (.string unkv)) (ds := []) #[false, false, false, false, false, false, false, false, false, false, false, false] (by kernel_rfl) rfl rfl ⟨HX.out.c13, HX.out.c14, HX.out.c15, HX.out.c17, HX.out.c18, HX.out.c19, HX.out.c23⟩ (fun hHeld => ?_)
  refine pure_ (i := 0) (N := some 5) (v := ?_) (a' := ?_) (mkM 12 1) rfl rfl (by kernel_rfl) (fun _ _ _ h => h) (Or.inl ⟨by rfl, ?_⟩) ?_ ?_
  rotate_left
  · intro w'
    go_simp
    with_reducible rfl
  rotate_left
  · simp only [Act.put, s1_, s2_, s3_]
    rfl
  refine pure_ (i := 2) (N := some 7) (v := ?_) (a' := ?_) (mkM 12 5) rfl rfl (by kernel_rfl) (fun _ _ _ h => h) (Or.inl ⟨by rfl, ?_⟩) ?_ ?_
  rotate_left
  · intro w'
    go_simp
    with_reducible rfl
  rotate_left
  · simp only [Act.put, s1_, s2_, s3_]
    rfl
  refine pure_ (i := 4) (N := some 9) (v := ?_) (a' := ?_) (mkM 12 21) rfl rfl (by kernel_rfl) (fun _ _ _ h => h) (Or.inl ⟨by rfl, ?_⟩) ?_ ?_
  rotate_left
  · intro w'
    go_simp
    with_reducible rfl
  rotate_left
  · simp only [Act.put, s1_, s2_, s3_]
    rfl
  refine pure_ (i := 5) (N := some 10) (v := ?_) (a' := ?_) (mkM 12 53) rfl rfl (by kernel_rfl) (fun _ _ _ h => h) (Or.inl ⟨by rfl, ?_⟩) ?_ ?_
  rotate_left
  · intro w'
    go_simp
    with_reducible rfl
  rotate_left
  · simp only [Act.put, s1_, s2_, s3_]
    rfl
  refine take_ (i := 1) (N := some 6) (v := ?_) (a' := ?_) (mkM 12 55) rfl rfl (by kernel_rfl) (fun _ _ _ h => h) (Or.inl ⟨by rfl, ?_⟩) hHeld ?_ ?_
  rotate_left
  · rintro w' ⟨s0, s1, s2, s3, s4, s5, s6⟩
    go_simp
    with_reducible rfl
  rotate_left
  · simp only [Act.put, s1_, s2_, s3_]
    rfl
  refine take_ (i := 3) (N := some 8) (v := ?_) (a' := ?_) (mkM 12 63) rfl rfl (by kernel_rfl) (fun _ _ _ h => h) (Or.inl ⟨by rfl, ?_⟩) hHeld ?_ ?_
  rotate_left
  · rintro w' ⟨s0, s1, s2, s3, s4, s5, s6⟩
    go_simp
    with_reducible rfl
  rotate_left
  · simp only [Act.put, s1_, s2_, s3_]
    rfl
  refine take_ (i := 6) (N := some 11) (v := ?_) (a' := ?_) (mkM 12 127) rfl rfl (by kernel_rfl) (fun _ _ _ h => h) (Or.inl ⟨by rfl, ?_⟩) hHeld ?_ ?_
  rotate_left
  · rintro w' ⟨s0, s1, s2, s3, s4, s5, s6⟩
    go_simp
    with_reducible rfl
  rotate_left
  · simp only [Act.put, s1_, s2_, s3_]
    rfl
  refine pure_ (i := 7) (N := some 12) (v := ?_) (a' := ?_) (mkM 12 255) rfl rfl (by kernel_rfl) (fun _ _ _ h => h) (Or.inl ⟨by rfl, ?_⟩) ?_ ?_
  rotate_left
  · intro w'
    go_simp
    with_reducible rfl
  rotate_left
  · simp only [Act.put, s1_, s2_, s3_]
    rfl
  refine one_ (i := 8) (N := some 13) (mkM 12 511) rfl rfl (by kernel_rfl) (by decide) (fun K hK => ?_)
  refine goes_ Try.func20 (by kernel_rfl) rfl #[.int .i64 12000, .int .i64 (unkv.size : Int)] (by rfl) rfl rfl (by simp only [List.map_toArray, List.map_cons, List.map_nil]; rfl) ?_
  with_reducible refine (take_b _ _ _).mono ?_
  rintro e w2 ⟨rfl, hb⟩
  refine ⟨_, rfl, ?_⟩
  replace HB := Aside0.mk (below_next HB.out hb)
  have HXn := Aside0.mk (HX.out.below hb)
  clear HX hb
  have HX := HXn
  clear HXn
  refine hK.out _ _ ⟨HX.out.c13, HX.out.c14, HX.out.c15, HX.out.c17, HX.out.c18, HX.out.c19, HX.out.c23⟩ (fun hHeld => ?_)
  clear hK K
  refine norm_ (a' := ?_) ?_ ?_
  rotate_left
  · show Act.put _ (some 13) _ = _
    simp only [Act.put, s1_, s2_, s3_]
    rfl
  refine one_ (i := 9) (N := some 14) (mkM 12 1023) rfl rfl (by kernel_rfl) (by decide) (fun K hK => ?_)
  refine goes_ Try.func23 (by kernel_rfl) rfl #[.agg #[.int .i32 ne_offv, .slice ne_counts_a ne_counts_n ne_counts_c, .string ne_unkv], .int .i64 (tk 12000 (unkv.size : Int))] (by rfl) rfl rfl (by simp only [List.map_toArray, List.map_cons, List.map_nil]; rfl) ?_
  with_reducible refine (RN _).mono ?_
  rintro e w3 ⟨r1, rfl, hr1, hb⟩
  refine ⟨_, rfl, ?_⟩
  have HR1 := Aside0.mk hr1
  clear hr1
  replace HB := Aside0.mk (below_next HB.out hb)
  have HXn := Aside0.mk (HX.out.below hb)
  clear HX hb
  have HX := HXn
  clear HXn
  refine hK.out _ _ ⟨HX.out.c13, HX.out.c14, HX.out.c15, HX.out.c17, HX.out.c18, HX.out.c19, HX.out.c23⟩ (fun hHeld => ?_)
  clear hK K
  refine norm_ (a' := ?_) ?_ ?_
  rotate_left
  · show Act.put _ (some 14) _ = _
    simp only [Act.put, s1_, s2_, s3_]
    rfl
  refine one_ (i := 10) (N := some 15) (mkM 12 2047) rfl rfl (by kernel_rfl) (by decide) (fun K hK => ?_)
  refine goes_ Try.func23 (by kernel_rfl) rfl #[.agg #[.int .i32 po_offv, .slice po_counts_a po_counts_n po_counts_c, .string po_unkv], .int .i64 r1] (by rfl) rfl rfl (by simp only [List.map_toArray, List.map_cons, List.map_nil]; rfl) ?_
  with_reducible refine (RP' _ r1 HR1.out).mono ?_
  rintro e w4 ⟨r2, rfl, hr2, hb⟩
  refine ⟨_, rfl, ?_⟩
  have HR2 := Aside0.mk hr2
  clear hr2
  replace HB := Aside0.mk (below_next HB.out hb)
  have HXn := Aside0.mk (HX.out.below hb)
  clear HX hb
  have HX := HXn
  clear HXn
  refine hK.out _ _ ⟨HX.out.c13, HX.out.c14, HX.out.c15, HX.out.c17, HX.out.c18, HX.out.c19, HX.out.c23⟩ (fun hHeld => ?_)
  clear hK K
  refine norm_ (a' := ?_) ?_ ?_
  rotate_left
  · show Act.put _ (some 15) _ = _
    simp only [Act.put, s1_, s2_, s3_]
    rfl
  refine pure_ (i := 11) (N := some 1) (v := ?_) (a' := ?_) (mkM 12 4095) rfl rfl (by kernel_rfl) (fun _ _ _ h => h) (Or.inl ⟨by rfl, ?_⟩) ?_ ?_
  rotate_left
  · intro w'
    go_simp
    with_reducible rfl
  rotate_left
  · simp only [Act.put, s1_, s2_, s3_]
    rfl
  refine done_ (by kernel_rfl) ?_
  clear hHeld RN RP'
  have k1 := T1.out
  have k2 := HR1.out
  have k3 := HR2.out
  have RK := fun w' hb => HRK.out r2 k3.1 (by have := k3.2.1; have := k2.2.1; have := k1.2.1; omega) w' hb
  have RX := fun w' r3 hb (h : RP r2 ks.length r3) => HRX.out w' r3 hb ⟨h.1, by have := h.2.1; have := k3.2.1; have := k2.2.1; have := k1.2.1; omega⟩
  clear k1 k2 k3
  have HXn : Aside0 (XQ w4.drew g ⟨⟨attrs_a, attrs_n, attrs_c⟩, startv, timev, countv, ⟨su_hasv, su_nv⟩, ⟨mn_hasv, mn_nv⟩, ⟨mx_hasv, mx_nv⟩, scalev, zerov, hasPosv, ⟨po_offv, ⟨po_counts_a, po_counts_n, po_counts_c⟩, po_unkv⟩, hasNegv, ⟨ne_offv, ⟨ne_counts_a, ne_counts_n, ne_counts_c⟩, ne_unkv⟩, ⟨exs_a, exs_n, exs_c⟩, flagsv, thrv, unkv⟩) := ⟨⟨HX.out.blk⟩⟩
  have HBn : Aside0 (Below w.heap.size w w4.drew) := ⟨below_drew1 HB.out⟩
  clear HX HB
  have HX := HXn
  have HB := HBn
  clear HXn HBn
  go_wp2_with fail
  refine start_ (n := 8) (S := fun w' => w'.cell? ⟨g, 20, none⟩ = some (.slice exs_a exs_n exs_c) ∧ w'.cell? ⟨g, 0, none⟩ = some (.slice attrs_a attrs_n attrs_c)) (ds := []) #[false, false, false, false, false, false, false, false] (by kernel_rfl) rfl rfl ⟨HX.out.c20, HX.out.c0⟩ (fun hHeld => ?_)
  refine pure_ (i := 0) (N := some 16) (v := ?_) (a' := ?_) #[true, false, false, false, false, false, false, false] rfl rfl (by kernel_rfl) (fun _ _ _ h => h) (Or.inl ⟨by rfl, ?_⟩) ?_ ?_
  rotate_left
  · intro w'
    go_simp
    with_reducible rfl
  rotate_left
  · simp only [Act.put, s1_, s2_, s3_]
    rfl
  refine pure_ (i := 2) (N := some 18) (v := ?_) (a' := ?_) #[true, false, true, false, false, false, false, false] rfl rfl (by kernel_rfl) (fun _ _ _ h => h) (Or.inl ⟨by rfl, ?_⟩) ?_ ?_
  rotate_left
  · intro w'
    go_simp
    with_reducible rfl
  rotate_left
  · simp only [Act.put, s1_, s2_, s3_]
    rfl
  refine pure_ (i := 4) (N := some 20) (v := ?_) (a' := ?_) #[true, false, true, false, true, false, false, false] rfl rfl (by kernel_rfl) (fun _ _ _ h => h) (Or.inl ⟨by rfl, ?_⟩) ?_ ?_
  rotate_left
  · intro w'
    go_simp
    with_reducible rfl
  rotate_left
  · simp only [Act.put, s1_, s2_, s3_]
    rfl
  refine take_ (i := 1) (N := some 17) (v := ?_) (a' := ?_) #[true, true, true, false, true, false, false, false] rfl rfl (by kernel_rfl) (fun _ _ _ h => h) (Or.inl ⟨by rfl, ?_⟩) hHeld ?_ ?_
  rotate_left
  · rintro w' ⟨s0, s1⟩
    go_simp
    with_reducible rfl
  rotate_left
  · simp only [Act.put, s1_, s2_, s3_]
    rfl
  refine take_ (i := 3) (N := some 19) (v := ?_) (a' := ?_) #[true, true, true, true, true, false, false, false] rfl rfl (by kernel_rfl) (fun _ _ _ h => h) (Or.inl ⟨by rfl, ?_⟩) hHeld ?_ ?_
  rotate_left
  · rintro w' ⟨s0, s1⟩
    go_simp
    with_reducible rfl
  rotate_left
  · simp only [Act.put, s1_, s2_, s3_]
    rfl
  refine one_ (i := 5) (N := some 21) #[true, true, true, true, true, true, false, false] rfl rfl (by kernel_rfl) (by decide) (fun K hK => ?_)
  refine goes_ Try.func22 (by kernel_rfl) rfl #[.slice attrs_a attrs_n attrs_c, .int .i64 40, .int .i64 r2] (by rfl) rfl rfl (by simp only [List.map_toArray, List.map_cons, List.map_nil]; rfl) ?_
  with_reducible refine (RK _ HB.out).mono ?_
  rintro e w7 ⟨r3, rfl, hr3, hb⟩
  refine ⟨_, rfl, ?_⟩
  have HR3 := Aside0.mk hr3
  clear hr3
  replace HB := Aside0.mk (below_next HB.out hb)
  have HXn := Aside0.mk (HX.out.below hb)
  clear HX hb
  have HX := HXn
  clear HXn
  refine hK.out _ _ ⟨HX.out.c20, HX.out.c0⟩ (fun hHeld => ?_)
  clear hK K
  refine norm_ (a' := ?_) ?_ ?_
  rotate_left
  · show Act.put _ (some 21) _ = _
    simp only [Act.put, s1_, s2_, s3_]
    rfl
  refine one_ (i := 6) (N := some 22) #[true, true, true, true, true, true, true, false] rfl rfl (by kernel_rfl) (by decide) (fun K hK => ?_)
  refine goes_ Try.func21 (by kernel_rfl) rfl #[.slice exs_a exs_n exs_c, .int .i64 r3] (by rfl) rfl rfl (by simp only [List.map_toArray, List.map_cons, List.map_nil]; rfl) ?_
  with_reducible refine (RX _ r3 HB.out HR3.out).mono ?_
  rintro e w8 ⟨r4, rfl, hr4, hb⟩
  refine ⟨_, rfl, ?_⟩
  have HR4 := Aside0.mk hr4
  clear hr4
  replace HB := Aside0.mk (below_next HB.out hb)
  have HXn := Aside0.mk (HX.out.below hb)
  clear HX hb
  have HX := HXn
  clear HXn
  refine hK.out _ _ ⟨HX.out.c20, HX.out.c0⟩ (fun hHeld => ?_)
  clear hK K
  refine norm_ (a' := ?_) ?_ ?_
  rotate_left
  · show Act.put _ (some 22) _ = _
    simp only [Act.put, s1_, s2_, s3_]
    rfl
  refine pure_ (i := 7) (N := some 4) (v := ?_) (a' := ?_) #[true, true, true, true, true, true, true, true] rfl rfl (by kernel_rfl) (fun _ _ _ h => h) (Or.inl ⟨by rfl, ?_⟩) ?_ ?_
  rotate_left
  · intro w'
    go_simp
    with_reducible rfl
  rotate_left
  · simp only [Act.put, s1_, s2_, s3_]
    rfl
  refine done_ (by kernel_rfl) ?_
  go_wp2_with fail
  go_ret
  have k1 := T1.out
  have k2 := HR1.out
  have k3 := HR2.out
  have k4 := HR3.out
  have k5 := HR4.out
  exact ⟨r4, ks, rfl, HK.out, fun h0 => by have a1 := k5.2.1; have a2 := k4.2.2 (by omega); have a3 := k3.2.1; have a4 := k2.2.1; have a5 := k1.2.1; omega, k5.1, by have := k5.2.1; have := k4.2.1; have := k3.2.1; have := k2.2.1; have := k1.2.1; omega, HB.out⟩
end Go.Proofs.Ytdogokcoobpgdaa
