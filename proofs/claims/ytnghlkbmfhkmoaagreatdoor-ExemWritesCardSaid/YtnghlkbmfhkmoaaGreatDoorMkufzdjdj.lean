import Derived.Test.YtnghlkbmfhkmoaaGreatDoorMwkduwoke
import Derived.Test.YtnghlkbmfhkmoaaGreatDoorMtpcniofv
import Derived.Test.YtnghlkbmfhkmoaaGreatDoorMxedxrtah
namespace Go.Proofs.YtnghlkbmfhkmoaaGreatDoor
open Go.RowKit Go.Proofs.YtnghlkbmfhkmoaaGreatDoorW.PrintWords Go.Proofs.YtnghlkbmfhkmoaaGreatDoorW.PrintLast Go.Proofs.YtnghlkbmfhkmoaaGreatDoorW.PrintMore Hy
set_option maxHeartbeats 4000000 in
set_option maxRecDepth 100000 in
theorem wlittle_bad (w : World) (r : Nat) (s : ByteArray) (b k : Nat) (dp : Int) (h : RW w r s b .nilIface dp) (hs : s.size ≤ 140737488351232) (hb : b ≤ s.size) (hbn : s.size - b < k) (hk : k ≤ 8) :
    Calls Tryz.prog 112 #[.pointer (some ⟨r, 0, none⟩), .int .i64 (k : Int)] w fun e w' => e = .returned (.int .u64 0) ∧ WBad w r s dp w' := by
  have hw : IntKind.u64.wrap (k : Int) = (k : Int) := by rw [wrap_u64]; omega
  have G := wtake_bad w r s b k dp h hs hb hbn
  clear h hbn hb
  go_enter Tryz.func112, Tryz.ntmps112
  go_wp2_with fail
  refine G.mono ?_
  rintro e w2 ⟨rfl, a', T, x, E, ha', hr2, hu2, hE, hk2⟩
  go_wp2_with fail
  rw [run_bytes_of_string (P := Tryz.prog) w2 9 46 5 ByteArray.empty Tryz.underlying9 Tryz.underlying46 Tryz.underlying5]
  have hB2 : Below w2.heap.size w2 (w2.drew.alloc (.cells (bytesRow ByteArray.empty (grownCap w2 ByteArray.empty.size 0 5)) 5 ((bytesRow ByteArray.empty (grownCap w2 ByteArray.empty.size 0 5)).size, (bytesRow ByteArray.empty (grownCap w2 ByteArray.empty.size 0 5)).size + 1))) := ((Below.refl _ _).drew).alloc (Nat.le_refl _) _
  have HR := Aside0.mk (hr2.below hB2)
  have HK := Aside0.mk (hk2.next hB2)
  have HU := Aside0.mk (hu2.below hB2)
  have hz : ByteArray.empty.size = 0 := rfl
  generalize w2.drew.alloc (.cells (bytesRow ByteArray.empty (grownCap w2 ByteArray.empty.size 0 5)) 5 ((bytesRow ByteArray.empty (grownCap w2 ByteArray.empty.size 0 5)).size, (bytesRow ByteArray.empty (grownCap w2 ByteArray.empty.size 0 5)).size + 1)) = W at *
  generalize grownCap w2 ByteArray.empty.size 0 5 = cap at *
  rw [hz]
  generalize w2.heap.size = g at *
  clear hr2 hk2 hu2 G hB2 hw hz
  go_wp2_with fail
  go_loopw [5, 14] (fun v5 v14 w' => v5 = .int .u64 0 ∧ v14 = .int .i64 0 ∧ w' = W) (fun _ _ _ => 0)
  case atStart => exact ⟨rfl, rfl, rfl⟩
  case round =>
    obtain ⟨rfl, rfl, rfl⟩ := hrel
    go_wp2_with fail
    go_ret
    exact ⟨rfl, a', T, x, E, ha', HR.out, HU.out, hE, HK.out⟩
/-- The reader has failed within a record's rest. -/
def RBad (w : World) (r x : Nat) (s : ByteArray) (dp : Int) (e : Ending) (w' : World) : Prop := e = .returned (.tuple #[]) ∧ ∃ (a' T : Nat) (v : Value) (E : Err), a' ≤ s.size ∧ RW w' r s a' (.iface T v) dp ∧ IsE w' E (.iface T v) ∧ WE s E ∧ Kp (RX r x) w w'
def ROk (r x : Nat) (s : ByteArray) (b : Nat) (dp n t N : Int) (S : ByteArray) (W : World) (e : Ending) (W' : World) : Prop := e = .returned (.tuple #[]) ∧ RW W' r s b .nilIface dp ∧ XW W' x n t N S ByteArray.empty ∧ Kp (RX r x) W W'
set_option maxHeartbeats 4000000 in
set_option maxRecDepth 100000 in
theorem wrest_bad0 (w : World) (r x : Nat) (s : ByteArray) (a : Nat) (n at_ dp : Int) (h : RW w r s a .nilIface dp) (hx : XW w x n 0 0 ByteArray.empty ByteArray.empty) (hxr : x ≠ r) (ha : a ≤ s.size) (hs : s.size ≤ 140737488351232) (c : Nat) (hd : dec 0 ((bs s).drop a) = .inl c) :
    Calls Tryz.prog 98 #[.pointer (some ⟨r, 0, none⟩), .pointer (some ⟨x, 0, none⟩), .int .i64 at_] w (RBad w r x s dp) := by
  have G := wvar_bad w r s a c dp h ha hs hd
  have q1 := hx.c1
  have HX := Aside0.mk hx
  clear h hx hd
  go_enter Tryz.func98, Tryz.ntmps98
  go_wp2_with fail
  refine G.mono ?_
  rintro e w2 ⟨rfl, a', T, xv, E, ha', hr2, hu2, hE2, hk2⟩
  have hx2 : XW w2 x n 0 0 ByteArray.empty ByteArray.empty := HX.out.kp hk2 hxr
  have q2 := hx2.c2
  have f2 := hx2.fz 2
  have HX2 := Aside0.mk hx2
  have HR2 := Aside0.mk hr2
  have HU2 := Aside0.mk hu2
  have HK2 := Aside0.mk hk2
  clear hx2 hr2 hu2 hk2 G q1
  go_wp2_with fail
  go_end0
  exact ⟨rfl, a', T, xv, E, ha', HR2.out.xset hxr, HU2.out.xset HX2.out _ _, hE2, rx_set (rx_of HK2.out) _ _⟩
set_option maxHeartbeats 4000000 in
set_option maxRecDepth 100000 in
theorem wrest_ok1 (w : World) (r x : Nat) (s : ByteArray) (a : Nat) (n at_ dp : Int) (h : RW w r s a .nilIface dp) (hx : XW w x n 1 0 ByteArray.empty ByteArray.empty) (hxr : x ≠ r) (_ha : a ≤ s.size) (hs : s.size ≤ 140737488351232) (hk : a + 8 ≤ s.size) :
    Calls Tryz.prog 98 #[.pointer (some ⟨r, 0, none⟩), .pointer (some ⟨x, 0, none⟩), .int .i64 at_] w (ROk r x s (a + 8) dp n 1 (little (((bs s).drop a).take 8) : Int) ByteArray.empty w) := by
  have G := wlittle_ok w r s a 8 dp h hs hk (by omega)
  rw [show ((8 : Nat) : Int) = 8 from rfl] at G
  generalize little (((bs s).drop a).take 8) = v at *
  have q1 := hx.c1
  have HX := Aside0.mk hx
  clear h hx
  go_enter Tryz.func98, Tryz.ntmps98
  go_wp2_with fail
  refine G.mono ?_
  rintro e w2 ⟨rfl, hr2, hk2⟩
  have hx2 : XW w2 x n 1 0 ByteArray.empty ByteArray.empty := HX.out.kp hk2 hxr
  have q2 := hx2.c2
  have f2 := hx2.fz 2
  have HX2 := Aside0.mk hx2
  have HR2 := Aside0.mk hr2
  have HK2 := Aside0.mk hk2
  clear hx2 hr2 hk2 G q1
  go_wp2_with fail
  go_end0
  exact ⟨rfl, HR2.out.xset hxr, HX2.out.setN _, rx_set (rx_of HK2.out) _ _⟩
set_option maxHeartbeats 4000000 in
set_option maxRecDepth 100000 in
theorem wrest_bad1 (w : World) (r x : Nat) (s : ByteArray) (a : Nat) (n at_ dp : Int) (h : RW w r s a .nilIface dp) (hx : XW w x n 1 0 ByteArray.empty ByteArray.empty) (hxr : x ≠ r) (ha : a ≤ s.size) (hs : s.size ≤ 140737488351232) (hk : s.size - a < 8) :
    Calls Tryz.prog 98 #[.pointer (some ⟨r, 0, none⟩), .pointer (some ⟨x, 0, none⟩), .int .i64 at_] w (RBad w r x s dp) := by
  have G := wlittle_bad w r s a 8 dp h hs ha hk (by omega)
  rw [show ((8 : Nat) : Int) = 8 from rfl] at G
  have q1 := hx.c1
  have HX := Aside0.mk hx
  clear h hx
  go_enter Tryz.func98, Tryz.ntmps98
  go_wp2_with fail
  refine G.mono ?_
  rintro e w2 ⟨rfl, a', T, xv, E, ha', hr2, hu2, hE2, hk2⟩
  have hx2 : XW w2 x n 1 0 ByteArray.empty ByteArray.empty := HX.out.kp hk2 hxr
  have q2 := hx2.c2
  have f2 := hx2.fz 2
  have HX2 := Aside0.mk hx2
  have HR2 := Aside0.mk hr2
  have HU2 := Aside0.mk hu2
  have HK2 := Aside0.mk hk2
  clear hx2 hr2 hu2 hk2 G q1
  go_wp2_with fail
  go_end0
  exact ⟨rfl, a', T, xv, E, ha', HR2.out.xset hxr, HU2.out.xset HX2.out _ _, hE2, rx_set (rx_of HK2.out) _ _⟩
set_option maxHeartbeats 4000000 in
set_option maxRecDepth 100000 in
theorem wrest_ok5 (w : World) (r x : Nat) (s : ByteArray) (a : Nat) (n at_ dp : Int) (h : RW w r s a .nilIface dp) (hx : XW w x n 5 0 ByteArray.empty ByteArray.empty) (hxr : x ≠ r) (_ha : a ≤ s.size) (hs : s.size ≤ 140737488351232) (hk : a + 4 ≤ s.size) :
    Calls Tryz.prog 98 #[.pointer (some ⟨r, 0, none⟩), .pointer (some ⟨x, 0, none⟩), .int .i64 at_] w (ROk r x s (a + 4) dp n 5 (little (((bs s).drop a).take 4) : Int) ByteArray.empty w) := by
  have G := wlittle_ok w r s a 4 dp h hs hk (by omega)
  rw [show ((4 : Nat) : Int) = 4 from rfl] at G
  generalize little (((bs s).drop a).take 4) = v at *
  have q1 := hx.c1
  have HX := Aside0.mk hx
  clear h hx
  go_enter Tryz.func98, Tryz.ntmps98
  go_wp2_with fail
  refine G.mono ?_
  rintro e w2 ⟨rfl, hr2, hk2⟩
  have hx2 : XW w2 x n 5 0 ByteArray.empty ByteArray.empty := HX.out.kp hk2 hxr
  have q2 := hx2.c2
  have f2 := hx2.fz 2
  have HX2 := Aside0.mk hx2
  have HR2 := Aside0.mk hr2
  have HK2 := Aside0.mk hk2
  clear hx2 hr2 hk2 G q1
  go_wp2_with fail
  go_end0
  exact ⟨rfl, HR2.out.xset hxr, HX2.out.setN _, rx_set (rx_of HK2.out) _ _⟩
set_option maxHeartbeats 4000000 in
set_option maxRecDepth 100000 in
theorem wrest_bad5 (w : World) (r x : Nat) (s : ByteArray) (a : Nat) (n at_ dp : Int) (h : RW w r s a .nilIface dp) (hx : XW w x n 5 0 ByteArray.empty ByteArray.empty) (hxr : x ≠ r) (ha : a ≤ s.size) (hs : s.size ≤ 140737488351232) (hk : s.size - a < 4) :
    Calls Tryz.prog 98 #[.pointer (some ⟨r, 0, none⟩), .pointer (some ⟨x, 0, none⟩), .int .i64 at_] w (RBad w r x s dp) := by
  have G := wlittle_bad w r s a 4 dp h hs ha hk (by omega)
  rw [show ((4 : Nat) : Int) = 4 from rfl] at G
  have q1 := hx.c1
  have HX := Aside0.mk hx
  clear h hx
  go_enter Tryz.func98, Tryz.ntmps98
  go_wp2_with fail
  refine G.mono ?_
  rintro e w2 ⟨rfl, a', T, xv, E, ha', hr2, hu2, hE2, hk2⟩
  have hx2 : XW w2 x n 5 0 ByteArray.empty ByteArray.empty := HX.out.kp hk2 hxr
  have q2 := hx2.c2
  have f2 := hx2.fz 2
  have HX2 := Aside0.mk hx2
  have HR2 := Aside0.mk hr2
  have HU2 := Aside0.mk hu2
  have HK2 := Aside0.mk hk2
  clear hx2 hr2 hu2 hk2 G q1
  go_wp2_with fail
  go_end0
  exact ⟨rfl, a', T, xv, E, ha', HR2.out.xset hxr, HU2.out.xset HX2.out _ _, hE2, rx_set (rx_of HK2.out) _ _⟩
set_option maxHeartbeats 4000000 in
set_option maxRecDepth 100000 in
theorem wrest_ok2 (w : World) (r x : Nat) (s : ByteArray) (a : Nat) (n at_ dp : Int) (h : RW w r s a .nilIface dp) (hx : XW w x n 2 0 ByteArray.empty ByteArray.empty) (hxr : x ≠ r) (ha : a ≤ s.size) (hs : s.size ≤ 140737488351232) (v k : Nat) (hd : dec 0 ((bs s).drop a) = .inr (v, k)) (hk : a + k + v ≤ s.size) :
    Calls Tryz.prog 98 #[.pointer (some ⟨r, 0, none⟩), .pointer (some ⟨x, 0, none⟩), .int .i64 at_] w (ROk r x s (a + (k + v)) dp n 2 0 (s.extract (a + k) (a + k + v)) w) := by
  have hv := (dec_some _ 0 v k (okB_drop (bs_ok s) a) (by omega) hd)
  have hv1 := hv.2.1
  rw [List.length_drop, bs_length] at hv1
  have hv64 := hv.2.2.2.2
  clear hv
  have G := wvar_ok w r s a v k dp h ha hs hd
  have q1 := hx.c1
  have HX := Aside0.mk hx
  clear h hx hd
  go_enter Tryz.func98, Tryz.ntmps98
  go_wp2_with fail
  refine G.mono ?_
  rintro e w2 ⟨rfl, hr2, hk2⟩
  have G2 := wtake_ok w2 r s (a + k) v dp hr2 hs hk
  have HK2 := Aside0.mk hk2
  clear hr2 hk2 G
  go_wp2_with fail
  refine G2.mono ?_
  rintro e w3 ⟨rfl, hr3, hk3⟩
  have hk4 := HK2.out.trans hk3
  have hx3 : XW w3 x n 2 0 ByteArray.empty ByteArray.empty := HX.out.kp hk4 hxr
  have q2 := hx3.c3
  have f2 := hx3.fz 3
  have HX3 := Aside0.mk hx3
  have HR3 := Aside0.mk hr3
  have HK3 := Aside0.mk hk4
  clear hx3 hr3 hk3 hk4 G2 q1
  go_wp2_with fail
  go_end0
  exact ⟨rfl, by rw [show a + (k + v) = a + k + v by omega]; exact HR3.out.xset hxr, HX3.out.setS _, rx_set (rx_of HK3.out) _ _⟩
set_option maxHeartbeats 4000000 in
set_option maxRecDepth 100000 in
theorem wrest_bad2 (w : World) (r x : Nat) (s : ByteArray) (a : Nat) (n at_ dp : Int) (h : RW w r s a .nilIface dp) (hx : XW w x n 2 0 ByteArray.empty ByteArray.empty) (hxr : x ≠ r) (ha : a ≤ s.size) (hs : s.size ≤ 140737488351232) (c : Nat) (hd : dec 0 ((bs s).drop a) = .inl c) :
    Calls Tryz.prog 98 #[.pointer (some ⟨r, 0, none⟩), .pointer (some ⟨x, 0, none⟩), .int .i64 at_] w (RBad w r x s dp) := by
  have G := wvar_bad w r s a c dp h ha hs hd
  have q1 := hx.c1
  have HX := Aside0.mk hx
  clear h hx hd
  go_enter Tryz.func98, Tryz.ntmps98
  go_wp2_with fail
  refine G.mono ?_
  rintro e w2 ⟨rfl, a', T, xv, E, ha', hr2, hu2, hE2, hk2⟩
  have G2 := wtake_old w2 r s a' dp 0 T xv hr2
  have HR2 := Aside0.mk hr2
  have HU2 := Aside0.mk hu2
  have HK2 := Aside0.mk hk2
  clear hr2 hu2 hk2 G
  go_wp2_with fail
  refine G2.mono ?_
  rintro e w3 ⟨rfl, ⟨nd, rfl⟩⟩
  have hx3 : XW w2 x n 2 0 ByteArray.empty ByteArray.empty := HX.out.kp HK2.out hxr
  have q2 := hx3.c3
  have f2 := hx3.fz 3
  have HX3 : Aside0 (XW (w2.drewN nd) x n 2 0 ByteArray.empty ByteArray.empty) := ⟨hx3⟩
  have HU3 := Aside0.mk (HU2.out.below (w' := w2.drewN nd) (by apply pw_below_drewN; exact Below.refl _ _))
  clear hx3 G2 q1
  go_wp2_with fail
  go_end0
  exact ⟨rfl, a', T, xv, E, ha', (HR2.out.drewN nd).xset hxr, HU3.out.xset HX3.out _ _, hE2, rx_set ((rx_of HK2.out).drewN nd) _ _⟩
set_option maxHeartbeats 4000000 in
set_option maxRecDepth 100000 in
theorem wrest_bad2t (w : World) (r x : Nat) (s : ByteArray) (a : Nat) (n at_ dp : Int) (h : RW w r s a .nilIface dp) (hx : XW w x n 2 0 ByteArray.empty ByteArray.empty) (hxr : x ≠ r) (ha : a ≤ s.size) (hs : s.size ≤ 140737488351232) (v k : Nat) (hd : dec 0 ((bs s).drop a) = .inr (v, k)) (hk : s.size - (a + k) < v) :
    Calls Tryz.prog 98 #[.pointer (some ⟨r, 0, none⟩), .pointer (some ⟨x, 0, none⟩), .int .i64 at_] w (RBad w r x s dp) := by
  have hv := (dec_some _ 0 v k (okB_drop (bs_ok s) a) (by omega) hd)
  have hv1 := hv.2.1
  rw [List.length_drop, bs_length] at hv1
  have hv64 := hv.2.2.2.2
  clear hv
  have G := wvar_ok w r s a v k dp h ha hs hd
  have q1 := hx.c1
  have HX := Aside0.mk hx
  clear h hx hd
  go_enter Tryz.func98, Tryz.ntmps98
  go_wp2_with fail
  refine G.mono ?_
  rintro e w2 ⟨rfl, hr2, hk2⟩
  have G2 := wtake_bad w2 r s (a + k) v dp hr2 hs (by omega) hk
  have HK2 := Aside0.mk hk2
  clear hr2 hk2 G
  go_wp2_with fail
  refine G2.mono ?_
  rintro e w3 ⟨rfl, a', T, xv, E, ha', hr3, hu3, hE3, hk3⟩
  have hk4 := HK2.out.trans hk3
  have hx3 : XW w3 x n 2 0 ByteArray.empty ByteArray.empty := HX.out.kp hk4 hxr
  have q2 := hx3.c3
  have f2 := hx3.fz 3
  have HX3 := Aside0.mk hx3
  have HR3 := Aside0.mk hr3
  have HU3 := Aside0.mk hu3
  have HK3 := Aside0.mk hk4
  clear hx3 hr3 hu3 hk3 hk4 G2 q1
  go_wp2_with fail
  go_end0
  exact ⟨rfl, a', T, xv, E, ha', HR3.out.xset hxr, HU3.out.xset HX3.out _ _, hE3, rx_set (rx_of HK3.out) _ _⟩
set_option maxHeartbeats 4000000 in
set_option maxRecDepth 100000 in
theorem wrest_ok3 (w : World) (r x : Nat) (s : ByteArray) (a : Nat) (n at_ dp : Int) (_h : RW w r s a .nilIface dp) (hx : XW w x n 3 0 ByteArray.empty ByteArray.empty) (hxr : x ≠ r) (_ha : a ≤ s.size) (_hs : s.size ≤ 140737488351232) (b : Nat) (G : Calls Tryz.prog 114 #[.pointer (some ⟨r, 0, none⟩), .int .i64 n] w fun e w' => e = .returned (.tuple #[]) ∧ RW w' r s b .nilIface dp ∧ Kp (fun k => k = r) w w') :
    Calls Tryz.prog 98 #[.pointer (some ⟨r, 0, none⟩), .pointer (some ⟨x, 0, none⟩), .int .i64 at_] w (ROk r x s b dp n 3 0 ByteArray.empty w) := by
  have q0 := hx.c0
  have q1 := hx.c1
  have HX := Aside0.mk hx
  clear _h hx _ha _hs
  go_enter Tryz.func98, Tryz.ntmps98
  go_wp2_with fail
  refine G.mono ?_
  rintro e w2 ⟨rfl, hr2, hk2⟩
  have HR2 := Aside0.mk hr2
  have HK2 := Aside0.mk hk2
  clear hr2 hk2 G q0 q1
  go_wp2_with fail
  go_end0
  exact ⟨rfl, HR2.out, HX.out.kp HK2.out hxr, rx_of HK2.out⟩
set_option maxHeartbeats 4000000 in
set_option maxRecDepth 100000 in
theorem wrest_bad3 (w : World) (r x : Nat) (s : ByteArray) (a : Nat) (n at_ dp : Int) (_h : RW w r s a .nilIface dp) (hx : XW w x n 3 0 ByteArray.empty ByteArray.empty) (_hxr : x ≠ r) (_ha : a ≤ s.size) (_hs : s.size ≤ 140737488351232) (G : Calls Tryz.prog 114 #[.pointer (some ⟨r, 0, none⟩), .int .i64 n] w fun e w' => e = .returned (.tuple #[]) ∧ WBad w r s dp w') :
    Calls Tryz.prog 98 #[.pointer (some ⟨r, 0, none⟩), .pointer (some ⟨x, 0, none⟩), .int .i64 at_] w (RBad w r x s dp) := by
  have q0 := hx.c0
  have q1 := hx.c1
  clear _h hx _ha _hs _hxr
  go_enter Tryz.func98, Tryz.ntmps98
  go_wp2_with fail
  refine G.mono ?_
  rintro e w2 ⟨rfl, a', T, xv, E, ha', hr2, hu2, hE2, hk2⟩
  have HR2 := Aside0.mk hr2
  have HU2 := Aside0.mk hu2
  have HK2 := Aside0.mk hk2
  clear hr2 hu2 hk2 G q0 q1
  go_wp2_with fail
  go_end0
  exact ⟨rfl, a', T, xv, E, ha', HR2.out, HU2.out, hE2, rx_of HK2.out⟩
set_option maxHeartbeats 4000000 in
set_option maxRecDepth 100000 in
theorem wrest_badx (w : World) (r x : Nat) (s : ByteArray) (a : Nat) (n dp : Int) (h : RW w r s a .nilIface dp) (ha : a ≤ s.size) (t : Int) (t0 : ¬ t = 0) (t1 : ¬ t = 1) (t5 : ¬ t = 5) (t2 : ¬ t = 2) (t3 : ¬ t = 3) (p : Nat) (hp : p ≤ s.size) (hx : XW w x n t 0 ByteArray.empty ByteArray.empty) :
    Calls Tryz.prog 98 #[.pointer (some ⟨r, 0, none⟩), .pointer (some ⟨x, 0, none⟩), .int .i64 (p : Int)] w (RBad w r x s dp) := by
  have G := wfails_new w r s a dp (p : Int) 3 h
  have q1 := hx.c1
  clear h hx
  go_enter Tryz.func98, Tryz.ntmps98
  go_wp2_with fail
  refine G.mono ?_
  rintro e w2 ⟨rfl, T, xv, hr2, hu2, hk2⟩
  have HR2 := Aside0.mk hr2
  have HU2 := Aside0.mk hu2
  have HK2 := Aside0.mk hk2
  clear hr2 hu2 hk2 G q1
  go_wp2_with fail
  go_end0
  exact ⟨rfl, a, T, xv, _, ha, HR2.out, HU2.out, ⟨p, 3, rfl, hp, .inr (.inl rfl)⟩, rx_of HK2.out⟩
end Go.Proofs.YtnghlkbmfhkmoaaGreatDoor
namespace Go.Proofs.YtnghlkbmfhkmoaaGreatDoor
open Go.RowKit Go.Proofs.YtnghlkbmfhkmoaaGreatDoorW.PrintWords Go.Proofs.YtnghlkbmfhkmoaaGreatDoorW.PrintLast Go.Proofs.YtnghlkbmfhkmoaaGreatDoorW.PrintMore Hy
/-! ### groups within groups -/
def RestAt (s : ByteArray) (m : Nat) : Prop := ∀ (W : World) (r x n t a p : Nat) (dp : Int), RW W r s a .nilIface dp → XW W x (n : Int) (t : Int) 0 ByteArray.empty ByteArray.empty → x ≠ r → a ≤ s.size → p ≤ s.size → s.size - a = m → -9223372036854775808 ≤ dp → dp < 9223372036854775808 →
  (∀ k, rst dp.toNat n t ((bs s).drop a) = some k → Calls Tryz.prog 98 #[.pointer (some ⟨r, 0, none⟩), .pointer (some ⟨x, 0, none⟩), .int .i64 (p : Int)] W (ROk r x s (a + k) dp (n : Int) (t : Int) (numV t ((bs s).drop a) : Int) (st (strV t ((bs s).drop a))) W)) ∧
  (rst dp.toNat n t ((bs s).drop a) = none → Calls Tryz.prog 98 #[.pointer (some ⟨r, 0, none⟩), .pointer (some ⟨x, 0, none⟩), .int .i64 (p : Int)] W (RBad W r x s dp))
def grpD (dp : Int) (n : Nat) (b : List Nat) : Option Nat := if dp < 1 then none else grp (dp - 1).toNat n b
def GOk (r : Nat) (s : ByteArray) (b : Nat) (dp : Int) (W : World) (e : Ending) (W' : World) : Prop := e = .returned (.tuple #[]) ∧ RW W' r s b .nilIface dp ∧ Kp (fun k => k = r) W W'
def GBad (r : Nat) (s : ByteArray) (dp : Int) (W : World) (e : Ending) (W' : World) : Prop := e = .returned (.tuple #[]) ∧ WBad W r s dp W'
/-- What stands while a group is read. -/
def GSt (w : World) (r : Nat) (s : ByteArray) (a : Nat) (d : Int) (n kq : Nat) (w' : World) : Prop := Kp (fun k => k = r) w w' ∧
  ((∃ b, RW w' r s b .nilIface d ∧ a ≤ b ∧ b ≤ s.size ∧ kq = s.size - b + 1 ∧ grp d.toNat n ((bs s).drop a) = (grp d.toNat n ((bs s).drop b)).map ((b - a) + ·)) ∨
   (∃ a' T v E, a' ≤ s.size ∧ RW w' r s a' (.iface T v) d ∧ IsE w' E (.iface T v) ∧ WE s E ∧ kq = 0 ∧ grp d.toNat n ((bs s).drop a) = none))
theorem IsE.rxkp {w w' : World} {e : Err} {v : Value} {r x' : Nat} {s : ByteArray} {a : Nat} {u : Value} {dp n t N : Int} {S raw : ByteArray} (hr : RW w r s a u dp) (hx : XW w x' n t N S raw) (hv : IsE w e v) (hk : Kp (RX r x') w w') : IsE w' e v :=
  hv.kp hk (fun k c hc e => by
    rcases e with e | e
    · subst e
      unfold RW at hr
      rw [hr] at hc
      injection hc with hc
      injection hc with _ hc
      exact absurd hc (by decide)
    · subst e
      unfold XW at hx
      rw [hx] at hc
      injection hc with hc
      injection hc with _ hc
      exact absurd hc (by decide))
theorem kp_box {w w2 w4 : World} {r : Nat} (h1 : Kp (fun k => k = r) w w2) (o : Obj) (h2 : Kp (RX r w2.heap.size) (w2.alloc o) w4) : Kp (fun k => k = r) w w4 := by
  have hk9 : Kp (fun k => k = r ∨ w.heap.size ≤ k) w w4 := ((h1.alloc o).mono (fun _ e => .inl e)).trans (h2.mono (fun k e => e.elim .inl (fun e => .inr (by rw [e]; exact h1.size))))
  exact ⟨hk9.os, hk9.tape, hk9.output, hk9.size, fun k hk hn => hk9.block k hk (fun e => e.elim hn (fun e => absurd e (Nat.not_le.2 hk)))⟩
theorem wgroup_low (w : World) (r n : Nat) (s : ByteArray) (a : Nat) (dp : Int) (h : RW w r s a .nilIface dp) (ha : a ≤ s.size) (hdp : dp < 1) :
    Calls Tryz.prog 114 #[.pointer (some ⟨r, 0, none⟩), .int .i64 (n : Int)] w (GBad r s dp w) := by
  have c1 := h.c1
  have c3 := h.c3
  have G := wfails_new w r s a dp (a : Int) 6 h
  clear h
  go_enter Tryz.func114, Tryz.ntmps114
  go_wp2_with fail
  refine G.mono ?_
  rintro e w2 ⟨rfl, T, xv, hr2, hu2, hk2⟩
  have HR2 := Aside0.mk hr2
  have HU2 := Aside0.mk hu2
  have HK2 := Aside0.mk hk2
  clear hr2 hu2 hk2 G
  go_wp2_with fail
  refine bodyPost_ret (results_none rfl _ _ _) rfl ?_
  exact ⟨rfl, a, T, xv, _, ha, HR2.out, HU2.out, ⟨a, 6, rfl, ha, .inr (.inr (.inr rfl))⟩, HK2.out⟩
set_option maxHeartbeats 8000000 in
set_option maxRecDepth 100000 in
theorem wgroup_go (w : World) (r n : Nat) (s : ByteArray) (a : Nat) (d : Int) (h : RW w r s a .nilIface (d + 1)) (ha : a ≤ s.size) (hs : s.size ≤ 140737488351232) (hd0 : 0 ≤ d) (hd1 : d + 1 < 9223372036854775808) (IH : ∀ m, m < s.size - a → RestAt s m) :
    Calls Tryz.prog 114 #[.pointer (some ⟨r, 0, none⟩), .int .i64 (n : Int)] w fun e w' => (∀ k, grp d.toNat n ((bs s).drop a) = some k → GOk r s (a + k) (d + 1) w e w') ∧ (grp d.toNat n ((bs s).drop a) = none → GBad r s (d + 1) w e w') := by
  have c3 := h.c3
  have f3 := h.fz 3
  have HI := Aside0.mk IH
  have hdp : ¬ d + 1 < 1 := by omega
  have hr2 := h.dep d
  have hk2 := kp_r (r := r) (Kp.refl (fun k => k = r) w) 3 (.int .i64 d)
  have HS := Aside0.mk (show GSt w r s a d n (s.size - a + 1) (w.setCell ⟨r, 3, none⟩ (.int .i64 d)) from ⟨hk2, .inl ⟨a, hr2, Nat.le_refl _, ha, rfl, by rw [Nat.sub_self]; cases grp d.toNat n ((bs s).drop a) <;> simp⟩⟩)
  clear h hr2 hk2 IH
  go_enter Tryz.func114, Tryz.ntmps114
  go_wp2_with fail
  generalize w.setCell ⟨r, 3, none⟩ (.int .i64 d) = W at *
  go_loopg [4] (s.size - a + 1) (fun kq _ w' => Aside0 (GSt w r s a d n kq w'))
  case atStart => exact HS
  case round =>
    clear HS
    obtain ⟨hk, ⟨b, hr, hab, hb, hkq, hg⟩ | ⟨a', T, v, E, ha', hr, hu, hE, hkq, hg⟩⟩ := hrel.out
    · have c2 := hr.c2
      have c1 := hr.c1
      have HK := Aside0.mk hk
      have HGN := Aside0.mk hg
      cases ht : tagL ((bs s).drop b) with
      | none =>
        have G := wtag_bad wr r s b d hr hb hs ht
        have HN := Aside0.mk (show grp d.toNat n ((bs s).drop a) = none by rw [hg, grp_none ht]; rfl)
        clear hr hk hg hrel ht
        go_wp2_with fail
        refine G.mono ?_
        rintro e w2 ⟨m', t', ht0, ht8, rfl, a', T, v, E, ha', hr2, hu2, hE2, hk2⟩
        have c2 := hr2.c2
        have HR2 := Aside0.mk hr2
        have HU2 := Aside0.mk hu2
        have HK2 := Aside0.mk (HK.out.trans hk2)
        clear hr2 hu2 hk2 G
        go_wp2_with fail
        have hx3 : XW (w2.alloc (.cells #[.int .i64 m', .int .i64 t', .int .u64 0, .string ⟨#[]⟩, .string ⟨#[]⟩] 91)) w2.heap.size m' t' 0 ByteArray.empty ByteArray.empty := heap_alloc_new w2 _
        have hb3 : Below w2.heap.size w2 (w2.alloc (.cells #[.int .i64 m', .int .i64 t', .int .u64 0, .string ⟨#[]⟩, .string ⟨#[]⟩] 91)) := (Below.refl _ _).alloc (Nat.le_refl _) _
        have hr3 := HR2.out.below hb3
        have hu3 := HU2.out.below hb3
        have hlt := blk_lt HR2.out
        refine (wrest_old _ r _ s a' m' t' (b : Int) d T v hr3 hx3 (by omega) (by omega) (by omega)).mono ?_
        rintro e w4 ⟨rfl, hr4, hk4⟩
        have HR4 := Aside0.mk hr4
        have HU4 := Aside0.mk (IsE.rxkp hr3 hx3 hu3 hk4)
        have HK4 := Aside0.mk (kp_box HK2.out _ hk4)
        clear hx3 hb3 hr3 hu3 hlt hr4 hk4
        go_wp2_with fail
        go_roundg 0
        case measure => omega
        case rel => exact ⟨HK4.out, .inr ⟨a', T, v, E, ha', HR4.out, HU4.out, hE2, rfl, HN.out⟩⟩
      | some q =>
        obtain ⟨m, t, k⟩ := q
        obtain ⟨p1, p2, p3, p4, p5⟩ := tagL_pos ht
        rw [List.length_drop, bs_length] at p2
        have G := wtag_ok wr r s b m t k d hr hb hs ht
        have HT := Aside0.mk ht
        clear hr hk hg hrel ht
        by_cases h4 : t = 4
        · subst h4
          by_cases hmn : m = n
          · subst hmn
            have he : grp d.toNat m ((bs s).drop a) = some (b - a + k) := by rw [HGN.out, grp_end HT.out, if_pos rfl]; rfl
            have HE := Aside0.mk he
            clear he
            go_wp2_with fail
            refine G.mono ?_
            rintro e w2 ⟨rfl, hr2, hk2⟩
            have c2 := hr2.c2
            have c3 := hr2.c3
            have f3 := hr2.fz 3
            have HR2 := Aside0.mk hr2
            have HK2 := Aside0.mk (HK.out.trans hk2)
            clear hr2 hk2 G
            go_wp2_with fail
            go_end0
            refine ⟨fun k0 e => ?_, fun e => absurd (e.symm.trans HE.out) (by simp)⟩
            have e2 : k0 = b - a + k := by have := e.symm.trans HE.out; injection this
            refine ⟨rfl, ?_, kp_r HK2.out _ _⟩
            rw [e2, show a + (b - a + k) = b + k by omega]
            exact HR2.out.dep _
          · have he : grp d.toNat n ((bs s).drop a) = none := by rw [HGN.out, grp_end HT.out, if_neg hmn]; rfl
            have HE := Aside0.mk he
            have hmi : ¬ (m : Int) = (n : Int) := by omega
            clear he
            go_wp2_with fail
            refine G.mono ?_
            rintro e w2 ⟨rfl, hr2, hk2⟩
            have c2 := hr2.c2
            have G2 := wfails_new w2 r s (b + k) d (b : Int) 3 hr2
            have HK2 := Aside0.mk (HK.out.trans hk2)
            clear hr2 hk2 G
            go_wp2_with fail
            refine G2.mono ?_
            rintro e w3 ⟨rfl, T, xv, hr3, hu3, hk3⟩
            have c3 := hr3.c3
            have f3 := hr3.fz 3
            have HR3 := Aside0.mk hr3
            have HU3 := Aside0.mk hu3
            have HK3 := Aside0.mk (HK2.out.trans hk3)
            clear hr3 hu3 hk3 G2
            go_wp2_with fail
            go_end0
            refine ⟨fun k0 e => absurd (e.symm.trans HE.out) (by simp), fun _ => ⟨rfl, b + k, T, xv, _, by omega, HR3.out.dep _, HU3.out.rset HR3.out _ _, ⟨b, 3, rfl, hb, .inr (.inl rfl)⟩, kp_r HK3.out _ _⟩⟩
        · have h4i : ¬ (t : Int) = 4 := by omega
          have hI := HI.out (s.size - (b + k)) (by omega)
          have HII := Aside0.mk hI
          clear hI
          go_wp2_with fail
          refine G.mono ?_
          rintro e w2 ⟨rfl, hr2, hk2⟩
          have c2 := hr2.c2
          have HR2 := Aside0.mk hr2
          have HK2 := Aside0.mk (HK.out.trans hk2)
          clear hr2 hk2 G
          go_wp2_with fail
          have hx3 : XW (w2.alloc (.cells #[.int .i64 (m : Int), .int .i64 (t : Int), .int .u64 0, .string ⟨#[]⟩, .string ⟨#[]⟩] 91)) w2.heap.size (m : Int) (t : Int) 0 ByteArray.empty ByteArray.empty := heap_alloc_new w2 _
          have hb3 : Below w2.heap.size w2 (w2.alloc (.cells #[.int .i64 (m : Int), .int .i64 (t : Int), .int .u64 0, .string ⟨#[]⟩, .string ⟨#[]⟩] 91)) := (Below.refl _ _).alloc (Nat.le_refl _) _
          have hr3 := HR2.out.below hb3
          have hlt := blk_lt HR2.out
          have hQ := HII.out _ r _ m t (b + k) b d hr3 hx3 (by omega) (by omega) hb rfl (by omega) (by omega)
          have hdr : ((bs s).drop b).drop k = (bs s).drop (b + k) := by rw [List.drop_drop]
          cases hrs : rst d.toNat m t ((bs s).drop (b + k)) with
          | none =>
            have he : grp d.toNat n ((bs s).drop a) = none := by rw [HGN.out, grp_fall HT.out h4 (by rw [hdr]; exact hrs)]; rfl
            have HE := Aside0.mk he
            clear he
            refine (hQ.2 hrs).mono ?_
            rintro e w4 ⟨rfl, a', T, v, E, ha', hr4, hu4, hE4, hk4⟩
            have HR4 := Aside0.mk hr4
            have HU4 := Aside0.mk hu4
            have HK4 := Aside0.mk (kp_box HK2.out _ hk4)
            clear hx3 hb3 hr3 hQ hlt hr4 hu4 hk4 hdr hrs
            go_wp2_with fail
            go_roundg 0
            case measure => omega
            case rel => exact ⟨HK4.out, .inr ⟨a', T, v, E, ha', HR4.out, HU4.out, hE4, rfl, HE.out⟩⟩
          | some k2 =>
            have hk2l := rst_le hrs
            rw [List.length_drop, bs_length] at hk2l
            have he : grp d.toNat n ((bs s).drop a) = (grp d.toNat n ((bs s).drop (b + k + k2))).map ((b + k + k2 - a) + ·) := by
              rw [HGN.out, grp_on HT.out h4 (by rw [hdr]; exact hrs), List.drop_drop, ← Nat.add_assoc, Option.map_map]
              congr 1
              funext q
              show b - a + (k + k2 + q) = b + k + k2 - a + q
              omega
            have HE := Aside0.mk he
            clear he
            refine (hQ.1 k2 hrs).mono ?_
            rintro e w4 ⟨rfl, hr4, _, hk4⟩
            have HR4 := Aside0.mk hr4
            have HK4 := Aside0.mk (kp_box HK2.out _ hk4)
            clear hx3 hb3 hr3 hQ hlt hr4 hk4 hdr hrs
            go_wp2_with fail
            go_roundg (s.size - (b + k + k2) + 1)
            case measure => omega
            case rel => exact ⟨HK4.out, .inl ⟨b + k + k2, HR4.out, by omega, by omega, rfl, HE.out⟩⟩
    · have c2 := hr.c2
      have c3 := hr.c3
      have f3 := hr.fz 3
      have HR := Aside0.mk hr
      have HU := Aside0.mk hu
      have HK := Aside0.mk hk
      have HGN := Aside0.mk hg
      clear hr hu hk hg hrel
      go_wp2_with fail
      go_end0
      refine ⟨fun k e => absurd (e.symm.trans HGN.out) (by simp), fun _ => ⟨rfl, a', T, v, E, ha', HR.out.dep _, HU.out.rset HR.out _ _, hE, kp_r HK.out _ _⟩⟩
end Go.Proofs.YtnghlkbmfhkmoaaGreatDoor
namespace Go.Proofs.YtnghlkbmfhkmoaaGreatDoor
open Go.RowKit Go.Proofs.YtnghlkbmfhkmoaaGreatDoorW.PrintWords Go.Proofs.YtnghlkbmfhkmoaaGreatDoorW.PrintLast Go.Proofs.YtnghlkbmfhkmoaaGreatDoorW.PrintMore Hy
theorem grp_at (s : ByteArray) (m : Nat) (hs : s.size ≤ 140737488351232) (IH : ∀ q, q < m → RestAt s q) (W : World) (r n a : Nat) (dp : Int) (h : RW W r s a .nilIface dp) (ha : a ≤ s.size) (hm : s.size - a = m) (_hd0 : -9223372036854775808 ≤ dp) (hd1 : dp < 9223372036854775808) :
    (∀ k, grpD dp n ((bs s).drop a) = some k → Calls Tryz.prog 114 #[.pointer (some ⟨r, 0, none⟩), .int .i64 (n : Int)] W (GOk r s (a + k) dp W)) ∧
    (grpD dp n ((bs s).drop a) = none → Calls Tryz.prog 114 #[.pointer (some ⟨r, 0, none⟩), .int .i64 (n : Int)] W (GBad r s dp W)) := by
  unfold grpD
  by_cases hlow : dp < 1
  · rw [if_pos hlow]
    exact ⟨fun k e => (by cases e), fun _ => wgroup_low W r n s a dp h ha hlow⟩
  · rw [if_neg hlow]
    obtain ⟨d, hd⟩ : ∃ d, dp = d + 1 := ⟨dp - 1, by omega⟩
    subst hd
    rw [show d + 1 - 1 = d by omega]
    have G := wgroup_go W r n s a d h ha hs (by omega) hd1 (by rw [hm]; exact IH)
    exact ⟨fun k e => G.mono (fun _ _ hh => hh.1 k e), fun e => G.mono (fun _ _ hh => hh.2 e)⟩
theorem st_nil : st ([] : List Nat) = ByteArray.empty := rfl
theorem rest_all (s : ByteArray) (hs : s.size ≤ 140737488351232) : ∀ m, RestAt s m := by
  intro m
  induction m using Nat.strongRecOn with
  | ind m IH =>
    intro W r x n t a p dp h hx hxr ha hp hm hd0 hd1
    by_cases t0 : t = 0
    · subst t0
      rw [rst_0]
      cases hd : dec 0 ((bs s).drop a) with
      | inl c => exact ⟨fun k e => (by cases e), fun _ => wrest_bad0 W r x s a n p dp h hx hxr ha hs c hd⟩
      | inr q =>
        obtain ⟨v, k⟩ := q
        refine ⟨fun k' e => ?_, fun e => (by cases e)⟩
        simp only [Option.some.injEq] at e
        subst e
        have e1 : numV 0 ((bs s).drop a) = v := by unfold numV; rw [if_pos rfl, hd]
        have e2 : strV 0 ((bs s).drop a) = [] := rfl
        rw [e1, e2, st_nil]
        exact wrest_0 W r x s a v k n p dp h hx hxr ha hs hd
    by_cases t1 : t = 1
    · subst t1
      rw [rst_1, List.length_drop, bs_length]
      by_cases h8 : 8 ≤ s.size - a
      · rw [if_pos h8]
        refine ⟨fun k' e => ?_, fun e => (by cases e)⟩
        simp only [Option.some.injEq] at e
        subst e
        exact wrest_ok1 W r x s a n p dp h hx hxr ha hs (by omega)
      · rw [if_neg h8]
        exact ⟨fun k e => (by cases e), fun _ => wrest_bad1 W r x s a n p dp h hx hxr ha hs (by omega)⟩
    by_cases t5 : t = 5
    · subst t5
      rw [rst_5, List.length_drop, bs_length]
      by_cases h8 : 4 ≤ s.size - a
      · rw [if_pos h8]
        refine ⟨fun k' e => ?_, fun e => (by cases e)⟩
        simp only [Option.some.injEq] at e
        subst e
        exact wrest_ok5 W r x s a n p dp h hx hxr ha hs (by omega)
      · rw [if_neg h8]
        exact ⟨fun k e => (by cases e), fun _ => wrest_bad5 W r x s a n p dp h hx hxr ha hs (by omega)⟩
    by_cases t2 : t = 2
    · subst t2
      rw [rst_2]
      cases hd : dec 0 ((bs s).drop a) with
      | inl c => exact ⟨fun k e => (by cases e), fun _ => wrest_bad2 W r x s a n p dp h hx hxr ha hs c hd⟩
      | inr q =>
        obtain ⟨v, k⟩ := q
        have hk := dec_pos _ _ _ _ hd
        rw [List.length_drop, bs_length] at hk
        simp only [List.length_drop, bs_length]
        by_cases hv : v ≤ s.size - a - k
        · rw [if_pos hv]
          refine ⟨fun k' e => ?_, fun e => (by cases e)⟩
          simp only [Option.some.injEq] at e
          subst e
          have e1 : numV 2 ((bs s).drop a) = 0 := rfl
          have e2 : st (strV 2 ((bs s).drop a)) = s.extract (a + k) (a + k + v) := by
            have e3 : strV 2 ((bs s).drop a) = (((bs s).drop a).drop k).take v := by unfold strV; rw [if_pos rfl, hd]
            rw [e3, List.drop_drop]
            apply bs_inj
            rw [bs_st _ (okB_take (okB_drop (bs_ok s) _) _), bs_extract, List.drop_take]
            congr 1
            omega
          rw [e1, e2]
          exact wrest_ok2 W r x s a n p dp h hx hxr ha hs v k hd (by omega)
        · rw [if_neg hv]
          exact ⟨fun k e => (by cases e), fun _ => wrest_bad2t W r x s a n p dp h hx hxr ha hs v k hd (by omega)⟩
    by_cases t3 : t = 3
    · subst t3
      rw [rst_3]
      have hG := grp_at s m hs IH W r n a dp h ha hm hd0 hd1
      have hgd : grpD dp n ((bs s).drop a) = if dp.toNat = 0 then none else grp (dp.toNat - 1) n ((bs s).drop a) := by
        unfold grpD
        by_cases hlow : dp < 1
        · rw [if_pos hlow, if_pos (by omega)]
        · rw [if_neg hlow, if_neg (by omega), show (dp - 1).toNat = dp.toNat - 1 by omega]
      rw [hgd] at hG
      exact ⟨fun k e => wrest_ok3 W r x s a n p dp h hx hxr ha hs (a + k) (hG.1 k e), fun e => wrest_bad3 W r x s a n p dp h hx hxr ha hs (hG.2 e)⟩
    · rw [rst_other t0 t1 t2 t3 t5]
      exact ⟨fun k e => (by cases e), fun _ => wrest_badx W r x s a n dp h ha t (by omega) (by omega) (by omega) (by omega) (by omega) p hp hx⟩
theorem record_ok (s : ByteArray) (hs : s.size ≤ 140737488351232) (W : World) (r a k : Nat) (R : RecL) (dp : Int) (h : RW W r s a .nilIface dp) (ha : a ≤ s.size) (hd0 : -9223372036854775808 ≤ dp) (hd1 : dp < 9223372036854775808) (hr : recL dp.toNat ((bs s).drop a) = some (R, k)) :
    Calls Tryz.prog 75 #[.pointer (some ⟨r, 0, none⟩)] W fun e w' => e = .returned (recV (R.num : Int) (R.type : Int) (R.n : Int) (st R.s) (st R.raw)) ∧ RW w' r s (a + k) .nilIface dp ∧ Kp (fun k => k = r) W w' := by
  have hle := recL_le hr
  rw [List.length_drop, bs_length] at hle
  cases ht : tagL ((bs s).drop a) with
  | none => rw [rec_none ht] at hr; cases hr
  | some q =>
    obtain ⟨m, t, k1⟩ := q
    obtain ⟨p1, p2, _⟩ := tagL_pos ht
    rw [List.length_drop, bs_length] at p2
    rw [rec_rst ht, List.drop_drop] at hr
    cases hrs : rst dp.toNat m t ((bs s).drop (a + k1)) with
    | none => rw [hrs] at hr; cases hr
    | some k2 =>
      rw [hrs] at hr
      simp only [Option.map_some, Option.some.injEq, Prod.mk.injEq] at hr
      obtain ⟨rfl, rfl⟩ := hr
      have hraw : st (((bs s).drop a).take (k1 + k2)) = s.extract a (a + (k1 + k2)) := by
        apply bs_inj
        rw [bs_st _ (okB_take (okB_drop (bs_ok s) _) _), bs_extract, List.drop_take]
        congr 1
        omega
      show Calls _ _ _ _ fun e w' => e = .returned (recV (m : Int) (t : Int) (numV t ((bs s).drop (a + k1)) : Int) (st (strV t ((bs s).drop (a + k1)))) (st (((bs s).drop a).take (k1 + k2)))) ∧ _
      rw [hraw]
      exact wrecord_ok W r s a m t k1 (a + (k1 + k2)) dp (numV t ((bs s).drop (a + k1)) : Int) (st (strV t ((bs s).drop (a + k1)))) h ha (by omega) (by omega) hs ht (fun W' x hW hx hxr => by
        have := (rest_all s hs (s.size - (a + k1)) W' r x m t (a + k1) a dp hW hx hxr (by omega) ha rfl hd0 hd1).1 k2 hrs
        rw [show a + (k1 + k2) = a + k1 + k2 by omega]
        exact this)
end Go.Proofs.YtnghlkbmfhkmoaaGreatDoor
namespace Go.Proofs.YtnghlkbmfhkmoaaGreatDoor
open Go.RowKit Go.Proofs.YtnghlkbmfhkmoaaGreatDoorW.PrintWords Go.Proofs.YtnghlkbmfhkmoaaGreatDoorW.PrintLast Go.Proofs.YtnghlkbmfhkmoaaGreatDoorW.PrintMore Hy CExr
theorem fixed_le (s : ByteArray) (hs : s.size ≤ 8) : ∀ (m k : Nat), m ≤ s.size → m < k → hygref2_fixed.l0 k s (little ((bs s).drop m) : Int) ((m : Int) - 1) = some (little (bs s) : Int) := by
  intro m
  induction m with
  | zero =>
    intro k _ hk
    obtain ⟨k, rfl⟩ : ∃ q, k = q + 1 := ⟨k - 1, by omega⟩
    rw [hygref2_fixed.l0, if_neg (by omega), List.drop_zero]
  | succ m ih =>
    intro k hm hk
    obtain ⟨k, rfl⟩ : ∃ q, k = q + 1 := ⟨k - 1, by omega⟩
    obtain ⟨c, r, h1, h2, h3, h4⟩ := bt_bs s m (by omega)
    have hl : ((bs s).drop (m + 1)).length ≤ 7 := by rw [List.length_drop, bs_length]; omega
    have hlt : little ((bs s).drop (m + 1)) < 72057594037927936 := by
      refine Nat.lt_of_lt_of_le (little_lt _ (okB_drop (bs_ok s) _)) ?_
      exact Nat.pow_le_pow_right (n := 256) (by decide) hl
    have e1 : ((m + 1 : Nat) : Int) - 1 = (m : Int) := by omega
    have e2 : wrap64 ((m : Int) - 1) = (m : Int) - 1 := by unfold wrap64; omega
    rw [e1, hygref2_fixed.l0, if_pos (by omega), if_pos (by omega), if_pos (by omega), h2, or_256 _ c hlt h3, e2]
    have := ih k (by omega) (by omega)
    rw [h1] at this
    rw [h4]
    exact this
theorem fixed_fle (s : ByteArray) (k : Nat) (hs : s.size ≤ 8) (hk : 9 ≤ k) : hygref2_fixed.f k s = some (little (bs s) : Int) := by
  have h := fixed_le s hs s.size k (Nat.le_refl _) (by omega)
  rw [List.drop_of_length_le (by rw [bs_length]; omega)] at h
  unfold hygref2_fixed.f
  rw [show wrap64 ((s.size : Int) - 1) = ((s.size : Nat) : Int) - 1 by unfold wrap64; omega]
  exact h
theorem rfixed_at (s : ByteArray) (p n : Nat) (w : World) (hn : n ≤ 8) (_hp : p + n ≤ s.size) :
    Calls Tryz.prog 103 #[.string (s.extract p (p + n))] w fun e w' => e = .returned (.int .u64 (little (((bs s).drop p).take n) : Int)) ∧ Drawn0 w w' := by
  have hb : bs (s.extract p (p + n)) = ((bs s).drop p).take n := by rw [bs_extract, List.drop_take]; congr 1; omega
  have hz : (s.extract p (p + n)).size ≤ 8 := by rw [← bs_length, hb, List.length_take]; omega
  have h := fixed_fle (s.extract p (p + n)) 9 hz (Nat.le_refl _)
  rw [hb] at h
  exact CExr.hygref2_fixed.calls 9 _ _ w h
theorem rgroup_any (s : ByteArray) (hs : s.size ≤ 100000) (p m : Nat) (dp : Int) (hp : p ≤ s.size) (hm1 : 1 ≤ m) (hm2 : m < 536870912) (hd1 : dp < 9223372036854775808)
    (HN : ∀ b d, p ≤ b → b ≤ s.size → d < 9223372036854775808 → NextAt s b d) (w : World) :
    Calls Tryz.prog 104 #[.string s, .int .i64 (p : Int), .int .i64 (m : Int), .int .i64 dp] w (GrR s p (rst dp.toNat m 3 ((bs s).drop p)) w) := by
  rw [rst_3]
  by_cases hlow : dp < 1
  · rw [if_pos (by omega)]
    exact rgroup_low w s p m dp hlow
  · rw [if_neg (by omega)]
    obtain ⟨d, hd⟩ : ∃ d, dp = d + 1 := ⟨dp - 1, by omega⟩
    subst hd
    rw [show (d + 1).toNat - 1 = d.toNat by omega]
    exact rgroup_go w s p m d (by omega) hp hm1 hm2 (by omega) hd1 (fun b h1 h2 => HN b d h1 h2 (by omega))
def NxOk (s : ByteArray) (a p2 : Nat) (m t N : Int) (S : ByteArray) (w : World) (e : Ending) (w' : World) : Prop :=
  e = .returned (.tuple #[recV m t N S (s.extract a p2), .int .i64 (p2 : Int), .bool true]) ∧ Below w.heap.size w w'
theorem rnext_rst (s : ByteArray) (hs : s.size ≤ 100000) (a v k : Nat) (dp : Int) (ha : a ≤ s.size) (hd1 : dp < 9223372036854775808) (hd : dec 0 ((bs s).drop a) = .inr (v, k)) (hv1 : 1 ≤ v / 8) (hv2 : v / 8 < 536870912)
    (HN : ∀ b d, a < b → b ≤ s.size → d < 9223372036854775808 → NextAt s b d) (W : World) :
    (∀ k2, rst dp.toNat (v / 8) (v % 8) ((bs s).drop (a + k)) = some k2 → Calls Tryz.prog 85 #[.string s, .int .i64 (a : Int), .int .i64 dp] W (NxOk s a (a + k + k2) ((v / 8 : Nat) : Int) ((v % 8 : Nat) : Int) (numV (v % 8) ((bs s).drop (a + k)) : Int) (st (strV (v % 8) ((bs s).drop (a + k)))) W)) ∧
    (rst dp.toNat (v / 8) (v % 8) ((bs s).drop (a + k)) = none → Calls Tryz.prog 85 #[.string s, .int .i64 (a : Int), .int .i64 dp] W (NoR W)) := by
  have hv := (dec_some _ 0 v k (okB_drop (bs_ok s) _) (by omega) hd).2.2.2.2
  have hk := dec_pos _ _ _ _ hd
  rw [List.length_drop, bs_length] at hk
  have G := fun w => gr_ok s a v k w (by omega) ha hd
  obtain ⟨p, hp⟩ : ∃ p, a + k = p := ⟨_, rfl⟩
  rw [hp] at G ⊢
  have hap : a ≤ p := by omega
  have hps : p ≤ s.size := by omega
  have hap1 : a < p := by omega
  obtain ⟨t, ht⟩ : ∃ t, v % 8 = t := ⟨_, rfl⟩
  rw [ht]
  by_cases t0 : t = 0
  · subst t0
    rw [rst_0]
    cases hd2 : dec 0 ((bs s).drop p) with
    | inl c =>
      have hc := dec_code _ _ _ hd2
      exact ⟨fun k e => (by cases e), fun _ => rnext_bad0 W s a v 0 _ p dp rfl hv hv1 hv2 hs hap hps G (c : Int) (by omega) ht (fun w => gr_bad s p c w (by omega) hps hd2)⟩
    | inr q =>
      obtain ⟨v2, k2⟩ := q
      have hk2 := dec_pos _ _ _ _ hd2
      rw [List.length_drop, bs_length] at hk2
      refine ⟨fun k' e => ?_, fun e => (by cases e)⟩
      simp only [Option.some.injEq] at e
      subst e
      have e1 : numV 0 ((bs s).drop p) = v2 := by unfold numV; rw [if_pos rfl, hd2]
      have e2 : strV 0 ((bs s).drop p) = [] := rfl
      rw [e1, e2, st_nil]
      exact rnext_ok0 W s a v 0 _ p v2 (p + k2) dp rfl hv hv1 hv2 hs hap hps G ht (by omega) (by omega) (fun w => gr_ok s p v2 k2 w (by omega) hps hd2)
  by_cases t1 : t = 1
  · subst t1
    rw [rst_1, List.length_drop, bs_length]
    by_cases h8 : 8 ≤ s.size - p
    · rw [if_pos h8]
      refine ⟨fun k' e => ?_, fun e => (by cases e)⟩
      simp only [Option.some.injEq] at e
      subst e
      have e1 : numV 1 ((bs s).drop p) = little (((bs s).drop p).take 8) := rfl
      have e2 : strV 1 ((bs s).drop p) = [] := rfl
      rw [e1, e2, st_nil]
      exact rnext_ok1 W s a v 0 _ p _ (p + 8) dp rfl hv hv1 hv2 hs hap hps G ht rfl (by omega) (fun w => rfixed_at s p 8 w (by omega) (by omega))
    · rw [if_neg h8]
      exact ⟨fun k e => (by cases e), fun _ => rnext_bad1 W s a v 0 _ p dp rfl hv hv1 hv2 hs hap hps G ht (by omega)⟩
  by_cases t5 : t = 5
  · subst t5
    rw [rst_5, List.length_drop, bs_length]
    by_cases h8 : 4 ≤ s.size - p
    · rw [if_pos h8]
      refine ⟨fun k' e => ?_, fun e => (by cases e)⟩
      simp only [Option.some.injEq] at e
      subst e
      have e1 : numV 5 ((bs s).drop p) = little (((bs s).drop p).take 4) := rfl
      have e2 : strV 5 ((bs s).drop p) = [] := rfl
      rw [e1, e2, st_nil]
      exact rnext_ok5 W s a v 0 _ p _ (p + 4) dp rfl hv hv1 hv2 hs hap hps G ht rfl (by omega) (fun w => rfixed_at s p 4 w (by omega) (by omega))
    · rw [if_neg h8]
      exact ⟨fun k e => (by cases e), fun _ => rnext_bad5 W s a v 0 _ p dp rfl hv hv1 hv2 hs hap hps G ht (by omega)⟩
  by_cases t2 : t = 2
  · subst t2
    rw [rst_2]
    cases hd2 : dec 0 ((bs s).drop p) with
    | inl c =>
      have hc := dec_code _ _ _ hd2
      exact ⟨fun k e => (by cases e), fun _ => rnext_bad2 W s a v 0 _ p dp rfl hv hv1 hv2 hs hap hps G (c : Int) (by omega) ht (fun w => gr_bad s p c w (by omega) hps hd2)⟩
    | inr q =>
      obtain ⟨n, k2⟩ := q
      have hk2 := dec_pos _ _ _ _ hd2
      have hn := (dec_some _ 0 n k2 (okB_drop (bs_ok s) _) (by omega) hd2).2.2.2.2
      rw [List.length_drop, bs_length] at hk2
      simp only [List.length_drop, bs_length]
      by_cases hnv : n ≤ s.size - p - k2
      · rw [if_pos hnv]
        refine ⟨fun k' e => ?_, fun e => (by cases e)⟩
        simp only [Option.some.injEq] at e
        subst e
        have e1 : numV 2 ((bs s).drop p) = 0 := rfl
        have e2 : st (strV 2 ((bs s).drop p)) = s.extract (p + k2) (p + (k2 + n)) := by
          have e3 : strV 2 ((bs s).drop p) = (((bs s).drop p).drop k2).take n := by unfold strV; rw [if_pos rfl, hd2]
          rw [e3, List.drop_drop]
          apply bs_inj
          rw [bs_st _ (okB_take (okB_drop (bs_ok s) _) _), bs_extract, List.drop_take]
          congr 1
          omega
        rw [e1, e2]
        exact rnext_ok2 W s a v 0 _ p n (p + k2) (p + (k2 + n)) dp rfl hv hv1 hv2 hs hap hps G ht (by omega) (by omega) (by omega) (fun w => gr_ok s p n k2 w (by omega) hps hd2)
      · rw [if_neg hnv]
        exact ⟨fun k e => (by cases e), fun _ => rnext_bad2t W s a v 0 _ p n (p + k2) dp rfl hv hv1 hv2 hs hap hps G ht (by omega) hn (by omega) (fun w => gr_ok s p n k2 w (by omega) hps hd2)⟩
  by_cases t3 : t = 3
  · subst t3
    have hG := fun w => rgroup_any s hs p (v / 8) dp hps hv1 hv2 hd1 (fun b d h1 h2 h3 => HN b d (by omega) h2 h3) w
    refine ⟨fun k2 e => ?_, fun e => ?_⟩
    · have hle := rst_le e
      rw [List.length_drop, bs_length] at hle
      have e1 : numV 3 ((bs s).drop p) = 0 := rfl
      have e2 : strV 3 ((bs s).drop p) = [] := rfl
      rw [e1, e2, st_nil]
      exact rnext_ok3 W s a v 0 _ p (p + k2) dp rfl hv hv1 hv2 hs hap hps G ht (by omega) (by omega) (fun w => (hG w).mono (fun _ _ h => ⟨h.1 k2 e, h.2.2⟩))
    · exact rnext_bad3 W s a v 0 _ p dp rfl hv hv1 hv2 hs hap hps G ht (fun w => (hG w).mono (fun _ _ h => ⟨h.2.1 e, h.2.2⟩))
  · rw [rst_other t0 t1 t2 t3 t5]
    exact ⟨fun k e => (by cases e), fun _ => rnext_badx W s a v 0 _ p t dp rfl hv hv1 hv2 hs hap hps G ht (by omega) (by omega) (by omega) (by omega) (by omega)⟩
theorem rnext_at (s : ByteArray) (hs : s.size ≤ 100000) : ∀ n a dp, s.size - a = n → a ≤ s.size → dp < 9223372036854775808 → NextAt s a dp := by
  intro n
  induction n using Nat.strongRecOn with
  | ind n IH =>
    intro a dp hn ha hd1 W
    cases hd : dec 0 ((bs s).drop a) with
    | inl c =>
      have hc := dec_code _ _ _ hd
      have ht : tagL ((bs s).drop a) = none := by unfold tagL; rw [hd]
      rw [rec_none ht]
      exact ⟨fun R k e => (by cases e), fun _ => rnext_dec W s (a : Int) dp (c : Int) (by omega) (fun w => gr_bad s a c w (by omega) ha hd)⟩
    | inr q =>
      obtain ⟨v, k⟩ := q
      have hk := dec_pos _ _ _ _ hd
      rw [List.length_drop, bs_length] at hk
      have ht := tag_dec hd
      by_cases hv : 1 ≤ v / 8 ∧ v / 8 < 536870912
      · rw [if_pos hv] at ht
        have H := rnext_rst s hs a v k dp ha hd1 hd hv.1 hv.2 (fun b d h1 h2 h3 => IH (s.size - b) (by omega) b d rfl h2 h3) W
        rw [rec_rst ht, List.drop_drop]
        refine ⟨fun R kk e => ?_, fun e => ?_⟩
        · cases hr : rst dp.toNat (v / 8) (v % 8) ((bs s).drop (a + k)) with
          | none => rw [hr] at e; cases e
          | some k2 =>
            have hle := rst_le hr
            rw [List.length_drop, bs_length] at hle
            rw [hr] at e
            simp only [Option.map_some, Option.some.injEq, Prod.mk.injEq] at e
            obtain ⟨rfl, rfl⟩ := e
            have hraw : st (((bs s).drop a).take (k + k2)) = s.extract a (a + k + k2) := by
              apply bs_inj
              rw [bs_st _ (okB_take (okB_drop (bs_ok s) _) _), bs_extract, List.drop_take]
              congr 1
              omega
            show Calls _ _ _ _ fun e w' => e = .returned (.tuple #[recV ((v / 8 : Nat) : Int) ((v % 8 : Nat) : Int) (numV (v % 8) ((bs s).drop (a + k)) : Int) (st (strV (v % 8) ((bs s).drop (a + k)))) (st (((bs s).drop a).take (k + k2))), .int .i64 ((a + (k + k2) : Nat) : Int), .bool true]) ∧ _
            rw [hraw, show a + (k + k2) = a + k + k2 by omega]
            exact H.1 k2 hr
        · cases hr : rst dp.toNat (v / 8) (v % 8) ((bs s).drop (a + k)) with
          | none => exact H.2 hr
          | some k2 => rw [hr] at e; cases e
      · rw [if_neg hv] at ht
        rw [rec_none ht]
        exact ⟨fun R k e => (by cases e), fun _ => rnext_badtag W s a v _ (a + k) dp rfl (by omega) (fun w => gr_ok s a v k w (by omega) ha hd)⟩
end Go.Proofs.YtnghlkbmfhkmoaaGreatDoor
namespace Go.Proofs.YtnghlkbmfhkmoaaGreatDoor
open Go.RowKit Go.Proofs.YtnghlkbmfhkmoaaGreatDoorW.PrintWords Go.Proofs.YtnghlkbmfhkmoaaGreatDoorW.PrintLast Go.Proofs.YtnghlkbmfhkmoaaGreatDoorW.PrintMore Hy
theorem IsE.xkp {w w' : World} {e : Err} {v : Value} {x' : Nat} {n t N : Int} {S raw : ByteArray} (hv : IsE w e v) (hx : XW w x' n t N S raw) (hk : Kp (fun k => k = x') w w') : IsE w' e v :=
  hv.kp hk (fun k c hc e => by
    subst e
    unfold XW at hx
    rw [hx] at hc
    injection hc with hc
    injection hc with _ hc
    exact absurd hc (by decide))
set_option maxHeartbeats 4000000 in
set_option maxRecDepth 100000 in
theorem wrecord_tagbad (w : World) (r : Nat) (s : ByteArray) (a : Nat) (dp : Int) (h : RW w r s a .nilIface dp) (ha : a ≤ s.size) (hs : s.size ≤ 140737488351232) (ht : tagL ((bs s).drop a) = none) :
    Calls Tryz.prog 75 #[.pointer (some ⟨r, 0, none⟩)] w fun e w' => e = .returned (recV 0 0 0 ByteArray.empty ByteArray.empty) ∧ WBad w r s dp w' := by
  have hq := blk_lt h
  have hr1 : RW (w.alloc (.cells #[.int .i64 0, .int .i64 0, .int .u64 0, .string ⟨#[]⟩, .string ⟨#[]⟩] 91)) r s a .nilIface dp := h.below ((Below.refl _ _).alloc (Nat.le_refl _) _)
  have hz1 : XW (w.alloc (.cells #[.int .i64 0, .int .i64 0, .int .u64 0, .string ⟨#[]⟩, .string ⟨#[]⟩] 91)) w.heap.size 0 0 0 ByteArray.empty ByteArray.empty := heap_alloc_new w _
  have hk1 : Kp (fun k => k = r) w (w.alloc (.cells #[.int .i64 0, .int .i64 0, .int .u64 0, .string ⟨#[]⟩, .string ⟨#[]⟩] 91)) := (Kp.refl _ w).alloc _
  have hsz : (w.alloc (.cells #[.int .i64 0, .int .i64 0, .int .u64 0, .string ⟨#[]⟩, .string ⟨#[]⟩] 91)).heap.size = w.heap.size + 1 := Array.size_push _
  have c1 := hr1.c1
  have HR1 := Aside0.mk hr1
  have HZ1 := Aside0.mk hz1
  have HK1 := Aside0.mk hk1
  have G := fun W (hW : RW W r s a .nilIface dp) => wtag_bad W r s a dp hW ha hs ht
  clear h ht hr1 hz1 hk1
  go_enter Tryz.func75, Tryz.ntmps75
  go_wp2_with fail
  generalize w.alloc (.cells #[.int .i64 0, .int .i64 0, .int .u64 0, .string ⟨#[]⟩, .string ⟨#[]⟩] 91) = W1 at *
  have hr2 : RW (W1.alloc (.cells #[.int .i64 0, .int .i64 0, .int .u64 0, .string ⟨#[]⟩, .string ⟨#[]⟩] 91)) r s a .nilIface dp := HR1.out.below ((Below.refl _ _).alloc (Nat.le_refl _) _)
  have hz2 : XW (W1.alloc (.cells #[.int .i64 0, .int .i64 0, .int .u64 0, .string ⟨#[]⟩, .string ⟨#[]⟩] 91)) W1.heap.size 0 0 0 ByteArray.empty ByteArray.empty := heap_alloc_new W1 _
  rw [hsz] at hz2
  have hz3 : XW (W1.alloc (.cells #[.int .i64 0, .int .i64 0, .int .u64 0, .string ⟨#[]⟩, .string ⟨#[]⟩] 91)) w.heap.size 0 0 0 ByteArray.empty ByteArray.empty := blk_below HZ1.out ((Below.refl _ _).alloc (Nat.le_refl _) _)
  have HK2 := Aside0.mk (HK1.out.alloc (.cells #[.int .i64 0, .int .i64 0, .int .u64 0, .string ⟨#[]⟩, .string ⟨#[]⟩] 91))
  have HZ2 := Aside0.mk hz2
  have HZ3 := Aside0.mk hz3
  clear hsz
  generalize hg : w.heap.size = g at *
  generalize hx : g + 1 = x at *
  refine (G _ hr2).mono ?_
  rintro e w2 ⟨m', t', _, _, rfl, a', T, v, E, ha', hr3, hu3, hE3, hk3⟩
  have hxr : x ≠ r := by omega
  have hgr : g ≠ r := by omega
  have hgx : g ≠ x := by omega
  have HX3 := Aside0.mk (HZ2.out.kp hk3 hxr)
  have HZ4 := Aside0.mk (HZ3.out.kp hk3 hgr)
  have HR3 := Aside0.mk hr3
  have HK3 := Aside0.mk (HK2.out.trans hk3)
  have q0 := HX3.out.c0
  have q1 := (HX3.out.set0 m').c1
  have f0 := HX3.out.fz 0
  have f1 := (HX3.out.set0 m').fz 1
  have hk4 : Kp (fun k => k = x) w2 ((w2.setCell ⟨x, 0, none⟩ (.int .i64 m')).setCell ⟨x, 1, none⟩ (.int .i64 t')) := (((Kp.refl (fun k => k = x) w2).set (p := ⟨x, 0, none⟩) rfl _)).set (p := ⟨x, 1, none⟩) rfl _
  have hr4 := hr3.kp hk4 (fun e => hxr e.symm)
  have q2 := hr4.c2
  have HR4 := Aside0.mk hr4
  have HX4 := Aside0.mk ((HX3.out.set0 m').set1 t')
  have HZ5 := Aside0.mk (HZ4.out.kp hk4 hgx)
  have HK4 := Aside0.mk hk4
  have hu4 := (hu3.xset HX3.out 0 (.int .i64 m')).xset (HX3.out.set0 m') 1 (.int .i64 t')
  have HU4 := Aside0.mk hu4
  clear hr2 hz2 hz3 hk3 hr3 hr4 hk4 hu3 hu4 c1 HZ2 HZ3 HX3 HZ4 HR1 HZ1 HK1 HK2 G HR3
  have hk5 : Kp (fun k => k = r ∨ w.heap.size ≤ k) w ((w2.setCell ⟨x, 0, none⟩ (.int .i64 m')).setCell ⟨x, 1, none⟩ (.int .i64 t')) := (HK3.out.mono (fun _ e => .inl e)).trans (HK4.out.mono (fun k e => .inr (by omega)))
  have HK7 := Aside0.mk hk5
  have HR7 := HR4
  have HZ7 := HZ5
  have HU7 := HU4
  have hE := hE3
  clear hk5 HR4 HZ5 HU4 HX4 HK4 HK3 q2 hE3
  have z0 := HZ7.out.c0
  have z1 := HZ7.out.c1
  have z2 := HZ7.out.c2
  have z3 := HZ7.out.c3
  have z4 := HZ7.out.c4
  have zf := fun i => HZ7.out.fz i
  have q2 := HR7.out.c2
  generalize hW7 : (w2.setCell ⟨x, 0, none⟩ (.int .i64 m')).setCell ⟨x, 1, none⟩ (.int .i64 t') = W7 at *
  go_wp2_with fail
  refine bodyPost_ret (results_cell_row rfl _ _ g 91 #[.int .i64 0, .int .i64 0, .int .u64 0, .string ByteArray.empty, .string ByteArray.empty] (0, 0) _ rfl (HZ7.out.all 0 0 0 ByteArray.empty ByteArray.empty) Tryz.underlying91 rfl (by kernel_rfl)) rfl ?_
  have hk7 := kp_all W7 g (.int .i64 0) (.int .i64 0) (.int .u64 0) (.string ByteArray.empty) (.string ByteArray.empty)
  refine ⟨rfl, a', T, v, E, ha', HR7.out.kp hk7 (fun e => hgr e.symm), HU7.out.xkp HZ7.out hk7, hE, ?_⟩
  have hk9 : Kp (fun k => k = r ∨ w.heap.size ≤ k) w _ := HK7.out.trans (hk7.mono (fun k e => .inr (by omega)))
  exact ⟨hk9.os, hk9.tape, hk9.output, hk9.size, fun k hk hn => hk9.block k hk (fun e => e.elim hn (fun e => absurd e (Nat.not_le.2 hk)))⟩
set_option maxHeartbeats 4000000 in
set_option maxRecDepth 100000 in
theorem wrecord_restbad (w : World) (r : Nat) (s : ByteArray) (a : Nat) (dp : Int) (h : RW w r s a .nilIface dp) (ha : a ≤ s.size) (hs : s.size ≤ 140737488351232) (n t k : Nat) (ht : tagL ((bs s).drop a) = some (n, t, k))
    (HQ : ∀ W x, RW W r s (a + k) .nilIface dp → XW W x n t 0 ByteArray.empty ByteArray.empty → x ≠ r → Calls Tryz.prog 98 #[.pointer (some ⟨r, 0, none⟩), .pointer (some ⟨x, 0, none⟩), .int .i64 (a : Int)] W (RBad W r x s dp)) :
    Calls Tryz.prog 75 #[.pointer (some ⟨r, 0, none⟩)] w fun e w' => e = .returned (recV 0 0 0 ByteArray.empty ByteArray.empty) ∧ WBad w r s dp w' := by
  have hq := blk_lt h
  have hr1 : RW (w.alloc (.cells #[.int .i64 0, .int .i64 0, .int .u64 0, .string ⟨#[]⟩, .string ⟨#[]⟩] 91)) r s a .nilIface dp := h.below ((Below.refl _ _).alloc (Nat.le_refl _) _)
  have hz1 : XW (w.alloc (.cells #[.int .i64 0, .int .i64 0, .int .u64 0, .string ⟨#[]⟩, .string ⟨#[]⟩] 91)) w.heap.size 0 0 0 ByteArray.empty ByteArray.empty := heap_alloc_new w _
  have hk1 : Kp (fun k => k = r) w (w.alloc (.cells #[.int .i64 0, .int .i64 0, .int .u64 0, .string ⟨#[]⟩, .string ⟨#[]⟩] 91)) := (Kp.refl _ w).alloc _
  have hsz : (w.alloc (.cells #[.int .i64 0, .int .i64 0, .int .u64 0, .string ⟨#[]⟩, .string ⟨#[]⟩] 91)).heap.size = w.heap.size + 1 := Array.size_push _
  have c1 := hr1.c1
  have HR1 := Aside0.mk hr1
  have HZ1 := Aside0.mk hz1
  have HK1 := Aside0.mk hk1
  have G := fun W (hW : RW W r s a .nilIface dp) => wtag_ok W r s a n t k dp hW ha hs ht
  have HG := Aside0.mk HQ
  clear h ht HQ hr1 hz1 hk1
  go_enter Tryz.func75, Tryz.ntmps75
  go_wp2_with fail
  generalize w.alloc (.cells #[.int .i64 0, .int .i64 0, .int .u64 0, .string ⟨#[]⟩, .string ⟨#[]⟩] 91) = W1 at *
  have hr2 : RW (W1.alloc (.cells #[.int .i64 0, .int .i64 0, .int .u64 0, .string ⟨#[]⟩, .string ⟨#[]⟩] 91)) r s a .nilIface dp := HR1.out.below ((Below.refl _ _).alloc (Nat.le_refl _) _)
  have hz2 : XW (W1.alloc (.cells #[.int .i64 0, .int .i64 0, .int .u64 0, .string ⟨#[]⟩, .string ⟨#[]⟩] 91)) W1.heap.size 0 0 0 ByteArray.empty ByteArray.empty := heap_alloc_new W1 _
  rw [hsz] at hz2
  have hz3 : XW (W1.alloc (.cells #[.int .i64 0, .int .i64 0, .int .u64 0, .string ⟨#[]⟩, .string ⟨#[]⟩] 91)) w.heap.size 0 0 0 ByteArray.empty ByteArray.empty := blk_below HZ1.out ((Below.refl _ _).alloc (Nat.le_refl _) _)
  have HK2 := Aside0.mk (HK1.out.alloc (.cells #[.int .i64 0, .int .i64 0, .int .u64 0, .string ⟨#[]⟩, .string ⟨#[]⟩] 91))
  have HZ2 := Aside0.mk hz2
  have HZ3 := Aside0.mk hz3
  clear hsz
  generalize hg : w.heap.size = g at *
  generalize hx : g + 1 = x at *
  refine (G _ hr2).mono ?_
  rintro e w2 ⟨rfl, hr3, hk3⟩
  have hxr : x ≠ r := by omega
  have hgr : g ≠ r := by omega
  have hgx : g ≠ x := by omega
  have HX3 := Aside0.mk (HZ2.out.kp hk3 hxr)
  have HZ4 := Aside0.mk (HZ3.out.kp hk3 hgr)
  have HR3 := Aside0.mk hr3
  have HK3 := Aside0.mk (HK2.out.trans hk3)
  have q0 := HX3.out.c0
  have q1 := (HX3.out.set0 (n : Int)).c1
  have f0 := HX3.out.fz 0
  have f1 := (HX3.out.set0 (n : Int)).fz 1
  have hk4 : Kp (fun k => k = x) w2 ((w2.setCell ⟨x, 0, none⟩ (.int .i64 (n : Int))).setCell ⟨x, 1, none⟩ (.int .i64 (t : Int))) := (((Kp.refl (fun k => k = x) w2).set (p := ⟨x, 0, none⟩) rfl _)).set (p := ⟨x, 1, none⟩) rfl _
  have hr4 := hr3.kp hk4 (fun e => hxr e.symm)
  have q2 := hr4.c2
  have HR4 := Aside0.mk hr4
  have HX4 := Aside0.mk ((HX3.out.set0 (n : Int)).set1 (t : Int))
  have HZ5 := Aside0.mk (HZ4.out.kp hk4 hgx)
  have HK4 := Aside0.mk hk4
  clear hr2 hz2 hz3 hk3 hr3 hr4 hk4 c1 HZ2 HZ3 HX3 HZ4 HR1 HZ1 HK1 HK2 G HR3
  go_wp2_with fail
  generalize (w2.setCell ⟨x, 0, none⟩ (.int .i64 (n : Int))).setCell ⟨x, 1, none⟩ (.int .i64 (t : Int)) = W4 at *
  refine (HG.out W4 x HR4.out HX4.out hxr).mono ?_
  rintro e W7 ⟨rfl, a', T, v, E, ha', hr5, hu5, hE, hk5⟩
  have HR7 := Aside0.mk hr5
  have HU7 := Aside0.mk hu5
  have HZ7 := Aside0.mk (HZ5.out.kp hk5 (fun e => e.elim hgr hgx))
  have hk6 : Kp (fun k => k = r ∨ w.heap.size ≤ k) w W7 := ((HK3.out.mono (fun _ e => .inl e)).trans (HK4.out.mono (fun k e => .inr (by omega)))).trans (hk5.mono (fun k e => e.elim .inl (fun e => .inr (by omega))))
  have HK7 := Aside0.mk hk6
  clear hr5 hu5 hk5 hk6 q0 q1 f0 f1 HG HR4 HX4 HZ5 HK4 HK3
  have z0 := HZ7.out.c0
  have z1 := HZ7.out.c1
  have z2 := HZ7.out.c2
  have z3 := HZ7.out.c3
  have z4 := HZ7.out.c4
  have zf := fun i => HZ7.out.fz i
  have q2 := HR7.out.c2
  go_wp2_with fail
  refine bodyPost_ret (results_cell_row rfl _ _ g 91 #[.int .i64 0, .int .i64 0, .int .u64 0, .string ByteArray.empty, .string ByteArray.empty] (0, 0) _ rfl (HZ7.out.all 0 0 0 ByteArray.empty ByteArray.empty) Tryz.underlying91 rfl (by kernel_rfl)) rfl ?_
  have hk7 := kp_all W7 g (.int .i64 0) (.int .i64 0) (.int .u64 0) (.string ByteArray.empty) (.string ByteArray.empty)
  refine ⟨rfl, a', T, v, E, ha', HR7.out.kp hk7 (fun e => hgr e.symm), HU7.out.xkp HZ7.out hk7, hE, ?_⟩
  have hk9 : Kp (fun k => k = r ∨ w.heap.size ≤ k) w _ := HK7.out.trans (hk7.mono (fun k e => .inr (by omega)))
  exact ⟨hk9.os, hk9.tape, hk9.output, hk9.size, fun k hk hn => hk9.block k hk (fun e => e.elim hn (fun e => absurd e (Nat.not_le.2 hk)))⟩
end Go.Proofs.YtnghlkbmfhkmoaaGreatDoor
