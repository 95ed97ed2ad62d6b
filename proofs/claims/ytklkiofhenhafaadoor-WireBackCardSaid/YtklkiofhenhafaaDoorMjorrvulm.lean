import Derived.Test.YtklkiofhenhafaaDoorMdatfpzbe
import Derived.Test.YtklkiofhenhafaaDoorMlrlhopvx
import Derived.Test.YtklkiofhenhafaaDoorWApart
import Derived.Test.YtklkiofhenhafaaDoorMgabaxjxe
namespace Go.Proofs.YtklkiofhenhafaaDoor
open Go.RowKit Go.Proofs.YtklkiofhenhafaaDoorW.PrintWords Go.Proofs.YtklkiofhenhafaaDoorW.PrintLast Go.Proofs.YtklkiofhenhafaaDoorW.PrintMore Hy

def WBad2 (w : World) (r : Nat) (s : ByteArray) (dp : Int) (e : Ending) (w' : World) : Prop := ∃ m t : Int, 0 ≤ t ∧ t < 8 ∧ e = .returned (.tuple #[.int .i64 m, .int .i64 t]) ∧ WBad w r s dp w'
set_option maxHeartbeats 2000000 in
set_option maxRecDepth 100000 in
theorem wtag_bad (w : World) (r : Nat) (s : ByteArray) (a : Nat) (dp : Int) (h : RW w r s a .nilIface dp) (ha : a ≤ s.size) (hs : s.size ≤ 140737488351232) (ht : tagL ((bs s).drop a) = none) :
    Calls Tryd.prog 42 #[.pointer (some ⟨r, 0, none⟩)] w (WBad2 w r s dp) := by
  have c1 := h.c1
  rcases hd : dec 0 ((bs s).drop a) with c | ⟨v, k⟩
  · have G := wvar_bad w r s a c dp h ha hs hd
    have e2 : Go.bits .and .u64 (0 : Int) 7 = (0 : Int) := by decide +kernel
    have e3 : Go.bits .and .u64 (0 : Int) 536870911 = (0 : Int) := by decide +kernel
    clear h ht hd
    go_enter Tryd.func42, Tryd.ntmps42
    go_wp2_with fail
    refine G.mono ?_
    rintro e w2 ⟨rfl, a2, T, x, E, ha2, hr2, hu2, hE2, hk2⟩
    have HR2 := Aside0.mk hr2
    have HU2 := Aside0.mk hu2
    have HE2 := Aside0.mk hE2
    have HK2 := Aside0.mk hk2
    have z2 := hr2.c2
    clear hr2 hk2 hu2 hE2 G
    go_wp2_with fail
    go_ret2
    exact ⟨0, 0, by omega, by omega, rfl, a2, T, x, E, ha2, HR2.out, HU2.out, HE2.out, HK2.out⟩
  · have hds := dec_some _ 0 v k (okB_drop (bs_ok s) _) (by omega) hd
    have hv : v < 18446744073709551616 := hds.2.2.2.2
    have hks := hds.2.1
    rw [List.length_drop, bs_length] at hks
    have hbad := tagL_bad ht hd
    have G := wvar_ok w r s a v k dp h ha hs hd
    have HWE : Aside0 (WE s (.at_ (a : Int) (.code 3))) := ⟨⟨a, 3, rfl, ha, .inr (.inl rfl)⟩⟩
    obtain ⟨n, hn⟩ : ∃ n, v / 8 = n := ⟨_, rfl⟩
    have e1 : (v : Int) / 8 = (n : Int) := by omega
    have e2 : Go.bits .and .u64 (v : Int) 7 = ((v % 8 : Nat) : Int) := and7 v hv
    have e3 : Go.bits .and .u64 (n : Int) 536870911 = ((n % 536870912 : Nat) : Int) := and29 n (by omega)
    have hak : a + k ≤ s.size := by omega
    rw [hn] at hbad
    generalize n % 536870912 = m at *
    have ht8 : v % 8 < 8 := by omega
    generalize v % 8 = t at *
    have hm29 : (m : Int) = (m : Int) := rfl
    by_cases hn1 : n < 1
    · have d1 : (n : Int) < 1 := by omega
      clear h ht hd hn hbad hds hks hm29
      go_enter Tryd.func42, Tryd.ntmps42
      go_wp2_with fail
      refine G.mono ?_
      rintro e w2 ⟨rfl, hr2, hk2⟩
      have HR2 := Aside0.mk hr2
      have HK2 := Aside0.mk hk2
      have z2 := hr2.c2
      have G2 := wfails_new w2 r s (a + k) dp (a : Int) 3 hr2
      clear hr2 hk2 G
      go_wp2_with fail
      refine G2.mono ?_
      rintro e w3 ⟨rfl, T, x, hr3, hu3, hk3⟩
      have HR3 := Aside0.mk hr3
      have HU3 := Aside0.mk hu3
      have HK3 := Aside0.mk hk3
      clear hr3 hu3 hk3 G2
      go_wp2_with fail
      go_ret2
      exact ⟨_, t, by omega, by omega, rfl, a + k, T, x, _, hak, HR3.out, HU3.out, HWE.out, HK2.out.trans HK3.out⟩
    · have d1 : ¬ (n : Int) < 1 := by omega
      have d2 : (n : Int) > 536870911 := by omega
      clear h ht hd hn hbad hds hks hm29
      go_enter Tryd.func42, Tryd.ntmps42
      go_wp2_with fail
      refine G.mono ?_
      rintro e w2 ⟨rfl, hr2, hk2⟩
      have HR2 := Aside0.mk hr2
      have HK2 := Aside0.mk hk2
      have z2 := hr2.c2
      have G2 := wfails_new w2 r s (a + k) dp (a : Int) 3 hr2
      clear hr2 hk2 G
      go_wp2_with fail
      refine G2.mono ?_
      rintro e w3 ⟨rfl, T, x, hr3, hu3, hk3⟩
      have HR3 := Aside0.mk hr3
      have HU3 := Aside0.mk hu3
      have HK3 := Aside0.mk hk3
      clear hr3 hu3 hk3 G2
      go_wp2_with fail
      go_ret2
      exact ⟨_, t, by omega, by omega, rfl, a + k, T, x, _, hak, HR3.out, HU3.out, HWE.out, HK2.out.trans HK3.out⟩
end Go.Proofs.YtklkiofhenhafaaDoor
namespace Go.Proofs.YtklkiofhenhafaaDoor
open Go.RowKit Go.Proofs.YtklkiofhenhafaaDoorW.PrintWords Go.Proofs.YtklkiofhenhafaaDoorW.PrintLast Go.Proofs.YtklkiofhenhafaaDoorW.PrintMore Hy

/-! ### the reader that has failed -/
set_option maxHeartbeats 4000000 in
set_option maxRecDepth 100000 in
theorem wlittle_old (w : World) (r : Nat) (s : ByteArray) (a k : Nat) (dp : Int) (T : Nat) (x : Value) (h : RW w r s a (.iface T x) dp) (hk : k ≤ 8) :
    Calls Tryd.prog 38 #[.pointer (some ⟨r, 0, none⟩), .int .i64 (k : Int)] w fun e w' => e = .returned (.int .u64 0) ∧ Below w.heap.size w w' := by
  have hw : IntKind.u64.wrap (k : Int) = (k : Int) := by rw [wrap_u64]; omega
  have G := wtake_old w r s a dp (k : Int) T x h
  clear h
  go_enter Tryd.func38, Tryd.ntmps38
  go_wp2_with fail
  refine G.mono ?_
  rintro e w2 ⟨rfl, ⟨nd, rfl⟩⟩
  go_wp2_with fail
  have hb0 : Below w.heap.size w (w.drewN nd) := by apply pw_below_drewN; exact Below.refl _ _
  generalize w.drewN nd = w2 at *
  rw [run_bytes_of_string (P := Tryd.prog) w2 9 98 5 ByteArray.empty Tryd.underlying9 Tryd.underlying98 Tryd.underlying5]
  have HB := Aside0.mk (hb0.trans (((Below.refl w.heap.size w2).drew).alloc hb0.size (.cells (bytesRow ByteArray.empty (grownCap w2 ByteArray.empty.size 0 5)) 5 ((bytesRow ByteArray.empty (grownCap w2 ByteArray.empty.size 0 5)).size, (bytesRow ByteArray.empty (grownCap w2 ByteArray.empty.size 0 5)).size + 1))))
  have hz : ByteArray.empty.size = 0 := rfl
  generalize w2.drew.alloc (.cells (bytesRow ByteArray.empty (grownCap w2 ByteArray.empty.size 0 5)) 5 ((bytesRow ByteArray.empty (grownCap w2 ByteArray.empty.size 0 5)).size, (bytesRow ByteArray.empty (grownCap w2 ByteArray.empty.size 0 5)).size + 1)) = W at *
  generalize grownCap w2 ByteArray.empty.size 0 5 = cap at *
  rw [hz]
  generalize w2.heap.size = g at *
  clear G hb0 hz hw
  go_wp2_with fail
  go_loopw [5, 14] (fun v5 v14 w' => v5 = .int .u64 0 ∧ v14 = .int .i64 0 ∧ w' = W) (fun _ _ _ => 0)
  case atStart => exact ⟨rfl, rfl, rfl⟩
  case round =>
    obtain ⟨rfl, rfl, rfl⟩ := hrel
    go_wp2_with fail
    go_ret
    exact ⟨rfl, HB.out⟩
/-- What the old error's reader keeps. -/
def OldOk (w : World) (r : Nat) (s : ByteArray) (a : Nat) (dp : Int) (T : Nat) (x : Value) (M : Nat → Prop) (w' : World) : Prop := RW w' r s a (.iface T x) dp ∧ Kp M w w'
set_option maxHeartbeats 4000000 in
set_option maxRecDepth 100000 in
theorem wgroup_old (w : World) (r : Nat) (s : ByteArray) (a : Nat) (dp n : Int) (T : Nat) (x : Value) (h : RW w r s a (.iface T x) dp) (hd0 : -9223372036854775808 ≤ dp) (hd1 : dp < 9223372036854775808) :
    Calls Tryd.prog 51 #[.pointer (some ⟨r, 0, none⟩), .int .i64 n] w fun e w' => e = .returned (.tuple #[]) ∧ OldOk w r s a dp T x (fun k => k = r) w' := by
  have HR := Aside0.mk h
  have c1 := h.c1
  have c3 := h.c3
  have f3 := h.fz 3
  by_cases hdp : dp < 1
  · have G := wfails_old w r s a dp (a : Int) 6 T x h
    clear h
    go_enter Tryd.func51, Tryd.ntmps51
    go_wp2_with fail
    refine G.mono ?_
    rintro e w2 ⟨rfl, rfl⟩
    go_wp2_with fail
    refine bodyPost_ret (results_none rfl _ _ _) rfl ?_
    exact ⟨rfl, HR.out, Kp.refl _ _⟩
  · have hr2 := h.dep (dp - 1)
    have hk2 := kp_r (r := r) (Kp.refl (fun k => k = r) w) 3 (.int .i64 (dp - 1))
    have HR2 := Aside0.mk hr2
    have HK2 := Aside0.mk hk2
    have c2 := hr2.c2
    have c3' := hr2.c3
    have f3' := hr2.fz 3
    clear h hr2 hk2
    go_enter Tryd.func51, Tryd.ntmps51
    go_wp2_with fail
    generalize w.setCell ⟨r, 3, none⟩ (.int .i64 (dp - 1)) = W at *
    go_loopw [4] (fun _ w' => w' = W) (fun _ _ => 0)
    case atStart => exact rfl
    case round =>
      subst hrel
      go_wp2_with fail
      go_end0
      exact ⟨rfl, by have := HR2.out.dep dp; exact this, kp_r HK2.out _ _⟩
end Go.Proofs.YtklkiofhenhafaaDoor
namespace Go.Proofs.YtklkiofhenhafaaDoor
open Go.RowKit Go.Proofs.YtklkiofhenhafaaDoorW.PrintWords Go.Proofs.YtklkiofhenhafaaDoorW.PrintLast Go.Proofs.YtklkiofhenhafaaDoorW.PrintMore Hy

theorem IsE.xset {w : World} {e : Err} {v : Value} {x' : Nat} {n t N : Int} {S raw : ByteArray} (h : XW w x' n t N S raw) (hv : IsE w e v) (i : Nat) (u : Value) : IsE (w.setCell ⟨x', i, none⟩ u) e v :=
  hv.kp (Kp.set (Kp.refl (fun k => k = x') w) (p := ⟨x', i, none⟩) rfl u) (fun k c hk e => by
    subst e
    unfold XW at h
    rw [h] at hk
    injection hk with hk
    injection hk with _ hk
    exact absurd hk (by decide))
def RX (r x : Nat) : Nat → Prop := fun k => k = r ∨ k = x
theorem rx_set {w W : World} {r x : Nat} (h : Kp (RX r x) w W) (i : Nat) (u : Value) : Kp (RX r x) w (W.setCell ⟨x, i, none⟩ u) := h.set (p := ⟨x, i, none⟩) (.inr rfl) u
theorem rx_of {w W : World} {r x : Nat} (h : Kp (fun k => k = r) w W) : Kp (RX r x) w W := h.mono (fun _ e => .inl e)
theorem RW.xset {w : World} {r x i : Nat} {s : ByteArray} {a : Nat} {u v : Value} {dp : Int} (h : RW w r s a u dp) (hxr : x ≠ r) : RW (w.setCell ⟨x, i, none⟩ v) r s a u dp :=
  h.kp (Kp.set (M := fun k => k = x) (Kp.refl _ w) (p := ⟨x, i, none⟩) rfl _) (fun e => hxr e.symm)
set_option maxHeartbeats 4000000 in
set_option maxRecDepth 100000 in
theorem wrest_old0 (w : World) (r x : Nat) (s : ByteArray) (a : Nat) (n at_ dp : Int) (T : Nat) (xv : Value) (h : RW w r s a (.iface T xv) dp) (hx : XW w x n 0 0 ByteArray.empty ByteArray.empty) (hxr : x ≠ r) :
    Calls Tryd.prog 43 #[.pointer (some ⟨r, 0, none⟩), .pointer (some ⟨x, 0, none⟩), .int .i64 at_] w fun e w' => e = .returned (.tuple #[]) ∧ OldOk w r s a dp T xv (RX r x) w' := by
  have G := wvar_old w r s a dp T xv h
  have q1 := hx.c1
  have q2 := hx.c2
  have f2 := hx.fz 2
  have HR := Aside0.mk h
  clear h hx
  go_enter Tryd.func43, Tryd.ntmps43
  go_wp2_with fail
  refine G.mono ?_
  rintro e w2 ⟨rfl, rfl⟩
  go_wp2_with fail
  go_end0
  exact ⟨rfl, HR.out.xset hxr, rx_set (Kp.refl _ _) _ _⟩
set_option maxHeartbeats 4000000 in
set_option maxRecDepth 100000 in
theorem wrest_old1 (w : World) (r x : Nat) (s : ByteArray) (a : Nat) (n at_ dp : Int) (T : Nat) (xv : Value) (h : RW w r s a (.iface T xv) dp) (hx : XW w x n 1 0 ByteArray.empty ByteArray.empty) (hxr : x ≠ r) :
    Calls Tryd.prog 43 #[.pointer (some ⟨r, 0, none⟩), .pointer (some ⟨x, 0, none⟩), .int .i64 at_] w fun e w' => e = .returned (.tuple #[]) ∧ OldOk w r s a dp T xv (RX r x) w' := by
  have G := wlittle_old w r s a 8 dp T xv h (by omega)
  rw [show ((8 : Nat) : Int) = 8 from rfl] at G
  have q1 := hx.c1
  have HR := Aside0.mk h
  have HX := Aside0.mk hx
  clear h hx
  go_enter Tryd.func43, Tryd.ntmps43
  go_wp2_with fail
  refine G.mono ?_
  rintro e w2 ⟨rfl, hb⟩
  have hx2 : XW w2 x n 1 0 ByteArray.empty ByteArray.empty := blk_below HX.out hb
  have q2 := hx2.c2
  have f2 := hx2.fz 2
  have HR2 := Aside0.mk (HR.out.below hb)
  have HK2 := Aside0.mk ((Kp.refl (RX r x) w).next hb)
  clear hx2 hb G q1
  go_wp2_with fail
  go_end0
  exact ⟨rfl, HR2.out.xset hxr, rx_set HK2.out _ _⟩
set_option maxHeartbeats 4000000 in
set_option maxRecDepth 100000 in
theorem wrest_old5 (w : World) (r x : Nat) (s : ByteArray) (a : Nat) (n at_ dp : Int) (T : Nat) (xv : Value) (h : RW w r s a (.iface T xv) dp) (hx : XW w x n 5 0 ByteArray.empty ByteArray.empty) (hxr : x ≠ r) :
    Calls Tryd.prog 43 #[.pointer (some ⟨r, 0, none⟩), .pointer (some ⟨x, 0, none⟩), .int .i64 at_] w fun e w' => e = .returned (.tuple #[]) ∧ OldOk w r s a dp T xv (RX r x) w' := by
  have G := wlittle_old w r s a 4 dp T xv h (by omega)
  rw [show ((4 : Nat) : Int) = 4 from rfl] at G
  have q1 := hx.c1
  have HR := Aside0.mk h
  have HX := Aside0.mk hx
  clear h hx
  go_enter Tryd.func43, Tryd.ntmps43
  go_wp2_with fail
  refine G.mono ?_
  rintro e w2 ⟨rfl, hb⟩
  have hx2 : XW w2 x n 5 0 ByteArray.empty ByteArray.empty := blk_below HX.out hb
  have q2 := hx2.c2
  have f2 := hx2.fz 2
  have HR2 := Aside0.mk (HR.out.below hb)
  have HK2 := Aside0.mk ((Kp.refl (RX r x) w).next hb)
  clear hx2 hb G q1
  go_wp2_with fail
  go_end0
  exact ⟨rfl, HR2.out.xset hxr, rx_set HK2.out _ _⟩
set_option maxHeartbeats 4000000 in
set_option maxRecDepth 100000 in
theorem wrest_old2 (w : World) (r x : Nat) (s : ByteArray) (a : Nat) (n at_ dp : Int) (T : Nat) (xv : Value) (h : RW w r s a (.iface T xv) dp) (hx : XW w x n 2 0 ByteArray.empty ByteArray.empty) (hxr : x ≠ r) :
    Calls Tryd.prog 43 #[.pointer (some ⟨r, 0, none⟩), .pointer (some ⟨x, 0, none⟩), .int .i64 at_] w fun e w' => e = .returned (.tuple #[]) ∧ OldOk w r s a dp T xv (RX r x) w' := by
  have G := wvar_old w r s a dp T xv h
  have G2 := wtake_old w r s a dp 0 T xv h
  have q1 := hx.c1
  have HR := Aside0.mk h
  have HX := Aside0.mk hx
  clear h hx
  go_enter Tryd.func43, Tryd.ntmps43
  go_wp2_with fail
  refine G.mono ?_
  rintro e w2 ⟨rfl, rfl⟩
  go_wp2_with fail
  refine G2.mono ?_
  rintro e w2 ⟨rfl, ⟨nd, rfl⟩⟩
  have q2 := HX.out.c3
  have f2 := HX.out.fz 3
  clear G G2
  go_wp2_with fail
  go_end0
  exact ⟨rfl, (HR.out.drewN _).xset hxr, rx_set ((Kp.refl _ _).drewN _) _ _⟩
set_option maxHeartbeats 4000000 in
set_option maxRecDepth 100000 in
theorem wrest_old3 (w : World) (r x : Nat) (s : ByteArray) (a : Nat) (n at_ dp : Int) (T : Nat) (xv : Value) (h : RW w r s a (.iface T xv) dp) (hx : XW w x n 3 0 ByteArray.empty ByteArray.empty) (_hxr : x ≠ r) (hd0 : -9223372036854775808 ≤ dp) (hd1 : dp < 9223372036854775808) :
    Calls Tryd.prog 43 #[.pointer (some ⟨r, 0, none⟩), .pointer (some ⟨x, 0, none⟩), .int .i64 at_] w fun e w' => e = .returned (.tuple #[]) ∧ OldOk w r s a dp T xv (RX r x) w' := by
  have G := wgroup_old w r s a dp n T xv h hd0 hd1
  have q0 := hx.c0
  have q1 := hx.c1
  clear h hx hd0 hd1
  go_enter Tryd.func43, Tryd.ntmps43
  go_wp2_with fail
  refine G.mono ?_
  rintro e w2 ⟨rfl, hr2, hk2⟩
  have HR2 := Aside0.mk hr2
  have HK2 := Aside0.mk hk2
  clear hr2 hk2 G
  go_wp2_with fail
  go_end0
  exact ⟨rfl, HR2.out, rx_of HK2.out⟩
set_option maxHeartbeats 4000000 in
set_option maxRecDepth 100000 in
theorem wrest_oldx (w : World) (r x : Nat) (s : ByteArray) (a : Nat) (n at_ dp : Int) (T : Nat) (xv : Value) (h : RW w r s a (.iface T xv) dp) (t : Int) (t0 : ¬ t = 0) (t1 : ¬ t = 1) (t5 : ¬ t = 5) (t2 : ¬ t = 2) (t3 : ¬ t = 3) (hx : XW w x n t 0 ByteArray.empty ByteArray.empty) :
    Calls Tryd.prog 43 #[.pointer (some ⟨r, 0, none⟩), .pointer (some ⟨x, 0, none⟩), .int .i64 at_] w fun e w' => e = .returned (.tuple #[]) ∧ OldOk w r s a dp T xv (RX r x) w' := by
  have G := wfails_old w r s a dp at_ 3 T xv h
  have q1 := hx.c1
  have HR := Aside0.mk h
  clear h hx
  go_enter Tryd.func43, Tryd.ntmps43
  go_wp2_with fail
  refine G.mono ?_
  rintro e w2 ⟨rfl, rfl⟩
  go_wp2_with fail
  go_end0
  exact ⟨rfl, HR.out, Kp.refl _ _⟩
theorem wrest_old (w : World) (r x : Nat) (s : ByteArray) (a : Nat) (n t at_ dp : Int) (T : Nat) (xv : Value) (h : RW w r s a (.iface T xv) dp) (hx : XW w x n t 0 ByteArray.empty ByteArray.empty) (hxr : x ≠ r) (hd0 : -9223372036854775808 ≤ dp) (hd1 : dp < 9223372036854775808) :
    Calls Tryd.prog 43 #[.pointer (some ⟨r, 0, none⟩), .pointer (some ⟨x, 0, none⟩), .int .i64 at_] w fun e w' => e = .returned (.tuple #[]) ∧ OldOk w r s a dp T xv (RX r x) w' := by
  by_cases t0 : t = 0
  · subst t0; exact wrest_old0 w r x s a n at_ dp T xv h hx hxr
  by_cases t1 : t = 1
  · subst t1; exact wrest_old1 w r x s a n at_ dp T xv h hx hxr
  by_cases t5 : t = 5
  · subst t5; exact wrest_old5 w r x s a n at_ dp T xv h hx hxr
  by_cases t2 : t = 2
  · subst t2; exact wrest_old2 w r x s a n at_ dp T xv h hx hxr
  by_cases t3 : t = 3
  · subst t3; exact wrest_old3 w r x s a n at_ dp T xv h hx hxr hd0 hd1
  exact wrest_oldx w r x s a n at_ dp T xv h t t0 t1 t5 t2 t3 hx
end Go.Proofs.YtklkiofhenhafaaDoor
namespace Go.Proofs.YtklkiofhenhafaaDoor
open Go.RowKit Go.Proofs.YtklkiofhenhafaaDoorW.PrintWords Go.Proofs.YtklkiofhenhafaaDoorW.PrintLast Go.Proofs.YtklkiofhenhafaaDoorW.PrintMore Hy

set_option maxHeartbeats 4000000 in
set_option maxRecDepth 100000 in
theorem wlittle_bad (w : World) (r : Nat) (s : ByteArray) (b k : Nat) (dp : Int) (h : RW w r s b .nilIface dp) (hs : s.size ≤ 140737488351232) (hb : b ≤ s.size) (hbn : s.size - b < k) (hk : k ≤ 8) :
    Calls Tryd.prog 38 #[.pointer (some ⟨r, 0, none⟩), .int .i64 (k : Int)] w fun e w' => e = .returned (.int .u64 0) ∧ WBad w r s dp w' := by
  have hw : IntKind.u64.wrap (k : Int) = (k : Int) := by rw [wrap_u64]; omega
  have G := wtake_bad w r s b k dp h hs hb hbn
  clear h hbn hb
  go_enter Tryd.func38, Tryd.ntmps38
  go_wp2_with fail
  refine G.mono ?_
  rintro e w2 ⟨rfl, a', T, x, E, ha', hr2, hu2, hE, hk2⟩
  go_wp2_with fail
  rw [run_bytes_of_string (P := Tryd.prog) w2 9 98 5 ByteArray.empty Tryd.underlying9 Tryd.underlying98 Tryd.underlying5]
  have hB2 : Below w2.heap.size w2 (w2.drew.alloc (.cells (bytesRow ByteArray.empty (grownCap w2 ByteArray.empty.size 0 5)) 5 ((bytesRow ByteArray.empty (grownCap w2 ByteArray.empty.size 0 5)).size, (bytesRow ByteArray.empty (grownCap w2 ByteArray.empty.size 0 5)).size + 1))) := ((Below.refl _ _).drew).alloc (Nat.le_refl _) _
  have HR := Aside0.mk (hr2.below hB2)
  have HK := Aside0.mk (hk2.next hB2)
  have HU := Aside0.mk (hu2.below hB2)
  have hz : ByteArray.empty.size = 0 := rfl
  generalize w2.drew.alloc (.cells (bytesRow ByteArray.empty (grownCap w2 ByteArray.empty.size 0 5)) 5 ((bytesRow ByteArray.empty (grownCap w2 ByteArray.empty.size 0 5)).size, (bytesRow ByteArray.empty (grownCap w2 ByteArray.empty.size 0 5)).size + 1)) = W at *
  generalize grownCap w2 ByteArray.empty.size 0 5 = cap at *
  rw [hz]
  generalize w2.heap.size = g at *
  clear hr2 hk2 hu2 G hB2 hw hz
  go_wp2_with fail
  go_loopw [5, 14] (fun v5 v14 w' => v5 = .int .u64 0 ∧ v14 = .int .i64 0 ∧ w' = W) (fun _ _ _ => 0)
  case atStart => exact ⟨rfl, rfl, rfl⟩
  case round =>
    obtain ⟨rfl, rfl, rfl⟩ := hrel
    go_wp2_with fail
    go_ret
    exact ⟨rfl, a', T, x, E, ha', HR.out, HU.out, hE, HK.out⟩
/-- The reader has failed within a record's rest. -/
def RBad (w : World) (r x : Nat) (s : ByteArray) (dp : Int) (e : Ending) (w' : World) : Prop := e = .returned (.tuple #[]) ∧ ∃ (a' T : Nat) (v : Value) (E : Err), a' ≤ s.size ∧ RW w' r s a' (.iface T v) dp ∧ IsE w' E (.iface T v) ∧ WE s E ∧ Kp (RX r x) w w'
def ROk (r x : Nat) (s : ByteArray) (b : Nat) (dp n t N : Int) (S : ByteArray) (W : World) (e : Ending) (W' : World) : Prop := e = .returned (.tuple #[]) ∧ RW W' r s b .nilIface dp ∧ XW W' x n t N S ByteArray.empty ∧ Kp (RX r x) W W'
set_option maxHeartbeats 4000000 in
set_option maxRecDepth 100000 in
theorem wrest_bad0 (w : World) (r x : Nat) (s : ByteArray) (a : Nat) (n at_ dp : Int) (h : RW w r s a .nilIface dp) (hx : XW w x n 0 0 ByteArray.empty ByteArray.empty) (hxr : x ≠ r) (ha : a ≤ s.size) (hs : s.size ≤ 140737488351232) (c : Nat) (hd : dec 0 ((bs s).drop a) = .inl c) :
    Calls Tryd.prog 43 #[.pointer (some ⟨r, 0, none⟩), .pointer (some ⟨x, 0, none⟩), .int .i64 at_] w (RBad w r x s dp) := by
  have G := wvar_bad w r s a c dp h ha hs hd
  have q1 := hx.c1
  have HX := Aside0.mk hx
  clear h hx hd
  go_enter Tryd.func43, Tryd.ntmps43
  go_wp2_with fail
  refine G.mono ?_
  rintro e w2 ⟨rfl, a', T, xv, E, ha', hr2, hu2, hE2, hk2⟩
  have hx2 : XW w2 x n 0 0 ByteArray.empty ByteArray.empty := HX.out.kp hk2 hxr
  have q2 := hx2.c2
  have f2 := hx2.fz 2
  have HX2 := Aside0.mk hx2
  have HR2 := Aside0.mk hr2
  have HU2 := Aside0.mk hu2
  have HK2 := Aside0.mk hk2
  clear hx2 hr2 hu2 hk2 G q1
  go_wp2_with fail
  go_end0
  exact ⟨rfl, a', T, xv, E, ha', HR2.out.xset hxr, HU2.out.xset HX2.out _ _, hE2, rx_set (rx_of HK2.out) _ _⟩
set_option maxHeartbeats 4000000 in
set_option maxRecDepth 100000 in
theorem wrest_ok1 (w : World) (r x : Nat) (s : ByteArray) (a : Nat) (n at_ dp : Int) (h : RW w r s a .nilIface dp) (hx : XW w x n 1 0 ByteArray.empty ByteArray.empty) (hxr : x ≠ r) (_ha : a ≤ s.size) (hs : s.size ≤ 140737488351232) (hk : a + 8 ≤ s.size) :
    Calls Tryd.prog 43 #[.pointer (some ⟨r, 0, none⟩), .pointer (some ⟨x, 0, none⟩), .int .i64 at_] w (ROk r x s (a + 8) dp n 1 (little (((bs s).drop a).take 8) : Int) ByteArray.empty w) := by
  have G := wlittle_ok w r s a 8 dp h hs hk (by omega)
  rw [show ((8 : Nat) : Int) = 8 from rfl] at G
  generalize little (((bs s).drop a).take 8) = v at *
  have q1 := hx.c1
  have HX := Aside0.mk hx
  clear h hx
  go_enter Tryd.func43, Tryd.ntmps43
  go_wp2_with fail
  refine G.mono ?_
  rintro e w2 ⟨rfl, hr2, hk2⟩
  have hx2 : XW w2 x n 1 0 ByteArray.empty ByteArray.empty := HX.out.kp hk2 hxr
  have q2 := hx2.c2
  have f2 := hx2.fz 2
  have HX2 := Aside0.mk hx2
  have HR2 := Aside0.mk hr2
  have HK2 := Aside0.mk hk2
  clear hx2 hr2 hk2 G q1
  go_wp2_with fail
  go_end0
  exact ⟨rfl, HR2.out.xset hxr, HX2.out.setN _, rx_set (rx_of HK2.out) _ _⟩
set_option maxHeartbeats 4000000 in
set_option maxRecDepth 100000 in
theorem wrest_bad1 (w : World) (r x : Nat) (s : ByteArray) (a : Nat) (n at_ dp : Int) (h : RW w r s a .nilIface dp) (hx : XW w x n 1 0 ByteArray.empty ByteArray.empty) (hxr : x ≠ r) (ha : a ≤ s.size) (hs : s.size ≤ 140737488351232) (hk : s.size - a < 8) :
    Calls Tryd.prog 43 #[.pointer (some ⟨r, 0, none⟩), .pointer (some ⟨x, 0, none⟩), .int .i64 at_] w (RBad w r x s dp) := by
  have G := wlittle_bad w r s a 8 dp h hs ha hk (by omega)
  rw [show ((8 : Nat) : Int) = 8 from rfl] at G
  have q1 := hx.c1
  have HX := Aside0.mk hx
  clear h hx
  go_enter Tryd.func43, Tryd.ntmps43
  go_wp2_with fail
  refine G.mono ?_
  rintro e w2 ⟨rfl, a', T, xv, E, ha', hr2, hu2, hE2, hk2⟩
  have hx2 : XW w2 x n 1 0 ByteArray.empty ByteArray.empty := HX.out.kp hk2 hxr
  have q2 := hx2.c2
  have f2 := hx2.fz 2
  have HX2 := Aside0.mk hx2
  have HR2 := Aside0.mk hr2
  have HU2 := Aside0.mk hu2
  have HK2 := Aside0.mk hk2
  clear hx2 hr2 hu2 hk2 G q1
  go_wp2_with fail
  go_end0
  exact ⟨rfl, a', T, xv, E, ha', HR2.out.xset hxr, HU2.out.xset HX2.out _ _, hE2, rx_set (rx_of HK2.out) _ _⟩
set_option maxHeartbeats 4000000 in
set_option maxRecDepth 100000 in
theorem wrest_ok5 (w : World) (r x : Nat) (s : ByteArray) (a : Nat) (n at_ dp : Int) (h : RW w r s a .nilIface dp) (hx : XW w x n 5 0 ByteArray.empty ByteArray.empty) (hxr : x ≠ r) (_ha : a ≤ s.size) (hs : s.size ≤ 140737488351232) (hk : a + 4 ≤ s.size) :
    Calls Tryd.prog 43 #[.pointer (some ⟨r, 0, none⟩), .pointer (some ⟨x, 0, none⟩), .int .i64 at_] w (ROk r x s (a + 4) dp n 5 (little (((bs s).drop a).take 4) : Int) ByteArray.empty w) := by
  have G := wlittle_ok w r s a 4 dp h hs hk (by omega)
  rw [show ((4 : Nat) : Int) = 4 from rfl] at G
  generalize little (((bs s).drop a).take 4) = v at *
  have q1 := hx.c1
  have HX := Aside0.mk hx
  clear h hx
  go_enter Tryd.func43, Tryd.ntmps43
  go_wp2_with fail
  refine G.mono ?_
  rintro e w2 ⟨rfl, hr2, hk2⟩
  have hx2 : XW w2 x n 5 0 ByteArray.empty ByteArray.empty := HX.out.kp hk2 hxr
  have q2 := hx2.c2
  have f2 := hx2.fz 2
  have HX2 := Aside0.mk hx2
  have HR2 := Aside0.mk hr2
  have HK2 := Aside0.mk hk2
  clear hx2 hr2 hk2 G q1
  go_wp2_with fail
  go_end0
  exact ⟨rfl, HR2.out.xset hxr, HX2.out.setN _, rx_set (rx_of HK2.out) _ _⟩
set_option maxHeartbeats 4000000 in
set_option maxRecDepth 100000 in
theorem wrest_bad5 (w : World) (r x : Nat) (s : ByteArray) (a : Nat) (n at_ dp : Int) (h : RW w r s a .nilIface dp) (hx : XW w x n 5 0 ByteArray.empty ByteArray.empty) (hxr : x ≠ r) (ha : a ≤ s.size) (hs : s.size ≤ 140737488351232) (hk : s.size - a < 4) :
    Calls Tryd.prog 43 #[.pointer (some ⟨r, 0, none⟩), .pointer (some ⟨x, 0, none⟩), .int .i64 at_] w (RBad w r x s dp) := by
  have G := wlittle_bad w r s a 4 dp h hs ha hk (by omega)
  rw [show ((4 : Nat) : Int) = 4 from rfl] at G
  have q1 := hx.c1
  have HX := Aside0.mk hx
  clear h hx
  go_enter Tryd.func43, Tryd.ntmps43
  go_wp2_with fail
  refine G.mono ?_
  rintro e w2 ⟨rfl, a', T, xv, E, ha', hr2, hu2, hE2, hk2⟩
  have hx2 : XW w2 x n 5 0 ByteArray.empty ByteArray.empty := HX.out.kp hk2 hxr
  have q2 := hx2.c2
  have f2 := hx2.fz 2
  have HX2 := Aside0.mk hx2
  have HR2 := Aside0.mk hr2
  have HU2 := Aside0.mk hu2
  have HK2 := Aside0.mk hk2
  clear hx2 hr2 hu2 hk2 G q1
  go_wp2_with fail
  go_end0
  exact ⟨rfl, a', T, xv, E, ha', HR2.out.xset hxr, HU2.out.xset HX2.out _ _, hE2, rx_set (rx_of HK2.out) _ _⟩
set_option maxHeartbeats 4000000 in
set_option maxRecDepth 100000 in
theorem wrest_ok2 (w : World) (r x : Nat) (s : ByteArray) (a : Nat) (n at_ dp : Int) (h : RW w r s a .nilIface dp) (hx : XW w x n 2 0 ByteArray.empty ByteArray.empty) (hxr : x ≠ r) (ha : a ≤ s.size) (hs : s.size ≤ 140737488351232) (v k : Nat) (hd : dec 0 ((bs s).drop a) = .inr (v, k)) (hk : a + k + v ≤ s.size) :
    Calls Tryd.prog 43 #[.pointer (some ⟨r, 0, none⟩), .pointer (some ⟨x, 0, none⟩), .int .i64 at_] w (ROk r x s (a + (k + v)) dp n 2 0 (s.extract (a + k) (a + k + v)) w) := by
  have hv := (dec_some _ 0 v k (okB_drop (bs_ok s) a) (by omega) hd)
  have hv1 := hv.2.1
  rw [List.length_drop, bs_length] at hv1
  have hv64 := hv.2.2.2.2
  clear hv
  have G := wvar_ok w r s a v k dp h ha hs hd
  have q1 := hx.c1
  have HX := Aside0.mk hx
  clear h hx hd
  go_enter Tryd.func43, Tryd.ntmps43
  go_wp2_with fail
  refine G.mono ?_
  rintro e w2 ⟨rfl, hr2, hk2⟩
  have G2 := wtake_ok w2 r s (a + k) v dp hr2 hs hk
  have HK2 := Aside0.mk hk2
  clear hr2 hk2 G
  go_wp2_with fail
  refine G2.mono ?_
  rintro e w3 ⟨rfl, hr3, hk3⟩
  have hk4 := HK2.out.trans hk3
  have hx3 : XW w3 x n 2 0 ByteArray.empty ByteArray.empty := HX.out.kp hk4 hxr
  have q2 := hx3.c3
  have f2 := hx3.fz 3
  have HX3 := Aside0.mk hx3
  have HR3 := Aside0.mk hr3
  have HK3 := Aside0.mk hk4
  clear hx3 hr3 hk3 hk4 G2 q1
  go_wp2_with fail
  go_end0
  exact ⟨rfl, by rw [show a + (k + v) = a + k + v by omega]; exact HR3.out.xset hxr, HX3.out.setS _, rx_set (rx_of HK3.out) _ _⟩
set_option maxHeartbeats 4000000 in
set_option maxRecDepth 100000 in
theorem wrest_bad2 (w : World) (r x : Nat) (s : ByteArray) (a : Nat) (n at_ dp : Int) (h : RW w r s a .nilIface dp) (hx : XW w x n 2 0 ByteArray.empty ByteArray.empty) (hxr : x ≠ r) (ha : a ≤ s.size) (hs : s.size ≤ 140737488351232) (c : Nat) (hd : dec 0 ((bs s).drop a) = .inl c) :
    Calls Tryd.prog 43 #[.pointer (some ⟨r, 0, none⟩), .pointer (some ⟨x, 0, none⟩), .int .i64 at_] w (RBad w r x s dp) := by
  have G := wvar_bad w r s a c dp h ha hs hd
  have q1 := hx.c1
  have HX := Aside0.mk hx
  clear h hx hd
  go_enter Tryd.func43, Tryd.ntmps43
  go_wp2_with fail
  refine G.mono ?_
  rintro e w2 ⟨rfl, a', T, xv, E, ha', hr2, hu2, hE2, hk2⟩
  have G2 := wtake_old w2 r s a' dp 0 T xv hr2
  have HR2 := Aside0.mk hr2
  have HU2 := Aside0.mk hu2
  have HK2 := Aside0.mk hk2
  clear hr2 hu2 hk2 G
  go_wp2_with fail
  refine G2.mono ?_
  rintro e w3 ⟨rfl, ⟨nd, rfl⟩⟩
  have hx3 : XW w2 x n 2 0 ByteArray.empty ByteArray.empty := HX.out.kp HK2.out hxr
  have q2 := hx3.c3
  have f2 := hx3.fz 3
  have HX3 : Aside0 (XW (w2.drewN nd) x n 2 0 ByteArray.empty ByteArray.empty) := ⟨hx3⟩
  have HU3 := Aside0.mk (HU2.out.below (w' := w2.drewN nd) (by apply pw_below_drewN; exact Below.refl _ _))
  clear hx3 G2 q1
  go_wp2_with fail
  go_end0
  exact ⟨rfl, a', T, xv, E, ha', (HR2.out.drewN nd).xset hxr, HU3.out.xset HX3.out _ _, hE2, rx_set ((rx_of HK2.out).drewN nd) _ _⟩
set_option maxHeartbeats 4000000 in
set_option maxRecDepth 100000 in
theorem wrest_bad2t (w : World) (r x : Nat) (s : ByteArray) (a : Nat) (n at_ dp : Int) (h : RW w r s a .nilIface dp) (hx : XW w x n 2 0 ByteArray.empty ByteArray.empty) (hxr : x ≠ r) (ha : a ≤ s.size) (hs : s.size ≤ 140737488351232) (v k : Nat) (hd : dec 0 ((bs s).drop a) = .inr (v, k)) (hk : s.size - (a + k) < v) :
    Calls Tryd.prog 43 #[.pointer (some ⟨r, 0, none⟩), .pointer (some ⟨x, 0, none⟩), .int .i64 at_] w (RBad w r x s dp) := by
  have hv := (dec_some _ 0 v k (okB_drop (bs_ok s) a) (by omega) hd)
  have hv1 := hv.2.1
  rw [List.length_drop, bs_length] at hv1
  have hv64 := hv.2.2.2.2
  clear hv
  have G := wvar_ok w r s a v k dp h ha hs hd
  have q1 := hx.c1
  have HX := Aside0.mk hx
  clear h hx hd
  go_enter Tryd.func43, Tryd.ntmps43
  go_wp2_with fail
  refine G.mono ?_
  rintro e w2 ⟨rfl, hr2, hk2⟩
  have G2 := wtake_bad w2 r s (a + k) v dp hr2 hs (by omega) hk
  have HK2 := Aside0.mk hk2
  clear hr2 hk2 G
  go_wp2_with fail
  refine G2.mono ?_
  rintro e w3 ⟨rfl, a', T, xv, E, ha', hr3, hu3, hE3, hk3⟩
  have hk4 := HK2.out.trans hk3
  have hx3 : XW w3 x n 2 0 ByteArray.empty ByteArray.empty := HX.out.kp hk4 hxr
  have q2 := hx3.c3
  have f2 := hx3.fz 3
  have HX3 := Aside0.mk hx3
  have HR3 := Aside0.mk hr3
  have HU3 := Aside0.mk hu3
  have HK3 := Aside0.mk hk4
  clear hx3 hr3 hu3 hk3 hk4 G2 q1
  go_wp2_with fail
  go_end0
  exact ⟨rfl, a', T, xv, E, ha', HR3.out.xset hxr, HU3.out.xset HX3.out _ _, hE3, rx_set (rx_of HK3.out) _ _⟩
set_option maxHeartbeats 4000000 in
set_option maxRecDepth 100000 in
theorem wrest_ok3 (w : World) (r x : Nat) (s : ByteArray) (a : Nat) (n at_ dp : Int) (_h : RW w r s a .nilIface dp) (hx : XW w x n 3 0 ByteArray.empty ByteArray.empty) (hxr : x ≠ r) (_ha : a ≤ s.size) (_hs : s.size ≤ 140737488351232) (b : Nat) (G : Calls Tryd.prog 51 #[.pointer (some ⟨r, 0, none⟩), .int .i64 n] w fun e w' => e = .returned (.tuple #[]) ∧ RW w' r s b .nilIface dp ∧ Kp (fun k => k = r) w w') :
    Calls Tryd.prog 43 #[.pointer (some ⟨r, 0, none⟩), .pointer (some ⟨x, 0, none⟩), .int .i64 at_] w (ROk r x s b dp n 3 0 ByteArray.empty w) := by
  have q0 := hx.c0
  have q1 := hx.c1
  have HX := Aside0.mk hx
  clear _h hx _ha _hs
  go_enter Tryd.func43, Tryd.ntmps43
  go_wp2_with fail
  refine G.mono ?_
  rintro e w2 ⟨rfl, hr2, hk2⟩
  have HR2 := Aside0.mk hr2
  have HK2 := Aside0.mk hk2
  clear hr2 hk2 G q0 q1
  go_wp2_with fail
  go_end0
  exact ⟨rfl, HR2.out, HX.out.kp HK2.out hxr, rx_of HK2.out⟩
set_option maxHeartbeats 4000000 in
set_option maxRecDepth 100000 in
theorem wrest_bad3 (w : World) (r x : Nat) (s : ByteArray) (a : Nat) (n at_ dp : Int) (_h : RW w r s a .nilIface dp) (hx : XW w x n 3 0 ByteArray.empty ByteArray.empty) (_hxr : x ≠ r) (_ha : a ≤ s.size) (_hs : s.size ≤ 140737488351232) (G : Calls Tryd.prog 51 #[.pointer (some ⟨r, 0, none⟩), .int .i64 n] w fun e w' => e = .returned (.tuple #[]) ∧ WBad w r s dp w') :
    Calls Tryd.prog 43 #[.pointer (some ⟨r, 0, none⟩), .pointer (some ⟨x, 0, none⟩), .int .i64 at_] w (RBad w r x s dp) := by
  have q0 := hx.c0
  have q1 := hx.c1
  clear _h hx _ha _hs _hxr
  go_enter Tryd.func43, Tryd.ntmps43
  go_wp2_with fail
  refine G.mono ?_
  rintro e w2 ⟨rfl, a', T, xv, E, ha', hr2, hu2, hE2, hk2⟩
  have HR2 := Aside0.mk hr2
  have HU2 := Aside0.mk hu2
  have HK2 := Aside0.mk hk2
  clear hr2 hu2 hk2 G q0 q1
  go_wp2_with fail
  go_end0
  exact ⟨rfl, a', T, xv, E, ha', HR2.out, HU2.out, hE2, rx_of HK2.out⟩
set_option maxHeartbeats 4000000 in
set_option maxRecDepth 100000 in
theorem wrest_badx (w : World) (r x : Nat) (s : ByteArray) (a : Nat) (n dp : Int) (h : RW w r s a .nilIface dp) (ha : a ≤ s.size) (t : Int) (t0 : ¬ t = 0) (t1 : ¬ t = 1) (t5 : ¬ t = 5) (t2 : ¬ t = 2) (t3 : ¬ t = 3) (p : Nat) (hp : p ≤ s.size) (hx : XW w x n t 0 ByteArray.empty ByteArray.empty) :
    Calls Tryd.prog 43 #[.pointer (some ⟨r, 0, none⟩), .pointer (some ⟨x, 0, none⟩), .int .i64 (p : Int)] w (RBad w r x s dp) := by
  have G := wfails_new w r s a dp (p : Int) 3 h
  have q1 := hx.c1
  clear h hx
  go_enter Tryd.func43, Tryd.ntmps43
  go_wp2_with fail
  refine G.mono ?_
  rintro e w2 ⟨rfl, T, xv, hr2, hu2, hk2⟩
  have HR2 := Aside0.mk hr2
  have HU2 := Aside0.mk hu2
  have HK2 := Aside0.mk hk2
  clear hr2 hu2 hk2 G q1
  go_wp2_with fail
  go_end0
  exact ⟨rfl, a, T, xv, _, ha, HR2.out, HU2.out, ⟨p, 3, rfl, hp, .inr (.inl rfl)⟩, rx_of HK2.out⟩
end Go.Proofs.YtklkiofhenhafaaDoor
namespace Go.Proofs.YtklkiofhenhafaaDoor
open Go.RowKit Go.Proofs.YtklkiofhenhafaaDoorW.PrintWords Go.Proofs.YtklkiofhenhafaaDoorW.PrintLast Go.Proofs.YtklkiofhenhafaaDoorW.PrintMore Hy

/-! ### groups within groups -/
def RestAt (s : ByteArray) (m : Nat) : Prop := ∀ (W : World) (r x n t a p : Nat) (dp : Int), RW W r s a .nilIface dp → XW W x (n : Int) (t : Int) 0 ByteArray.empty ByteArray.empty → x ≠ r → a ≤ s.size → p ≤ s.size → s.size - a = m → -9223372036854775808 ≤ dp → dp < 9223372036854775808 →
  (∀ k, rst dp.toNat n t ((bs s).drop a) = some k → Calls Tryd.prog 43 #[.pointer (some ⟨r, 0, none⟩), .pointer (some ⟨x, 0, none⟩), .int .i64 (p : Int)] W (ROk r x s (a + k) dp (n : Int) (t : Int) (numV t ((bs s).drop a) : Int) (st (strV t ((bs s).drop a))) W)) ∧
  (rst dp.toNat n t ((bs s).drop a) = none → Calls Tryd.prog 43 #[.pointer (some ⟨r, 0, none⟩), .pointer (some ⟨x, 0, none⟩), .int .i64 (p : Int)] W (RBad W r x s dp))
def grpD (dp : Int) (n : Nat) (b : List Nat) : Option Nat := if dp < 1 then none else grp (dp - 1).toNat n b
def GOk (r : Nat) (s : ByteArray) (b : Nat) (dp : Int) (W : World) (e : Ending) (W' : World) : Prop := e = .returned (.tuple #[]) ∧ RW W' r s b .nilIface dp ∧ Kp (fun k => k = r) W W'
def GBad (r : Nat) (s : ByteArray) (dp : Int) (W : World) (e : Ending) (W' : World) : Prop := e = .returned (.tuple #[]) ∧ WBad W r s dp W'
/-- What stands while a group is read. -/
def GSt (w : World) (r : Nat) (s : ByteArray) (a : Nat) (d : Int) (n kq : Nat) (w' : World) : Prop := Kp (fun k => k = r) w w' ∧
  ((∃ b, RW w' r s b .nilIface d ∧ a ≤ b ∧ b ≤ s.size ∧ kq = s.size - b + 1 ∧ grp d.toNat n ((bs s).drop a) = (grp d.toNat n ((bs s).drop b)).map ((b - a) + ·)) ∨
   (∃ a' T v E, a' ≤ s.size ∧ RW w' r s a' (.iface T v) d ∧ IsE w' E (.iface T v) ∧ WE s E ∧ kq = 0 ∧ grp d.toNat n ((bs s).drop a) = none))
theorem IsE.rxkp {w w' : World} {e : Err} {v : Value} {r x' : Nat} {s : ByteArray} {a : Nat} {u : Value} {dp n t N : Int} {S raw : ByteArray} (hr : RW w r s a u dp) (hx : XW w x' n t N S raw) (hv : IsE w e v) (hk : Kp (RX r x') w w') : IsE w' e v :=
  hv.kp hk (fun k c hc e => by
    rcases e with e | e
    · subst e
      unfold RW at hr
      rw [hr] at hc
      injection hc with hc
      injection hc with _ hc
      exact absurd hc (by decide)
    · subst e
      unfold XW at hx
      rw [hx] at hc
      injection hc with hc
      injection hc with _ hc
      exact absurd hc (by decide))
theorem kp_box {w w2 w4 : World} {r : Nat} (h1 : Kp (fun k => k = r) w w2) (o : Obj) (h2 : Kp (RX r w2.heap.size) (w2.alloc o) w4) : Kp (fun k => k = r) w w4 := by
  have hk9 : Kp (fun k => k = r ∨ w.heap.size ≤ k) w w4 := ((h1.alloc o).mono (fun _ e => .inl e)).trans (h2.mono (fun k e => e.elim .inl (fun e => .inr (by rw [e]; exact h1.size))))
  exact ⟨hk9.os, hk9.tape, hk9.output, hk9.size, fun k hk hn => hk9.block k hk (fun e => e.elim hn (fun e => absurd e (Nat.not_le.2 hk)))⟩
theorem wgroup_low (w : World) (r n : Nat) (s : ByteArray) (a : Nat) (dp : Int) (h : RW w r s a .nilIface dp) (ha : a ≤ s.size) (hdp : dp < 1) :
    Calls Tryd.prog 51 #[.pointer (some ⟨r, 0, none⟩), .int .i64 (n : Int)] w (GBad r s dp w) := by
  have c1 := h.c1
  have c3 := h.c3
  have G := wfails_new w r s a dp (a : Int) 6 h
  clear h
  go_enter Tryd.func51, Tryd.ntmps51
  go_wp2_with fail
  refine G.mono ?_
  rintro e w2 ⟨rfl, T, xv, hr2, hu2, hk2⟩
  have HR2 := Aside0.mk hr2
  have HU2 := Aside0.mk hu2
  have HK2 := Aside0.mk hk2
  clear hr2 hu2 hk2 G
  go_wp2_with fail
  refine bodyPost_ret (results_none rfl _ _ _) rfl ?_
  exact ⟨rfl, a, T, xv, _, ha, HR2.out, HU2.out, ⟨a, 6, rfl, ha, .inr (.inr (.inr rfl))⟩, HK2.out⟩
set_option maxHeartbeats 8000000 in
set_option maxRecDepth 100000 in
theorem wgroup_go (w : World) (r n : Nat) (s : ByteArray) (a : Nat) (d : Int) (h : RW w r s a .nilIface (d + 1)) (ha : a ≤ s.size) (hs : s.size ≤ 140737488351232) (hd0 : 0 ≤ d) (hd1 : d + 1 < 9223372036854775808) (IH : ∀ m, m < s.size - a → RestAt s m) :
    Calls Tryd.prog 51 #[.pointer (some ⟨r, 0, none⟩), .int .i64 (n : Int)] w fun e w' => (∀ k, grp d.toNat n ((bs s).drop a) = some k → GOk r s (a + k) (d + 1) w e w') ∧ (grp d.toNat n ((bs s).drop a) = none → GBad r s (d + 1) w e w') := by
  have c3 := h.c3
  have f3 := h.fz 3
  have HI := Aside0.mk IH
  have hdp : ¬ d + 1 < 1 := by omega
  have hr2 := h.dep d
  have hk2 := kp_r (r := r) (Kp.refl (fun k => k = r) w) 3 (.int .i64 d)
  have HS := Aside0.mk (show GSt w r s a d n (s.size - a + 1) (w.setCell ⟨r, 3, none⟩ (.int .i64 d)) from ⟨hk2, .inl ⟨a, hr2, Nat.le_refl _, ha, rfl, by rw [Nat.sub_self]; cases grp d.toNat n ((bs s).drop a) <;> simp⟩⟩)
  clear h hr2 hk2 IH
  go_enter Tryd.func51, Tryd.ntmps51
  go_wp2_with fail
  generalize w.setCell ⟨r, 3, none⟩ (.int .i64 d) = W at *
  go_loopg [4] (s.size - a + 1) (fun kq _ w' => Aside0 (GSt w r s a d n kq w'))
  case atStart => exact HS
  case round =>
    clear HS
    obtain ⟨hk, ⟨b, hr, hab, hb, hkq, hg⟩ | ⟨a', T, v, E, ha', hr, hu, hE, hkq, hg⟩⟩ := hrel.out
    · have c2 := hr.c2
      have c1 := hr.c1
      have HK := Aside0.mk hk
      have HGN := Aside0.mk hg
      cases ht : tagL ((bs s).drop b) with
      | none =>
        have G := wtag_bad wr r s b d hr hb hs ht
        have HN := Aside0.mk (show grp d.toNat n ((bs s).drop a) = none by rw [hg, grp_none ht]; rfl)
        clear hr hk hg hrel ht
        go_wp2_with fail
        refine G.mono ?_
        rintro e w2 ⟨m', t', ht0, ht8, rfl, a', T, v, E, ha', hr2, hu2, hE2, hk2⟩
        have c2 := hr2.c2
        have HR2 := Aside0.mk hr2
        have HU2 := Aside0.mk hu2
        have HK2 := Aside0.mk (HK.out.trans hk2)
        clear hr2 hu2 hk2 G
        go_wp2_with fail
        have hx3 : XW (w2.alloc (.cells #[.int .i64 m', .int .i64 t', .int .u64 0, .string ⟨#[]⟩, .string ⟨#[]⟩] 25)) w2.heap.size m' t' 0 ByteArray.empty ByteArray.empty := heap_alloc_new w2 _
        have hb3 : Below w2.heap.size w2 (w2.alloc (.cells #[.int .i64 m', .int .i64 t', .int .u64 0, .string ⟨#[]⟩, .string ⟨#[]⟩] 25)) := (Below.refl _ _).alloc (Nat.le_refl _) _
        have hr3 := HR2.out.below hb3
        have hu3 := HU2.out.below hb3
        have hlt := blk_lt HR2.out
        refine (wrest_old _ r _ s a' m' t' (b : Int) d T v hr3 hx3 (by omega) (by omega) (by omega)).mono ?_
        rintro e w4 ⟨rfl, hr4, hk4⟩
        have HR4 := Aside0.mk hr4
        have HU4 := Aside0.mk (IsE.rxkp hr3 hx3 hu3 hk4)
        have HK4 := Aside0.mk (kp_box HK2.out _ hk4)
        clear hx3 hb3 hr3 hu3 hlt hr4 hk4
        go_wp2_with fail
        go_roundg 0
        case measure => omega
        case rel => exact ⟨HK4.out, .inr ⟨a', T, v, E, ha', HR4.out, HU4.out, hE2, rfl, HN.out⟩⟩
      | some q =>
        obtain ⟨m, t, k⟩ := q
        obtain ⟨p1, p2, p3, p4, p5⟩ := tagL_pos ht
        rw [List.length_drop, bs_length] at p2
        have G := wtag_ok wr r s b m t k d hr hb hs ht
        have HT := Aside0.mk ht
        clear hr hk hg hrel ht
        by_cases h4 : t = 4
        · subst h4
          by_cases hmn : m = n
          · subst hmn
            have he : grp d.toNat m ((bs s).drop a) = some (b - a + k) := by rw [HGN.out, grp_end HT.out, if_pos rfl]; rfl
            have HE := Aside0.mk he
            clear he
            go_wp2_with fail
            refine G.mono ?_
            rintro e w2 ⟨rfl, hr2, hk2⟩
            have c2 := hr2.c2
            have c3 := hr2.c3
            have f3 := hr2.fz 3
            have HR2 := Aside0.mk hr2
            have HK2 := Aside0.mk (HK.out.trans hk2)
            clear hr2 hk2 G
            go_wp2_with fail
            go_end0
            refine ⟨fun k0 e => ?_, fun e => absurd (e.symm.trans HE.out) (by simp)⟩
            have e2 : k0 = b - a + k := by have := e.symm.trans HE.out; injection this
            refine ⟨rfl, ?_, kp_r HK2.out _ _⟩
            rw [e2, show a + (b - a + k) = b + k by omega]
            exact HR2.out.dep _
          · have he : grp d.toNat n ((bs s).drop a) = none := by rw [HGN.out, grp_end HT.out, if_neg hmn]; rfl
            have HE := Aside0.mk he
            have hmi : ¬ (m : Int) = (n : Int) := by omega
            clear he
            go_wp2_with fail
            refine G.mono ?_
            rintro e w2 ⟨rfl, hr2, hk2⟩
            have c2 := hr2.c2
            have G2 := wfails_new w2 r s (b + k) d (b : Int) 3 hr2
            have HK2 := Aside0.mk (HK.out.trans hk2)
            clear hr2 hk2 G
            go_wp2_with fail
            refine G2.mono ?_
            rintro e w3 ⟨rfl, T, xv, hr3, hu3, hk3⟩
            have c3 := hr3.c3
            have f3 := hr3.fz 3
            have HR3 := Aside0.mk hr3
            have HU3 := Aside0.mk hu3
            have HK3 := Aside0.mk (HK2.out.trans hk3)
            clear hr3 hu3 hk3 G2
            go_wp2_with fail
            go_end0
            refine ⟨fun k0 e => absurd (e.symm.trans HE.out) (by simp), fun _ => ⟨rfl, b + k, T, xv, _, by omega, HR3.out.dep _, HU3.out.rset HR3.out _ _, ⟨b, 3, rfl, hb, .inr (.inl rfl)⟩, kp_r HK3.out _ _⟩⟩
        · have h4i : ¬ (t : Int) = 4 := by omega
          have hI := HI.out (s.size - (b + k)) (by omega)
          have HII := Aside0.mk hI
          clear hI
          go_wp2_with fail
          refine G.mono ?_
          rintro e w2 ⟨rfl, hr2, hk2⟩
          have c2 := hr2.c2
          have HR2 := Aside0.mk hr2
          have HK2 := Aside0.mk (HK.out.trans hk2)
          clear hr2 hk2 G
          go_wp2_with fail
          have hx3 : XW (w2.alloc (.cells #[.int .i64 (m : Int), .int .i64 (t : Int), .int .u64 0, .string ⟨#[]⟩, .string ⟨#[]⟩] 25)) w2.heap.size (m : Int) (t : Int) 0 ByteArray.empty ByteArray.empty := heap_alloc_new w2 _
          have hb3 : Below w2.heap.size w2 (w2.alloc (.cells #[.int .i64 (m : Int), .int .i64 (t : Int), .int .u64 0, .string ⟨#[]⟩, .string ⟨#[]⟩] 25)) := (Below.refl _ _).alloc (Nat.le_refl _) _
          have hr3 := HR2.out.below hb3
          have hlt := blk_lt HR2.out
          have hQ := HII.out _ r _ m t (b + k) b d hr3 hx3 (by omega) (by omega) hb rfl (by omega) (by omega)
          have hdr : ((bs s).drop b).drop k = (bs s).drop (b + k) := by rw [List.drop_drop]
          cases hrs : rst d.toNat m t ((bs s).drop (b + k)) with
          | none =>
            have he : grp d.toNat n ((bs s).drop a) = none := by rw [HGN.out, grp_fall HT.out h4 (by rw [hdr]; exact hrs)]; rfl
            have HE := Aside0.mk he
            clear he
            refine (hQ.2 hrs).mono ?_
            rintro e w4 ⟨rfl, a', T, v, E, ha', hr4, hu4, hE4, hk4⟩
            have HR4 := Aside0.mk hr4
            have HU4 := Aside0.mk hu4
            have HK4 := Aside0.mk (kp_box HK2.out _ hk4)
            clear hx3 hb3 hr3 hQ hlt hr4 hu4 hk4 hdr hrs
            go_wp2_with fail
            go_roundg 0
            case measure => omega
            case rel => exact ⟨HK4.out, .inr ⟨a', T, v, E, ha', HR4.out, HU4.out, hE4, rfl, HE.out⟩⟩
          | some k2 =>
            have hk2l := rst_le hrs
            rw [List.length_drop, bs_length] at hk2l
            have he : grp d.toNat n ((bs s).drop a) = (grp d.toNat n ((bs s).drop (b + k + k2))).map ((b + k + k2 - a) + ·) := by
              rw [HGN.out, grp_on HT.out h4 (by rw [hdr]; exact hrs), List.drop_drop, ← Nat.add_assoc, Option.map_map]
              congr 1
              funext q
              show b - a + (k + k2 + q) = b + k + k2 - a + q
              omega
            have HE := Aside0.mk he
            clear he
            refine (hQ.1 k2 hrs).mono ?_
            rintro e w4 ⟨rfl, hr4, _, hk4⟩
            have HR4 := Aside0.mk hr4
            have HK4 := Aside0.mk (kp_box HK2.out _ hk4)
            clear hx3 hb3 hr3 hQ hlt hr4 hk4 hdr hrs
            go_wp2_with fail
            go_roundg (s.size - (b + k + k2) + 1)
            case measure => omega
            case rel => exact ⟨HK4.out, .inl ⟨b + k + k2, HR4.out, by omega, by omega, rfl, HE.out⟩⟩
    · have c2 := hr.c2
      have c3 := hr.c3
      have f3 := hr.fz 3
      have HR := Aside0.mk hr
      have HU := Aside0.mk hu
      have HK := Aside0.mk hk
      have HGN := Aside0.mk hg
      clear hr hu hk hg hrel
      go_wp2_with fail
      go_end0
      refine ⟨fun k e => absurd (e.symm.trans HGN.out) (by simp), fun _ => ⟨rfl, a', T, v, E, ha', HR.out.dep _, HU.out.rset HR.out _ _, hE, kp_r HK.out _ _⟩⟩
end Go.Proofs.YtklkiofhenhafaaDoor
namespace Go.Proofs.YtklkiofhenhafaaDoor
open Go.RowKit Go.Proofs.YtklkiofhenhafaaDoorW.PrintWords Go.Proofs.YtklkiofhenhafaaDoorW.PrintLast Go.Proofs.YtklkiofhenhafaaDoorW.PrintMore Hy

theorem grp_at (s : ByteArray) (m : Nat) (hs : s.size ≤ 140737488351232) (IH : ∀ q, q < m → RestAt s q) (W : World) (r n a : Nat) (dp : Int) (h : RW W r s a .nilIface dp) (ha : a ≤ s.size) (hm : s.size - a = m) (_hd0 : -9223372036854775808 ≤ dp) (hd1 : dp < 9223372036854775808) :
    (∀ k, grpD dp n ((bs s).drop a) = some k → Calls Tryd.prog 51 #[.pointer (some ⟨r, 0, none⟩), .int .i64 (n : Int)] W (GOk r s (a + k) dp W)) ∧
    (grpD dp n ((bs s).drop a) = none → Calls Tryd.prog 51 #[.pointer (some ⟨r, 0, none⟩), .int .i64 (n : Int)] W (GBad r s dp W)) := by
  unfold grpD
  by_cases hlow : dp < 1
  · rw [if_pos hlow]
    exact ⟨fun k e => (by cases e), fun _ => wgroup_low W r n s a dp h ha hlow⟩
  · rw [if_neg hlow]
    obtain ⟨d, hd⟩ : ∃ d, dp = d + 1 := ⟨dp - 1, by omega⟩
    subst hd
    rw [show d + 1 - 1 = d by omega]
    have G := wgroup_go W r n s a d h ha hs (by omega) hd1 (by rw [hm]; exact IH)
    exact ⟨fun k e => G.mono (fun _ _ hh => hh.1 k e), fun e => G.mono (fun _ _ hh => hh.2 e)⟩
theorem st_nil : st ([] : List Nat) = ByteArray.empty := rfl
theorem rest_all (s : ByteArray) (hs : s.size ≤ 140737488351232) : ∀ m, RestAt s m := by
  intro m
  induction m using Nat.strongRecOn with
  | ind m IH =>
    intro W r x n t a p dp h hx hxr ha hp hm hd0 hd1
    by_cases t0 : t = 0
    · subst t0
      rw [rst_0]
      cases hd : dec 0 ((bs s).drop a) with
      | inl c => exact ⟨fun k e => (by cases e), fun _ => wrest_bad0 W r x s a n p dp h hx hxr ha hs c hd⟩
      | inr q =>
        obtain ⟨v, k⟩ := q
        refine ⟨fun k' e => ?_, fun e => (by cases e)⟩
        simp only [Option.some.injEq] at e
        subst e
        have e1 : numV 0 ((bs s).drop a) = v := by unfold numV; rw [if_pos rfl, hd]
        have e2 : strV 0 ((bs s).drop a) = [] := rfl
        rw [e1, e2, st_nil]
        exact wrest_0 W r x s a v k n p dp h hx hxr ha hs hd
    by_cases t1 : t = 1
    · subst t1
      rw [rst_1, List.length_drop, bs_length]
      by_cases h8 : 8 ≤ s.size - a
      · rw [if_pos h8]
        refine ⟨fun k' e => ?_, fun e => (by cases e)⟩
        simp only [Option.some.injEq] at e
        subst e
        exact wrest_ok1 W r x s a n p dp h hx hxr ha hs (by omega)
      · rw [if_neg h8]
        exact ⟨fun k e => (by cases e), fun _ => wrest_bad1 W r x s a n p dp h hx hxr ha hs (by omega)⟩
    by_cases t5 : t = 5
    · subst t5
      rw [rst_5, List.length_drop, bs_length]
      by_cases h8 : 4 ≤ s.size - a
      · rw [if_pos h8]
        refine ⟨fun k' e => ?_, fun e => (by cases e)⟩
        simp only [Option.some.injEq] at e
        subst e
        exact wrest_ok5 W r x s a n p dp h hx hxr ha hs (by omega)
      · rw [if_neg h8]
        exact ⟨fun k e => (by cases e), fun _ => wrest_bad5 W r x s a n p dp h hx hxr ha hs (by omega)⟩
    by_cases t2 : t = 2
    · subst t2
      rw [rst_2]
      cases hd : dec 0 ((bs s).drop a) with
      | inl c => exact ⟨fun k e => (by cases e), fun _ => wrest_bad2 W r x s a n p dp h hx hxr ha hs c hd⟩
      | inr q =>
        obtain ⟨v, k⟩ := q
        have hk := dec_pos _ _ _ _ hd
        rw [List.length_drop, bs_length] at hk
        simp only [List.length_drop, bs_length]
        by_cases hv : v ≤ s.size - a - k
        · rw [if_pos hv]
          refine ⟨fun k' e => ?_, fun e => (by cases e)⟩
          simp only [Option.some.injEq] at e
          subst e
          have e1 : numV 2 ((bs s).drop a) = 0 := rfl
          have e2 : st (strV 2 ((bs s).drop a)) = s.extract (a + k) (a + k + v) := by
            have e3 : strV 2 ((bs s).drop a) = (((bs s).drop a).drop k).take v := by unfold strV; rw [if_pos rfl, hd]
            rw [e3, List.drop_drop]
            apply bs_inj
            rw [bs_st _ (okB_take (okB_drop (bs_ok s) _) _), bs_extract, List.drop_take]
            congr 1
            omega
          rw [e1, e2]
          exact wrest_ok2 W r x s a n p dp h hx hxr ha hs v k hd (by omega)
        · rw [if_neg hv]
          exact ⟨fun k e => (by cases e), fun _ => wrest_bad2t W r x s a n p dp h hx hxr ha hs v k hd (by omega)⟩
    by_cases t3 : t = 3
    · subst t3
      rw [rst_3]
      have hG := grp_at s m hs IH W r n a dp h ha hm hd0 hd1
      have hgd : grpD dp n ((bs s).drop a) = if dp.toNat = 0 then none else grp (dp.toNat - 1) n ((bs s).drop a) := by
        unfold grpD
        by_cases hlow : dp < 1
        · rw [if_pos hlow, if_pos (by omega)]
        · rw [if_neg hlow, if_neg (by omega), show (dp - 1).toNat = dp.toNat - 1 by omega]
      rw [hgd] at hG
      exact ⟨fun k e => wrest_ok3 W r x s a n p dp h hx hxr ha hs (a + k) (hG.1 k e), fun e => wrest_bad3 W r x s a n p dp h hx hxr ha hs (hG.2 e)⟩
    · rw [rst_other t0 t1 t2 t3 t5]
      exact ⟨fun k e => (by cases e), fun _ => wrest_badx W r x s a n dp h ha t (by omega) (by omega) (by omega) (by omega) (by omega) p hp hx⟩
theorem record_ok (s : ByteArray) (hs : s.size ≤ 140737488351232) (W : World) (r a k : Nat) (R : RecL) (dp : Int) (h : RW W r s a .nilIface dp) (ha : a ≤ s.size) (hd0 : -9223372036854775808 ≤ dp) (hd1 : dp < 9223372036854775808) (hr : recL dp.toNat ((bs s).drop a) = some (R, k)) :
    Calls Tryd.prog 29 #[.pointer (some ⟨r, 0, none⟩)] W fun e w' => e = .returned (recV (R.num : Int) (R.type : Int) (R.n : Int) (st R.s) (st R.raw)) ∧ RW w' r s (a + k) .nilIface dp ∧ Kp (fun k => k = r) W w' := by
  have hle := recL_le hr
  rw [List.length_drop, bs_length] at hle
  cases ht : tagL ((bs s).drop a) with
  | none => rw [rec_none ht] at hr; cases hr
  | some q =>
    obtain ⟨m, t, k1⟩ := q
    obtain ⟨p1, p2, _⟩ := tagL_pos ht
    rw [List.length_drop, bs_length] at p2
    rw [rec_rst ht, List.drop_drop] at hr
    cases hrs : rst dp.toNat m t ((bs s).drop (a + k1)) with
    | none => rw [hrs] at hr; cases hr
    | some k2 =>
      rw [hrs] at hr
      simp only [Option.map_some, Option.some.injEq, Prod.mk.injEq] at hr
      obtain ⟨rfl, rfl⟩ := hr
      have hraw : st (((bs s).drop a).take (k1 + k2)) = s.extract a (a + (k1 + k2)) := by
        apply bs_inj
        rw [bs_st _ (okB_take (okB_drop (bs_ok s) _) _), bs_extract, List.drop_take]
        congr 1
        omega
      show Calls _ _ _ _ fun e w' => e = .returned (recV (m : Int) (t : Int) (numV t ((bs s).drop (a + k1)) : Int) (st (strV t ((bs s).drop (a + k1)))) (st (((bs s).drop a).take (k1 + k2)))) ∧ _
      rw [hraw]
      exact wrecord_ok W r s a m t k1 (a + (k1 + k2)) dp (numV t ((bs s).drop (a + k1)) : Int) (st (strV t ((bs s).drop (a + k1)))) h ha (by omega) (by omega) hs ht (fun W' x hW hx hxr => by
        have := (rest_all s hs (s.size - (a + k1)) W' r x m t (a + k1) a dp hW hx hxr (by omega) ha rfl hd0 hd1).1 k2 hrs
        rw [show a + (k1 + k2) = a + k1 + k2 by omega]
        exact this)
end Go.Proofs.YtklkiofhenhafaaDoor
namespace Go.Proofs.YtklkiofhenhafaaDoor
open Go.RowKit Go.Proofs.YtklkiofhenhafaaDoorW.PrintWords Go.Proofs.YtklkiofhenhafaaDoorW.PrintLast Go.Proofs.YtklkiofhenhafaaDoorW.PrintMore Hy

theorem IsE.xkp {w w' : World} {e : Err} {v : Value} {x' : Nat} {n t N : Int} {S raw : ByteArray} (hv : IsE w e v) (hx : XW w x' n t N S raw) (hk : Kp (fun k => k = x') w w') : IsE w' e v :=
  hv.kp hk (fun k c hc e => by
    subst e
    unfold XW at hx
    rw [hx] at hc
    injection hc with hc
    injection hc with _ hc
    exact absurd hc (by decide))
set_option maxHeartbeats 4000000 in
set_option maxRecDepth 100000 in
theorem wrecord_tagbad (w : World) (r : Nat) (s : ByteArray) (a : Nat) (dp : Int) (h : RW w r s a .nilIface dp) (ha : a ≤ s.size) (hs : s.size ≤ 140737488351232) (ht : tagL ((bs s).drop a) = none) :
    Calls Tryd.prog 29 #[.pointer (some ⟨r, 0, none⟩)] w fun e w' => e = .returned (recV 0 0 0 ByteArray.empty ByteArray.empty) ∧ WBad w r s dp w' := by
  have hq := blk_lt h
  have hr1 : RW (w.alloc (.cells #[.int .i64 0, .int .i64 0, .int .u64 0, .string ⟨#[]⟩, .string ⟨#[]⟩] 25)) r s a .nilIface dp := h.below ((Below.refl _ _).alloc (Nat.le_refl _) _)
  have hz1 : XW (w.alloc (.cells #[.int .i64 0, .int .i64 0, .int .u64 0, .string ⟨#[]⟩, .string ⟨#[]⟩] 25)) w.heap.size 0 0 0 ByteArray.empty ByteArray.empty := heap_alloc_new w _
  have hk1 : Kp (fun k => k = r) w (w.alloc (.cells #[.int .i64 0, .int .i64 0, .int .u64 0, .string ⟨#[]⟩, .string ⟨#[]⟩] 25)) := (Kp.refl _ w).alloc _
  have hsz : (w.alloc (.cells #[.int .i64 0, .int .i64 0, .int .u64 0, .string ⟨#[]⟩, .string ⟨#[]⟩] 25)).heap.size = w.heap.size + 1 := Array.size_push _
  have c1 := hr1.c1
  have HR1 := Aside0.mk hr1
  have HZ1 := Aside0.mk hz1
  have HK1 := Aside0.mk hk1
  have G := fun W (hW : RW W r s a .nilIface dp) => wtag_bad W r s a dp hW ha hs ht
  clear h ht hr1 hz1 hk1
  go_enter Tryd.func29, Tryd.ntmps29
  go_wp2_with fail
  generalize w.alloc (.cells #[.int .i64 0, .int .i64 0, .int .u64 0, .string ⟨#[]⟩, .string ⟨#[]⟩] 25) = W1 at *
  have hr2 : RW (W1.alloc (.cells #[.int .i64 0, .int .i64 0, .int .u64 0, .string ⟨#[]⟩, .string ⟨#[]⟩] 25)) r s a .nilIface dp := HR1.out.below ((Below.refl _ _).alloc (Nat.le_refl _) _)
  have hz2 : XW (W1.alloc (.cells #[.int .i64 0, .int .i64 0, .int .u64 0, .string ⟨#[]⟩, .string ⟨#[]⟩] 25)) W1.heap.size 0 0 0 ByteArray.empty ByteArray.empty := heap_alloc_new W1 _
  rw [hsz] at hz2
  have hz3 : XW (W1.alloc (.cells #[.int .i64 0, .int .i64 0, .int .u64 0, .string ⟨#[]⟩, .string ⟨#[]⟩] 25)) w.heap.size 0 0 0 ByteArray.empty ByteArray.empty := blk_below HZ1.out ((Below.refl _ _).alloc (Nat.le_refl _) _)
  have HK2 := Aside0.mk (HK1.out.alloc (.cells #[.int .i64 0, .int .i64 0, .int .u64 0, .string ⟨#[]⟩, .string ⟨#[]⟩] 25))
  have HZ2 := Aside0.mk hz2
  have HZ3 := Aside0.mk hz3
  clear hsz
  generalize hg : w.heap.size = g at *
  generalize hx : g + 1 = x at *
  refine (G _ hr2).mono ?_
  rintro e w2 ⟨m', t', _, _, rfl, a', T, v, E, ha', hr3, hu3, hE3, hk3⟩
  have hxr : x ≠ r := by omega
  have hgr : g ≠ r := by omega
  have hgx : g ≠ x := by omega
  have HX3 := Aside0.mk (HZ2.out.kp hk3 hxr)
  have HZ4 := Aside0.mk (HZ3.out.kp hk3 hgr)
  have HR3 := Aside0.mk hr3
  have HK3 := Aside0.mk (HK2.out.trans hk3)
  have q0 := HX3.out.c0
  have q1 := (HX3.out.set0 m').c1
  have f0 := HX3.out.fz 0
  have f1 := (HX3.out.set0 m').fz 1
  have hk4 : Kp (fun k => k = x) w2 ((w2.setCell ⟨x, 0, none⟩ (.int .i64 m')).setCell ⟨x, 1, none⟩ (.int .i64 t')) := (((Kp.refl (fun k => k = x) w2).set (p := ⟨x, 0, none⟩) rfl _)).set (p := ⟨x, 1, none⟩) rfl _
  have hr4 := hr3.kp hk4 (fun e => hxr e.symm)
  have q2 := hr4.c2
  have HR4 := Aside0.mk hr4
  have HX4 := Aside0.mk ((HX3.out.set0 m').set1 t')
  have HZ5 := Aside0.mk (HZ4.out.kp hk4 hgx)
  have HK4 := Aside0.mk hk4
  have hu4 := (hu3.xset HX3.out 0 (.int .i64 m')).xset (HX3.out.set0 m') 1 (.int .i64 t')
  have HU4 := Aside0.mk hu4
  clear hr2 hz2 hz3 hk3 hr3 hr4 hk4 hu3 hu4 c1 HZ2 HZ3 HX3 HZ4 HR1 HZ1 HK1 HK2 G HR3
  have hk5 : Kp (fun k => k = r ∨ w.heap.size ≤ k) w ((w2.setCell ⟨x, 0, none⟩ (.int .i64 m')).setCell ⟨x, 1, none⟩ (.int .i64 t')) := (HK3.out.mono (fun _ e => .inl e)).trans (HK4.out.mono (fun k e => .inr (by omega)))
  have HK7 := Aside0.mk hk5
  have HR7 := HR4
  have HZ7 := HZ5
  have HU7 := HU4
  have hE := hE3
  clear hk5 HR4 HZ5 HU4 HX4 HK4 HK3 q2 hE3
  have z0 := HZ7.out.c0
  have z1 := HZ7.out.c1
  have z2 := HZ7.out.c2
  have z3 := HZ7.out.c3
  have z4 := HZ7.out.c4
  have zf := fun i => HZ7.out.fz i
  have q2 := HR7.out.c2
  generalize hW7 : (w2.setCell ⟨x, 0, none⟩ (.int .i64 m')).setCell ⟨x, 1, none⟩ (.int .i64 t') = W7 at *
  go_wp2_with fail
  refine bodyPost_ret (results_cell_row rfl _ _ g 25 #[.int .i64 0, .int .i64 0, .int .u64 0, .string ByteArray.empty, .string ByteArray.empty] (0, 0) _ rfl (HZ7.out.all 0 0 0 ByteArray.empty ByteArray.empty) Tryd.underlying25 rfl (by kernel_rfl)) rfl ?_
  have hk7 := kp_all W7 g (.int .i64 0) (.int .i64 0) (.int .u64 0) (.string ByteArray.empty) (.string ByteArray.empty)
  refine ⟨rfl, a', T, v, E, ha', HR7.out.kp hk7 (fun e => hgr e.symm), HU7.out.xkp HZ7.out hk7, hE, ?_⟩
  have hk9 : Kp (fun k => k = r ∨ w.heap.size ≤ k) w _ := HK7.out.trans (hk7.mono (fun k e => .inr (by omega)))
  exact ⟨hk9.os, hk9.tape, hk9.output, hk9.size, fun k hk hn => hk9.block k hk (fun e => e.elim hn (fun e => absurd e (Nat.not_le.2 hk)))⟩
set_option maxHeartbeats 4000000 in
set_option maxRecDepth 100000 in
theorem wrecord_restbad (w : World) (r : Nat) (s : ByteArray) (a : Nat) (dp : Int) (h : RW w r s a .nilIface dp) (ha : a ≤ s.size) (hs : s.size ≤ 140737488351232) (n t k : Nat) (ht : tagL ((bs s).drop a) = some (n, t, k))
    (HQ : ∀ W x, RW W r s (a + k) .nilIface dp → XW W x n t 0 ByteArray.empty ByteArray.empty → x ≠ r → Calls Tryd.prog 43 #[.pointer (some ⟨r, 0, none⟩), .pointer (some ⟨x, 0, none⟩), .int .i64 (a : Int)] W (RBad W r x s dp)) :
    Calls Tryd.prog 29 #[.pointer (some ⟨r, 0, none⟩)] w fun e w' => e = .returned (recV 0 0 0 ByteArray.empty ByteArray.empty) ∧ WBad w r s dp w' := by
  have hq := blk_lt h
  have hr1 : RW (w.alloc (.cells #[.int .i64 0, .int .i64 0, .int .u64 0, .string ⟨#[]⟩, .string ⟨#[]⟩] 25)) r s a .nilIface dp := h.below ((Below.refl _ _).alloc (Nat.le_refl _) _)
  have hz1 : XW (w.alloc (.cells #[.int .i64 0, .int .i64 0, .int .u64 0, .string ⟨#[]⟩, .string ⟨#[]⟩] 25)) w.heap.size 0 0 0 ByteArray.empty ByteArray.empty := heap_alloc_new w _
  have hk1 : Kp (fun k => k = r) w (w.alloc (.cells #[.int .i64 0, .int .i64 0, .int .u64 0, .string ⟨#[]⟩, .string ⟨#[]⟩] 25)) := (Kp.refl _ w).alloc _
  have hsz : (w.alloc (.cells #[.int .i64 0, .int .i64 0, .int .u64 0, .string ⟨#[]⟩, .string ⟨#[]⟩] 25)).heap.size = w.heap.size + 1 := Array.size_push _
  have c1 := hr1.c1
  have HR1 := Aside0.mk hr1
  have HZ1 := Aside0.mk hz1
  have HK1 := Aside0.mk hk1
  have G := fun W (hW : RW W r s a .nilIface dp) => wtag_ok W r s a n t k dp hW ha hs ht
  have HG := Aside0.mk HQ
  clear h ht HQ hr1 hz1 hk1
  go_enter Tryd.func29, Tryd.ntmps29
  go_wp2_with fail
  generalize w.alloc (.cells #[.int .i64 0, .int .i64 0, .int .u64 0, .string ⟨#[]⟩, .string ⟨#[]⟩] 25) = W1 at *
  have hr2 : RW (W1.alloc (.cells #[.int .i64 0, .int .i64 0, .int .u64 0, .string ⟨#[]⟩, .string ⟨#[]⟩] 25)) r s a .nilIface dp := HR1.out.below ((Below.refl _ _).alloc (Nat.le_refl _) _)
  have hz2 : XW (W1.alloc (.cells #[.int .i64 0, .int .i64 0, .int .u64 0, .string ⟨#[]⟩, .string ⟨#[]⟩] 25)) W1.heap.size 0 0 0 ByteArray.empty ByteArray.empty := heap_alloc_new W1 _
  rw [hsz] at hz2
  have hz3 : XW (W1.alloc (.cells #[.int .i64 0, .int .i64 0, .int .u64 0, .string ⟨#[]⟩, .string ⟨#[]⟩] 25)) w.heap.size 0 0 0 ByteArray.empty ByteArray.empty := blk_below HZ1.out ((Below.refl _ _).alloc (Nat.le_refl _) _)
  have HK2 := Aside0.mk (HK1.out.alloc (.cells #[.int .i64 0, .int .i64 0, .int .u64 0, .string ⟨#[]⟩, .string ⟨#[]⟩] 25))
  have HZ2 := Aside0.mk hz2
  have HZ3 := Aside0.mk hz3
  clear hsz
  generalize hg : w.heap.size = g at *
  generalize hx : g + 1 = x at *
  refine (G _ hr2).mono ?_
  rintro e w2 ⟨rfl, hr3, hk3⟩
  have hxr : x ≠ r := by omega
  have hgr : g ≠ r := by omega
  have hgx : g ≠ x := by omega
  have HX3 := Aside0.mk (HZ2.out.kp hk3 hxr)
  have HZ4 := Aside0.mk (HZ3.out.kp hk3 hgr)
  have HR3 := Aside0.mk hr3
  have HK3 := Aside0.mk (HK2.out.trans hk3)
  have q0 := HX3.out.c0
  have q1 := (HX3.out.set0 (n : Int)).c1
  have f0 := HX3.out.fz 0
  have f1 := (HX3.out.set0 (n : Int)).fz 1
  have hk4 : Kp (fun k => k = x) w2 ((w2.setCell ⟨x, 0, none⟩ (.int .i64 (n : Int))).setCell ⟨x, 1, none⟩ (.int .i64 (t : Int))) := (((Kp.refl (fun k => k = x) w2).set (p := ⟨x, 0, none⟩) rfl _)).set (p := ⟨x, 1, none⟩) rfl _
  have hr4 := hr3.kp hk4 (fun e => hxr e.symm)
  have q2 := hr4.c2
  have HR4 := Aside0.mk hr4
  have HX4 := Aside0.mk ((HX3.out.set0 (n : Int)).set1 (t : Int))
  have HZ5 := Aside0.mk (HZ4.out.kp hk4 hgx)
  have HK4 := Aside0.mk hk4
  clear hr2 hz2 hz3 hk3 hr3 hr4 hk4 c1 HZ2 HZ3 HX3 HZ4 HR1 HZ1 HK1 HK2 G HR3
  go_wp2_with fail
  generalize (w2.setCell ⟨x, 0, none⟩ (.int .i64 (n : Int))).setCell ⟨x, 1, none⟩ (.int .i64 (t : Int)) = W4 at *
  refine (HG.out W4 x HR4.out HX4.out hxr).mono ?_
  rintro e W7 ⟨rfl, a', T, v, E, ha', hr5, hu5, hE, hk5⟩
  have HR7 := Aside0.mk hr5
  have HU7 := Aside0.mk hu5
  have HZ7 := Aside0.mk (HZ5.out.kp hk5 (fun e => e.elim hgr hgx))
  have hk6 : Kp (fun k => k = r ∨ w.heap.size ≤ k) w W7 := ((HK3.out.mono (fun _ e => .inl e)).trans (HK4.out.mono (fun k e => .inr (by omega)))).trans (hk5.mono (fun k e => e.elim .inl (fun e => .inr (by omega))))
  have HK7 := Aside0.mk hk6
  clear hr5 hu5 hk5 hk6 q0 q1 f0 f1 HG HR4 HX4 HZ5 HK4 HK3
  have z0 := HZ7.out.c0
  have z1 := HZ7.out.c1
  have z2 := HZ7.out.c2
  have z3 := HZ7.out.c3
  have z4 := HZ7.out.c4
  have zf := fun i => HZ7.out.fz i
  have q2 := HR7.out.c2
  go_wp2_with fail
  refine bodyPost_ret (results_cell_row rfl _ _ g 25 #[.int .i64 0, .int .i64 0, .int .u64 0, .string ByteArray.empty, .string ByteArray.empty] (0, 0) _ rfl (HZ7.out.all 0 0 0 ByteArray.empty ByteArray.empty) Tryd.underlying25 rfl (by kernel_rfl)) rfl ?_
  have hk7 := kp_all W7 g (.int .i64 0) (.int .i64 0) (.int .u64 0) (.string ByteArray.empty) (.string ByteArray.empty)
  refine ⟨rfl, a', T, v, E, ha', HR7.out.kp hk7 (fun e => hgr e.symm), HU7.out.xkp HZ7.out hk7, hE, ?_⟩
  have hk9 : Kp (fun k => k = r ∨ w.heap.size ≤ k) w _ := HK7.out.trans (hk7.mono (fun k e => .inr (by omega)))
  exact ⟨hk9.os, hk9.tape, hk9.output, hk9.size, fun k hk hn => hk9.block k hk (fun e => e.elim hn (fun e => absurd e (Nat.not_le.2 hk)))⟩
end Go.Proofs.YtklkiofhenhafaaDoor
namespace Go.Proofs.YtklkiofhenhafaaDoor
open Go.RowKit Go.Proofs.YtklkiofhenhafaaDoorW.PrintWords Go.Proofs.YtklkiofhenhafaaDoorW.PrintLast Go.Proofs.YtklkiofhenhafaaDoorW.PrintMore Hy

theorem record_bad (s : ByteArray) (hs : s.size ≤ 140737488351232) (W : World) (r a : Nat) (dp : Int) (h : RW W r s a .nilIface dp) (ha : a ≤ s.size) (hd0 : -9223372036854775808 ≤ dp) (hd1 : dp < 9223372036854775808) (hr : recL dp.toNat ((bs s).drop a) = none) :
    Calls Tryd.prog 29 #[.pointer (some ⟨r, 0, none⟩)] W fun e w' => e = .returned (recV 0 0 0 ByteArray.empty ByteArray.empty) ∧ WBad W r s dp w' := by
  cases ht : tagL ((bs s).drop a) with
  | none => exact wrecord_tagbad W r s a dp h ha hs ht
  | some q =>
    obtain ⟨m, t, k1⟩ := q
    obtain ⟨p1, p2, _⟩ := tagL_pos ht
    rw [List.length_drop, bs_length] at p2
    rw [rec_rst ht, List.drop_drop] at hr
    cases hrs : rst dp.toNat m t ((bs s).drop (a + k1)) with
    | some k2 => rw [hrs] at hr; cases hr
    | none =>
      exact wrecord_restbad W r s a dp h ha hs m t k1 ht (fun W' x hW hx hxr => (rest_all s hs (s.size - (a + k1)) W' r x m t (a + k1) a dp hW hx hxr (by omega) ha rfl hd0 hd1).2 hrs)

/-! ### rows of records -/
def recC (x : RecL) : List Value := [.int .i64 (x.num : Int), .int .i64 (x.type : Int), .int .u64 (x.n : Int), .string (st x.s), .string (st x.raw)]
def Rc : Kd RecL := Kd.iso (Kd.raw 5) recC
theorem recC_one (x : RecL) : ∀ u ∈ recC x, u.oneCell' = true := by
  intro u hu
  simp only [recC, List.mem_cons, List.not_mem_nil, or_false] at hu
  rcases hu with rfl | rfl | rfl | rfl | rfl <;> rfl
theorem info_rec : (Tryd.prog.info? 25).map (fun i => (i.zero, i.size, i.bytes)) = some (some (.agg #[.int .i64 0, .int .i64 0, .int .u64 0, .string ⟨#[]⟩, .string ⟨#[]⟩]), 5, 56) := by kernel_rfl
theorem rc_sz : Rc.sz = 5 := rfl
theorem info_rc : (Tryd.prog.info? 25).map (fun i => (i.zero, i.size, i.bytes)) = some (some (.agg #[.int .i64 0, .int .i64 0, .int .u64 0, .string ⟨#[]⟩, .string ⟨#[]⟩]), Rc.sz, 56) := by rw [rc_sz]; exact info_rec
theorem zero_rc : (Value.agg #[.int .i64 0, .int .i64 0, .int .u64 0, .string ⟨#[]⟩, .string ⟨#[]⟩]).cells.size = Rc.sz := by rw [rc_sz]; kernel_rfl
theorem rc_pos : 0 < Rc.sz := by rw [rc_sz]; decide
theorem rc_M (w : World) (base : Nat) (R : RecL) (f0 f1 f2 : Int) (f3 f4 : ByteArray) (h : recC R = [.int .i64 f0, .int .i64 f1, .int .u64 f2, .string f3, .string f4]) : Rc.M w base (fun _ => False) R [.int .i64 f0, .int .i64 f1, .int .u64 f2, .string f3, .string f4] := ⟨h.symm, rfl, by have := recC_one R; rwa [h] at this⟩
def AllOk (s : ByteArray) (dp : Int) (w : World) (e : Ending) (w' : World) : Prop :=
  (∃ L A c, recsL dp.toNat (bs s) = some L ∧ e = .returned (.tuple #[.slice A L.length c, .nilIface]) ∧ Kd.C Rc w' A L.length L ∧ L.length ≤ c ∧ Below w.heap.size w w') ∨
  (recsL dp.toNat (bs s) = none ∧ ∃ T v E, e = .returned (.tuple #[.slice none 0 0, .iface T v]) ∧ IsE w' E (.iface T v) ∧ WE s E ∧ Below w.heap.size w w')
set_option maxHeartbeats 4000000 in
set_option maxRecDepth 100000 in
theorem wall_any (w : World) (s : ByteArray) (dp : Int) (hs : s.size ≤ 100000) (hd0 : -9223372036854775808 ≤ dp) (hd1 : dp < 9223372036854775808) :
    Calls Tryd.prog 12 #[.string s, .int .i64 dp] w (AllOk s dp w) := by
  have HB0 := Aside0.mk (Below.refl w.heap.size w)
  go_enter Tryd.func12, Tryd.ntmps12
  go_wp2_with fail
  have hr1 : RW (w.alloc (.cells #[.string s, .int .i64 0, .nilIface, .int .i64 dp] 63)) w.heap.size s 0 .nilIface dp := heap_alloc_new w _
  have HB1 := Aside0.mk (HB0.out.alloc (Nat.le_refl _) (.cells #[.string s, .int .i64 0, .nilIface, .int .i64 dp] 63))
  have HR1 := Aside0.mk hr1
  clear hr1 HB0
  generalize w.alloc (.cells #[.string s, .int .i64 0, .nilIface, .int .i64 dp] 63) = W1 at *
  generalize hrr : w.heap.size = r at HR1 ⊢
  have HRR := Aside0.mk hrr
  clear hrr
  go_loopg [6] s.size (fun kq v6 w' => ∃ (D : List RecL) (A : Option Addr) (c b : Nat), v6 = .slice A D.length c ∧ b ≤ s.size ∧ kq = s.size - b ∧ D.length ≤ b ∧ Aside0 (RW w' r s b .nilIface dp) ∧ Aside0 (Kd.R Rc 25 w' w.heap.size (fun k => k ≠ r) (.slice A D.length c) D) ∧ Aside0 (Below w.heap.size w w') ∧ Aside0 (recsL dp.toNat (bs s) = (recsL dp.toNat ((bs s).drop b)).map (D ++ ·)))
  case atStart => exact ⟨[], none, 0, 0, rfl, Nat.zero_le _, by omega, Nat.le_refl _, HR1, ⟨Kd.R_nil _ _ _ _ _⟩, HB1, ⟨by rw [List.drop_zero]; cases recsL dp.toNat (bs s) <;> simp⟩⟩
  case round =>
    clear HR1 HB1
    obtain ⟨D, A, c, b, rfl, hb, hkq, hDb, HR, HO, HB, HL⟩ := hrel
    have q1 := HR.out.c1
    have HKQ := Aside0.mk hkq
    clear hkq
    by_cases hlt : b < s.size
    · have d1 : (b : Int) < (s.size : Int) := by omega
      have hne : (bs s).drop b ≠ [] := by
        intro e
        have := congrArg List.length e
        rw [List.length_drop, bs_length] at this
        simp at this
        omega
      cases hrec : recL dp.toNat ((bs s).drop b) with
      | none =>
        have HN := Aside0.mk (show recsL dp.toNat (bs s) = none by rw [HL.out, recsL_step _ _ hne, hrec]; rfl)
        have G := record_bad s (by omega) wr r b dp HR.out hb hd0 hd1 hrec
        clear hrec hne
        go_wp2_with fail
        refine G.mono ?_
        rintro e w2 ⟨rfl, a', T, v, E, ha', hr2, hu2, hE2, hk2⟩
        unfold recV
        have HR2 := Aside0.mk hr2
        have HU2 := Aside0.mk hu2
        have HB2 := Aside0.mk (HB.out.trans (hk2.toBelow HB.out.size (fun k e => by rw [e, HRR.out]; exact Nat.le_refl r)))
        clear hr2 hu2 hk2 G HB HO HR q1
        go_wp2_with (first
          | ((with_reducible refine gate_dst (N := 8) rfl ?_); refine box_event ?hg (N := 8) ?hd (cs := #[.int .i64 0, .int .i64 0, .int .u64 0, .string ⟨#[]⟩, .string ⟨#[]⟩]) (t := 25) ?hr ?_; (case hd => rfl); (case hg => rfl); (case hr => first | (go_simp; done) | (go_simp; rfl)); intro x hx w4 hx4 hb4
             have hx4 : XW w4 x 0 0 0 ByteArray.empty ByteArray.empty := hx4
             have hlt2 := blk_lt HR2.out
             have hxr : x ≠ r := by omega
             have hbx : w.heap.size ≤ x := by have := HB2.out.size; omega
             clear hx
             have HR4 := Aside0.mk (HR2.out.below hb4)
             have hu4 := HU2.out.below hb4
             have HB4 := Aside0.mk (HB2.out.trans (hb4.mono HB2.out.size))
             have z0 := hx4.c0
             have z1 := hx4.c1
             have z2 := hx4.c2
             have z3 := hx4.c3
             have z4 := hx4.c4
             have zf := fun i => hx4.fz i
             have k5 := kp_all w4 x (.int .i64 0) (.int .i64 0) (.int .u64 0) (.string ByteArray.empty) (.string ByteArray.empty)
             have hr5 := HR4.out.kp k5 (fun e => hxr e.symm)
             have HB5 := Aside0.mk (HB4.out.trans (k5.toBelow HB4.out.size (fun k e => by rw [e]; exact hbx)))
             have HU5 := Aside0.mk (hu4.xkp hx4 k5)
             have q2 := hr5.c2
             clear hx4 k5 hr5 hb4 hu4))
        go_quiet (fail)
        go_wp2_with fail
        go_ret2
        exact .inr ⟨HN.out, T, v, E, rfl, HU5.out.below (by apply pw_below_drewN; exact Below.refl _ _), hE2, by rw [HRR.out]; have h := HB5.out; rw [HRR.out] at h; apply pw_below_drewN; exact h⟩
      | some q =>
        obtain ⟨R, k⟩ := q
        obtain ⟨hk1, hk2, _, _⟩ := recL_le hrec
        rw [List.length_drop, bs_length] at hk2
        have HN := Aside0.mk (show recsL dp.toNat (bs s) = (recsL dp.toNat ((bs s).drop (b + k))).map ((D ++ [R]) ++ ·) by
          rw [HL.out, recsL_step _ _ hne, hrec]
          show Option.map _ (match recsL dp.toNat (((bs s).drop b).drop k) with | none => none | some l => some (R :: l)) = _
          rw [List.drop_drop]
          cases recsL dp.toNat ((bs s).drop (b + k)) with
          | none => rfl
          | some l => simp)
        have G := record_ok s (by omega) wr r b k R dp HR.out hb hd0 hd1 hrec
        have hC : recC R = [.int .i64 (R.num : Int), .int .i64 (R.type : Int), .int .u64 (R.n : Int), .string (st R.s), .string (st R.raw)] := rfl
        generalize (R.num : Int) = f0 at *
        generalize (R.type : Int) = f1 at *
        generalize (R.n : Int) = f2 at *
        generalize st R.s = f3 at *
        generalize st R.raw = f4 at *
        have HC := Aside0.mk hC
        clear hrec hne hC
        go_wp2_with fail
        refine G.mono ?_
        rintro e w2 ⟨rfl, hr2, hk2⟩
        unfold recV
        have HR2 := Aside0.mk hr2
        have HB2 := Aside0.mk (HB.out.trans (hk2.toBelow HB.out.size (fun k e => by rw [e, HRR.out]; exact Nat.le_refl r)))
        have HO2 := Aside0.mk (hk2.row HO.out (fun k hk => hk))
        clear hr2 hk2 G HB HO HR q1
        go_wp2_with (first
          | ((with_reducible refine gate_dst (N := 8) rfl ?_); refine box_event ?hg (N := 8) ?hd (cs := #[.int .i64 0, .int .i64 0, .int .u64 0, .string ⟨#[]⟩, .string ⟨#[]⟩]) (t := 25) ?hr ?_; (case hd => rfl); (case hg => rfl); (case hr => first | (go_simp; done) | (go_simp; rfl)); intro x hx w4 hx4 hb4
             have hx4 : XW w4 x 0 0 0 ByteArray.empty ByteArray.empty := hx4
             have hlt2 := blk_lt HR2.out
             have hxr : x ≠ r := by omega
             have hbx : w.heap.size ≤ x := by have := HB2.out.size; omega
             have hxw : w2.heap.size ≤ x := by omega
             clear hx
             have HR4 := Aside0.mk (HR2.out.below hb4)
             have HB4 := Aside0.mk (HB2.out.trans (hb4.mono HB2.out.size))
             have ho4 := Kd.R_below (Kd.R_bound HO2.out) hb4
             have z0 := hx4.c0
             have z1 := hx4.c1
             have z2 := hx4.c2
             have z3 := hx4.c3
             have z4 := hx4.c4
             have zf := fun i => hx4.fz i
             have k5 := kp_all w4 x (.int .i64 f0) (.int .i64 f1) (.int .u64 f2) (.string f3) (.string f4)
             have hr5 := HR4.out.kp k5 (fun e => hxr e.symm)
             have hx5 := hx4.all f0 f1 f2 f3 f4
             have HB5 := Aside0.mk (HB4.out.trans (k5.toBelow HB4.out.size (fun k e => by rw [e]; exact hbx)))
             have HR5 := Aside0.mk hr5
             have HO5 := Aside0.mk (Kd.R_mono (k5.row ho4 (fun k hk e => by have := hk.2.2.1; omega)) (fun k hk => hk.1))
             have hlt5 := blk_lt hr5
             have HRL := Aside0.mk hlt5
             have q2 := hr5.c2
             have HX5 := Aside0.mk hx5
             clear hx4 k5 hr5 hx5 hb4 ho4 hlt5)
          | ((with_reducible refine gate_dst (N := 32) rfl ?_); refine wpList_load_row rfl 25 (.tmp 8) rfl x rfl 25 #[.int .i64 f0, .int .i64 f1, .int .u64 f2, .string f3, .string f4] (0, 0) _ HX5.out Tryd.underlying25 rfl (by kernel_rfl) ?_; generalize ((((w4.setCell ⟨x, 0, none⟩ (.int .i64 f0)).setCell ⟨x, 1, none⟩ (.int .i64 f1)).setCell ⟨x, 2, none⟩ (.int .u64 f2)).setCell ⟨x, 3, none⟩ (.string f3)).setCell ⟨x, 4, none⟩ (.string f4) = w5 at *)
          | ((with_reducible refine gate_builtin (b := .append) (xs := #[.tmp 31, .tmp 33]) rfl ?_); at_builtin; refine Kd.R_append Rc (w0 := w) w.heap.size rfl (.tmp 31) (.tmp 33) 37 25 (.agg #[.int .i64 0, .int .i64 0, .int .u64 0, .string ⟨#[]⟩, .string ⟨#[]⟩]) 56 rfl Tryd.underlying37 info_rc zero_rc rc_pos (by decide) (.slice A D.length c) D R [.int .i64 f0, .int .i64 f1, .int .u64 f2, .string f3, .string f4] (fun k => k ≠ r) (fun _ => False) rfl rfl ?aP (fun _ hk => hk.elim) ?aF ?aO ?aB ?aS ?aL ?_; (case aP => exact rc_M _ _ R _ _ _ _ _ HC.out); (case aB => exact HB5.out); (case aF => exact (fun k hk e => by have := HRL.out; omega)); (case aO => exact HO5.out); (case aS => exact HB5.out.size); (case aL => omega)
             intro va wa ho hb hg hat
             have HB6 := Aside0.mk hb
             have HR6 := Aside0.mk (HR5.out.grown hg HO5.out.1)
             obtain ⟨A', c', hva⟩ := Kd.R_slice ho
             subst hva
             have HO6 := Aside0.mk ho
             clear ho hb hg hat))
        have hlD : (D ++ [R]).length = D.length + 1 := by simp
        go_roundg (s.size - (b + k))
        case measure => have := HKQ.out; omega
        case rel => exact ⟨D ++ [R], A', c', b + k, by rw [hlD], by omega, rfl, by rw [hlD]; omega, HR6, HO6, HB6, HN⟩
    · have hbe : b = s.size := by omega
      have hd : (bs s).drop b = [] := List.drop_of_length_le (by rw [bs_length]; omega)
      have HN := Aside0.mk (show recsL dp.toNat (bs s) = some D by rw [HL.out, hd, recsL_nil]; simp)
      have d1 : ¬ (b : Int) < (s.size : Int) := by omega
      clear hbe hd hlt
      obtain ⟨hC, _, hc⟩ := R_Cw HO.out
      have HC := Aside0.mk hC
      have Hc := Aside0.mk hc
      clear hC hc
      go_wp2_with fail
      go_ret2
      exact .inl ⟨D, A, c, HN.out, rfl, HC.out, Hc.out, by rw [HRR.out]; have := HB.out; rwa [HRR.out] at this⟩
end Go.Proofs.YtklkiofhenhafaaDoor
namespace Go.Proofs.YtklkiofhenhafaaDoor.Hy

/-! ### more behind, cut off -/
theorem dec_pre : ∀ (b : List Nat) (i v k : Nat) (c : List Nat), dec i b = .inr (v, k) → dec i (b ++ c) = .inr (v, k) := by
  intro b
  induction b with
  | nil => intro i v k c h; rw [dec_nil] at h; cases h
  | cons x r ih =>
    intro i v k c h
    by_cases h9 : i = 9 ∧ 1 < x
    · obtain ⟨rfl, hx⟩ := h9
      rw [dec_big x r hx] at h; cases h
    · by_cases hx : x < 128
      · rw [dec_end i x r h9 hx] at h
        rw [List.cons_append, dec_end i x (r ++ c) h9 hx]
        exact h
      · rw [dec_on i x r h9 hx] at h
        rw [List.cons_append, dec_on i x (r ++ c) h9 hx]
        cases hd : dec (i + 1) r with
        | inl y => rw [hd] at h; cases h
        | inr y =>
          obtain ⟨v', k'⟩ := y
          rw [hd] at h
          rw [ih _ _ _ c hd]
          exact h
theorem tag_pre {b : List Nat} {n t k : Nat} (c : List Nat) (h : tagL b = some (n, t, k)) : tagL (b ++ c) = some (n, t, k) := by
  unfold tagL at *
  cases hd : dec 0 b with
  | inl y => rw [hd] at h; cases h
  | inr y =>
    obtain ⟨v, k'⟩ := y
    rw [hd] at h
    rw [dec_pre _ _ _ _ c hd]
    exact h
theorem rst_pre {b c : List Nat} {d n t k : Nat} (hG : ∀ d n k, grp d n b = some k → grp d n (b ++ c) = some k) (h : rst d n t b = some k) : rst d n t (b ++ c) = some k ∧ numV t (b ++ c) = numV t b ∧ strV t (b ++ c) = strV t b ∧ 1 ≤ k := by
  by_cases t0 : t = 0
  · subst t0
    rw [rst_0] at *
    cases hd : dec 0 b with
    | inl y => rw [hd] at h; cases h
    | inr y =>
      obtain ⟨v, k'⟩ := y
      have hp := dec_pre _ _ _ _ c hd
      have hk := dec_pos _ _ _ _ hd
      rw [hd] at h
      simp only [Option.some.injEq] at h
      subst h
      rw [hp]
      refine ⟨rfl, ?_, rfl, hk.1⟩
      unfold numV
      rw [if_pos rfl, if_pos rfl, hd, hp]
  by_cases t1 : t = 1
  · subst t1
    rw [rst_1] at *
    by_cases h8 : 8 ≤ b.length
    · rw [if_pos h8] at h
      rw [if_pos (by rw [List.length_append]; omega)]
      refine ⟨h, ?_, rfl, by injection h; omega⟩
      show little ((b ++ c).take 8) = little (b.take 8)
      rw [List.take_append_of_le_length h8]
    · rw [if_neg h8] at h; cases h
  by_cases t5 : t = 5
  · subst t5
    rw [rst_5] at *
    by_cases h8 : 4 ≤ b.length
    · rw [if_pos h8] at h
      rw [if_pos (by rw [List.length_append]; omega)]
      refine ⟨h, ?_, rfl, by injection h; omega⟩
      show little ((b ++ c).take 4) = little (b.take 4)
      rw [List.take_append_of_le_length h8]
    · rw [if_neg h8] at h; cases h
  by_cases t2 : t = 2
  · subst t2
    rw [rst_2] at *
    cases hd : dec 0 b with
    | inl y => rw [hd] at h; cases h
    | inr y =>
      obtain ⟨v, k'⟩ := y
      have hp := dec_pre _ _ _ _ c hd
      have hk := dec_pos _ _ _ _ hd
      rw [hd] at h
      rw [hp]
      simp only at h ⊢
      by_cases hv : v ≤ b.length - k'
      · rw [if_pos hv] at h
        rw [if_pos (by rw [List.length_append]; omega)]
        refine ⟨h, rfl, ?_, by injection h; omega⟩
        unfold strV
        rw [if_pos rfl, if_pos rfl, hd, hp]
        simp only
        rw [List.drop_append_of_le_length hk.2, List.take_append_of_le_length (by rw [List.length_drop]; omega)]
      · rw [if_neg hv] at h; cases h
  by_cases t3 : t = 3
  · subst t3
    rw [rst_3] at *
    by_cases hd : d = 0
    · rw [if_pos hd] at h; cases h
    · rw [if_neg hd] at h
      rw [if_neg hd]
      exact ⟨hG _ _ _ h, rfl, rfl, (grp_le h).1⟩
  · rw [rst_other t0 t1 t2 t3 t5] at h; cases h
theorem grp_pre : ∀ (m : Nat) (b c : List Nat) (d n k : Nat), b.length = m → grp d n b = some k → grp d n (b ++ c) = some k := by
  intro m
  induction m using Nat.strongRecOn with
  | ind m ih =>
    intro b c d n k hm h
    cases ht : tagL b with
    | none => rw [grp_none ht] at h; cases h
    | some q =>
      obtain ⟨m', t, k1⟩ := q
      obtain ⟨p1, p2, _⟩ := tagL_pos ht
      have hp := tag_pre c ht
      by_cases h4 : t = 4
      · subst h4
        rw [grp_end ht] at h
        rw [grp_end hp]
        exact h
      · have hdk : (b ++ c).drop k1 = b.drop k1 ++ c := List.drop_append_of_le_length p2
        cases hr : rst d m' t (b.drop k1) with
        | none => rw [grp_fall ht h4 hr] at h; cases h
        | some k2 =>
          have hk2 := rst_le hr
          rw [List.length_drop] at hk2
          have hr2 := (rst_pre (c := c) (fun d n k e => ih (b.drop k1).length (by rw [List.length_drop]; omega) (b.drop k1) c d n k rfl e) hr).1
          rw [← hdk] at hr2
          rw [grp_on ht h4 hr] at h
          rw [grp_on hp h4 hr2]
          have hdk2 : (b ++ c).drop (k1 + k2) = b.drop (k1 + k2) ++ c := List.drop_append_of_le_length (by omega)
          cases hg : grp d n (b.drop (k1 + k2)) with
          | none => rw [hg] at h; cases h
          | some k3 =>
            rw [hg] at h
            rw [hdk2, ih (b.drop (k1 + k2)).length (by rw [List.length_drop]; omega) (b.drop (k1 + k2)) c d n k3 rfl hg]
            exact h
theorem rec_pre {b : List Nat} {d k : Nat} {R : RecL} (c : List Nat) (h : recL d b = some (R, k)) : recL d (b ++ c) = some (R, k) ∧ 2 ≤ k := by
  cases ht : tagL b with
  | none => rw [rec_none ht] at h; cases h
  | some q =>
    obtain ⟨m, t, k1⟩ := q
    obtain ⟨p1, p2, _⟩ := tagL_pos ht
    have hdk : (b ++ c).drop k1 = b.drop k1 ++ c := List.drop_append_of_le_length p2
    rw [rec_rst ht] at h
    rw [rec_rst (tag_pre c ht), hdk]
    cases hr : rst d m t (b.drop k1) with
    | none => rw [hr] at h; cases h
    | some k2 =>
      have hk2 := rst_le hr
      rw [List.length_drop] at hk2
      obtain ⟨e1, e2, e3, e4⟩ := rst_pre (c := c) (fun d n k e => grp_pre _ (b.drop k1) c d n k rfl e) hr
      rw [hr] at h
      simp only [Option.map_some, Option.some.injEq, Prod.mk.injEq] at h
      obtain ⟨rfl, rfl⟩ := h
      refine ⟨?_, by omega⟩
      rw [e1, e2, e3]
      simp only [Option.map_some]
      rw [List.take_append_of_le_length (by omega)]
theorem recs_step {d : Nat} {b : List Nat} {L : List RecL} (h : recsL d b = some L) : (b = [] ∧ L = []) ∨ ∃ R k L', recL d b = some (R, k) ∧ recsL d (b.drop k) = some L' ∧ L = R :: L' ∧ 2 ≤ k ∧ k ≤ b.length ∧ R.raw = b.take k ∧ R.raw.length = k := by
  by_cases hb : b = []
  · subst hb
    rw [recsL_nil] at h
    injection h with h
    exact .inl ⟨rfl, h.symm⟩
  · rw [recsL_step d b hb] at h
    cases hr : recL d b with
    | none => rw [hr] at h; cases h
    | some q =>
      obtain ⟨R, k⟩ := q
      rw [hr] at h
      simp only at h
      have hle := recL_le hr
      have h2 := (rec_pre [] hr).2
      cases hs : recsL d (b.drop k) with
      | none => rw [hs] at h; cases h
      | some L' =>
        rw [hs] at h
        simp only [Option.some.injEq] at h
        exact .inr ⟨R, k, L', rfl, hs, h.symm, h2, hle.2.1, hle.2.2.1, hle.2.2.2⟩
theorem recs_pre (c : List Nat) : ∀ (m : Nat) (b : List Nat) (d : Nat) (L : List RecL), b.length = m → recsL d b = some L → recsL d (b ++ c) = (recsL d c).map (L ++ ·) := by
  intro m
  induction m using Nat.strongRecOn with
  | ind m ih =>
    intro b d L hm h
    rcases recs_step h with ⟨rfl, rfl⟩ | ⟨R, k, L', hr, hs, rfl, h2, hk, _, _⟩
    · rw [List.nil_append]
      cases recsL d c <;> simp
    · have hne : b ++ c ≠ [] := by intro e; have := congrArg List.length e; rw [List.length_append, List.length_nil] at this; omega
      rw [recsL_step d _ hne, (rec_pre c hr).1]
      simp only
      rw [List.drop_append_of_le_length hk, ih (b.drop k).length (by rw [List.length_drop]; omega) (b.drop k) d L' rfl hs]
      cases recsL d c <;> simp
def raws (L : List RecL) : List Nat := L.flatMap fun R => R.raw
theorem raw_le : ∀ (L : List RecL) (R : RecL), R ∈ L → R.raw.length ≤ (raws L).length := by
  intro L
  induction L with
  | nil => intro R h; cases h
  | cons Q L ih =>
    intro R h
    rw [show raws (Q :: L) = Q.raw ++ raws L from rfl, List.length_append]
    rcases List.mem_cons.1 h with rfl | h
    · omega
    · have := ih R h; omega
theorem recs_raws : ∀ (m : Nat) (b : List Nat) (d : Nat) (L : List RecL), b.length = m → recsL d b = some L → raws L = b ∧ ∀ R ∈ L, 2 ≤ R.raw.length := by
  intro m
  induction m using Nat.strongRecOn with
  | ind m ih =>
    intro b d L hm h
    rcases recs_step h with ⟨rfl, rfl⟩ | ⟨R, k, L', hr, hs, rfl, h2, hk, hraw, hlen⟩
    · exact ⟨rfl, fun R hR => by cases hR⟩
    · obtain ⟨e1, e2⟩ := ih (b.drop k).length (by rw [List.length_drop]; omega) (b.drop k) d L' rfl hs
      refine ⟨?_, fun Q hQ => ?_⟩
      · show R.raw ++ raws L' = b
        rw [e1, hraw, List.take_append_drop]
      · rcases List.mem_cons.1 hQ with rfl | hQ
        · omega
        · exact e2 Q hQ
theorem recs_cut {b : List Nat} {d : Nat} {L : List RecL} (h : recsL d b = some L) (i : Nat) (hi : i + 1 = L.length) (j : Nat) (h1 : 1 ≤ j) (hj : j < (L[i]'(by omega)).raw.length) : recsL d (b.take (b.length - j)) = none := by
  cases hc : recsL d (b.take (b.length - j)) with
  | none => rfl
  | some L1 =>
    exfalso
    have hp := recs_pre (b.drop (b.length - j)) _ (b.take (b.length - j)) d L1 rfl hc
    rw [List.take_append_drop, h] at hp
    cases hq : recsL d (b.drop (b.length - j)) with
    | none => rw [hq] at hp; cases hp
    | some L2 =>
      rw [hq] at hp
      simp only [Option.map_some, Option.some.injEq] at hp
      have hr := (recs_raws _ b d L rfl h).1
      have r2 := (recs_raws _ (b.drop (b.length - j)) d L2 rfl hq).1
      have hrl := congrArg List.length r2
      rw [List.length_drop] at hrl
      have hjb : j ≤ b.length := by
        have : (L[i]'(by omega)).raw.length ≤ (raws L).length := by
          exact raw_le _ _ (List.getElem_mem _)
        rw [hr] at this
        omega
      have hL2 : L2 ≠ [] := by
        intro e
        subst e
        have : (raws []).length = 0 := rfl
        omega
      have hl2 : 0 < L2.length := List.length_pos_iff.2 hL2
      have hlen := congrArg List.length hp
      rw [List.length_append] at hlen
      have hlast : (L[i]'(by omega)) = L2[L2.length - 1]'(by omega) := by
        have e : (L1 ++ L2)[i]'(by rw [List.length_append]; omega) = L2[i - L1.length]'(by omega) := List.getElem_append_right (by omega)
        have e2 : i - L1.length = L2.length - 1 := by omega
        simp only [hp, e, e2]
      have hle : (L2[L2.length - 1]'(by omega)).raw.length ≤ (raws L2).length := by
        exact raw_le _ _ (List.getElem_mem _)
      rw [hlast] at hj
      omega
end Go.Proofs.YtklkiofhenhafaaDoor.Hy
