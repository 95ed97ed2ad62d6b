import Derived.Test.YtklkiofhenhafaaMcdlnwmbt
namespace Go.Proofs.Ytklkiofhenhafaa
open Go.RowKit Go.Proofs.YtklkiofhenhafaaW.PrintWords Go.Proofs.YtklkiofhenhafaaW.PrintLast Go.Proofs.YtklkiofhenhafaaW.PrintMore Hy

def WBad2 (w : World) (r : Nat) (s : ByteArray) (dp : Int) (e : Ending) (w' : World) : Prop := ∃ m t : Int, 0 ≤ t ∧ t < 8 ∧ e = .returned (.tuple #[.int .i64 m, .int .i64 t]) ∧ WBad w r s dp w'
set_option maxHeartbeats 2000000 in
set_option maxRecDepth 100000 in
theorem wtag_bad (w : World) (r : Nat) (s : ByteArray) (a : Nat) (dp : Int) (h : RW w r s a .nilIface dp) (ha : a ≤ s.size) (hs : s.size ≤ 140737488351232) (ht : tagL ((bs s).drop a) = none) :
    Calls Try.prog 22 #[.pointer (some ⟨r, 0, none⟩)] w (WBad2 w r s dp) := by
  have c1 := h.c1
  rcases hd : dec 0 ((bs s).drop a) with c | ⟨v, k⟩
  · have G := wvar_bad w r s a c dp h ha hs hd
    have e2 : Go.bits .and .u64 (0 : Int) 7 = (0 : Int) := by decide +kernel
    have e3 : Go.bits .and .u64 (0 : Int) 536870911 = (0 : Int) := by decide +kernel
    clear h ht hd
    go_enter Try.func22, Try.ntmps22
    go_wp2_with fail
    refine G.mono ?_
    rintro e w2 ⟨rfl, a2, T, x, E, ha2, hr2, hu2, hE2, hk2⟩
    have HR2 := Aside0.mk hr2
    have HU2 := Aside0.mk hu2
    have HE2 := Aside0.mk hE2
    have HK2 := Aside0.mk hk2
    have z2 := hr2.c2
    clear hr2 hk2 hu2 hE2 G
    go_wp2_with fail
    go_ret2
    exact ⟨0, 0, by omega, by omega, rfl, a2, T, x, E, ha2, HR2.out, HU2.out, HE2.out, HK2.out⟩
  · have hds := dec_some _ 0 v k (okB_drop (bs_ok s) _) (by omega) hd
    have hv : v < 18446744073709551616 := hds.2.2.2.2
    have hks := hds.2.1
    rw [List.length_drop, bs_length] at hks
    have hbad := tagL_bad ht hd
    have G := wvar_ok w r s a v k dp h ha hs hd
    have HWE : Aside0 (WE s (.at_ (a : Int) (.code 3))) := ⟨⟨a, 3, rfl, ha, .inr (.inl rfl)⟩⟩
    obtain ⟨n, hn⟩ : ∃ n, v / 8 = n := ⟨_, rfl⟩
    have e1 : (v : Int) / 8 = (n : Int) := by omega
    have e2 : Go.bits .and .u64 (v : Int) 7 = ((v % 8 : Nat) : Int) := and7 v hv
    have e3 : Go.bits .and .u64 (n : Int) 536870911 = ((n % 536870912 : Nat) : Int) := and29 n (by omega)
    have hak : a + k ≤ s.size := by omega
    rw [hn] at hbad
    generalize n % 536870912 = m at *
    have ht8 : v % 8 < 8 := by omega
    generalize v % 8 = t at *
    have hm29 : (m : Int) = (m : Int) := rfl
    by_cases hn1 : n < 1
    · have d1 : (n : Int) < 1 := by omega
      clear h ht hd hn hbad hds hks hm29
      go_enter Try.func22, Try.ntmps22
      go_wp2_with fail
      refine G.mono ?_
      rintro e w2 ⟨rfl, hr2, hk2⟩
      have HR2 := Aside0.mk hr2
      have HK2 := Aside0.mk hk2
      have z2 := hr2.c2
      have G2 := wfails_new w2 r s (a + k) dp (a : Int) 3 hr2
      clear hr2 hk2 G
      go_wp2_with fail
      refine G2.mono ?_
      rintro e w3 ⟨rfl, T, x, hr3, hu3, hk3⟩
      have HR3 := Aside0.mk hr3
      have HU3 := Aside0.mk hu3
      have HK3 := Aside0.mk hk3
      clear hr3 hu3 hk3 G2
      go_wp2_with fail
      go_ret2
      exact ⟨_, t, by omega, by omega, rfl, a + k, T, x, _, hak, HR3.out, HU3.out, HWE.out, HK2.out.trans HK3.out⟩
    · have d1 : ¬ (n : Int) < 1 := by omega
      have d2 : (n : Int) > 536870911 := by omega
      clear h ht hd hn hbad hds hks hm29
      go_enter Try.func22, Try.ntmps22
      go_wp2_with fail
      refine G.mono ?_
      rintro e w2 ⟨rfl, hr2, hk2⟩
      have HR2 := Aside0.mk hr2
      have HK2 := Aside0.mk hk2
      have z2 := hr2.c2
      have G2 := wfails_new w2 r s (a + k) dp (a : Int) 3 hr2
      clear hr2 hk2 G
      go_wp2_with fail
      refine G2.mono ?_
      rintro e w3 ⟨rfl, T, x, hr3, hu3, hk3⟩
      have HR3 := Aside0.mk hr3
      have HU3 := Aside0.mk hu3
      have HK3 := Aside0.mk hk3
      clear hr3 hu3 hk3 G2
      go_wp2_with fail
      go_ret2
      exact ⟨_, t, by omega, by omega, rfl, a + k, T, x, _, hak, HR3.out, HU3.out, HWE.out, HK2.out.trans HK3.out⟩
end Go.Proofs.Ytklkiofhenhafaa
namespace Go.Proofs.Ytklkiofhenhafaa
open Go.RowKit Go.Proofs.YtklkiofhenhafaaW.PrintWords Go.Proofs.YtklkiofhenhafaaW.PrintLast Go.Proofs.YtklkiofhenhafaaW.PrintMore Hy

/-! ### the reader that has failed -/
set_option maxHeartbeats 4000000 in
set_option maxRecDepth 100000 in
theorem wlittle_old (w : World) (r : Nat) (s : ByteArray) (a k : Nat) (dp : Int) (T : Nat) (x : Value) (h : RW w r s a (.iface T x) dp) (hk : k ≤ 8) :
    Calls Try.prog 19 #[.pointer (some ⟨r, 0, none⟩), .int .i64 (k : Int)] w fun e w' => e = .returned (.int .u64 0) ∧ Below w.heap.size w w' := by
  have hw : IntKind.u64.wrap (k : Int) = (k : Int) := by rw [wrap_u64]; omega
  have G := wtake_old w r s a dp (k : Int) T x h
  clear h
  go_enter Try.func19, Try.ntmps19
  go_wp2_with fail
  refine G.mono ?_
  rintro e w2 ⟨rfl, ⟨nd, rfl⟩⟩
  go_wp2_with fail
  have hb0 : Below w.heap.size w (w.drewN nd) := by apply pw_below_drewN; exact Below.refl _ _
  generalize w.drewN nd = w2 at *
  rw [run_bytes_of_string (P := Try.prog) w2 9 48 5 ByteArray.empty Try.underlying9 Try.underlying48 Try.underlying5]
  have HB := Aside0.mk (hb0.trans (((Below.refl w.heap.size w2).drew).alloc hb0.size (.cells (bytesRow ByteArray.empty (grownCap w2 ByteArray.empty.size 0 5)) 5 ((bytesRow ByteArray.empty (grownCap w2 ByteArray.empty.size 0 5)).size, (bytesRow ByteArray.empty (grownCap w2 ByteArray.empty.size 0 5)).size + 1))))
  have hz : ByteArray.empty.size = 0 := rfl
  generalize w2.drew.alloc (.cells (bytesRow ByteArray.empty (grownCap w2 ByteArray.empty.size 0 5)) 5 ((bytesRow ByteArray.empty (grownCap w2 ByteArray.empty.size 0 5)).size, (bytesRow ByteArray.empty (grownCap w2 ByteArray.empty.size 0 5)).size + 1)) = W at *
  generalize grownCap w2 ByteArray.empty.size 0 5 = cap at *
  rw [hz]
  generalize w2.heap.size = g at *
  clear G hb0 hz hw
  go_wp2_with fail
  go_loopw [5, 14] (fun v5 v14 w' => v5 = .int .u64 0 ∧ v14 = .int .i64 0 ∧ w' = W) (fun _ _ _ => 0)
  case atStart => exact ⟨rfl, rfl, rfl⟩
  case round =>
    obtain ⟨rfl, rfl, rfl⟩ := hrel
    go_wp2_with fail
    go_ret
    exact ⟨rfl, HB.out⟩
/-- What the old error's reader keeps. -/
def OldOk (w : World) (r : Nat) (s : ByteArray) (a : Nat) (dp : Int) (T : Nat) (x : Value) (M : Nat → Prop) (w' : World) : Prop := RW w' r s a (.iface T x) dp ∧ Kp M w w'
set_option maxHeartbeats 4000000 in
set_option maxRecDepth 100000 in
theorem wgroup_old (w : World) (r : Nat) (s : ByteArray) (a : Nat) (dp n : Int) (T : Nat) (x : Value) (h : RW w r s a (.iface T x) dp) (hd0 : -9223372036854775808 ≤ dp) (hd1 : dp < 9223372036854775808) :
    Calls Try.prog 27 #[.pointer (some ⟨r, 0, none⟩), .int .i64 n] w fun e w' => e = .returned (.tuple #[]) ∧ OldOk w r s a dp T x (fun k => k = r) w' := by
  have HR := Aside0.mk h
  have c1 := h.c1
  have c3 := h.c3
  have f3 := h.fz 3
  by_cases hdp : dp < 1
  · have G := wfails_old w r s a dp (a : Int) 6 T x h
    clear h
    go_enter Try.func27, Try.ntmps27
    go_wp2_with fail
    refine G.mono ?_
    rintro e w2 ⟨rfl, rfl⟩
    go_wp2_with fail
    refine bodyPost_ret (results_none rfl _ _ _) rfl ?_
    exact ⟨rfl, HR.out, Kp.refl _ _⟩
  · have hr2 := h.dep (dp - 1)
    have hk2 := kp_r (r := r) (Kp.refl (fun k => k = r) w) 3 (.int .i64 (dp - 1))
    have HR2 := Aside0.mk hr2
    have HK2 := Aside0.mk hk2
    have c2 := hr2.c2
    have c3' := hr2.c3
    have f3' := hr2.fz 3
    clear h hr2 hk2
    go_enter Try.func27, Try.ntmps27
    go_wp2_with fail
    generalize w.setCell ⟨r, 3, none⟩ (.int .i64 (dp - 1)) = W at *
    go_loopw [4] (fun _ w' => w' = W) (fun _ _ => 0)
    case atStart => exact rfl
    case round =>
      subst hrel
      go_wp2_with fail
      go_end0
      exact ⟨rfl, by have := HR2.out.dep dp; exact this, kp_r HK2.out _ _⟩
end Go.Proofs.Ytklkiofhenhafaa
namespace Go.Proofs.Ytklkiofhenhafaa
open Go.RowKit Go.Proofs.YtklkiofhenhafaaW.PrintWords Go.Proofs.YtklkiofhenhafaaW.PrintLast Go.Proofs.YtklkiofhenhafaaW.PrintMore Hy

theorem IsE.xset {w : World} {e : Err} {v : Value} {x' : Nat} {n t N : Int} {S raw : ByteArray} (h : XW w x' n t N S raw) (hv : IsE w e v) (i : Nat) (u : Value) : IsE (w.setCell ⟨x', i, none⟩ u) e v :=
  hv.kp (Kp.set (Kp.refl (fun k => k = x') w) (p := ⟨x', i, none⟩) rfl u) (fun k c hk e => by
    subst e
    unfold XW at h
    rw [h] at hk
    injection hk with hk
    injection hk with _ hk
    exact absurd hk (by decide))
def RX (r x : Nat) : Nat → Prop := fun k => k = r ∨ k = x
theorem rx_set {w W : World} {r x : Nat} (h : Kp (RX r x) w W) (i : Nat) (u : Value) : Kp (RX r x) w (W.setCell ⟨x, i, none⟩ u) := h.set (p := ⟨x, i, none⟩) (.inr rfl) u
theorem rx_of {w W : World} {r x : Nat} (h : Kp (fun k => k = r) w W) : Kp (RX r x) w W := h.mono (fun _ e => .inl e)
theorem RW.xset {w : World} {r x i : Nat} {s : ByteArray} {a : Nat} {u v : Value} {dp : Int} (h : RW w r s a u dp) (hxr : x ≠ r) : RW (w.setCell ⟨x, i, none⟩ v) r s a u dp :=
  h.kp (Kp.set (M := fun k => k = x) (Kp.refl _ w) (p := ⟨x, i, none⟩) rfl _) (fun e => hxr e.symm)
set_option maxHeartbeats 4000000 in
set_option maxRecDepth 100000 in
theorem wrest_old0 (w : World) (r x : Nat) (s : ByteArray) (a : Nat) (n at_ dp : Int) (T : Nat) (xv : Value) (h : RW w r s a (.iface T xv) dp) (hx : XW w x n 0 0 ByteArray.empty ByteArray.empty) (hxr : x ≠ r) :
    Calls Try.prog 23 #[.pointer (some ⟨r, 0, none⟩), .pointer (some ⟨x, 0, none⟩), .int .i64 at_] w fun e w' => e = .returned (.tuple #[]) ∧ OldOk w r s a dp T xv (RX r x) w' := by
  have G := wvar_old w r s a dp T xv h
  have q1 := hx.c1
  have q2 := hx.c2
  have f2 := hx.fz 2
  have HR := Aside0.mk h
  clear h hx
  go_enter Try.func23, Try.ntmps23
  go_wp2_with fail
  refine G.mono ?_
  rintro e w2 ⟨rfl, rfl⟩
  go_wp2_with fail
  go_end0
  exact ⟨rfl, HR.out.xset hxr, rx_set (Kp.refl _ _) _ _⟩
set_option maxHeartbeats 4000000 in
set_option maxRecDepth 100000 in
theorem wrest_old1 (w : World) (r x : Nat) (s : ByteArray) (a : Nat) (n at_ dp : Int) (T : Nat) (xv : Value) (h : RW w r s a (.iface T xv) dp) (hx : XW w x n 1 0 ByteArray.empty ByteArray.empty) (hxr : x ≠ r) :
    Calls Try.prog 23 #[.pointer (some ⟨r, 0, none⟩), .pointer (some ⟨x, 0, none⟩), .int .i64 at_] w fun e w' => e = .returned (.tuple #[]) ∧ OldOk w r s a dp T xv (RX r x) w' := by
  have G := wlittle_old w r s a 8 dp T xv h (by omega)
  rw [show ((8 : Nat) : Int) = 8 from rfl] at G
  have q1 := hx.c1
  have HR := Aside0.mk h
  have HX := Aside0.mk hx
  clear h hx
  go_enter Try.func23, Try.ntmps23
  go_wp2_with fail
  refine G.mono ?_
  rintro e w2 ⟨rfl, hb⟩
  have hx2 : XW w2 x n 1 0 ByteArray.empty ByteArray.empty := blk_below HX.out hb
  have q2 := hx2.c2
  have f2 := hx2.fz 2
  have HR2 := Aside0.mk (HR.out.below hb)
  have HK2 := Aside0.mk ((Kp.refl (RX r x) w).next hb)
  clear hx2 hb G q1
  go_wp2_with fail
  go_end0
  exact ⟨rfl, HR2.out.xset hxr, rx_set HK2.out _ _⟩
set_option maxHeartbeats 4000000 in
set_option maxRecDepth 100000 in
theorem wrest_old5 (w : World) (r x : Nat) (s : ByteArray) (a : Nat) (n at_ dp : Int) (T : Nat) (xv : Value) (h : RW w r s a (.iface T xv) dp) (hx : XW w x n 5 0 ByteArray.empty ByteArray.empty) (hxr : x ≠ r) :
    Calls Try.prog 23 #[.pointer (some ⟨r, 0, none⟩), .pointer (some ⟨x, 0, none⟩), .int .i64 at_] w fun e w' => e = .returned (.tuple #[]) ∧ OldOk w r s a dp T xv (RX r x) w' := by
  have G := wlittle_old w r s a 4 dp T xv h (by omega)
  rw [show ((4 : Nat) : Int) = 4 from rfl] at G
  have q1 := hx.c1
  have HR := Aside0.mk h
  have HX := Aside0.mk hx
  clear h hx
  go_enter Try.func23, Try.ntmps23
  go_wp2_with fail
  refine G.mono ?_
  rintro e w2 ⟨rfl, hb⟩
  have hx2 : XW w2 x n 5 0 ByteArray.empty ByteArray.empty := blk_below HX.out hb
  have q2 := hx2.c2
  have f2 := hx2.fz 2
  have HR2 := Aside0.mk (HR.out.below hb)
  have HK2 := Aside0.mk ((Kp.refl (RX r x) w).next hb)
  clear hx2 hb G q1
  go_wp2_with fail
  go_end0
  exact ⟨rfl, HR2.out.xset hxr, rx_set HK2.out _ _⟩
set_option maxHeartbeats 4000000 in
set_option maxRecDepth 100000 in
theorem wrest_old2 (w : World) (r x : Nat) (s : ByteArray) (a : Nat) (n at_ dp : Int) (T : Nat) (xv : Value) (h : RW w r s a (.iface T xv) dp) (hx : XW w x n 2 0 ByteArray.empty ByteArray.empty) (hxr : x ≠ r) :
    Calls Try.prog 23 #[.pointer (some ⟨r, 0, none⟩), .pointer (some ⟨x, 0, none⟩), .int .i64 at_] w fun e w' => e = .returned (.tuple #[]) ∧ OldOk w r s a dp T xv (RX r x) w' := by
  have G := wvar_old w r s a dp T xv h
  have G2 := wtake_old w r s a dp 0 T xv h
  have q1 := hx.c1
  have HR := Aside0.mk h
  have HX := Aside0.mk hx
  clear h hx
  go_enter Try.func23, Try.ntmps23
  go_wp2_with fail
  refine G.mono ?_
  rintro e w2 ⟨rfl, rfl⟩
  go_wp2_with fail
  refine G2.mono ?_
  rintro e w2 ⟨rfl, ⟨nd, rfl⟩⟩
  have q2 := HX.out.c3
  have f2 := HX.out.fz 3
  clear G G2
  go_wp2_with fail
  go_end0
  exact ⟨rfl, (HR.out.drewN _).xset hxr, rx_set ((Kp.refl _ _).drewN _) _ _⟩
set_option maxHeartbeats 4000000 in
set_option maxRecDepth 100000 in
theorem wrest_old3 (w : World) (r x : Nat) (s : ByteArray) (a : Nat) (n at_ dp : Int) (T : Nat) (xv : Value) (h : RW w r s a (.iface T xv) dp) (hx : XW w x n 3 0 ByteArray.empty ByteArray.empty) (_hxr : x ≠ r) (hd0 : -9223372036854775808 ≤ dp) (hd1 : dp < 9223372036854775808) :
    Calls Try.prog 23 #[.pointer (some ⟨r, 0, none⟩), .pointer (some ⟨x, 0, none⟩), .int .i64 at_] w fun e w' => e = .returned (.tuple #[]) ∧ OldOk w r s a dp T xv (RX r x) w' := by
  have G := wgroup_old w r s a dp n T xv h hd0 hd1
  have q0 := hx.c0
  have q1 := hx.c1
  clear h hx hd0 hd1
  go_enter Try.func23, Try.ntmps23
  go_wp2_with fail
  refine G.mono ?_
  rintro e w2 ⟨rfl, hr2, hk2⟩
  have HR2 := Aside0.mk hr2
  have HK2 := Aside0.mk hk2
  clear hr2 hk2 G
  go_wp2_with fail
  go_end0
  exact ⟨rfl, HR2.out, rx_of HK2.out⟩
set_option maxHeartbeats 4000000 in
set_option maxRecDepth 100000 in
theorem wrest_oldx (w : World) (r x : Nat) (s : ByteArray) (a : Nat) (n at_ dp : Int) (T : Nat) (xv : Value) (h : RW w r s a (.iface T xv) dp) (t : Int) (t0 : ¬ t = 0) (t1 : ¬ t = 1) (t5 : ¬ t = 5) (t2 : ¬ t = 2) (t3 : ¬ t = 3) (hx : XW w x n t 0 ByteArray.empty ByteArray.empty) :
    Calls Try.prog 23 #[.pointer (some ⟨r, 0, none⟩), .pointer (some ⟨x, 0, none⟩), .int .i64 at_] w fun e w' => e = .returned (.tuple #[]) ∧ OldOk w r s a dp T xv (RX r x) w' := by
  have G := wfails_old w r s a dp at_ 3 T xv h
  have q1 := hx.c1
  have HR := Aside0.mk h
  clear h hx
  go_enter Try.func23, Try.ntmps23
  go_wp2_with fail
  refine G.mono ?_
  rintro e w2 ⟨rfl, rfl⟩
  go_wp2_with fail
  go_end0
  exact ⟨rfl, HR.out, Kp.refl _ _⟩
theorem wrest_old (w : World) (r x : Nat) (s : ByteArray) (a : Nat) (n t at_ dp : Int) (T : Nat) (xv : Value) (h : RW w r s a (.iface T xv) dp) (hx : XW w x n t 0 ByteArray.empty ByteArray.empty) (hxr : x ≠ r) (hd0 : -9223372036854775808 ≤ dp) (hd1 : dp < 9223372036854775808) :
    Calls Try.prog 23 #[.pointer (some ⟨r, 0, none⟩), .pointer (some ⟨x, 0, none⟩), .int .i64 at_] w fun e w' => e = .returned (.tuple #[]) ∧ OldOk w r s a dp T xv (RX r x) w' := by
  by_cases t0 : t = 0
  · subst t0; exact wrest_old0 w r x s a n at_ dp T xv h hx hxr
  by_cases t1 : t = 1
  · subst t1; exact wrest_old1 w r x s a n at_ dp T xv h hx hxr
  by_cases t5 : t = 5
  · subst t5; exact wrest_old5 w r x s a n at_ dp T xv h hx hxr
  by_cases t2 : t = 2
  · subst t2; exact wrest_old2 w r x s a n at_ dp T xv h hx hxr
  by_cases t3 : t = 3
  · subst t3; exact wrest_old3 w r x s a n at_ dp T xv h hx hxr hd0 hd1
  exact wrest_oldx w r x s a n at_ dp T xv h t t0 t1 t5 t2 t3 hx
end Go.Proofs.Ytklkiofhenhafaa
namespace Go.Proofs.Ytklkiofhenhafaa
open Go.RowKit Go.Proofs.YtklkiofhenhafaaW.PrintWords Go.Proofs.YtklkiofhenhafaaW.PrintLast Go.Proofs.YtklkiofhenhafaaW.PrintMore Hy

set_option maxHeartbeats 4000000 in
set_option maxRecDepth 100000 in
theorem wlittle_bad (w : World) (r : Nat) (s : ByteArray) (b k : Nat) (dp : Int) (h : RW w r s b .nilIface dp) (hs : s.size ≤ 140737488351232) (hb : b ≤ s.size) (hbn : s.size - b < k) (hk : k ≤ 8) :
    Calls Try.prog 19 #[.pointer (some ⟨r, 0, none⟩), .int .i64 (k : Int)] w fun e w' => e = .returned (.int .u64 0) ∧ WBad w r s dp w' := by
  have hw : IntKind.u64.wrap (k : Int) = (k : Int) := by rw [wrap_u64]; omega
  have G := wtake_bad w r s b k dp h hs hb hbn
  clear h hbn hb
  go_enter Try.func19, Try.ntmps19
  go_wp2_with fail
  refine G.mono ?_
  rintro e w2 ⟨rfl, a', T, x, E, ha', hr2, hu2, hE, hk2⟩
  go_wp2_with fail
  rw [run_bytes_of_string (P := Try.prog) w2 9 48 5 ByteArray.empty Try.underlying9 Try.underlying48 Try.underlying5]
  have hB2 : Below w2.heap.size w2 (w2.drew.alloc (.cells (bytesRow ByteArray.empty (grownCap w2 ByteArray.empty.size 0 5)) 5 ((bytesRow ByteArray.empty (grownCap w2 ByteArray.empty.size 0 5)).size, (bytesRow ByteArray.empty (grownCap w2 ByteArray.empty.size 0 5)).size + 1))) := ((Below.refl _ _).drew).alloc (Nat.le_refl _) _
  have HR := Aside0.mk (hr2.below hB2)
  have HK := Aside0.mk (hk2.next hB2)
  have HU := Aside0.mk (hu2.below hB2)
  have hz : ByteArray.empty.size = 0 := rfl
  generalize w2.drew.alloc (.cells (bytesRow ByteArray.empty (grownCap w2 ByteArray.empty.size 0 5)) 5 ((bytesRow ByteArray.empty (grownCap w2 ByteArray.empty.size 0 5)).size, (bytesRow ByteArray.empty (grownCap w2 ByteArray.empty.size 0 5)).size + 1)) = W at *
  generalize grownCap w2 ByteArray.empty.size 0 5 = cap at *
  rw [hz]
  generalize w2.heap.size = g at *
  clear hr2 hk2 hu2 G hB2 hw hz
  go_wp2_with fail
  go_loopw [5, 14] (fun v5 v14 w' => v5 = .int .u64 0 ∧ v14 = .int .i64 0 ∧ w' = W) (fun _ _ _ => 0)
  case atStart => exact ⟨rfl, rfl, rfl⟩
  case round =>
    obtain ⟨rfl, rfl, rfl⟩ := hrel
    go_wp2_with fail
    go_ret
    exact ⟨rfl, a', T, x, E, ha', HR.out, HU.out, hE, HK.out⟩
/-- The reader has failed within a record's rest. -/
def RBad (w : World) (r x : Nat) (s : ByteArray) (dp : Int) (e : Ending) (w' : World) : Prop := e = .returned (.tuple #[]) ∧ ∃ (a' T : Nat) (v : Value) (E : Err), a' ≤ s.size ∧ RW w' r s a' (.iface T v) dp ∧ IsE w' E (.iface T v) ∧ WE s E ∧ Kp (RX r x) w w'
def ROk (r x : Nat) (s : ByteArray) (b : Nat) (dp n t N : Int) (S : ByteArray) (W : World) (e : Ending) (W' : World) : Prop := e = .returned (.tuple #[]) ∧ RW W' r s b .nilIface dp ∧ XW W' x n t N S ByteArray.empty ∧ Kp (RX r x) W W'
set_option maxHeartbeats 4000000 in
set_option maxRecDepth 100000 in
theorem wrest_bad0 (w : World) (r x : Nat) (s : ByteArray) (a : Nat) (n at_ dp : Int) (h : RW w r s a .nilIface dp) (hx : XW w x n 0 0 ByteArray.empty ByteArray.empty) (hxr : x ≠ r) (ha : a ≤ s.size) (hs : s.size ≤ 140737488351232) (c : Nat) (hd : dec 0 ((bs s).drop a) = .inl c) :
    Calls Try.prog 23 #[.pointer (some ⟨r, 0, none⟩), .pointer (some ⟨x, 0, none⟩), .int .i64 at_] w (RBad w r x s dp) := by
  have G := wvar_bad w r s a c dp h ha hs hd
  have q1 := hx.c1
  have HX := Aside0.mk hx
  clear h hx hd
  go_enter Try.func23, Try.ntmps23
  go_wp2_with fail
  refine G.mono ?_
  rintro e w2 ⟨rfl, a', T, xv, E, ha', hr2, hu2, hE2, hk2⟩
  have hx2 : XW w2 x n 0 0 ByteArray.empty ByteArray.empty := HX.out.kp hk2 hxr
  have q2 := hx2.c2
  have f2 := hx2.fz 2
  have HX2 := Aside0.mk hx2
  have HR2 := Aside0.mk hr2
  have HU2 := Aside0.mk hu2
  have HK2 := Aside0.mk hk2
  clear hx2 hr2 hu2 hk2 G q1
  go_wp2_with fail
  go_end0
  exact ⟨rfl, a', T, xv, E, ha', HR2.out.xset hxr, HU2.out.xset HX2.out _ _, hE2, rx_set (rx_of HK2.out) _ _⟩
set_option maxHeartbeats 4000000 in
set_option maxRecDepth 100000 in
theorem wrest_ok1 (w : World) (r x : Nat) (s : ByteArray) (a : Nat) (n at_ dp : Int) (h : RW w r s a .nilIface dp) (hx : XW w x n 1 0 ByteArray.empty ByteArray.empty) (hxr : x ≠ r) (_ha : a ≤ s.size) (hs : s.size ≤ 140737488351232) (hk : a + 8 ≤ s.size) :
    Calls Try.prog 23 #[.pointer (some ⟨r, 0, none⟩), .pointer (some ⟨x, 0, none⟩), .int .i64 at_] w (ROk r x s (a + 8) dp n 1 (little (((bs s).drop a).take 8) : Int) ByteArray.empty w) := by
  have G := wlittle_ok w r s a 8 dp h hs hk (by omega)
  rw [show ((8 : Nat) : Int) = 8 from rfl] at G
  generalize little (((bs s).drop a).take 8) = v at *
  have q1 := hx.c1
  have HX := Aside0.mk hx
  clear h hx
  go_enter Try.func23, Try.ntmps23
  go_wp2_with fail
  refine G.mono ?_
  rintro e w2 ⟨rfl, hr2, hk2⟩
  have hx2 : XW w2 x n 1 0 ByteArray.empty ByteArray.empty := HX.out.kp hk2 hxr
  have q2 := hx2.c2
  have f2 := hx2.fz 2
  have HX2 := Aside0.mk hx2
  have HR2 := Aside0.mk hr2
  have HK2 := Aside0.mk hk2
  clear hx2 hr2 hk2 G q1
  go_wp2_with fail
  go_end0
  exact ⟨rfl, HR2.out.xset hxr, HX2.out.setN _, rx_set (rx_of HK2.out) _ _⟩
set_option maxHeartbeats 4000000 in
set_option maxRecDepth 100000 in
theorem wrest_bad1 (w : World) (r x : Nat) (s : ByteArray) (a : Nat) (n at_ dp : Int) (h : RW w r s a .nilIface dp) (hx : XW w x n 1 0 ByteArray.empty ByteArray.empty) (hxr : x ≠ r) (ha : a ≤ s.size) (hs : s.size ≤ 140737488351232) (hk : s.size - a < 8) :
    Calls Try.prog 23 #[.pointer (some ⟨r, 0, none⟩), .pointer (some ⟨x, 0, none⟩), .int .i64 at_] w (RBad w r x s dp) := by
  have G := wlittle_bad w r s a 8 dp h hs ha hk (by omega)
  rw [show ((8 : Nat) : Int) = 8 from rfl] at G
  have q1 := hx.c1
  have HX := Aside0.mk hx
  clear h hx
  go_enter Try.func23, Try.ntmps23
  go_wp2_with fail
  refine G.mono ?_
  rintro e w2 ⟨rfl, a', T, xv, E, ha', hr2, hu2, hE2, hk2⟩
  have hx2 : XW w2 x n 1 0 ByteArray.empty ByteArray.empty := HX.out.kp hk2 hxr
  have q2 := hx2.c2
  have f2 := hx2.fz 2
  have HX2 := Aside0.mk hx2
  have HR2 := Aside0.mk hr2
  have HU2 := Aside0.mk hu2
  have HK2 := Aside0.mk hk2
  clear hx2 hr2 hu2 hk2 G q1
  go_wp2_with fail
  go_end0
  exact ⟨rfl, a', T, xv, E, ha', HR2.out.xset hxr, HU2.out.xset HX2.out _ _, hE2, rx_set (rx_of HK2.out) _ _⟩
set_option maxHeartbeats 4000000 in
set_option maxRecDepth 100000 in
theorem wrest_ok5 (w : World) (r x : Nat) (s : ByteArray) (a : Nat) (n at_ dp : Int) (h : RW w r s a .nilIface dp) (hx : XW w x n 5 0 ByteArray.empty ByteArray.empty) (hxr : x ≠ r) (_ha : a ≤ s.size) (hs : s.size ≤ 140737488351232) (hk : a + 4 ≤ s.size) :
    Calls Try.prog 23 #[.pointer (some ⟨r, 0, none⟩), .pointer (some ⟨x, 0, none⟩), .int .i64 at_] w (ROk r x s (a + 4) dp n 5 (little (((bs s).drop a).take 4) : Int) ByteArray.empty w) := by
  have G := wlittle_ok w r s a 4 dp h hs hk (by omega)
  rw [show ((4 : Nat) : Int) = 4 from rfl] at G
  generalize little (((bs s).drop a).take 4) = v at *
  have q1 := hx.c1
  have HX := Aside0.mk hx
  clear h hx
  go_enter Try.func23, Try.ntmps23
  go_wp2_with fail
  refine G.mono ?_
  rintro e w2 ⟨rfl, hr2, hk2⟩
  have hx2 : XW w2 x n 5 0 ByteArray.empty ByteArray.empty := HX.out.kp hk2 hxr
  have q2 := hx2.c2
  have f2 := hx2.fz 2
  have HX2 := Aside0.mk hx2
  have HR2 := Aside0.mk hr2
  have HK2 := Aside0.mk hk2
  clear hx2 hr2 hk2 G q1
  go_wp2_with fail
  go_end0
  exact ⟨rfl, HR2.out.xset hxr, HX2.out.setN _, rx_set (rx_of HK2.out) _ _⟩
set_option maxHeartbeats 4000000 in
set_option maxRecDepth 100000 in
theorem wrest_bad5 (w : World) (r x : Nat) (s : ByteArray) (a : Nat) (n at_ dp : Int) (h : RW w r s a .nilIface dp) (hx : XW w x n 5 0 ByteArray.empty ByteArray.empty) (hxr : x ≠ r) (ha : a ≤ s.size) (hs : s.size ≤ 140737488351232) (hk : s.size - a < 4) :
    Calls Try.prog 23 #[.pointer (some ⟨r, 0, none⟩), .pointer (some ⟨x, 0, none⟩), .int .i64 at_] w (RBad w r x s dp) := by
  have G := wlittle_bad w r s a 4 dp h hs ha hk (by omega)
  rw [show ((4 : Nat) : Int) = 4 from rfl] at G
  have q1 := hx.c1
  have HX := Aside0.mk hx
  clear h hx
  go_enter Try.func23, Try.ntmps23
  go_wp2_with fail
  refine G.mono ?_
  rintro e w2 ⟨rfl, a', T, xv, E, ha', hr2, hu2, hE2, hk2⟩
  have hx2 : XW w2 x n 5 0 ByteArray.empty ByteArray.empty := HX.out.kp hk2 hxr
  have q2 := hx2.c2
  have f2 := hx2.fz 2
  have HX2 := Aside0.mk hx2
  have HR2 := Aside0.mk hr2
  have HU2 := Aside0.mk hu2
  have HK2 := Aside0.mk hk2
  clear hx2 hr2 hu2 hk2 G q1
  go_wp2_with fail
  go_end0
  exact ⟨rfl, a', T, xv, E, ha', HR2.out.xset hxr, HU2.out.xset HX2.out _ _, hE2, rx_set (rx_of HK2.out) _ _⟩
set_option maxHeartbeats 4000000 in
set_option maxRecDepth 100000 in
theorem wrest_ok2 (w : World) (r x : Nat) (s : ByteArray) (a : Nat) (n at_ dp : Int) (h : RW w r s a .nilIface dp) (hx : XW w x n 2 0 ByteArray.empty ByteArray.empty) (hxr : x ≠ r) (ha : a ≤ s.size) (hs : s.size ≤ 140737488351232) (v k : Nat) (hd : dec 0 ((bs s).drop a) = .inr (v, k)) (hk : a + k + v ≤ s.size) :
    Calls Try.prog 23 #[.pointer (some ⟨r, 0, none⟩), .pointer (some ⟨x, 0, none⟩), .int .i64 at_] w (ROk r x s (a + (k + v)) dp n 2 0 (s.extract (a + k) (a + k + v)) w) := by
  have hv := (dec_some _ 0 v k (okB_drop (bs_ok s) a) (by omega) hd)
  have hv1 := hv.2.1
  rw [List.length_drop, bs_length] at hv1
  have hv64 := hv.2.2.2.2
  clear hv
  have G := wvar_ok w r s a v k dp h ha hs hd
  have q1 := hx.c1
  have HX := Aside0.mk hx
  clear h hx hd
  go_enter Try.func23, Try.ntmps23
  go_wp2_with fail
  refine G.mono ?_
  rintro e w2 ⟨rfl, hr2, hk2⟩
  have G2 := wtake_ok w2 r s (a + k) v dp hr2 hs hk
  have HK2 := Aside0.mk hk2
  clear hr2 hk2 G
  go_wp2_with fail
  refine G2.mono ?_
  rintro e w3 ⟨rfl, hr3, hk3⟩
  have hk4 := HK2.out.trans hk3
  have hx3 : XW w3 x n 2 0 ByteArray.empty ByteArray.empty := HX.out.kp hk4 hxr
  have q2 := hx3.c3
  have f2 := hx3.fz 3
  have HX3 := Aside0.mk hx3
  have HR3 := Aside0.mk hr3
  have HK3 := Aside0.mk hk4
  clear hx3 hr3 hk3 hk4 G2 q1
  go_wp2_with fail
  go_end0
  exact ⟨rfl, by rw [show a + (k + v) = a + k + v by omega]; exact HR3.out.xset hxr, HX3.out.setS _, rx_set (rx_of HK3.out) _ _⟩
set_option maxHeartbeats 4000000 in
set_option maxRecDepth 100000 in
theorem wrest_bad2 (w : World) (r x : Nat) (s : ByteArray) (a : Nat) (n at_ dp : Int) (h : RW w r s a .nilIface dp) (hx : XW w x n 2 0 ByteArray.empty ByteArray.empty) (hxr : x ≠ r) (ha : a ≤ s.size) (hs : s.size ≤ 140737488351232) (c : Nat) (hd : dec 0 ((bs s).drop a) = .inl c) :
    Calls Try.prog 23 #[.pointer (some ⟨r, 0, none⟩), .pointer (some ⟨x, 0, none⟩), .int .i64 at_] w (RBad w r x s dp) := by
  have G := wvar_bad w r s a c dp h ha hs hd
  have q1 := hx.c1
  have HX := Aside0.mk hx
  clear h hx hd
  go_enter Try.func23, Try.ntmps23
  go_wp2_with fail
  refine G.mono ?_
  rintro e w2 ⟨rfl, a', T, xv, E, ha', hr2, hu2, hE2, hk2⟩
  have G2 := wtake_old w2 r s a' dp 0 T xv hr2
  have HR2 := Aside0.mk hr2
  have HU2 := Aside0.mk hu2
  have HK2 := Aside0.mk hk2
  clear hr2 hu2 hk2 G
  go_wp2_with fail
  refine G2.mono ?_
  rintro e w3 ⟨rfl, ⟨nd, rfl⟩⟩
  have hx3 : XW w2 x n 2 0 ByteArray.empty ByteArray.empty := HX.out.kp HK2.out hxr
  have q2 := hx3.c3
  have f2 := hx3.fz 3
  have HX3 : Aside0 (XW (w2.drewN nd) x n 2 0 ByteArray.empty ByteArray.empty) := ⟨hx3⟩
  have HU3 := Aside0.mk (HU2.out.below (w' := w2.drewN nd) (by apply pw_below_drewN; exact Below.refl _ _))
  clear hx3 G2 q1
  go_wp2_with fail
  go_end0
  exact ⟨rfl, a', T, xv, E, ha', (HR2.out.drewN nd).xset hxr, HU3.out.xset HX3.out _ _, hE2, rx_set ((rx_of HK2.out).drewN nd) _ _⟩
set_option maxHeartbeats 4000000 in
set_option maxRecDepth 100000 in
theorem wrest_bad2t (w : World) (r x : Nat) (s : ByteArray) (a : Nat) (n at_ dp : Int) (h : RW w r s a .nilIface dp) (hx : XW w x n 2 0 ByteArray.empty ByteArray.empty) (hxr : x ≠ r) (ha : a ≤ s.size) (hs : s.size ≤ 140737488351232) (v k : Nat) (hd : dec 0 ((bs s).drop a) = .inr (v, k)) (hk : s.size - (a + k) < v) :
    Calls Try.prog 23 #[.pointer (some ⟨r, 0, none⟩), .pointer (some ⟨x, 0, none⟩), .int .i64 at_] w (RBad w r x s dp) := by
  have hv := (dec_some _ 0 v k (okB_drop (bs_ok s) a) (by omega) hd)
  have hv1 := hv.2.1
  rw [List.length_drop, bs_length] at hv1
  have hv64 := hv.2.2.2.2
  clear hv
  have G := wvar_ok w r s a v k dp h ha hs hd
  have q1 := hx.c1
  have HX := Aside0.mk hx
  clear h hx hd
  go_enter Try.func23, Try.ntmps23
  go_wp2_with fail
  refine G.mono ?_
  rintro e w2 ⟨rfl, hr2, hk2⟩
  have G2 := wtake_bad w2 r s (a + k) v dp hr2 hs (by omega) hk
  have HK2 := Aside0.mk hk2
  clear hr2 hk2 G
  go_wp2_with fail
  refine G2.mono ?_
  rintro e w3 ⟨rfl, a', T, xv, E, ha', hr3, hu3, hE3, hk3⟩
  have hk4 := HK2.out.trans hk3
  have hx3 : XW w3 x n 2 0 ByteArray.empty ByteArray.empty := HX.out.kp hk4 hxr
  have q2 := hx3.c3
  have f2 := hx3.fz 3
  have HX3 := Aside0.mk hx3
  have HR3 := Aside0.mk hr3
  have HU3 := Aside0.mk hu3
  have HK3 := Aside0.mk hk4
  clear hx3 hr3 hu3 hk3 hk4 G2 q1
  go_wp2_with fail
  go_end0
  exact ⟨rfl, a', T, xv, E, ha', HR3.out.xset hxr, HU3.out.xset HX3.out _ _, hE3, rx_set (rx_of HK3.out) _ _⟩
set_option maxHeartbeats 4000000 in
set_option maxRecDepth 100000 in
theorem wrest_ok3 (w : World) (r x : Nat) (s : ByteArray) (a : Nat) (n at_ dp : Int) (_h : RW w r s a .nilIface dp) (hx : XW w x n 3 0 ByteArray.empty ByteArray.empty) (hxr : x ≠ r) (_ha : a ≤ s.size) (_hs : s.size ≤ 140737488351232) (b : Nat) (G : Calls Try.prog 27 #[.pointer (some ⟨r, 0, none⟩), .int .i64 n] w fun e w' => e = .returned (.tuple #[]) ∧ RW w' r s b .nilIface dp ∧ Kp (fun k => k = r) w w') :
    Calls Try.prog 23 #[.pointer (some ⟨r, 0, none⟩), .pointer (some ⟨x, 0, none⟩), .int .i64 at_] w (ROk r x s b dp n 3 0 ByteArray.empty w) := by
  have q0 := hx.c0
  have q1 := hx.c1
  have HX := Aside0.mk hx
  clear _h hx _ha _hs
  go_enter Try.func23, Try.ntmps23
  go_wp2_with fail
  refine G.mono ?_
  rintro e w2 ⟨rfl, hr2, hk2⟩
  have HR2 := Aside0.mk hr2
  have HK2 := Aside0.mk hk2
  clear hr2 hk2 G q0 q1
  go_wp2_with fail
  go_end0
  exact ⟨rfl, HR2.out, HX.out.kp HK2.out hxr, rx_of HK2.out⟩
set_option maxHeartbeats 4000000 in
set_option maxRecDepth 100000 in
theorem wrest_bad3 (w : World) (r x : Nat) (s : ByteArray) (a : Nat) (n at_ dp : Int) (_h : RW w r s a .nilIface dp) (hx : XW w x n 3 0 ByteArray.empty ByteArray.empty) (_hxr : x ≠ r) (_ha : a ≤ s.size) (_hs : s.size ≤ 140737488351232) (G : Calls Try.prog 27 #[.pointer (some ⟨r, 0, none⟩), .int .i64 n] w fun e w' => e = .returned (.tuple #[]) ∧ WBad w r s dp w') :
    Calls Try.prog 23 #[.pointer (some ⟨r, 0, none⟩), .pointer (some ⟨x, 0, none⟩), .int .i64 at_] w (RBad w r x s dp) := by
  have q0 := hx.c0
  have q1 := hx.c1
  clear _h hx _ha _hs _hxr
  go_enter Try.func23, Try.ntmps23
  go_wp2_with fail
  refine G.mono ?_
  rintro e w2 ⟨rfl, a', T, xv, E, ha', hr2, hu2, hE2, hk2⟩
  have HR2 := Aside0.mk hr2
  have HU2 := Aside0.mk hu2
  have HK2 := Aside0.mk hk2
  clear hr2 hu2 hk2 G q0 q1
  go_wp2_with fail
  go_end0
  exact ⟨rfl, a', T, xv, E, ha', HR2.out, HU2.out, hE2, rx_of HK2.out⟩
set_option maxHeartbeats 4000000 in
set_option maxRecDepth 100000 in
theorem wrest_badx (w : World) (r x : Nat) (s : ByteArray) (a : Nat) (n dp : Int) (h : RW w r s a .nilIface dp) (ha : a ≤ s.size) (t : Int) (t0 : ¬ t = 0) (t1 : ¬ t = 1) (t5 : ¬ t = 5) (t2 : ¬ t = 2) (t3 : ¬ t = 3) (p : Nat) (hp : p ≤ s.size) (hx : XW w x n t 0 ByteArray.empty ByteArray.empty) :
    Calls Try.prog 23 #[.pointer (some ⟨r, 0, none⟩), .pointer (some ⟨x, 0, none⟩), .int .i64 (p : Int)] w (RBad w r x s dp) := by
  have G := wfails_new w r s a dp (p : Int) 3 h
  have q1 := hx.c1
  clear h hx
  go_enter Try.func23, Try.ntmps23
  go_wp2_with fail
  refine G.mono ?_
  rintro e w2 ⟨rfl, T, xv, hr2, hu2, hk2⟩
  have HR2 := Aside0.mk hr2
  have HU2 := Aside0.mk hu2
  have HK2 := Aside0.mk hk2
  clear hr2 hu2 hk2 G q1
  go_wp2_with fail
  go_end0
  exact ⟨rfl, a, T, xv, _, ha, HR2.out, HU2.out, ⟨p, 3, rfl, hp, .inr (.inl rfl)⟩, rx_of HK2.out⟩
end Go.Proofs.Ytklkiofhenhafaa
