import Derived.Test.YtklkiofhenhafaaDoorMdatfpzbe
import Derived.Test.YtklkiofhenhafaaDoorMlrlhopvx
import Derived.Test.YtklkiofhenhafaaDoorMgabaxjxe
import Derived.Test.YtklkiofhenhafaaDoorMdvbinnox
import Derived.Test.YtklkiofhenhafaaDoorCWirex
namespace Go.Proofs.YtklkiofhenhafaaDoor
open Go.RowKit Go.Proofs.YtklkiofhenhafaaDoorW.PrintWords Go.Proofs.YtklkiofhenhafaaDoorW.PrintLast Go.Proofs.YtklkiofhenhafaaDoorW.PrintMore Hy

/-! ### errors, their codes told -/
def WBadC (w : World) (r : Nat) (s : ByteArray) (dp c : Int) (w' : World) : Prop := ∃ (a' T : Nat) (x : Value) (p : Int), RW w' r s a' (.iface T x) dp ∧ IsE w' (.at_ p (.code c)) (.iface T x) ∧ Kp (fun k => k = r) w w'
set_option maxHeartbeats 2000000 in
set_option maxRecDepth 100000 in
theorem wvar_badc (w : World) (r : Nat) (s : ByteArray) (a c : Nat) (dp : Int) (h : RW w r s a .nilIface dp) (ha : a ≤ s.size) (hs : s.size ≤ 140737488351232) (hd : dec 0 ((bs s).drop a) = .inl c) :
    Calls Tryd.prog 39 #[.pointer (some ⟨r, 0, none⟩)] w fun e w' => e = .returned (.int .u64 0) ∧ WBadC w r s dp c w' := by
  have c0 := h.c0
  have c1 := h.c1
  have c2 := h.c2
  have HR := Aside0.mk h
  have hc := dec_code _ _ _ hd
  have G := fun w => get_err s (a : Int) c w (by omega) (by omega) hs (by rw [Int.toNat_natCast]; exact hd)
  clear h hd hc
  go_enter Tryd.func39, Tryd.ntmps39
  go_wp2_with fail
  refine start_ (n := 16) (S := fun w' => w'.cell? ⟨r, 0, none⟩ = some (.string s) ∧ w'.cell? ⟨r, 1, none⟩ = some (.int .i64 (a : Int))) (ds := []) #[false, false, false, false, false, false, false, false, false, false, false, false, false, false, false, false] (by kernel_rfl) rfl rfl ⟨c0, c1⟩ (fun hHeld => ?_)
  refine pure_ (i := 0) (N := some 12) (v := ?_) (a' := ?_) #[true, false, false, false, false, false, false, false, false, false, false, false, false, false, false, false] rfl rfl (by kernel_rfl) (fun _ _ _ h => h) (Or.inl ⟨by rfl, ?_⟩) ?_ ?_
  rotate_left
  · intro w'
    go_simp
    first | with_reducible rfl | (rw [if_neg (by first | omega | (rw [ByteArray.size_append]; omega))])
  rotate_left
  · simp only [Act.put, List.setIfInBounds_toArray, List.set_cons_zero, List.set_cons_succ]
    rfl
  refine pure_ (i := 1) (N := some 13) (v := ?_) (a' := ?_) #[true, true, false, false, false, false, false, false, false, false, false, false, false, false, false, false] rfl rfl (by kernel_rfl) (fun _ _ _ h => h) (Or.inl ⟨by rfl, ?_⟩) ?_ ?_
  rotate_left
  · intro w'
    go_simp
    first | with_reducible rfl | (rw [if_neg (by first | omega | (rw [ByteArray.size_append]; omega))])
  rotate_left
  · simp only [Act.put, List.setIfInBounds_toArray, List.set_cons_zero, List.set_cons_succ]
    rfl
  refine pure_ (i := 2) (N := some 14) (v := ?_) (a' := ?_) #[true, true, true, false, false, false, false, false, false, false, false, false, false, false, false, false] rfl rfl (by kernel_rfl) (fun _ _ _ h => h) (Or.inl ⟨by rfl, ?_⟩) ?_ ?_
  rotate_left
  · intro w'
    go_simp
    first | with_reducible rfl | (rw [if_neg (by first | omega | (rw [ByteArray.size_append]; omega))])
  rotate_left
  · simp only [Act.put, List.setIfInBounds_toArray, List.set_cons_zero, List.set_cons_succ]
    rfl
  refine pure_ (i := 4) (N := some 16) (v := ?_) (a' := ?_) #[true, true, true, false, true, false, false, false, false, false, false, false, false, false, false, false] rfl rfl (by kernel_rfl) (fun _ _ _ h => h) (Or.inl ⟨by rfl, ?_⟩) ?_ ?_
  rotate_left
  · intro w'
    go_simp
    first | with_reducible rfl | (rw [if_neg (by first | omega | (rw [ByteArray.size_append]; omega))])
  rotate_left
  · simp only [Act.put, List.setIfInBounds_toArray, List.set_cons_zero, List.set_cons_succ]
    rfl
  refine pure_ (i := 5) (N := some 17) (v := ?_) (a' := ?_) #[true, true, true, false, true, true, false, false, false, false, false, false, false, false, false, false] rfl rfl (by kernel_rfl) (fun _ _ _ h => h) (Or.inl ⟨by rfl, ?_⟩) ?_ ?_
  rotate_left
  · intro w'
    go_simp
    first | with_reducible rfl | (rw [if_neg (by first | omega | (rw [ByteArray.size_append]; omega))])
  rotate_left
  · simp only [Act.put, List.setIfInBounds_toArray, List.set_cons_zero, List.set_cons_succ]
    rfl
  refine pure_ (i := 6) (N := some 18) (v := ?_) (a' := ?_) #[true, true, true, false, true, true, true, false, false, false, false, false, false, false, false, false] rfl rfl (by kernel_rfl) (fun _ _ _ h => h) (Or.inl ⟨by rfl, ?_⟩) ?_ ?_
  rotate_left
  · intro w'
    go_simp
    first | with_reducible rfl | (rw [if_neg (by first | omega | (rw [ByteArray.size_append]; omega))])
  rotate_left
  · simp only [Act.put, List.setIfInBounds_toArray, List.set_cons_zero, List.set_cons_succ]
    rfl
  refine take_ (i := 3) (N := some 15) (v := ?_) (a' := ?_) #[true, true, true, true, true, true, true, false, false, false, false, false, false, false, false, false] rfl rfl (by kernel_rfl) (fun _ _ _ h => h) (Or.inl ⟨by rfl, ?_⟩) hHeld ?_ ?_
  rotate_left
  · rintro w' ⟨s0, s1⟩
    go_simp
    first | with_reducible rfl | (rw [if_neg (by first | omega | (rw [ByteArray.size_append]; omega))])
  rotate_left
  · simp only [Act.put, List.setIfInBounds_toArray, List.set_cons_zero, List.set_cons_succ]
    rfl
  refine take_ (i := 7) (N := some 19) (v := ?_) (a' := ?_) #[true, true, true, true, true, true, true, true, false, false, false, false, false, false, false, false] rfl rfl (by kernel_rfl) (fun _ _ _ h => h) (Or.inl ⟨by rfl, ?_⟩) hHeld ?_ ?_
  rotate_left
  · rintro w' ⟨s0, s1⟩
    go_simp
    first | with_reducible rfl | (rw [if_neg (by first | omega | (rw [ByteArray.size_append]; omega))])
  rotate_left
  · simp only [Act.put, List.setIfInBounds_toArray, List.set_cons_zero, List.set_cons_succ]
    rfl
  refine one_ (i := 8) (N := some 20) #[true, true, true, true, true, true, true, true, true, false, false, false, false, false, false, false] rfl rfl (by kernel_rfl) (by decide) (fun K hK => ?_)
  refine goes_ Tryd.func49 (by kernel_rfl) rfl #[.string s, .int .i64 (a : Int)] (by rfl) rfl rfl (by simp only [List.map_toArray, List.map_cons, List.map_nil]; rfl) ?_
  with_reducible refine (G _).mono ?_
  rintro e w2 ⟨u, rfl, hu2, hb2⟩
  refine ⟨_, rfl, ?_⟩
  obtain ⟨uT, ux, rfl⟩ := hu2.iface (by simp)
  have HU2 := Aside0.mk hu2
  clear hu2
  have hq2 := (HR.out.drew.below hb2)
  have HR2 := Aside0.mk hq2
  have HB2 := Aside0.mk hb2
  clear hb2 hq2
  refine hK.out _ _ ⟨HR2.out.c0, HR2.out.c1⟩ (fun hHeld => ?_)
  clear hK K
  refine norm_ (a' := ?_) ?_ ?_
  rotate_left
  · show Act.put _ (some 20) _ = _
    simp only [Act.put, List.setIfInBounds_toArray, List.set_cons_zero, List.set_cons_succ]
    rfl
  refine pure_ (i := 9) (N := some 11) (v := ?_) (a' := ?_) #[true, true, true, true, true, true, true, true, true, true, false, false, false, false, false, false] rfl rfl (by kernel_rfl) (fun _ _ _ h => h) (Or.inl ⟨by rfl, ?_⟩) ?_ ?_
  rotate_left
  · intro w'
    go_simp
    first | with_reducible rfl | (rw [if_neg (by first | omega | (rw [ByteArray.size_append]; omega))])
  rotate_left
  · simp only [Act.put, List.setIfInBounds_toArray, List.set_cons_zero, List.set_cons_succ]
    rfl
  refine pure_ (i := 10) (N := some 21) (v := ?_) (a' := ?_) #[true, true, true, true, true, true, true, true, true, true, true, false, false, false, false, false] rfl rfl (by kernel_rfl) (fun _ _ _ h => h) (Or.inl ⟨by rfl, ?_⟩) ?_ ?_
  rotate_left
  · intro w'
    go_simp
    first | with_reducible rfl | (rw [if_neg (by first | omega | (rw [ByteArray.size_append]; omega))])
  rotate_left
  · simp only [Act.put, List.setIfInBounds_toArray, List.set_cons_zero, List.set_cons_succ]
    rfl
  refine pure_ (i := 11) (N := some 22) (v := ?_) (a' := ?_) #[true, true, true, true, true, true, true, true, true, true, true, true, false, false, false, false] rfl rfl (by kernel_rfl) (fun _ _ _ h => h) (Or.inl ⟨by rfl, ?_⟩) ?_ ?_
  rotate_left
  · intro w'
    go_simp
    first | with_reducible rfl | (rw [if_neg (by first | omega | (rw [ByteArray.size_append]; omega))])
  rotate_left
  · simp only [Act.put, List.setIfInBounds_toArray, List.set_cons_zero, List.set_cons_succ]
    rfl
  refine pure_ (i := 12) (N := some 23) (v := ?_) (a' := ?_) #[true, true, true, true, true, true, true, true, true, true, true, true, true, false, false, false] rfl rfl (by kernel_rfl) (fun _ _ _ h => h) (Or.inl ⟨by rfl, ?_⟩) ?_ ?_
  rotate_left
  · intro w'
    go_simp
    first | with_reducible rfl | (rw [if_neg (by first | omega | (rw [ByteArray.size_append]; omega))])
  rotate_left
  · simp only [Act.put, List.setIfInBounds_toArray, List.set_cons_zero, List.set_cons_succ]
    rfl
  refine pure_ (i := 13) (N := some 3) (v := ?_) (a' := ?_) #[true, true, true, true, true, true, true, true, true, true, true, true, true, true, false, false] rfl rfl (by kernel_rfl) (fun _ _ _ h => h) (Or.inl ⟨by rfl, ?_⟩) ?_ ?_
  rotate_left
  · intro w'
    go_simp
    first | with_reducible rfl | (rw [if_neg (by first | omega | (rw [ByteArray.size_append]; omega))])
  rotate_left
  · simp only [Act.put, List.setIfInBounds_toArray, List.set_cons_zero, List.set_cons_succ]
    rfl
  refine pure_ (i := 14) (N := some 4) (v := ?_) (a' := ?_) #[true, true, true, true, true, true, true, true, true, true, true, true, true, true, true, false] rfl rfl (by kernel_rfl) (fun _ _ _ h => h) (Or.inl ⟨by rfl, ?_⟩) ?_ ?_
  rotate_left
  · intro w'
    go_simp
    first | with_reducible rfl | (rw [if_neg (by first | omega | (rw [ByteArray.size_append]; omega))])
  rotate_left
  · simp only [Act.put, List.setIfInBounds_toArray, List.set_cons_zero, List.set_cons_succ]
    rfl
  refine pure_ (i := 15) (N := some 5) (v := ?_) (a' := ?_) #[true, true, true, true, true, true, true, true, true, true, true, true, true, true, true, true] rfl rfl (by kernel_rfl) (fun _ _ _ h => h) (Or.inl ⟨by rfl, ?_⟩) ?_ ?_
  rotate_left
  · intro w'
    go_simp
    first | with_reducible rfl | (rw [if_neg (by first | omega | (rw [ByteArray.size_append]; omega))])
  rotate_left
  · simp only [Act.put, List.setIfInBounds_toArray, List.set_cons_zero, List.set_cons_succ]
    rfl
  refine done_ (by kernel_rfl) ?_
  have q2 := HR2.out.c2
  have q3 := HR2.out.fz 2
  go_wp2_with fail
  go_ret
  exact ⟨rfl, a, _, _, _, HR2.out.err _, HU2.out.rset HR2.out _ _, kp_r ((Kp.refl _ w).drew.next HB2.out) _ _⟩
set_option maxHeartbeats 2000000 in
set_option maxRecDepth 100000 in
theorem wtake_badc (w : World) (r : Nat) (s : ByteArray) (b n : Nat) (dp : Int) (h : RW w r s b .nilIface dp) (hs : s.size ≤ 140737488351232) (hb : b ≤ s.size) (hbn : s.size - b < n) :
    Calls Tryd.prog 48 #[.pointer (some ⟨r, 0, none⟩), .int .u64 (n : Int)] w fun e w' => e = .returned (.string ByteArray.empty) ∧ WBadC w r s dp 1 w' := by
  have c0 := h.c0
  have c1 := h.c1
  have c2 := h.c2
  have HR2 := Aside0.mk h
  have hw1 : IntKind.i64.wrap ((s.size : Int) - (b : Int)) = ((s.size - b : Nat) : Int) := by rw [IntKind.wrap_i64]; omega
  have hw2 : IntKind.u64.wrap ((s.size - b : Nat) : Int) = ((s.size - b : Nat) : Int) := by rw [wrap_u64]; omega
  have hgt : decide (s.size - b < n) = true := decide_eq_true hbn
  have G2 := fun m => wfails_new (w.drewN m) r s b dp (b : Int) 1 (h.drewN m)
  clear h
  go_enter Tryd.func48, Tryd.ntmps48
  go_wp2_with fail
  go_quiet (fail)
  clear hw1 hw2 hgt
  go_wp2_with fail
  refine (G2 _).mono ?_
  rintro e w4 ⟨rfl, T, x, hr4, hu4, hk4⟩
  have HR4 := Aside0.mk hr4
  have HU4 := Aside0.mk hu4
  have HK4 := Aside0.mk hk4
  have z2 := hr4.c2
  clear hr4 hu4 hk4
  go_wp2_with fail
  go_ret
  exact ⟨rfl, b, _, _, _, HR4.out, HU4.out, ((Kp.refl _ w).drewN _).trans HK4.out⟩

set_option maxHeartbeats 4000000 in
set_option maxRecDepth 100000 in
theorem wlittle_badc (w : World) (r : Nat) (s : ByteArray) (b k : Nat) (dp : Int) (h : RW w r s b .nilIface dp) (hs : s.size ≤ 140737488351232) (hb : b ≤ s.size) (hbn : s.size - b < k) (hk : k ≤ 8) :
    Calls Tryd.prog 38 #[.pointer (some ⟨r, 0, none⟩), .int .i64 (k : Int)] w fun e w' => e = .returned (.int .u64 0) ∧ WBadC w r s dp 1 w' := by
  have hw : IntKind.u64.wrap (k : Int) = (k : Int) := by rw [wrap_u64]; omega
  have G := wtake_badc w r s b k dp h hs hb hbn
  clear h hbn hb
  go_enter Tryd.func38, Tryd.ntmps38
  go_wp2_with fail
  refine G.mono ?_
  rintro e w2 ⟨rfl, a', T, x, p, hr2, hu2, hk2⟩
  go_wp2_with fail
  rw [run_bytes_of_string (P := Tryd.prog) w2 9 98 5 ByteArray.empty Tryd.underlying9 Tryd.underlying98 Tryd.underlying5]
  have hB2 : Below w2.heap.size w2 (w2.drew.alloc (.cells (bytesRow ByteArray.empty (grownCap w2 ByteArray.empty.size 0 5)) 5 ((bytesRow ByteArray.empty (grownCap w2 ByteArray.empty.size 0 5)).size, (bytesRow ByteArray.empty (grownCap w2 ByteArray.empty.size 0 5)).size + 1))) := ((Below.refl _ _).drew).alloc (Nat.le_refl _) _
  have HR := Aside0.mk (hr2.below hB2)
  have HK := Aside0.mk (hk2.next hB2)
  have HU := Aside0.mk (hu2.below hB2)
  have hz : ByteArray.empty.size = 0 := rfl
  generalize w2.drew.alloc (.cells (bytesRow ByteArray.empty (grownCap w2 ByteArray.empty.size 0 5)) 5 ((bytesRow ByteArray.empty (grownCap w2 ByteArray.empty.size 0 5)).size, (bytesRow ByteArray.empty (grownCap w2 ByteArray.empty.size 0 5)).size + 1)) = W at *
  generalize grownCap w2 ByteArray.empty.size 0 5 = cap at *
  rw [hz]
  generalize w2.heap.size = g at *
  clear hr2 hk2 hu2 G hB2 hw hz
  go_wp2_with fail
  go_loopw [5, 14] (fun v5 v14 w' => v5 = .int .u64 0 ∧ v14 = .int .i64 0 ∧ w' = W) (fun _ _ _ => 0)
  case atStart => exact ⟨rfl, rfl, rfl⟩
  case round =>
    obtain ⟨rfl, rfl, rfl⟩ := hrel
    go_wp2_with fail
    go_ret
    exact ⟨rfl, a', T, x, p, HR.out, HU.out, HK.out⟩
/-- No number where it stands. -/
def BadAt (f : FuncId) (args : Nat → Array Value) (s : ByteArray) (a : Nat) (cd : Int) : Prop := ∀ W r, RW W r s a .nilIface 0 → Calls Tryd.prog f (args r) W fun e W' => e = .returned (.int .u64 0) ∧ WBadC W r s 0 cd W'
set_option maxHeartbeats 4000000 in
set_option maxRecDepth 100000 in
theorem wfixeds_bad (w : World) (s : ByteArray) (l : List Int) (pos : Nat → Nat) (h0 : pos 0 = 0) (hl : l.length ≤ 1000000) (hlt : ∀ i, i < l.length → pos i < s.size) (hend : pos l.length < s.size) (cd : Int)
    (HN : ∀ (i : Nat) (hi : i < l.length), NumAt 38 (fun r => #[.pointer (some ⟨r, 0, none⟩), .int .i64 8]) s pos i l[i])
    (HE : BadAt 38 (fun r => #[.pointer (some ⟨r, 0, none⟩), .int .i64 8]) s (pos l.length) cd) :
    Calls Tryd.prog 19 #[.string s] w fun e w' => ∃ T x p, e = .returned (.tuple #[.slice none 0 0, .iface T x]) ∧ IsE w' (.at_ p (.code cd)) (.iface T x) ∧ Below w.heap.size w w' := by
  have HB0 := Aside0.mk (Below.refl w.heap.size w)
  have HG := Aside0.mk HN
  have HEE := Aside0.mk HE
  have HP := Aside0.mk (And.intro hlt hend)
  clear HN HE hlt hend
  go_enter Tryd.func19, Tryd.ntmps19
  go_wp2_with fail
  have hr1 : RW (w.alloc (.cells #[.string s, .int .i64 0, .nilIface, .int .i64 0] 63)) w.heap.size s (pos 0) .nilIface 0 := by
    rw [h0]; exact heap_alloc_new w _
  have HB1 := Aside0.mk (HB0.out.alloc (Nat.le_refl _) (.cells #[.string s, .int .i64 0, .nilIface, .int .i64 0] 63))
  have HR1 := Aside0.mk hr1
  clear hr1 HB0 h0
  generalize w.alloc (.cells #[.string s, .int .i64 0, .nilIface, .int .i64 0] 63) = W1 at *
  generalize hrr : w.heap.size = r at HR1 ⊢
  have HRR := Aside0.mk hrr
  clear hrr
  go_loopw [4] (fun v4 w' => ∃ (i : Nat) (A : Option Addr) (c : Nat), i ≤ l.length ∧ v4 = .slice A i c ∧ Aside0 (RW w' r s (pos i) .nilIface 0) ∧ Aside0 (Kd.R (Kd.int .u64) 23 w' w.heap.size (fun k => k ≠ r) (.slice A i c) (l.take i)) ∧ Aside0 (Below w.heap.size w w')) (fun v4 _ => l.length - lenOf v4)
  case atStart => exact ⟨0, none, 0, Nat.zero_le _, rfl, HR1, ⟨by rw [List.take_zero]; exact Kd.R_nil _ _ _ _ _⟩, HB1⟩
  case round =>
    clear HR1 HB1
    obtain ⟨i, A, c, hi, rfl, HR, HO, HB⟩ := hrel
    have q1 := HR.out.c1
    by_cases hlt : i < l.length
    · have d1 : ((pos i : Nat) : Int) < (s.size : Int) := by have := HP.out.1 i hlt; omega
      have G := HG.out i hlt wr r HR.out
      go_wp2_with fail
      refine G.mono ?_
      rintro e w2 ⟨rfl, hr2, hk2⟩
      have HR2 := Aside0.mk hr2
      have HB2 := Aside0.mk (HB.out.trans (hk2.toBelow HB.out.size (fun k e => by rw [e, HRR.out]; exact Nat.le_refl r)))
      have HO2 := Aside0.mk (hk2.row HO.out (fun k hk => hk))
      have q2 := hr2.c2
      have hrl : r < w2.heap.size := blk_lt hr2
      have HRL := Aside0.mk hrl
      have hlen : (l.take i).length = i := by rw [List.length_take]; omega
      have HL := Aside0.mk hlen
      have htk : l.take i ++ [l[i]] = l.take (i + 1) := (List.take_succ_eq_append_getElem hlt).symm
      have HT := Aside0.mk htk
      have hil : (i + 1) * 8 ≤ 140737488355328 := by omega
      clear HB HO hr2 hk2 q1 hrl hlen htk G HR
      have HB := HB2
      have HO := HO2
      clear HB2 HO2
      go_wp2_with ((with_reducible refine gate_builtin (b := .append) (xs := #[.tmp 28, .tmp 30]) rfl ?_); at_builtin; refine Kd.R_append (Kd.int .u64) (w0 := w) w.heap.size rfl (.tmp 28) (.tmp 30) 45 23 (.int .u64 0) 8 rfl Tryd.underlying45 info_u64w rfl (by decide) (by omega) (.slice A i c) (l.take i) l[i] [.int .u64 l[i]] (fun k => k ≠ r) (fun _ => False) rfl rfl ?aP (fun _ hk => hk.elim) ?aF ?aO ?aB ?aS ?aL ?_; (case aP => exact rfl); (case aB => exact (by repeat (first | (with_reducible exact HB.out) | apply below_alloc | apply pw_below_drewN | apply below_drew1))); (case aF => exact (fun k hk e => by have := HRL.out; omega)); (case aO => exact (by (with_reducible repeat (first | apply Kd.R_alloc | apply Kd.R_drewN | apply Kd.R_drew)); exact HO.out)); (case aS => exact (below_size (by repeat (first | (with_reducible exact HB.out) | apply below_alloc | apply pw_below_drewN | apply below_drew1)))); (case aL => (rw [HL.out]; exact hil)); intro va wa ho hb hg hat; have HX3 := Aside0.mk (HR2.out.grown hg HO.out.1); have n0_ := Aside0.mk hb; have n1_ := Aside0.mk ho; clear HB HO; have HB := n0_; have HO := n1_; clear n0_ n1_ ho hb hg hat; obtain ⟨A', c', hva⟩ := Kd.R_slice HO.out; subst hva)
      have hm : min (i + 1) l.length = i + 1 := by omega
      refine ⟨⟨i + 1, A', c', by omega, by rw [hm], HX3, ⟨?_⟩, HB⟩, by rw [hm]; simp only [lenOf]; omega⟩
      have h := HO.out
      rw [HT.out] at h
      first | exact h | (rw [show (l.take (i + 1)).length = i + 1 by rw [List.length_take]; omega] at h; exact h) | (rw [hm] at h; exact h)
    · obtain rfl : i = l.length := by omega
      have d1 : ((pos l.length : Nat) : Int) < (s.size : Int) := by have := HP.out.2; omega
      have G := HEE.out wr r HR.out
      go_wp2_with fail
      refine G.mono ?_
      rintro e w2 ⟨rfl, a', T, x, p, hr2, hu2, hk2⟩
      have HU2 := Aside0.mk hu2
      have HB2 := Aside0.mk (HB.out.trans (hk2.toBelow HB.out.size (fun k e => by rw [e, HRR.out]; exact Nat.le_refl r)))
      have q2 := hr2.c2
      clear hr2 hu2 hk2 G q1
      go_wp2_with fail
      go_quiet (fail)
      go_wp2_with fail
      go_ret2
      exact ⟨T, x, p, rfl, HU2.out.below (by apply pw_below_drewN; exact Below.refl _ _), (by apply pw_below_drewN; exact HB2.out)⟩
set_option maxHeartbeats 4000000 in
set_option maxRecDepth 100000 in
theorem wvarints_bad (w : World) (s : ByteArray) (l : List Int) (pos : Nat → Nat) (h0 : pos 0 = 0) (hl : l.length ≤ 1000000) (hlt : ∀ i, i < l.length → pos i < s.size) (hend : pos l.length < s.size) (cd : Int)
    (HN : ∀ (i : Nat) (hi : i < l.length), NumAt 39 (fun r => #[.pointer (some ⟨r, 0, none⟩)]) s pos i l[i])
    (HE : BadAt 39 (fun r => #[.pointer (some ⟨r, 0, none⟩)]) s (pos l.length) cd) :
    Calls Tryd.prog 21 #[.string s] w fun e w' => ∃ T x p, e = .returned (.tuple #[.slice none 0 0, .iface T x]) ∧ IsE w' (.at_ p (.code cd)) (.iface T x) ∧ Below w.heap.size w w' := by
  have HB0 := Aside0.mk (Below.refl w.heap.size w)
  have HG := Aside0.mk HN
  have HEE := Aside0.mk HE
  have HP := Aside0.mk (And.intro hlt hend)
  clear HN HE hlt hend
  go_enter Tryd.func21, Tryd.ntmps21
  go_wp2_with fail
  have hr1 : RW (w.alloc (.cells #[.string s, .int .i64 0, .nilIface, .int .i64 0] 63)) w.heap.size s (pos 0) .nilIface 0 := by
    rw [h0]; exact heap_alloc_new w _
  have HB1 := Aside0.mk (HB0.out.alloc (Nat.le_refl _) (.cells #[.string s, .int .i64 0, .nilIface, .int .i64 0] 63))
  have HR1 := Aside0.mk hr1
  clear hr1 HB0 h0
  generalize w.alloc (.cells #[.string s, .int .i64 0, .nilIface, .int .i64 0] 63) = W1 at *
  generalize hrr : w.heap.size = r at HR1 ⊢
  have HRR := Aside0.mk hrr
  clear hrr
  go_loopw [4] (fun v4 w' => ∃ (i : Nat) (A : Option Addr) (c : Nat), i ≤ l.length ∧ v4 = .slice A i c ∧ Aside0 (RW w' r s (pos i) .nilIface 0) ∧ Aside0 (Kd.R (Kd.int .u64) 23 w' w.heap.size (fun k => k ≠ r) (.slice A i c) (l.take i)) ∧ Aside0 (Below w.heap.size w w')) (fun v4 _ => l.length - lenOf v4)
  case atStart => exact ⟨0, none, 0, Nat.zero_le _, rfl, HR1, ⟨by rw [List.take_zero]; exact Kd.R_nil _ _ _ _ _⟩, HB1⟩
  case round =>
    clear HR1 HB1
    obtain ⟨i, A, c, hi, rfl, HR, HO, HB⟩ := hrel
    have q1 := HR.out.c1
    by_cases hlt : i < l.length
    · have d1 : ((pos i : Nat) : Int) < (s.size : Int) := by have := HP.out.1 i hlt; omega
      have G := HG.out i hlt wr r HR.out
      go_wp2_with fail
      refine G.mono ?_
      rintro e w2 ⟨rfl, hr2, hk2⟩
      have HR2 := Aside0.mk hr2
      have HB2 := Aside0.mk (HB.out.trans (hk2.toBelow HB.out.size (fun k e => by rw [e, HRR.out]; exact Nat.le_refl r)))
      have HO2 := Aside0.mk (hk2.row HO.out (fun k hk => hk))
      have q2 := hr2.c2
      have hrl : r < w2.heap.size := blk_lt hr2
      have HRL := Aside0.mk hrl
      have hlen : (l.take i).length = i := by rw [List.length_take]; omega
      have HL := Aside0.mk hlen
      have htk : l.take i ++ [l[i]] = l.take (i + 1) := (List.take_succ_eq_append_getElem hlt).symm
      have HT := Aside0.mk htk
      have hil : (i + 1) * 8 ≤ 140737488355328 := by omega
      clear HB HO hr2 hk2 q1 hrl hlen htk G HR
      have HB := HB2
      have HO := HO2
      clear HB2 HO2
      go_wp2_with ((with_reducible refine gate_builtin (b := .append) (xs := #[.tmp 28, .tmp 30]) rfl ?_); at_builtin; refine Kd.R_append (Kd.int .u64) (w0 := w) w.heap.size rfl (.tmp 28) (.tmp 30) 45 23 (.int .u64 0) 8 rfl Tryd.underlying45 info_u64w rfl (by decide) (by omega) (.slice A i c) (l.take i) l[i] [.int .u64 l[i]] (fun k => k ≠ r) (fun _ => False) rfl rfl ?aP (fun _ hk => hk.elim) ?aF ?aO ?aB ?aS ?aL ?_; (case aP => exact rfl); (case aB => exact (by repeat (first | (with_reducible exact HB.out) | apply below_alloc | apply pw_below_drewN | apply below_drew1))); (case aF => exact (fun k hk e => by have := HRL.out; omega)); (case aO => exact (by (with_reducible repeat (first | apply Kd.R_alloc | apply Kd.R_drewN | apply Kd.R_drew)); exact HO.out)); (case aS => exact (below_size (by repeat (first | (with_reducible exact HB.out) | apply below_alloc | apply pw_below_drewN | apply below_drew1)))); (case aL => (rw [HL.out]; exact hil)); intro va wa ho hb hg hat; have HX3 := Aside0.mk (HR2.out.grown hg HO.out.1); have n0_ := Aside0.mk hb; have n1_ := Aside0.mk ho; clear HB HO; have HB := n0_; have HO := n1_; clear n0_ n1_ ho hb hg hat; obtain ⟨A', c', hva⟩ := Kd.R_slice HO.out; subst hva)
      have hm : min (i + 1) l.length = i + 1 := by omega
      refine ⟨⟨i + 1, A', c', by omega, by rw [hm], HX3, ⟨?_⟩, HB⟩, by rw [hm]; simp only [lenOf]; omega⟩
      have h := HO.out
      rw [HT.out] at h
      first | exact h | (rw [show (l.take (i + 1)).length = i + 1 by rw [List.length_take]; omega] at h; exact h) | (rw [hm] at h; exact h)
    · obtain rfl : i = l.length := by omega
      have d1 : ((pos l.length : Nat) : Int) < (s.size : Int) := by have := HP.out.2; omega
      have G := HEE.out wr r HR.out
      go_wp2_with fail
      refine G.mono ?_
      rintro e w2 ⟨rfl, a', T, x, p, hr2, hu2, hk2⟩
      have HU2 := Aside0.mk hu2
      have HB2 := Aside0.mk (HB.out.trans (hk2.toBelow HB.out.size (fun k e => by rw [e, HRR.out]; exact Nat.le_refl r)))
      have q2 := hr2.c2
      clear hr2 hu2 hk2 G q1
      go_wp2_with fail
      go_quiet (fail)
      go_wp2_with fail
      go_ret2
      exact ⟨T, x, p, rfl, HU2.out.below (by apply pw_below_drewN; exact Below.refl _ _), (by apply pw_below_drewN; exact HB2.out)⟩
end Go.Proofs.YtklkiofhenhafaaDoor
namespace Go.Proofs.YtklkiofhenhafaaDoor
open Go.RowKit Go.Proofs.YtklkiofhenhafaaDoorW.PrintWords Go.Proofs.YtklkiofhenhafaaDoorW.PrintLast Go.Proofs.YtklkiofhenhafaaDoorW.PrintMore Hy
open CWire (hygref2_GetVarint.f hygref2_Varints.l0 hygref2_Varints.f)

theorem dec_code0 : ∀ (l : List Nat) (i : Nat), dec i l = .inl 0 → False := by
  intro l
  induction l with
  | nil => intro i h; rw [dec_nil] at h; injection h with h; omega
  | cons x r ih =>
    intro i h
    by_cases h9 : i = 9 ∧ 1 < x
    · obtain ⟨rfl, hx⟩ := h9
      rw [dec_big x r hx] at h; injection h with h; omega
    · by_cases hx : x < 128
      · rw [dec_end i x r h9 hx] at h; cases h
      · rw [dec_on i x r h9 hx] at h
        cases hd : dec (i + 1) r with
        | inl y => rw [hd] at h; injection h with h; subst h; exact ih _ hd
        | inr y => rw [hd] at h; cases h
theorem vs_ok (s : ByteArray) (n p c : Int) (K : Nat) (acc : List Int) (a : Nat) (ha : (a : Int) < (s.size : Int)) (hg : hygref2_GetVarint.f K s (a : Int) = some (n, p, 0)) (hl : acc.length < 17592186044416) (_h : c = 0) :
    hygref2_Varints.l0 (K + 1) s acc (a : Int) = hygref2_Varints.l0 K s (acc ++ [n]) p := by
  rw [hygref2_Varints.l0, if_pos ha, hg, Option.bind_some, if_pos rfl, if_pos hl]
theorem vs_err (s : ByteArray) (n p c : Int) (K : Nat) (acc : List Int) (a : Nat) (ha : (a : Int) < (s.size : Int)) (hg : hygref2_GetVarint.f K s (a : Int) = some (n, p, c)) (hc : ¬ c = 0) :
    hygref2_Varints.l0 (K + 1) s acc (a : Int) = some ([], c) := by
  rw [hygref2_Varints.l0, if_pos ha, hg, Option.bind_some, if_neg hc]
theorem vs_puts (s : ByteArray) (hs : s.size ≤ 10000) : ∀ (R D : List Int) (K : Nat), u64s R → bs s = putsL D ++ putsL R → D.length + R.length ≤ 10000 → R.length + 25 ≤ K →
    hygref2_Varints.l0 K s D ((putsL D).length : Int) = some (D ++ R, 0) := by
  intro R
  induction R with
  | nil =>
    intro D K _ he _ hK
    obtain ⟨K, rfl⟩ : ∃ m, K = m + 1 := ⟨K - 1, by omega⟩
    have := congrArg List.length he
    rw [bs_length, putsL_nil, List.append_nil] at this
    rw [hygref2_Varints.l0, if_neg (by omega), List.append_nil]
  | cons x R ih =>
    intro D K hu he hl hK
    obtain ⟨K, rfl⟩ : ∃ m, K = m + 1 := ⟨K - 1, by omega⟩
    have hx := hu x (by simp)
    have hlen := congrArg List.length he
    rw [bs_length, putsL_cons, List.length_append, List.length_append] at hlen
    have hp := putL_pos x.toNat
    have hd : (bs s).drop (putsL D).length = putL x.toNat ++ putsL R := by rw [he, List.drop_left' rfl, putsL_cons]
    have hg := rgetv_k s (putsL D).length K (by simp at hK; omega) (by omega) (by omega)
    rw [hd, dec_put x.toNat (by omega)] at hg
    have hg2 : hygref2_GetVarint.f K s ((putsL D).length : Int) = some (x, (((putsL (D ++ [x])).length : Nat) : Int), 0) := by
      rw [hg]
      simp only [rgv]
      rw [putsL_append, List.length_append, putsL_cons, putsL_nil, List.append_nil, Int.toNat_of_nonneg hx.1]
    simp only [List.length_cons] at hl hK
    rw [vs_ok s x _ 0 K D _ (by omega) hg2 (by omega) rfl]
    have := ih (D ++ [x]) K (fun y hy => hu y (by simp [hy])) (by rw [he, putsL_append, putsL_cons, putsL_cons, putsL_nil, List.append_nil, List.append_assoc]) (by simp; omega) (by omega)
    rw [this, List.append_assoc]
    rfl
theorem vs_any (s : ByteArray) (hs : s.size ≤ 10000) : ∀ (d a : Nat) (D : List Int) (K : Nat), a + d = s.size → u64s D → D.length ≤ a → d + 25 ≤ K →
    ∃ vs c, hygref2_Varints.l0 K s D (a : Int) = some (vs, c) ∧ u64s vs ∧ vs.length ≤ s.size := by
  intro d
  induction d using Nat.strongRecOn with
  | ind d ih =>
    intro a D K ha hD hl hK
    obtain ⟨K, rfl⟩ : ∃ m, K = m + 1 := ⟨K - 1, by omega⟩
    by_cases h0 : d = 0
    · exact ⟨D, 0, by rw [hygref2_Varints.l0, if_neg (by omega)], hD, by omega⟩
    · have hg := rgetv_k s a K (by omega) (by omega) (by omega)
      cases hd : dec 0 ((bs s).drop a) with
      | inl c =>
        rw [hd] at hg
        by_cases hc : (c : Int) = 0
        · have hg2 : hygref2_GetVarint.f K s (a : Int) = some (0, 0, 0) := by rw [hg]; simp only [rgv]; rw [hc]
          exfalso
          have hc' : c = 0 := by omega
          subst hc'
          have := dec_code0 ((bs s).drop a) 0 hd
          exact this
        · exact ⟨[], c, vs_err s 0 0 c K D a (by omega) hg hc, by intro x hx; simp at hx, by simp⟩
      | inr x =>
        obtain ⟨v, m⟩ := x
        rw [hd] at hg
        obtain ⟨h1, h2, _, _, h5⟩ := dec_some _ 0 v m (okB_drop (bs_ok s) a) (by omega) hd
        rw [List.length_drop, bs_length] at h2
        rw [vs_ok s v _ 0 K D a (by omega) hg (by omega) rfl]
        exact ih (d - m) (by omega) (a + m) (D ++ [(v : Int)]) K (by omega) (by
          intro y hy
          rcases List.mem_append.1 hy with hy | hy
          · exact hD y hy
          · rw [List.mem_singleton.1 hy]; omega) (by simp; omega) (by omega)
end Go.Proofs.YtklkiofhenhafaaDoor
namespace Go.Proofs.YtklkiofhenhafaaDoor
open Go.RowKit Go.Proofs.YtklkiofhenhafaaDoorW.PrintWords Go.Proofs.YtklkiofhenhafaaDoorW.PrintLast Go.Proofs.YtklkiofhenhafaaDoorW.PrintMore Hy
open CWire (hygref2_GetVarint.f hygref2_Varints.l0 hygref2_Varints.f)

/-- Numbers one behind the other from a place on, as far as they are numbers. -/
structure VsAt (s : ByteArray) (a : Nat) (l : List Int) (pos : Nat → Nat) : Prop where
  p0 : pos 0 = a
  u64 : u64s l
  at_ : ∀ (i : Nat) (hi : i < l.length), pos i < s.size ∧ pos i < pos (i + 1) ∧ pos (i + 1) ≤ s.size ∧ dec 0 ((bs s).drop (pos i)) = .inr ((l[i]).toNat, pos (i + 1) - pos i)
theorem vs_split (s : ByteArray) : ∀ (d a : Nat), a + d = s.size → ∃ l pos, VsAt s a l pos ∧ (pos l.length = s.size ∨ (pos l.length < s.size ∧ ∃ c, dec 0 ((bs s).drop (pos l.length)) = .inl c)) := by
  intro d
  induction d using Nat.strongRecOn with
  | ind d ih =>
    intro a ha
    by_cases h0 : d = 0
    · exact ⟨[], fun _ => a, ⟨rfl, fun x hx => (by cases hx), fun i hi => absurd hi (Nat.not_lt_zero _)⟩, .inl (by show a = s.size; omega)⟩
    · cases hd : dec 0 ((bs s).drop a) with
      | inl c => exact ⟨[], fun _ => a, ⟨rfl, fun x hx => (by cases hx), fun i hi => absurd hi (Nat.not_lt_zero _)⟩, .inr ⟨by show a < s.size; omega, c, hd⟩⟩
      | inr x =>
        obtain ⟨v, k⟩ := x
        obtain ⟨h1, h2, _, _, h5⟩ := dec_some _ 0 v k (okB_drop (bs_ok s) a) (by omega) hd
        rw [List.length_drop, bs_length] at h2
        obtain ⟨l, pos, hv, he⟩ := ih (d - k) (by omega) (a + k) (by omega)
        refine ⟨(v : Int) :: l, fun i => match i with | 0 => a | i + 1 => pos i, ⟨rfl, ?_, ?_⟩, he⟩
        · intro x hx
          rcases List.mem_cons.1 hx with rfl | hx
          · exact ⟨by omega, by omega⟩
          · exact hv.u64 x hx
        · intro i hi
          cases i with
          | zero =>
            show a < s.size ∧ a < pos 0 ∧ pos 0 ≤ s.size ∧ dec 0 ((bs s).drop a) = .inr (Int.toNat (v : Int), pos 0 - a)
            rw [hv.p0, hd, Int.toNat_natCast, show a + k - a = k by omega]
            exact ⟨by omega, by omega, by omega, rfl⟩
          | succ i => exact hv.at_ i (by simp at hi; omega)
theorem VsAt.le {s : ByteArray} {l : List Int} {pos : Nat → Nat} (h : VsAt s 0 l pos) : ∀ (i : Nat), i ≤ l.length → i ≤ pos i ∧ pos i ≤ s.size := by
  intro i
  induction i with
  | zero => intro _; rw [h.p0]; omega
  | succ i ih =>
    intro hi
    have h1 := ih (by omega)
    have h2 := h.at_ i (by omega)
    omega
theorem rvs_l0 (s : ByteArray) (hs : s.size ≤ 10000) (l : List Int) (pos : Nat → Nat) (h : VsAt s 0 l pos) (R : List Int × Int)
    (hR : (pos l.length = s.size ∧ R = (l, 0)) ∨ (pos l.length < s.size ∧ ∃ c : Nat, dec 0 ((bs s).drop (pos l.length)) = .inl c ∧ R = ([], (c : Int)))) :
    ∀ (d i K : Nat), i + d = l.length → d + 25 ≤ K → hygref2_Varints.l0 K s (l.take i) (pos i : Int) = some R := by
  intro d
  induction d with
  | zero =>
    intro i K hi hK
    obtain ⟨K, rfl⟩ : ∃ m, K = m + 1 := ⟨K - 1, by omega⟩
    obtain rfl : i = l.length := by omega
    rcases hR with ⟨e1, rfl⟩ | ⟨e1, c, e2, rfl⟩
    · rw [hygref2_Varints.l0, if_neg (by omega), List.take_length]
    · have hg := rgetv_k s (pos l.length) K (by omega) (by omega) (by omega)
      rw [e2] at hg
      exact vs_err s 0 0 c K _ _ (by omega) hg (fun e => dec_code0 _ 0 (by rw [e2]; congr 1; omega))
  | succ d ih =>
    intro i K hi hK
    obtain ⟨K, rfl⟩ : ∃ m, K = m + 1 := ⟨K - 1, by omega⟩
    have hlt : i < l.length := by omega
    obtain ⟨h1, h2, h3, h4⟩ := h.at_ i hlt
    have hx := h.u64 l[i] (List.getElem_mem hlt)
    have hg := rgetv_k s (pos i) K (by omega) (by omega) (by omega)
    rw [h4] at hg
    have hg2 : hygref2_GetVarint.f K s (pos i : Int) = some (l[i], (pos (i + 1) : Int), 0) := by
      rw [hg]
      simp only [rgv]
      rw [Int.toNat_of_nonneg hx.1, show pos i + (pos (i + 1) - pos i) = pos (i + 1) by omega]
    have hle := (h.le l.length (Nat.le_refl _))
    rw [vs_ok s l[i] _ 0 K _ _ (by omega) hg2 (by rw [List.length_take]; omega) rfl, ← List.take_succ_eq_append_getElem hlt]
    exact ih (i + 1) K (by omega) (by omega)
theorem rvs_any (s : ByteArray) (w : World) (hs : s.size ≤ 10000) (l : List Int) (pos : Nat → Nat) (h : VsAt s 0 l pos) (r1 : List Int) (r2 : Int)
    (hR : (pos l.length = s.size ∧ (r1, r2) = (l, 0)) ∨ (pos l.length < s.size ∧ ∃ c : Nat, dec 0 ((bs s).drop (pos l.length)) = .inl c ∧ (r1, r2) = (([] : List Int), (c : Int)))) :
    Calls Tryd.prog 22 #[.string s] w fun e w' => ∃ v0_ : Value, e = .returned (.tuple #[v0_, .int .i64 r2]) ∧ Kd.R (Kd.int .u64) 23 w' w.heap.size (fun _ => True) v0_ r1 ∧ Below w.heap.size w w' := by
  refine CWire.hygref2_Varints.calls (l.length + 25) s r1 r2 w ?_
  have := rvs_l0 s hs l pos h (r1, r2) hR l.length 0 (l.length + 25) (by omega) (Nat.le_refl _)
  rw [h.p0] at this
  exact this
theorem pvs_num (s : ByteArray) (hs : s.size ≤ 10000) (l : List Int) (pos : Nat → Nat) (h : VsAt s 0 l pos) (i : Nat) (hi : i < l.length) : NumAt 39 (fun r => #[.pointer (some ⟨r, 0, none⟩)]) s pos i l[i] := by
  intro W r hr
  obtain ⟨h1, h2, h3, h4⟩ := h.at_ i hi
  have hx := h.u64 l[i] (List.getElem_mem hi)
  have hw := wvar_ok W r s (pos i) (l[i]).toNat (pos (i + 1) - pos i) 0 hr (by omega) (by omega) h4
  rw [Int.toNat_of_nonneg hx.1, show pos i + (pos (i + 1) - pos i) = pos (i + 1) by omega] at hw
  exact hw
theorem pvs_ok (s : ByteArray) (w : World) (hs : s.size ≤ 10000) (l : List Int) (pos : Nat → Nat) (h : VsAt s 0 l pos) (he : pos l.length = s.size) :
    Calls Tryd.prog 21 #[.string s] w fun e w' => ∃ A c, e = .returned (.tuple #[.slice A l.length c, .nilIface]) ∧ Kd.C (Kd.int .u64) w' A l.length l ∧ l.length ≤ c ∧ Below w.heap.size w w' :=
  wvarints_ok w s l pos h.p0 (by have := h.le l.length (Nat.le_refl _); omega) (fun i hi => (h.at_ i hi).1) he (fun i hi => pvs_num s hs l pos h i hi)
theorem pvs_bad (s : ByteArray) (w : World) (hs : s.size ≤ 10000) (l : List Int) (pos : Nat → Nat) (h : VsAt s 0 l pos) (he : pos l.length < s.size) (c : Nat) (hc : dec 0 ((bs s).drop (pos l.length)) = .inl c) :
    Calls Tryd.prog 21 #[.string s] w fun e w' => ∃ T x p, e = .returned (.tuple #[.slice none 0 0, .iface T x]) ∧ IsE w' (.at_ p (.code (c : Int))) (.iface T x) ∧ Below w.heap.size w w' :=
  wvarints_bad w s l pos h.p0 (by have := h.le l.length (Nat.le_refl _); omega) (fun i hi => (h.at_ i hi).1) he (c : Int) (fun i hi => pvs_num s hs l pos h i hi)
    (fun W r hr => wvar_badc W r s (pos l.length) c 0 hr (by omega) (by omega) hc)
theorem pfix_bad (s : ByteArray) (w : World) (hs : s.size ≤ 10000) (h8 : s.size % 8 ≠ 0) :
    Calls Tryd.prog 19 #[.string s] w fun e w' => ∃ T x p, e = .returned (.tuple #[.slice none 0 0, .iface T x]) ∧ IsE w' (.at_ p (.code 1)) (.iface T x) ∧ Below w.heap.size w w' := by
  obtain ⟨l, h1, h2, h3⟩ := fix_of (s.size / 8) ((bs s).take (8 * (s.size / 8))) (okB_take (bs_ok s) _) (by rw [List.length_take, bs_length]; omega)
  refine wfixeds_bad w s l (fun i => 8 * i) rfl (by omega) (fun i hi => by show 8 * i < s.size; omega) (by show 8 * l.length < s.size; omega) 1 ?_ ?_
  · intro i hi W r hr
    have hw := wlittle_ok W r s (8 * i) 8 0 hr (by omega) (by omega) (by omega)
    have he : ((bs s).drop (8 * i)).take 8 = leL 8 (l[i]).toNat := by
      rw [← fixL_at l i hi, ← h1, List.drop_take, List.take_take, Nat.min_eq_left (by omega)]
    have hx := h3 l[i] (List.getElem_mem hi)
    rw [he, little_leL 8 _ (by omega), Int.toNat_of_nonneg hx.1] at hw
    exact hw
  · intro W r hr
    exact wlittle_badc W r s (8 * l.length) 8 0 hr (by omega) (by omega) (by omega) (by omega)
end Go.Proofs.YtklkiofhenhafaaDoor
