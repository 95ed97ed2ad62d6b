import Derived.Test.YtnghlkbmfhkmoaaGreatDoorMbhwgezqr
import Derived.Test.YtnghlkbmfhkmoaaGreatDoorMawrohoxn
import Derived.Outline
namespace Go.Proofs.YtnghlkbmfhkmoaaGreatDoor.Hy
open Go.RowKit
/-! ### numbers read one behind the other, each in as few bytes as may be -/
theorem okB_drop {l : List Nat} (h : okB l) (k : Nat) : okB (l.drop k) := fun x hx => h x (List.mem_of_mem_drop hx)
end Go.Proofs.YtnghlkbmfhkmoaaGreatDoor.Hy
namespace Go.Proofs.YtnghlkbmfhkmoaaGreatDoor
open Go.RowKit Go.Proofs.YtnghlkbmfhkmoaaGreatDoorW.PrintWords Go.Proofs.YtnghlkbmfhkmoaaGreatDoorW.PrintLast Go.Proofs.YtnghlkbmfhkmoaaGreatDoorW.PrintMore Hy
open CExw
theorem get_ok (s : ByteArray) (at_ : Int) (v m : Nat) (w : World) (h0 : 0 ≤ at_) (h1 : at_ ≤ s.size) (hs : s.size ≤ 140737488351232)
   (h : dec 0 ((bs s).drop at_.toNat) = .inr (v, m)) :
    Calls Tryz.prog 116 #[.string s, .int .i64 at_] w fun e w' => e = .returned (.tuple #[.int .u64 v, .int .i64 (at_ + m), .nilIface]) ∧ Below w.heap.size w w' := by
  have hm : m ≤ 10 := by
    have hok : okB ((bs s).drop at_.toNat) := fun x hx => bs_ok s x (List.mem_of_mem_drop hx)
    have := dec_some _ 0 v m hok (by omega) h
    omega
  have H : Aside0 (varint_read.f 30 (s.extract at_.toNat s.size) = some ((v : Int), (m : Int), none)) := ⟨by
    rw [read_f, bs_extract, List.take_of_length_le (by rw [bs_length]; omega), h]⟩
  clear h
  go_enter Tryz.func116, Tryz.ntmps116
  go_wp2_with (go_at_call 121; refine (varint_read.calls 30 _ _ _ none _ H.out).mono ?_; rintro e w1 ⟨rfl, hb⟩; simp only [errW_none])
  go_ret3
  exact ⟨rfl, hb⟩
theorem get_err (s : ByteArray) (at_ : Int) (c : Nat) (w : World) (h0 : 0 ≤ at_) (h1 : at_ ≤ s.size) (_hs : s.size ≤ 140737488351232)
   (h : dec 0 ((bs s).drop at_.toNat) = .inl c) :
    Calls Tryz.prog 116 #[.string s, .int .i64 at_] w fun e w' => ∃ u, e = .returned (.tuple #[.int .u64 0, .int .i64 0, u]) ∧ IsE w' (.at_ at_ (.code c)) u ∧ Below w.heap.size w w' := by
  have H : Aside0 (varint_read.f 30 (s.extract at_.toNat s.size) = some (0, 0, some (c : Int))) := ⟨by
    rw [read_f, bs_extract, List.take_of_length_le (by rw [bs_length]; omega), h]⟩
  clear h
  go_enter Tryz.func116, Tryz.ntmps116
  go_wp2_with (first | (go_at_call 121; refine (varint_read.calls 30 _ _ _ (some (c : Int)) _ H.out).mono ?_; rintro e w1 ⟨rfl, hb⟩; simp only [errW_some]) | (go_at_call 117; refine (at_any _ _ _ ⟨_, _, rfl⟩).mono ?_; rintro e w2 ⟨rfl, rfl⟩))
  go_ret3
  exact ⟨_, rfl, IsE.new rfl, below_alloc hb _⟩
end Go.Proofs.YtnghlkbmfhkmoaaGreatDoor
namespace Go.Proofs.YtnghlkbmfhkmoaaGreatDoor
open Go.RowKit Go.Proofs.YtnghlkbmfhkmoaaGreatDoorW.PrintWords Go.Proofs.YtnghlkbmfhkmoaaGreatDoorW.PrintLast Go.Proofs.YtnghlkbmfhkmoaaGreatDoorW.PrintMore Hy
/-! ### the reader of records: its block -/
def RW (w : World) (r : Nat) (s : ByteArray) (a : Nat) (u : Value) (dp : Int) : Prop := w.heap[r]? = some (.cells #[.string s, .int .i64 (a : Int), u, .int .i64 dp] 114 (0, 0))
/-- An error that says what is wrong with a record, at a place within. -/
def WE (s : ByteArray) (E : Err) : Prop := ∃ (p : Nat) (c : Int), E = .at_ (p : Int) (.code c) ∧ p ≤ s.size ∧ (c = 1 ∨ c = 3 ∨ c = 4 ∨ c = 6)
section
variable {w w' : World} {r : Nat} {s : ByteArray} {a : Nat} {u : Value} {dp : Int}
theorem RW.c0 (h : RW w r s a u dp) : w.cell? ⟨r, 0, none⟩ = some (.string s) := by rw [blk_cell h]; rfl
theorem RW.c1 (h : RW w r s a u dp) : w.cell? ⟨r, 1, none⟩ = some (.int .i64 (a : Int)) := by rw [blk_cell h]; rfl
theorem RW.c2 (h : RW w r s a u dp) : w.cell? ⟨r, 2, none⟩ = some u := by rw [blk_cell h]; rfl
theorem RW.c3 (h : RW w r s a u dp) : w.cell? ⟨r, 3, none⟩ = some (.int .i64 dp) := by rw [blk_cell h]; rfl
theorem RW.fz (h : RW w r s a u dp) (i : Nat) : w.frozen? ⟨r, i, none⟩ = false := blk_frozen h i
theorem RW.drew (h : RW w r s a u dp) : RW w.drew r s a u dp := h
theorem RW.drewN (h : RW w r s a u dp) (n : Nat) : RW (w.drewN n) r s a u dp := h
theorem RW.below (h : RW w r s a u dp) (hb : Below w.heap.size w w') : RW w' r s a u dp := blk_below h hb
theorem RW.err (h : RW w r s a u dp) (u' : Value) : RW (w.setCell ⟨r, 2, none⟩ u') r s a u' dp := by
  unfold RW at *
  rw [blk_set h]; rfl
theorem RW.at2 (h : RW w r s a u dp) {x : Int} {a' : Nat} (hx : x = (a' : Int)) : RW (w.setCell ⟨r, 1, none⟩ (.int .i64 x)) r s a' u dp := by
  subst hx
  unfold RW at *
  rw [blk_set h]; rfl
theorem RW.dep (h : RW w r s a u dp) (x : Int) : RW (w.setCell ⟨r, 3, none⟩ (.int .i64 x)) r s a u x := by
  unfold RW at *
  rw [blk_set h]; rfl
theorem RW.kp {M : Nat → Prop} (h : RW w r s a u dp) (hk : Kp M w w') (hr : ¬ M r) : RW w' r s a u dp := hk.obj h hr
theorem kp_r {W : World} (h : Kp (fun k => k = r) w W) (i : Nat) (x : Value) : Kp (fun k => k = r) w (W.setCell ⟨r, i, none⟩ x) := h.set (p := ⟨r, i, none⟩) rfl x
theorem IsE.kp {M : Nat → Prop} {e : Err} : ∀ {v : Value}, IsE w e v → Kp M w w' → (∀ k c, w.heap[k]? = some (.cells c 164 (0, 0)) → ¬ M k) → IsE w' e v := by
  induction e with
  | nil => intro v h _ _; exact h
  | code c => intro v h _ _; exact h
  | at_ n e ih =>
    intro v h hk hM
    obtain ⟨a, u, rfl, ha, hu⟩ := h
    exact ⟨a, u, rfl, hk.obj ha (hM _ _ ha), ih hu hk hM⟩
  | fld n e ih => intro v h _ _; exact h.elim
  | oth => intro v h _ _; exact h.elim
/-- A store to the reader leaves errors as they are. -/
theorem IsE.rset {e : Err} {v : Value} (h : RW w r s a u dp) (hv : IsE w e v) (i : Nat) (x : Value) : IsE (w.setCell ⟨r, i, none⟩ x) e v :=
  hv.kp (Kp.set (Kp.refl (fun k => k = r) w) (p := ⟨r, i, none⟩) rfl x) (fun k c hk e => by
    subst e
    unfold RW at h
    rw [h] at hk
    injection hk with hk
    injection hk with _ hk
    exact absurd hk (by decide))
end
/-- The reader has failed. -/
def WBad (w : World) (r : Nat) (s : ByteArray) (dp : Int) (w' : World) : Prop := ∃ (a' T : Nat) (x : Value) (E : Err), a' ≤ s.size ∧ RW w' r s a' (.iface T x) dp ∧ IsE w' E (.iface T x) ∧ WE s E ∧ Kp (fun k => k = r) w w'
set_option maxHeartbeats 1000000 in
set_option maxRecDepth 100000 in
theorem wfails_new (w : World) (r : Nat) (s : ByteArray) (a : Nat) (dp n c : Int) (h : RW w r s a .nilIface dp) :
    Calls Tryz.prog 111 #[.pointer (some ⟨r, 0, none⟩), .int .i64 n, .iface 36 (.int .i64 c)] w fun e w' => e = .returned (.tuple #[]) ∧ ∃ T x, RW w' r s a (.iface T x) dp ∧ IsE w' (.at_ n (.code c)) (.iface T x) ∧ Kp (fun k => k = r) w w' := by
  have c2 := h.c2
  have HR := Aside0.mk h
  have hr1 : RW (w.alloc (.cells #[.int .i64 n, .iface 36 (.int .i64 c)] 164 (0, 0))) r s a .nilIface dp := h.below ((Below.refl _ _).alloc (Nat.le_refl _) _)
  have HR1 := Aside0.mk hr1
  have q2 := hr1.c2
  have q3 := hr1.fz 2
  clear h hr1
  go_enter Tryz.func111, Tryz.ntmps111
  go_wp2_with (go_at_call 117; refine (at_any _ _ _ ⟨_, _, rfl⟩).mono ?_; rintro e wx ⟨rfl, rfl⟩)
  go_end0
  exact ⟨rfl, _, _, HR1.out.err _, (IsE.new (w := w) (n := n) (e := .code c) rfl).rset HR1.out 2 _, Kp.set (M := fun k => k = r) ((Kp.refl _ w).alloc _) (p := ⟨r, 2, none⟩) rfl _⟩
theorem wfails_old (w : World) (r : Nat) (s : ByteArray) (a : Nat) (dp n c : Int) (T : Nat) (x : Value) (h : RW w r s a (.iface T x) dp) :
    Calls Tryz.prog 111 #[.pointer (some ⟨r, 0, none⟩), .int .i64 n, .iface 36 (.int .i64 c)] w fun e w' => e = .returned (.tuple #[]) ∧ w = w' := by
  have c2 := h.c2
  clear h
  go_enter Tryz.func111, Tryz.ntmps111
  go_wp2
  go_end0
  exact ⟨rfl, rfl⟩
theorem wvar_old (w : World) (r : Nat) (s : ByteArray) (a : Nat) (dp : Int) (T : Nat) (x : Value) (h : RW w r s a (.iface T x) dp) :
    Calls Tryz.prog 110 #[.pointer (some ⟨r, 0, none⟩)] w fun e w' => e = .returned (.int .u64 0) ∧ w = w' := by
  have c2 := h.c2
  clear h
  go_enter Tryz.func110, Tryz.ntmps110
  go_wp2
  go_ret
  exact ⟨rfl, rfl⟩
set_option maxHeartbeats 2000000 in
set_option maxRecDepth 100000 in
theorem wvar_ok (w : World) (r : Nat) (s : ByteArray) (a v k : Nat) (dp : Int) (h : RW w r s a .nilIface dp) (ha : a ≤ s.size) (hs : s.size ≤ 140737488351232) (hd : dec 0 ((bs s).drop a) = .inr (v, k)) :
    Calls Tryz.prog 110 #[.pointer (some ⟨r, 0, none⟩)] w fun e w' => e = .returned (.int .u64 (v : Int)) ∧ RW w' r s (a + k) .nilIface dp ∧ Kp (fun k => k = r) w w' := by
  have c0 := h.c0
  have c1 := h.c1
  have c2 := h.c2
  have HR := Aside0.mk h
  have G := fun w => get_ok s (a : Int) v k w (by omega) (by omega) hs (by rw [Int.toNat_natCast]; exact hd)
  clear h hd
  go_enter Tryz.func110, Tryz.ntmps110
  go_wp2_with fail
  refine start_ (n := 16) (S := fun w' => w'.cell? ⟨r, 0, none⟩ = some (.string s) ∧ w'.cell? ⟨r, 1, none⟩ = some (.int .i64 (a : Int))) (ds := []) #[false, false, false, false, false, false, false, false, false, false, false, false, false, false, false, false] (by kernel_rfl) rfl rfl ⟨c0, c1⟩ (fun hHeld => ?_)
  refine pure_ (i := 0) (N := some 12) (v := ?_) (a' := ?_) (mkM 16 1) rfl rfl (by kernel_rfl) (fun _ _ _ h => h) (Or.inl ⟨by rfl, ?_⟩) ?_ ?_
  rotate_left
  · intro w'
    go_simp
    with_reducible rfl
  rotate_left
  · simp only [Act.put, s1_, s2_, s3_]
    rfl
  refine pure_ (i := 1) (N := some 13) (v := ?_) (a' := ?_) (mkM 16 3) rfl rfl (by kernel_rfl) (fun _ _ _ h => h) (Or.inl ⟨by rfl, ?_⟩) ?_ ?_
  rotate_left
  · intro w'
    go_simp
    with_reducible rfl
  rotate_left
  · simp only [Act.put, s1_, s2_, s3_]
    rfl
  refine pure_ (i := 2) (N := some 14) (v := ?_) (a' := ?_) (mkM 16 7) rfl rfl (by kernel_rfl) (fun _ _ _ h => h) (Or.inl ⟨by rfl, ?_⟩) ?_ ?_
  rotate_left
  · intro w'
    go_simp
    with_reducible rfl
  rotate_left
  · simp only [Act.put, s1_, s2_, s3_]
    rfl
  refine pure_ (i := 4) (N := some 16) (v := ?_) (a' := ?_) (mkM 16 23) rfl rfl (by kernel_rfl) (fun _ _ _ h => h) (Or.inl ⟨by rfl, ?_⟩) ?_ ?_
  rotate_left
  · intro w'
    go_simp
    with_reducible rfl
  rotate_left
  · simp only [Act.put, s1_, s2_, s3_]
    rfl
  refine pure_ (i := 5) (N := some 17) (v := ?_) (a' := ?_) (mkM 16 55) rfl rfl (by kernel_rfl) (fun _ _ _ h => h) (Or.inl ⟨by rfl, ?_⟩) ?_ ?_
  rotate_left
  · intro w'
    go_simp
    with_reducible rfl
  rotate_left
  · simp only [Act.put, s1_, s2_, s3_]
    rfl
  refine pure_ (i := 6) (N := some 18) (v := ?_) (a' := ?_) (mkM 16 119) rfl rfl (by kernel_rfl) (fun _ _ _ h => h) (Or.inl ⟨by rfl, ?_⟩) ?_ ?_
  rotate_left
  · intro w'
    go_simp
    with_reducible rfl
  rotate_left
  · simp only [Act.put, s1_, s2_, s3_]
    rfl
  refine take_ (i := 3) (N := some 15) (v := ?_) (a' := ?_) (mkM 16 127) rfl rfl (by kernel_rfl) (fun _ _ _ h => h) (Or.inl ⟨by rfl, ?_⟩) hHeld ?_ ?_
  rotate_left
  · rintro w' ⟨s0, s1⟩
    go_simp
    with_reducible rfl
  rotate_left
  · simp only [Act.put, s1_, s2_, s3_]
    rfl
  refine take_ (i := 7) (N := some 19) (v := ?_) (a' := ?_) (mkM 16 255) rfl rfl (by kernel_rfl) (fun _ _ _ h => h) (Or.inl ⟨by rfl, ?_⟩) hHeld ?_ ?_
  rotate_left
  · rintro w' ⟨s0, s1⟩
    go_simp
    with_reducible rfl
  rotate_left
  · simp only [Act.put, s1_, s2_, s3_]
    rfl
  refine one_ (i := 8) (N := some 20) (mkM 16 511) rfl rfl (by kernel_rfl) (by decide) (fun K hK => ?_)
  refine goes_ Tryz.func116 (by kernel_rfl) rfl #[.string s, .int .i64 (a : Int)] (by rfl) rfl rfl (by simp only [List.map_toArray, List.map_cons, List.map_nil]; rfl) ?_
  with_reducible refine (G _).mono ?_
  rintro e w2 ⟨rfl, hb2⟩
  refine ⟨_, rfl, ?_⟩
  have hq2 := (HR.out.drew.below hb2)
  have HR2 := Aside0.mk hq2
  have HB2 := Aside0.mk hb2
  clear hb2 hq2
  refine hK.out _ _ ⟨HR2.out.c0, HR2.out.c1⟩ (fun hHeld => ?_)
  clear hK K
  refine norm_ (a' := ?_) ?_ ?_
  rotate_left
  · show Act.put _ (some 20) _ = _
    simp only [Act.put, s1_, s2_, s3_]
    rfl
  refine pure_ (i := 9) (N := some 11) (v := ?_) (a' := ?_) (mkM 16 1023) rfl rfl (by kernel_rfl) (fun _ _ _ h => h) (Or.inl ⟨by rfl, ?_⟩) ?_ ?_
  rotate_left
  · intro w'
    go_simp
    with_reducible rfl
  rotate_left
  · simp only [Act.put, s1_, s2_, s3_]
    rfl
  refine pure_ (i := 10) (N := some 21) (v := ?_) (a' := ?_) (mkM 16 2047) rfl rfl (by kernel_rfl) (fun _ _ _ h => h) (Or.inl ⟨by rfl, ?_⟩) ?_ ?_
  rotate_left
  · intro w'
    go_simp
    with_reducible rfl
  rotate_left
  · simp only [Act.put, s1_, s2_, s3_]
    rfl
  refine pure_ (i := 11) (N := some 22) (v := ?_) (a' := ?_) (mkM 16 4095) rfl rfl (by kernel_rfl) (fun _ _ _ h => h) (Or.inl ⟨by rfl, ?_⟩) ?_ ?_
  rotate_left
  · intro w'
    go_simp
    with_reducible rfl
  rotate_left
  · simp only [Act.put, s1_, s2_, s3_]
    rfl
  refine pure_ (i := 12) (N := some 23) (v := ?_) (a' := ?_) (mkM 16 8191) rfl rfl (by kernel_rfl) (fun _ _ _ h => h) (Or.inl ⟨by rfl, ?_⟩) ?_ ?_
  rotate_left
  · intro w'
    go_simp
    with_reducible rfl
  rotate_left
  · simp only [Act.put, s1_, s2_, s3_]
    rfl
  refine pure_ (i := 13) (N := some 3) (v := ?_) (a' := ?_) (mkM 16 16383) rfl rfl (by kernel_rfl) (fun _ _ _ h => h) (Or.inl ⟨by rfl, ?_⟩) ?_ ?_
  rotate_left
  · intro w'
    go_simp
    with_reducible rfl
  rotate_left
  · simp only [Act.put, s1_, s2_, s3_]
    rfl
  refine pure_ (i := 14) (N := some 4) (v := ?_) (a' := ?_) (mkM 16 32767) rfl rfl (by kernel_rfl) (fun _ _ _ h => h) (Or.inl ⟨by rfl, ?_⟩) ?_ ?_
  rotate_left
  · intro w'
    go_simp
    with_reducible rfl
  rotate_left
  · simp only [Act.put, s1_, s2_, s3_]
    rfl
  refine pure_ (i := 15) (N := some 5) (v := ?_) (a' := ?_) (mkM 16 65535) rfl rfl (by kernel_rfl) (fun _ _ _ h => h) (Or.inl ⟨by rfl, ?_⟩) ?_ ?_
  rotate_left
  · intro w'
    go_simp
    with_reducible rfl
  rotate_left
  · simp only [Act.put, s1_, s2_, s3_]
    rfl
  refine done_ (by kernel_rfl) ?_
  have q1 := HR2.out.c1
  have q4 := HR2.out.fz 1
  go_wp2_with fail
  go_ret
  exact ⟨rfl, HR2.out.at2 (by omega), kp_r ((Kp.refl _ w).drew.next HB2.out) _ _⟩
set_option maxHeartbeats 2000000 in
set_option maxRecDepth 100000 in
theorem wvar_bad (w : World) (r : Nat) (s : ByteArray) (a c : Nat) (dp : Int) (h : RW w r s a .nilIface dp) (ha : a ≤ s.size) (hs : s.size ≤ 140737488351232) (hd : dec 0 ((bs s).drop a) = .inl c) :
    Calls Tryz.prog 110 #[.pointer (some ⟨r, 0, none⟩)] w fun e w' => e = .returned (.int .u64 0) ∧ WBad w r s dp w' := by
  have c0 := h.c0
  have c1 := h.c1
  have c2 := h.c2
  have HR := Aside0.mk h
  have hc := dec_code _ _ _ hd
  have G := fun w => get_err s (a : Int) c w (by omega) (by omega) hs (by rw [Int.toNat_natCast]; exact hd)
  have HWE : Aside0 (WE s (.at_ (a : Int) (.code (c : Int)))) := ⟨⟨a, c, rfl, ha, by omega⟩⟩
  clear h hd hc
  go_enter Tryz.func110, Tryz.ntmps110
  go_wp2_with fail
  refine start_ (n := 16) (S := fun w' => w'.cell? ⟨r, 0, none⟩ = some (.string s) ∧ w'.cell? ⟨r, 1, none⟩ = some (.int .i64 (a : Int))) (ds := []) #[false, false, false, false, false, false, false, false, false, false, false, false, false, false, false, false] (by kernel_rfl) rfl rfl ⟨c0, c1⟩ (fun hHeld => ?_)
  refine pure_ (i := 0) (N := some 12) (v := ?_) (a' := ?_) (mkM 16 1) rfl rfl (by kernel_rfl) (fun _ _ _ h => h) (Or.inl ⟨by rfl, ?_⟩) ?_ ?_
  rotate_left
  · intro w'
    go_simp
    with_reducible rfl
  rotate_left
  · simp only [Act.put, s1_, s2_, s3_]
    rfl
  refine pure_ (i := 1) (N := some 13) (v := ?_) (a' := ?_) (mkM 16 3) rfl rfl (by kernel_rfl) (fun _ _ _ h => h) (Or.inl ⟨by rfl, ?_⟩) ?_ ?_
  rotate_left
  · intro w'
    go_simp
    with_reducible rfl
  rotate_left
  · simp only [Act.put, s1_, s2_, s3_]
    rfl
  refine pure_ (i := 2) (N := some 14) (v := ?_) (a' := ?_) (mkM 16 7) rfl rfl (by kernel_rfl) (fun _ _ _ h => h) (Or.inl ⟨by rfl, ?_⟩) ?_ ?_
  rotate_left
  · intro w'
    go_simp
    with_reducible rfl
  rotate_left
  · simp only [Act.put, s1_, s2_, s3_]
    rfl
  refine pure_ (i := 4) (N := some 16) (v := ?_) (a' := ?_) (mkM 16 23) rfl rfl (by kernel_rfl) (fun _ _ _ h => h) (Or.inl ⟨by rfl, ?_⟩) ?_ ?_
  rotate_left
  · intro w'
    go_simp
    with_reducible rfl
  rotate_left
  · simp only [Act.put, s1_, s2_, s3_]
    rfl
  refine pure_ (i := 5) (N := some 17) (v := ?_) (a' := ?_) (mkM 16 55) rfl rfl (by kernel_rfl) (fun _ _ _ h => h) (Or.inl ⟨by rfl, ?_⟩) ?_ ?_
  rotate_left
  · intro w'
    go_simp
    with_reducible rfl
  rotate_left
  · simp only [Act.put, s1_, s2_, s3_]
    rfl
  refine pure_ (i := 6) (N := some 18) (v := ?_) (a' := ?_) (mkM 16 119) rfl rfl (by kernel_rfl) (fun _ _ _ h => h) (Or.inl ⟨by rfl, ?_⟩) ?_ ?_
  rotate_left
  · intro w'
    go_simp
    with_reducible rfl
  rotate_left
  · simp only [Act.put, s1_, s2_, s3_]
    rfl
  refine take_ (i := 3) (N := some 15) (v := ?_) (a' := ?_) (mkM 16 127) rfl rfl (by kernel_rfl) (fun _ _ _ h => h) (Or.inl ⟨by rfl, ?_⟩) hHeld ?_ ?_
  rotate_left
  · rintro w' ⟨s0, s1⟩
    go_simp
    with_reducible rfl
  rotate_left
  · simp only [Act.put, s1_, s2_, s3_]
    rfl
  refine take_ (i := 7) (N := some 19) (v := ?_) (a' := ?_) (mkM 16 255) rfl rfl (by kernel_rfl) (fun _ _ _ h => h) (Or.inl ⟨by rfl, ?_⟩) hHeld ?_ ?_
  rotate_left
  · rintro w' ⟨s0, s1⟩
    go_simp
    with_reducible rfl
  rotate_left
  · simp only [Act.put, s1_, s2_, s3_]
    rfl
  refine one_ (i := 8) (N := some 20) (mkM 16 511) rfl rfl (by kernel_rfl) (by decide) (fun K hK => ?_)
  refine goes_ Tryz.func116 (by kernel_rfl) rfl #[.string s, .int .i64 (a : Int)] (by rfl) rfl rfl (by simp only [List.map_toArray, List.map_cons, List.map_nil]; rfl) ?_
  with_reducible refine (G _).mono ?_
  rintro e w2 ⟨u, rfl, hu2, hb2⟩
  refine ⟨_, rfl, ?_⟩
  obtain ⟨uT, ux, rfl⟩ := hu2.iface (by simp)
  have HU2 := Aside0.mk hu2
  clear hu2
  have hq2 := (HR.out.drew.below hb2)
  have HR2 := Aside0.mk hq2
  have HB2 := Aside0.mk hb2
  clear hb2 hq2
  refine hK.out _ _ ⟨HR2.out.c0, HR2.out.c1⟩ (fun hHeld => ?_)
  clear hK K
  refine norm_ (a' := ?_) ?_ ?_
  rotate_left
  · show Act.put _ (some 20) _ = _
    simp only [Act.put, s1_, s2_, s3_]
    rfl
  refine pure_ (i := 9) (N := some 11) (v := ?_) (a' := ?_) (mkM 16 1023) rfl rfl (by kernel_rfl) (fun _ _ _ h => h) (Or.inl ⟨by rfl, ?_⟩) ?_ ?_
  rotate_left
  · intro w'
    go_simp
    with_reducible rfl
  rotate_left
  · simp only [Act.put, s1_, s2_, s3_]
    rfl
  refine pure_ (i := 10) (N := some 21) (v := ?_) (a' := ?_) (mkM 16 2047) rfl rfl (by kernel_rfl) (fun _ _ _ h => h) (Or.inl ⟨by rfl, ?_⟩) ?_ ?_
  rotate_left
  · intro w'
    go_simp
    with_reducible rfl
  rotate_left
  · simp only [Act.put, s1_, s2_, s3_]
    rfl
  refine pure_ (i := 11) (N := some 22) (v := ?_) (a' := ?_) (mkM 16 4095) rfl rfl (by kernel_rfl) (fun _ _ _ h => h) (Or.inl ⟨by rfl, ?_⟩) ?_ ?_
  rotate_left
  · intro w'
    go_simp
    with_reducible rfl
  rotate_left
  · simp only [Act.put, s1_, s2_, s3_]
    rfl
  refine pure_ (i := 12) (N := some 23) (v := ?_) (a' := ?_) (mkM 16 8191) rfl rfl (by kernel_rfl) (fun _ _ _ h => h) (Or.inl ⟨by rfl, ?_⟩) ?_ ?_
  rotate_left
  · intro w'
    go_simp
    with_reducible rfl
  rotate_left
  · simp only [Act.put, s1_, s2_, s3_]
    rfl
  refine pure_ (i := 13) (N := some 3) (v := ?_) (a' := ?_) (mkM 16 16383) rfl rfl (by kernel_rfl) (fun _ _ _ h => h) (Or.inl ⟨by rfl, ?_⟩) ?_ ?_
  rotate_left
  · intro w'
    go_simp
    with_reducible rfl
  rotate_left
  · simp only [Act.put, s1_, s2_, s3_]
    rfl
  refine pure_ (i := 14) (N := some 4) (v := ?_) (a' := ?_) (mkM 16 32767) rfl rfl (by kernel_rfl) (fun _ _ _ h => h) (Or.inl ⟨by rfl, ?_⟩) ?_ ?_
  rotate_left
  · intro w'
    go_simp
    with_reducible rfl
  rotate_left
  · simp only [Act.put, s1_, s2_, s3_]
    rfl
  refine pure_ (i := 15) (N := some 5) (v := ?_) (a' := ?_) (mkM 16 65535) rfl rfl (by kernel_rfl) (fun _ _ _ h => h) (Or.inl ⟨by rfl, ?_⟩) ?_ ?_
  rotate_left
  · intro w'
    go_simp
    with_reducible rfl
  rotate_left
  · simp only [Act.put, s1_, s2_, s3_]
    rfl
  refine done_ (by kernel_rfl) ?_
  have q2 := HR2.out.c2
  have q3 := HR2.out.fz 2
  go_wp2_with fail
  go_ret
  exact ⟨rfl, a, _, _, _, ha, HR2.out.err _, HU2.out.rset HR2.out _ _, HWE.out, kp_r ((Kp.refl _ w).drew.next HB2.out) _ _⟩
set_option maxHeartbeats 2000000 in
set_option maxRecDepth 100000 in
theorem wtake_old (w : World) (r : Nat) (s : ByteArray) (a : Nat) (dp n : Int) (T : Nat) (x : Value) (h : RW w r s a (.iface T x) dp) :
    Calls Tryz.prog 113 #[.pointer (some ⟨r, 0, none⟩), .int .u64 n] w fun e w' => e = .returned (.string ByteArray.empty) ∧ Drawn0 w w' := by
  have c0 := h.c0
  have c1 := h.c1
  have c2 := h.c2
  clear h
  go_enter Tryz.func113, Tryz.ntmps113
  go_wp2_with fail
  go_quiet (fail)
  go_wp2_with fail
  go_ret
  exact ⟨rfl, ⟨⟨_, rfl⟩⟩⟩
set_option maxHeartbeats 2000000 in
set_option maxRecDepth 100000 in
theorem wtake_ok (w : World) (r : Nat) (s : ByteArray) (b n : Nat) (dp : Int) (h : RW w r s b .nilIface dp) (hs : s.size ≤ 140737488351232) (hbn : b + n ≤ s.size) :
    Calls Tryz.prog 113 #[.pointer (some ⟨r, 0, none⟩), .int .u64 (n : Int)] w fun e w' => e = .returned (.string (s.extract b (b + n))) ∧ RW w' r s (b + n) .nilIface dp ∧ Kp (fun k => k = r) w w' := by
  have c0 := h.c0
  have c1 := h.c1
  have c2 := h.c2
  have f1 := h.fz 1
  have HR2 := Aside0.mk h
  have hw1 : IntKind.i64.wrap ((s.size : Int) - (b : Int)) = ((s.size - b : Nat) : Int) := by rw [IntKind.wrap_i64]; omega
  have hw2 : IntKind.u64.wrap ((s.size - b : Nat) : Int) = ((s.size - b : Nat) : Int) := by rw [wrap_u64]; omega
  have hgt : decide (s.size - b < n) = false := decide_eq_false (by omega)
  clear h
  go_enter Tryz.func113, Tryz.ntmps113
  go_wp2_with fail
  go_quiet (fail)
  clear hw1 hw2
  have hw3 : IntKind.i64.wrap (n : Int) = (n : Int) := by rw [IntKind.wrap_i64]; omega
  have hbn2 : (b : Int) + (n : Int) ≤ (s.size : Int) := by omega
  go_wp2_with fail
  have hw4 : IntKind.i64.wrap ((b : Int) + (n : Int) - (n : Int)) = (b : Int) := by rw [IntKind.wrap_i64]; omega
  have hle : (b : Int) ≤ (b : Int) + (n : Int) := by omega
  have hb0 : (0 : Int) ≤ (b : Int) := by omega
  have d0 : ((w.drewN nq).setCell ⟨r, 1, none⟩ (.int .i64 ((b : Int) + (n : Int)))).cell? ⟨r, 0, none⟩ = some (.string s) := ((HR2.out.drewN nq).at2 (a' := b + n) (by omega)).c0
  have d1 : ((w.drewN nq).setCell ⟨r, 1, none⟩ (.int .i64 ((b : Int) + (n : Int)))).cell? ⟨r, 1, none⟩ = some (.int .i64 ((b : Int) + (n : Int))) := by
    have := ((HR2.out.drewN nq).at2 (x := (b : Int) + (n : Int)) (a' := b + n) (by omega)).c1
    rw [this, show ((b + n : Nat) : Int) = (b : Int) + (n : Int) by omega]
  go_quiet (fail)
  go_wp2_with fail
  go_ret
  exact ⟨rfl, ((HR2.out.drewN _).at2 (by omega)).drewN _, ((kp_r ((Kp.refl _ w).drewN _) _ _).drewN _)⟩
set_option maxHeartbeats 2000000 in
set_option maxRecDepth 100000 in
theorem wtake_bad (w : World) (r : Nat) (s : ByteArray) (b n : Nat) (dp : Int) (h : RW w r s b .nilIface dp) (hs : s.size ≤ 140737488351232) (hb : b ≤ s.size) (hbn : s.size - b < n) :
    Calls Tryz.prog 113 #[.pointer (some ⟨r, 0, none⟩), .int .u64 (n : Int)] w fun e w' => e = .returned (.string ByteArray.empty) ∧ WBad w r s dp w' := by
  have c0 := h.c0
  have c1 := h.c1
  have c2 := h.c2
  have HR2 := Aside0.mk h
  have hw1 : IntKind.i64.wrap ((s.size : Int) - (b : Int)) = ((s.size - b : Nat) : Int) := by rw [IntKind.wrap_i64]; omega
  have hw2 : IntKind.u64.wrap ((s.size - b : Nat) : Int) = ((s.size - b : Nat) : Int) := by rw [wrap_u64]; omega
  have hgt : decide (s.size - b < n) = true := decide_eq_true hbn
  have G2 := fun m => wfails_new (w.drewN m) r s b dp (b : Int) 1 (h.drewN m)
  have HWE : Aside0 (WE s (.at_ (b : Int) (.code 1))) := ⟨⟨b, 1, rfl, hb, .inl rfl⟩⟩
  clear h
  go_enter Tryz.func113, Tryz.ntmps113
  go_wp2_with fail
  go_quiet (fail)
  clear hw1 hw2 hgt
  go_wp2_with fail
  refine (G2 _).mono ?_
  rintro e w4 ⟨rfl, T, x, hr4, hu4, hk4⟩
  have HR4 := Aside0.mk hr4
  have HU4 := Aside0.mk hu4
  have HK4 := Aside0.mk hk4
  have z2 := hr4.c2
  clear hr4 hu4 hk4
  go_wp2_with fail
  go_ret
  exact ⟨rfl, b, _, _, _, hb, HR4.out, HU4.out, HWE.out, ((Kp.refl _ w).drewN _).trans HK4.out⟩
/-! ### a tag -/
theorem and7 (v : Nat) (hv : v < 18446744073709551616) : Go.bits .and .u64 (v : Int) 7 = ((v % 8 : Nat) : Int) := by
  have := bits_mask .u64 64 (by decide) (fun n a b => by rw [wrap_u64]; omega) 3 (by decide) (v : Int) (by omega) (by simpa using (by omega : (v : Int) < 18446744073709551616))
  rw [show ((2 : Int) ^ 3 - 1) = 7 by decide] at this
  rw [this]; omega
theorem and29 (v : Nat) (hv : v < 18446744073709551616) : Go.bits .and .u64 (v : Int) 536870911 = ((v % 536870912 : Nat) : Int) := by
  have := bits_mask .u64 64 (by decide) (fun n a b => by rw [wrap_u64]; omega) 29 (by decide) (v : Int) (by omega) (by simpa using (by omega : (v : Int) < 18446744073709551616))
  rw [show ((2 : Int) ^ 29 - 1) = 536870911 by decide] at this
  rw [this]; omega
theorem tagL_of {b : List Nat} {n t k : Nat} (h : tagL b = some (n, t, k)) : ∃ v, dec 0 b = .inr (v, k) ∧ n = v / 8 ∧ t = v % 8 ∧ 1 ≤ v / 8 ∧ v / 8 < 536870912 := by
  unfold tagL at h
  cases hd : dec 0 b with
  | inl c => rw [hd] at h; cases h
  | inr x =>
    obtain ⟨v, k'⟩ := x
    rw [hd] at h
    simp only at h
    by_cases hv : 1 ≤ v / 8 ∧ v / 8 < 536870912
    · rw [if_pos hv] at h
      simp only [Option.some.injEq, Prod.mk.injEq] at h
      obtain ⟨rfl, rfl, rfl⟩ := h
      exact ⟨v, rfl, rfl, rfl, hv.1, hv.2⟩
    · rw [if_neg hv] at h; cases h
theorem tagL_bad {b : List Nat} (h : tagL b = none) {v k : Nat} (hd : dec 0 b = .inr (v, k)) : v / 8 < 1 ∨ 536870911 < v / 8 := by
  unfold tagL at h
  rw [hd] at h
  simp only at h
  by_cases hv : 1 ≤ v / 8 ∧ v / 8 < 536870912
  · rw [if_pos hv] at h; cases h
  · omega
set_option maxHeartbeats 2000000 in
set_option maxRecDepth 100000 in
theorem wtag_ok (w : World) (r : Nat) (s : ByteArray) (a n t k : Nat) (dp : Int) (h : RW w r s a .nilIface dp) (ha : a ≤ s.size) (hs : s.size ≤ 140737488351232) (ht : tagL ((bs s).drop a) = some (n, t, k)) :
    Calls Tryz.prog 97 #[.pointer (some ⟨r, 0, none⟩)] w fun e w' => e = .returned (.tuple #[.int .i64 (n : Int), .int .i64 (t : Int)]) ∧ RW w' r s (a + k) .nilIface dp ∧ Kp (fun k => k = r) w w' := by
  obtain ⟨v, hd, hn, htt, h1, h2⟩ := tagL_of ht
  have hv : v < 18446744073709551616 := (dec_some _ 0 v k (okB_drop (bs_ok s) _) (by omega) hd).2.2.2.2
  have c1 := h.c1
  have G := wvar_ok w r s a v k dp h ha hs hd
  have e1 : (v : Int) / 8 = (n : Int) := by omega
  have e2 : Go.bits .and .u64 (v : Int) 7 = (t : Int) := by rw [and7 v hv]; omega
  have e3 : Go.bits .and .u64 (n : Int) 536870911 = (n : Int) := by rw [and29 n (by omega)]; omega
  have hn1 : ¬ ((n : Int) < 1) := by omega
  have hn2 : ¬ ((n : Int) > 536870911) := by omega
  have hnb : n < 536870912 := by omega
  have htb : t < 8 := by omega
  clear h ht hd hn htt h1 h2
  go_enter Tryz.func97, Tryz.ntmps97
  go_wp2_with fail
  refine G.mono ?_
  rintro e w2 ⟨rfl, hr2, hk2⟩
  have HR2 := Aside0.mk hr2
  have HK2 := Aside0.mk hk2
  have z2 := hr2.c2
  clear hr2 hk2 G
  go_wp2_with fail
  go_ret2
  exact ⟨rfl, HR2.out, HK2.out⟩
end Go.Proofs.YtnghlkbmfhkmoaaGreatDoor
namespace Go.Proofs.YtnghlkbmfhkmoaaGreatDoor
open Go.RowKit Go.Proofs.YtnghlkbmfhkmoaaGreatDoorW.PrintWords Go.Proofs.YtnghlkbmfhkmoaaGreatDoorW.PrintLast Go.Proofs.YtnghlkbmfhkmoaaGreatDoorW.PrintMore Hy
/-! ### a number, the least byte first -/
theorem little_snoc : ∀ (l : List Nat) (x : Nat), little (l ++ [x]) = little l + x * 256 ^ l.length := by
  intro l
  induction l with
  | nil => intro x; simp [little]
  | cons c r ih =>
    intro x
    rw [List.cons_append, show little (c :: (r ++ [x])) = c + 256 * little (r ++ [x]) from rfl, ih, show little (c :: r) = c + 256 * little r from rfl, List.length_cons, Nat.pow_succ]
    rw [Nat.mul_add, Nat.mul_comm (256 ^ r.length) 256, Nat.mul_left_comm 256 x]
    omega
theorem little_lt : ∀ (l : List Nat), okB l → little l < 256 ^ l.length := by
  intro l
  induction l with
  | nil => intro _; simp [little]
  | cons c r ih =>
    intro h
    have h1 := ih (fun x hx => h x (List.mem_cons_of_mem _ hx))
    have h2 : c < 256 := h c List.mem_cons_self
    rw [show little (c :: r) = c + 256 * little r from rfl, List.length_cons, Nat.pow_succ]
    omega
theorem okB_take {l : List Nat} (h : okB l) (k : Nat) : okB (l.take k) := fun x hx => h x (List.mem_of_mem_take hx)
theorem lstep (acc c i : Nat) (hi : i < 8) (hc : c < 256) (ha : acc < 256 ^ i) : Go.bits .or .u64 (acc : Int) (IntKind.u64.wrap ((c : Int) * 2 ^ (8 * i))) = ((acc + c * 256 ^ i : Nat) : Int) := by
  have hp : (256 : Nat) ^ i = 2 ^ (8 * i) := by rw [Nat.pow_mul]
  have hpow : 2 ^ (8 * i) * 2 ^ (64 - 8 * i) = 18446744073709551616 := by
    rw [← Nat.pow_add, show 8 * i + (64 - 8 * i) = 64 by omega]
  have h8 : 256 ≤ 2 ^ (64 - 8 * i) := by
    calc 256 = 2 ^ 8 := rfl
      _ ≤ _ := Nat.pow_le_pow_right (by omega) (by omega)
  have hlt : c * 2 ^ (8 * i) < 18446744073709551616 := by
    calc c * 2 ^ (8 * i) < 256 * 2 ^ (8 * i) := Nat.mul_lt_mul_of_pos_right hc (Nat.two_pow_pos _)
      _ ≤ 2 ^ (64 - 8 * i) * 2 ^ (8 * i) := Nat.mul_le_mul_right _ h8
      _ = _ := by rw [Nat.mul_comm]; exact hpow
  have hi64 : 2 ^ (8 * i) ≤ 18446744073709551616 := by rw [← hpow]; exact Nat.le_mul_of_pos_right _ (Nat.two_pow_pos _)
  have e2 : (c : Int) * 2 ^ (8 * i) = ((c * 2 ^ (8 * i) : Nat) : Int) := by rw [Int.natCast_mul, Int.natCast_pow]; rfl
  rw [hp] at ha ⊢
  rw [e2, wrap_u64, Int.emod_eq_of_lt (by omega) (by omega), or_join_u64 _ _ (8 * i) (by omega) (by exact_mod_cast ha) (by omega) ?_ (by omega) (by omega)]
  · omega
  · have : c * 2 ^ (8 * i) % 2 ^ (8 * i) = 0 := Nat.mul_mod_left _ _
    exact_mod_cast this
set_option maxHeartbeats 4000000 in
set_option maxRecDepth 100000 in
theorem wlittle_ok (w : World) (r : Nat) (s : ByteArray) (b k : Nat) (dp : Int) (h : RW w r s b .nilIface dp) (hs : s.size ≤ 140737488351232) (hbn : b + k ≤ s.size) (hk : k ≤ 8) :
    Calls Tryz.prog 112 #[.pointer (some ⟨r, 0, none⟩), .int .i64 (k : Int)] w fun e w' => e = .returned (.int .u64 (little (((bs s).drop b).take k) : Int)) ∧ RW w' r s (b + k) .nilIface dp ∧ Kp (fun k => k = r) w w' := by
  have hw : IntKind.u64.wrap (k : Int) = (k : Int) := by rw [wrap_u64]; omega
  have G := wtake_ok w r s b k dp h hs hbn
  obtain ⟨L, hL⟩ : ∃ L, ((bs s).drop b).take k = L := ⟨_, rfl⟩
  have hbe : bs (s.extract b (b + k)) = L := by rw [bs_extract, ← hL, List.drop_take]; congr 1; omega
  have hLk : L.length = k := by rw [← hL, List.length_take, List.length_drop, bs_length]; omega
  have hLo : okB L := by rw [← hL]; exact okB_take (okB_drop (bs_ok s) _) _
  rw [hL]
  generalize s.extract b (b + k) = x at *
  have hx : x.size = k := by rw [← bs_length, hbe, hLk]
  clear h hL hbn
  go_enter Tryz.func112, Tryz.ntmps112
  go_wp2_with fail
  refine G.mono ?_
  rintro e w2 ⟨rfl, hr2, hk2⟩
  go_wp2_with fail
  rw [run_bytes_of_string (P := Tryz.prog) w2 9 46 5 x Tryz.underlying9 Tryz.underlying46 Tryz.underlying5]
  have hM := mr_new 5 0 w2 x (Nat.zero_le _) (by omega)
  rw [hbe] at hM
  have hB2 : Below w2.heap.size w2 (w2.drew.alloc (.cells (bytesRow x (grownCap w2 x.size 0 5)) 5 ((bytesRow x (grownCap w2 x.size 0 5)).size, (bytesRow x (grownCap w2 x.size 0 5)).size + 1))) := ((Below.refl _ _).drew).alloc (Nat.le_refl _) _
  have HR := Aside0.mk (hr2.below hB2)
  have HK := Aside0.mk (hk2.next hB2)
  rw [hx] at *
  have HM := Aside0.mk hM
  generalize w2.drew.alloc (.cells (bytesRow x (grownCap w2 k 0 5)) 5 ((bytesRow x (grownCap w2 k 0 5)).size, (bytesRow x (grownCap w2 k 0 5)).size + 1)) = W at *
  generalize grownCap w2 k 0 5 = cap at *
  generalize w2.heap.size = g at *
  clear hr2 hk2 G hM hB2 hw
  go_wp2_with fail
  go_loopw [5, 14] (fun v5 v14 w' => ∃ i : Nat, v5 = .int .u64 (little (L.take i) : Int) ∧ v14 = .int .i64 (i : Int) ∧ i ≤ k ∧ w' = W) (fun _ v14 _ => (k - intOf v14).toNat)
  case atStart => exact ⟨0, rfl, rfl, by omega, rfl⟩
  case round =>
    obtain ⟨i, rfl, rfl, hi, rfl⟩ := hrel
    by_cases hlt : i < k
    · have d1 : (i : Int) < (k : Int) := by omega
      have hil : i < L.length := by omega
      have q1 : wr.cell? ⟨g, i, none⟩ = some (.int .u8 (L[i] : Int)) := by
        obtain ⟨g', cp, cur, fr, hv, _, hh, _, _, _, hcell, _⟩ := HM.out
        injection hv with hv1
        injection hv1 with hv1
        injection hv1 with hv1
        subst hv1
        rw [cell_of_row wr g i cur 5 fr hh]
        exact hcell i _ (by unfold bv; simp [hil])
      have hc : L[i] < 256 := hLo _ (List.getElem_mem hil)
      go_wp2_with fail
      have hll : (L.take i).length = i := by rw [List.length_take]; omega
      have ha : little (L.take i) < 256 ^ i := by have := little_lt _ (okB_take hLo i); rwa [hll] at this
      have e2 : little (L.take (i + 1)) = little (L.take i) + L[i] * 256 ^ i := by rw [List.take_succ_eq_append_getElem hil, little_snoc, hll]
      exact ⟨⟨i + 1, by rw [lstep _ _ i (by omega) hc ha, e2], by go_num, by omega, trivial⟩, by simp [intOf]; omega⟩
    · obtain rfl : i = k := by omega
      rw [← hLk] at hi
      have e3 : L.take i = L := List.take_of_length_le (by omega)
      rw [e3]
      go_wp2_with fail
      go_ret
      exact ⟨rfl, HR.out, HK.out⟩
/-! ### a record's block -/
def XW (w : World) (x : Nat) (n t N : Int) (S raw : ByteArray) : Prop := w.heap[x]? = some (.cells #[.int .i64 n, .int .i64 t, .int .u64 N, .string S, .string raw] 91 (0, 0))
section
variable {w w' : World} {x : Nat} {n t N : Int} {S raw : ByteArray}
theorem XW.c0 (h : XW w x n t N S raw) : w.cell? ⟨x, 0, none⟩ = some (.int .i64 n) := by rw [blk_cell h]; rfl
theorem XW.c1 (h : XW w x n t N S raw) : w.cell? ⟨x, 1, none⟩ = some (.int .i64 t) := by rw [blk_cell h]; rfl
theorem XW.c2 (h : XW w x n t N S raw) : w.cell? ⟨x, 2, none⟩ = some (.int .u64 N) := by rw [blk_cell h]; rfl
theorem XW.c3 (h : XW w x n t N S raw) : w.cell? ⟨x, 3, none⟩ = some (.string S) := by rw [blk_cell h]; rfl
theorem XW.c4 (h : XW w x n t N S raw) : w.cell? ⟨x, 4, none⟩ = some (.string raw) := by rw [blk_cell h]; rfl
theorem XW.fz (h : XW w x n t N S raw) (i : Nat) : w.frozen? ⟨x, i, none⟩ = false := blk_frozen h i
theorem XW.set0 (h : XW w x n t N S raw) (v : Int) : XW (w.setCell ⟨x, 0, none⟩ (.int .i64 v)) x v t N S raw := by
  unfold XW at *
  rw [blk_set h]; rfl
theorem XW.set1 (h : XW w x n t N S raw) (v : Int) : XW (w.setCell ⟨x, 1, none⟩ (.int .i64 v)) x n v N S raw := by
  unfold XW at *
  rw [blk_set h]; rfl
theorem XW.setN (h : XW w x n t N S raw) (v : Int) : XW (w.setCell ⟨x, 2, none⟩ (.int .u64 v)) x n t v S raw := by
  unfold XW at *
  rw [blk_set h]; rfl
theorem XW.setS (h : XW w x n t N S raw) (v : ByteArray) : XW (w.setCell ⟨x, 3, none⟩ (.string v)) x n t N v raw := by
  unfold XW at *
  rw [blk_set h]; rfl
theorem XW.setR (h : XW w x n t N S raw) (v : ByteArray) : XW (w.setCell ⟨x, 4, none⟩ (.string v)) x n t N S v := by
  unfold XW at *
  rw [blk_set h]; rfl
theorem XW.kp {M : Nat → Prop} (h : XW w x n t N S raw) (hk : Kp M w w') (hr : ¬ M x) : XW w' x n t N S raw := hk.obj h hr
end
set_option maxHeartbeats 4000000 in
set_option maxRecDepth 100000 in
theorem wrest_0 (w : World) (r x : Nat) (s : ByteArray) (a v k : Nat) (n at_ dp : Int) (h : RW w r s a .nilIface dp) (hx : XW w x n 0 0 ByteArray.empty ByteArray.empty) (hrx : x ≠ r) (ha : a ≤ s.size) (hs : s.size ≤ 140737488351232) (hd : dec 0 ((bs s).drop a) = .inr (v, k)) :
    Calls Tryz.prog 98 #[.pointer (some ⟨r, 0, none⟩), .pointer (some ⟨x, 0, none⟩), .int .i64 at_] w fun e w' => e = .returned (.tuple #[]) ∧ RW w' r s (a + k) .nilIface dp ∧ XW w' x n 0 v ByteArray.empty ByteArray.empty ∧ Kp (fun k => k = r ∨ k = x) w w' := by
  have G := wvar_ok w r s a v k dp h ha hs hd
  have q1 := hx.c1
  have HX := Aside0.mk hx
  clear h hx hd
  go_enter Tryz.func98, Tryz.ntmps98
  go_wp2_with fail
  refine G.mono ?_
  rintro e w2 ⟨rfl, hr2, hk2⟩
  have HR2 := Aside0.mk hr2
  have HK2 := Aside0.mk hk2
  have HX2 := Aside0.mk (HX.out.kp hk2 hrx)
  have q2 := HX2.out.c2
  have q3 := HX2.out.fz 2
  clear hr2 hk2 G
  go_wp2_with fail
  go_end0
  exact ⟨rfl, HR2.out.kp (Kp.set (M := fun k => k = x) (Kp.refl _ w2) (p := ⟨x, 2, none⟩) rfl _) (fun e => hrx e.symm), HX2.out.setN _, (HK2.out.mono (fun _ e => .inl e)).set (p := ⟨x, 2, none⟩) (.inr rfl) _⟩
end Go.Proofs.YtnghlkbmfhkmoaaGreatDoor
namespace Go.Proofs.YtnghlkbmfhkmoaaGreatDoor
open Go.RowKit Go.Proofs.YtnghlkbmfhkmoaaGreatDoorW.PrintWords Go.Proofs.YtnghlkbmfhkmoaaGreatDoorW.PrintLast Go.Proofs.YtnghlkbmfhkmoaaGreatDoorW.PrintMore Hy
/-- What rest does where it is done. -/
def RestOk (r x : Nat) (s : ByteArray) (b : Nat) (dp n t N : Int) (S : ByteArray) (W : World) (e : Ending) (W' : World) : Prop := e = .returned (.tuple #[]) ∧ RW W' r s b .nilIface dp ∧ XW W' x n t N S ByteArray.empty ∧ Kp (fun k => k = r ∨ k = x) W W'
def recV (n t N : Int) (S raw : ByteArray) : Value := .agg #[.int .i64 n, .int .i64 t, .int .u64 N, .string S, .string raw]
set_option maxHeartbeats 4000000 in
set_option maxRecDepth 100000 in
theorem wrecord_ok (w : World) (r : Nat) (s : ByteArray) (a n t k b : Nat) (dp N : Int) (S : ByteArray) (h : RW w r s a .nilIface dp) (ha : a ≤ s.size) (hb : a ≤ b) (hbs : b ≤ s.size) (hs : s.size ≤ 140737488351232) (ht : tagL ((bs s).drop a) = some (n, t, k))
    (HQ : ∀ W x, RW W r s (a + k) .nilIface dp → XW W x n t 0 ByteArray.empty ByteArray.empty → x ≠ r → Calls Tryz.prog 98 #[.pointer (some ⟨r, 0, none⟩), .pointer (some ⟨x, 0, none⟩), .int .i64 (a : Int)] W (RestOk r x s b dp n t N S W)) :
    Calls Tryz.prog 75 #[.pointer (some ⟨r, 0, none⟩)] w fun e w' => e = .returned (recV n t N S (s.extract a b)) ∧ RW w' r s b .nilIface dp ∧ Kp (fun k => k = r) w w' := by
  have hq := blk_lt h
  have hr1 : RW (w.alloc (.cells #[.int .i64 0, .int .i64 0, .int .u64 0, .string ⟨#[]⟩, .string ⟨#[]⟩] 91)) r s a .nilIface dp := h.below ((Below.refl _ _).alloc (Nat.le_refl _) _)
  have hz1 : XW (w.alloc (.cells #[.int .i64 0, .int .i64 0, .int .u64 0, .string ⟨#[]⟩, .string ⟨#[]⟩] 91)) w.heap.size 0 0 0 ByteArray.empty ByteArray.empty := heap_alloc_new w _
  have hk1 : Kp (fun k => k = r) w (w.alloc (.cells #[.int .i64 0, .int .i64 0, .int .u64 0, .string ⟨#[]⟩, .string ⟨#[]⟩] 91)) := (Kp.refl _ w).alloc _
  have hsz : (w.alloc (.cells #[.int .i64 0, .int .i64 0, .int .u64 0, .string ⟨#[]⟩, .string ⟨#[]⟩] 91)).heap.size = w.heap.size + 1 := Array.size_push _
  have c1 := hr1.c1
  have HR1 := Aside0.mk hr1
  have HZ1 := Aside0.mk hz1
  have HK1 := Aside0.mk hk1
  have G := fun W (hW : RW W r s a .nilIface dp) => wtag_ok W r s a n t k dp hW ha hs ht
  have HG := Aside0.mk HQ
  clear h ht HQ hr1 hz1 hk1
  go_enter Tryz.func75, Tryz.ntmps75
  go_wp2_with fail
  generalize w.alloc (.cells #[.int .i64 0, .int .i64 0, .int .u64 0, .string ⟨#[]⟩, .string ⟨#[]⟩] 91) = W1 at *
  have hr2 : RW (W1.alloc (.cells #[.int .i64 0, .int .i64 0, .int .u64 0, .string ⟨#[]⟩, .string ⟨#[]⟩] 91)) r s a .nilIface dp := HR1.out.below ((Below.refl _ _).alloc (Nat.le_refl _) _)
  have hz2 : XW (W1.alloc (.cells #[.int .i64 0, .int .i64 0, .int .u64 0, .string ⟨#[]⟩, .string ⟨#[]⟩] 91)) W1.heap.size 0 0 0 ByteArray.empty ByteArray.empty := heap_alloc_new W1 _
  rw [hsz] at hz2
  have hz3 : XW (W1.alloc (.cells #[.int .i64 0, .int .i64 0, .int .u64 0, .string ⟨#[]⟩, .string ⟨#[]⟩] 91)) w.heap.size 0 0 0 ByteArray.empty ByteArray.empty := blk_below HZ1.out ((Below.refl _ _).alloc (Nat.le_refl _) _)
  have HK2 := Aside0.mk (HK1.out.alloc (.cells #[.int .i64 0, .int .i64 0, .int .u64 0, .string ⟨#[]⟩, .string ⟨#[]⟩] 91))
  have HZ2 := Aside0.mk hz2
  have HZ3 := Aside0.mk hz3
  clear hsz
  generalize hg : w.heap.size = g at *
  generalize hx : g + 1 = x at *
  refine (G _ hr2).mono ?_
  rintro e w2 ⟨rfl, hr3, hk3⟩
  have hxr : x ≠ r := by omega
  have hgr : g ≠ r := by omega
  have hgx : g ≠ x := by omega
  have HX3 := Aside0.mk (HZ2.out.kp hk3 hxr)
  have HZ4 := Aside0.mk (HZ3.out.kp hk3 hgr)
  have HR3 := Aside0.mk hr3
  have HK3 := Aside0.mk (HK2.out.trans hk3)
  have q0 := HX3.out.c0
  have q1 := (HX3.out.set0 (n : Int)).c1
  have f0 := HX3.out.fz 0
  have f1 := (HX3.out.set0 (n : Int)).fz 1
  have hk4 : Kp (fun k => k = x) w2 ((w2.setCell ⟨x, 0, none⟩ (.int .i64 (n : Int))).setCell ⟨x, 1, none⟩ (.int .i64 (t : Int))) := (((Kp.refl (fun k => k = x) w2).set (p := ⟨x, 0, none⟩) rfl _)).set (p := ⟨x, 1, none⟩) rfl _
  have hr4 := hr3.kp hk4 (fun e => hxr e.symm)
  have q2 := hr4.c2
  have HR4 := Aside0.mk hr4
  have HX4 := Aside0.mk ((HX3.out.set0 (n : Int)).set1 (t : Int))
  have HZ5 := Aside0.mk (HZ4.out.kp hk4 hgx)
  have HK4 := Aside0.mk hk4
  clear hr2 hz2 hz3 hk3 hr3 hr4 hk4 c1 HZ2 HZ3 HX3 HZ4 HR1 HZ1 HK1 HK2 G HR3
  go_wp2_with fail
  generalize (w2.setCell ⟨x, 0, none⟩ (.int .i64 (n : Int))).setCell ⟨x, 1, none⟩ (.int .i64 (t : Int)) = W4 at *
  refine (HG.out W4 x HR4.out HX4.out hxr).mono ?_
  rintro e w5 ⟨rfl, hr5, hx5, hk5⟩
  have HR5 := Aside0.mk hr5
  have HX5 := Aside0.mk hx5
  have HZ6 := Aside0.mk (HZ5.out.kp hk5 (fun e => e.elim hgr hgx))
  have HK5 := Aside0.mk hk5
  have q2 := hr5.c2
  have q3 := hr5.drew.c0
  have q4 := hr5.drew.c1
  have q5 := hx5.c4
  have f4 := hx5.fz 4
  have b1 : (0 : Int) ≤ (a : Int) := by omega
  have b2 : (a : Int) ≤ (b : Int) := by omega
  have b3 : (b : Int) ≤ (s.size : Int) := by omega
  clear hr5 hx5 hk5 q0 q1 f0 f1 HG HR4 HX4 HZ5
  go_wp2_with fail
  go_region
  have hx6 : XW ((w5.setCell ⟨x, 4, none⟩ (.string (s.extract a b))).drew) x n t N S (s.extract a b) := (HX5.out.setR _)
  have hk6 : Kp (fun k => k = x) w5 ((w5.setCell ⟨x, 4, none⟩ (.string (s.extract a b))).drew) := ((Kp.refl (fun k => k = x) w5).set (p := ⟨x, 4, none⟩) rfl _).drew
  have HR6 := Aside0.mk (HR5.out.kp hk6 (fun e => hxr e.symm))
  have hz7 := HZ6.out.kp hk6 hgx
  have HK6 := Aside0.mk hk6
  clear q2 q3 q4 q5 f4 b1 b2 b3 hk6
  generalize (w5.setCell ⟨x, 4, none⟩ (.string (s.extract a b))).drew = W6 at *
  have p0 := hx6.c0
  have p1 := hx6.c1
  have p2 := hx6.c2
  have p3 := hx6.c3
  have p4 := hx6.c4
  have z0 := hz7.c0
  have z1 := hz7.c1
  have z2 := hz7.c2
  have z3 := hz7.c3
  have z4 := hz7.c4
  have zf := fun i => hz7.fz i
  have HZ7 := Aside0.mk hz7
  clear hz7 hx6
  go_wp2_with fail
  refine bodyPost_ret (results_cell_row rfl _ _ g 91 #[.int .i64 n, .int .i64 t, .int .u64 N, .string S, .string (s.extract a b)] (0, 0) _ rfl (XW.setR (XW.setS (XW.setN (XW.set1 (XW.set0 HZ7.out _) _) _) _) _) Tryz.underlying91 rfl (by kernel_rfl)) rfl ?_
  have hk7 : Kp (fun k => k = g) W6 (((((W6.setCell ⟨g, 0, none⟩ (.int .i64 n)).setCell ⟨g, 1, none⟩ (.int .i64 t)).setCell ⟨g, 2, none⟩ (.int .u64 N)).setCell ⟨g, 3, none⟩ (.string S)).setCell ⟨g, 4, none⟩ (.string (s.extract a b))) :=
    ((((((Kp.refl (fun k => k = g) W6).set (p := ⟨g, 0, none⟩) rfl _)).set (p := ⟨g, 1, none⟩) rfl _).set (p := ⟨g, 2, none⟩) rfl _).set (p := ⟨g, 3, none⟩) rfl _).set (p := ⟨g, 4, none⟩) rfl _
  refine ⟨rfl, HR6.out.kp hk7 (fun e => hgr e.symm), ?_⟩
  have hk8 := ((HK4.out.mono (M' := fun k => k = r ∨ k = x) (fun _ e => .inr e)).trans HK5.out).trans (HK6.out.mono (fun _ e => .inr e))
  have hk9 : Kp (fun k => k = r ∨ w.heap.size ≤ k) w _ := ((HK3.out.mono (fun _ e => .inl e)).trans (hk8.mono (fun k e => e.elim .inl (fun e => .inr (by omega))))).trans (hk7.mono (fun k e => .inr (by omega)))
  exact ⟨hk9.os, hk9.tape, hk9.output, hk9.size, fun k hk hn => hk9.block k hk (fun e => e.elim hn (fun e => absurd e (Nat.not_le.2 hk)))⟩
end Go.Proofs.YtnghlkbmfhkmoaaGreatDoor
namespace Go.Proofs.YtnghlkbmfhkmoaaGreatDoor
open Go.RowKit Go.Proofs.YtnghlkbmfhkmoaaGreatDoorW.PrintWords Go.Proofs.YtnghlkbmfhkmoaaGreatDoorW.PrintLast Go.Proofs.YtnghlkbmfhkmoaaGreatDoorW.PrintMore Hy
theorem results_cell_two {fn : Func} {p u v : Tmp} {ty : TypeId} {P : Program} (h : fn.results = #[.cell p ty, .tmp u, .tmp v]) (tmps : Array Value) (w : World) (g : Nat) (t : TypeId) (cs : Array Value) (fr : Nat × Nat)
    (hp : tmps.getD p undef = .pointer (some ⟨g, 0, none⟩)) (hg : w.heap[g]? = some (.cells cs t fr))
    {fs} (hu : P.underlying ty = some (.struct fs)) (hi : (P.info? ty).map (·.size) = some cs.size) :
    (results fn tmps).run P w = .ok (.tuple #[.agg cs, tmps.getD u undef, tmps.getD v undef]) w := by
  have hp' : tmps[p]?.getD undef = .pointer (some ⟨g, 0, none⟩) := by simpa using hp
  simp [results, h, hp', asAddr, run_loadVar_row w g t ty cs fr _ hg hu rfl hi]
theorem XW.all {w : World} {x : Nat} {n0 t0 N0 : Int} {S0 raw0 : ByteArray} (h : XW w x n0 t0 N0 S0 raw0) (n t N : Int) (S raw : ByteArray) : XW (((((w.setCell ⟨x, 0, none⟩ (.int .i64 n)).setCell ⟨x, 1, none⟩ (.int .i64 t)).setCell ⟨x, 2, none⟩ (.int .u64 N)).setCell ⟨x, 3, none⟩ (.string S)).setCell ⟨x, 4, none⟩ (.string raw)) x n t N S raw :=
  XW.setR (XW.setS (XW.setN (XW.set1 (XW.set0 h _) _) _) _) _
theorem kp_all (w : World) (x : Nat) (u0 u1 u2 u3 u4 : Value) : Kp (fun k => k = x) w (((((w.setCell ⟨x, 0, none⟩ u0).setCell ⟨x, 1, none⟩ u1).setCell ⟨x, 2, none⟩ u2).setCell ⟨x, 3, none⟩ u3).setCell ⟨x, 4, none⟩ u4) :=
  ((((((Kp.refl (fun k => k = x) w).set (p := ⟨x, 0, none⟩) rfl u0)).set (p := ⟨x, 1, none⟩) rfl u1).set (p := ⟨x, 2, none⟩) rfl u2).set (p := ⟨x, 3, none⟩) rfl u3).set (p := ⟨x, 4, none⟩) rfl u4
end Go.Proofs.YtnghlkbmfhkmoaaGreatDoor
