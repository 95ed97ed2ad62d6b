import Derived.Test.YtodhnmflabehhaaXorP
import Derived.Test.YtodhnmflabehhaaBitErr
import Derived.Test.YtodhnmflabehhaaKp
namespace Go.Proofs.Ytodhnmflabehhaa
open Go.RowKit Go.Proofs.YtodhnmflabehhaaW.PrintWords Go.Proofs.YtodhnmflabehhaaW.PrintLast Go.Proofs.YtodhnmflabehhaaW.PrintMore Hy

/-- A column's reader of the call's own: where it stands, and its error. -/
def XAt (B g r : Nat) (s : ByteArray) (a : Nat) (ev : Value) (w : World) : Prop := RAt B g s a w ∧ B ≤ r ∧ r ≠ g ∧ w.heap[r]? = some (.cells #[.pointer (some ⟨g, 0, none⟩), ev] 55 (0, 0))
theorem XAt.k0 {B g r s a ev w} (h : XAt B g r s a ev w) : w.cell? ⟨r, 0, none⟩ = some (.pointer (some ⟨g, 0, none⟩)) := by rw [blk_cell h.2.2.2]; rfl
theorem XAt.k1 {B g r s a ev w} (h : XAt B g r s a ev w) : w.cell? ⟨r, 1, none⟩ = some ev := by rw [blk_cell h.2.2.2]; rfl
theorem XAt.f1 {B g r s a ev w} (h : XAt B g r s a ev w) : w.frozen? ⟨r, 1, none⟩ = false := blk_frozen h.2.2.2 1
theorem XAt.put {B g r s a ev w} (h : XAt B g r s a ev w) (ev' : Value) : XAt B g r s a ev' (w.setCell ⟨r, 1, none⟩ ev') :=
  ⟨⟨h.1.1, by rw [blk_far h.1.2 (by exact Ne.symm h.2.2.1)]⟩, h.2.1, h.2.2.1, by rw [blk_set h.2.2.2]; rfl⟩
theorem XAt.below {B g r s a ev} {w w' : World} (h : XAt B g r s a ev w) (hb : Below w.heap.size w w') : XAt B g r s a ev w' := ⟨h.1.below hb, h.2.1, h.2.2.1, blk_below h.2.2.2 hb⟩
theorem XAt.drew {B g r s a ev} {w : World} (h : XAt B g r s a ev w) : XAt B g r s a ev w.drew := h
theorem XAt.drewN {B g r s a ev} {w : World} (h : XAt B g r s a ev w) (m : Nat) : XAt B g r s a ev (w.drewN m) := h
def GR (g r : Nat) (k : Nat) : Prop := k = g ∨ k = r
theorem XAt.get {B g r s a a' ev} {w w1 : World} (h : XAt B g r s a ev w) (hr : RAt B g s a' w1) (hk : Kp (· = g) w w1) : XAt B g r s a' ev w1 := ⟨hr, h.2.1, h.2.2.1, hk.obj h.2.2.2 h.2.2.1⟩
theorem XAt.B {B g r s a ev} {w : World} (h : XAt B g r s a ev w) : B ≤ w.heap.size := Nat.le_trans h.1.1 (Nat.le_of_lt (blk_lt h.1.2))
theorem XAt.grown {B g r s a ev} {w w1 : World} {row : Option Nat} (h : XAt B g r s a ev w) (hg : w.grownBy w1 row) (hn : ∀ k, row = some k → ¬ GR g r k) : XAt B g r s a ev w1 :=
  ⟨⟨h.1.1, blk_grown h.1.2 hg (fun e => hn g e.symm (.inl rfl))⟩, h.2.1, h.2.2.1, blk_grown h.2.2.2 hg (fun e => hn r e.symm (.inr rfl))⟩
theorem gets_ok (B g r : Nat) (s : ByteArray) (a : Nat) (c : Int) (w : World) (hs : s.size ≤ 140737488351232) (hc0 : 0 ≤ c) (hc : c ≤ 64) (ha : a + c.toNat ≤ 8 * s.size) (h : XAt B g r s a .nilIface w) :
    Calls Try.prog 20 #[.pointer (some ⟨r, 0, none⟩), .int .i64 c] w fun e w' => e = .returned (.int .u64 ((val (((unp (bs s)).drop a).take c.toNat) : Nat) : Int)) ∧ XAt B g r s (a + c.toNat) .nilIface w' ∧ Kp (GR g r) w w' := by
  obtain ⟨c, rfl⟩ := Int.eq_ofNat_of_zero_le hc0
  rw [Int.toNat_natCast] at *
  have H := rget_ok B g s a c w hs (by omega) ha h.B h.1
  obtain ⟨v, hv⟩ : ∃ v, val (((unp (bs s)).drop a).take c) = v := ⟨_, rfl⟩
  rw [hv] at H ⊢
  have HI := Aside0.mk h
  have k0 := h.k0
  have k1 := h.k1
  clear h hv ha
  go_enter Try.func20, Try.ntmps20
  go_wp2_with (first
    | (go_at_call 15; refine H.mono ?_; rintro e w1 ⟨rfl, h1, h2⟩; have HI1 := Aside0.mk (HI.out.get h1 h2); have HK := Aside0.mk h2; have f1 := HI1.out.f1; have q1 := HI1.out.k1; clear h1 h2 k0 k1))
  go_ret
  exact ⟨rfl, HI1.out.put _, (HK.out.mono (fun k hk => .inl hk)).set (.inr rfl) _⟩
theorem gets_short (B g r : Nat) (s : ByteArray) (a f : Nat) (c : Int) (w : World) (hs : s.size ≤ 140737488351232) (hc0 : 0 ≤ c) (hc : c ≤ 64) (hf : a + f = 8 * s.size) (hfc : (f : Int) < c) (h : XAt B g r s a .nilIface w) :
    Calls Try.prog 20 #[.pointer (some ⟨r, 0, none⟩), .int .i64 c] w fun e w' => ∃ T x, e = .returned (.int .u64 0) ∧ XAt B g r s a (.iface T x) w' ∧ Kp (GR g r) w w' := by
  have H := rget_short B g s a f c w hs hc0 hc hf hfc h.1
  have HI := Aside0.mk h
  have k0 := h.k0
  have k1 := h.k1
  clear h hf
  go_enter Try.func20, Try.ntmps20
  go_wp2_with (first
    | (go_at_call 15; refine H.mono ?_; rintro e w1 ⟨u, E, rfl, hu, hE, h1, h2⟩; obtain ⟨uT, ux, rfl⟩ := hu.iface (by rw [hE]; simp); have HI1 := Aside0.mk (HI.out.below h2); have HK := Aside0.mk h2; have f1 := HI1.out.f1; have q1 := HI1.out.k1; clear h1 h2 k0 k1 hu hE))
  go_ret
  exact ⟨_, _, rfl, HI1.out.put _, (Kp.ofBelow HK.out).set (.inr rfl) _⟩
theorem gets_err (B g r : Nat) (s : ByteArray) (a : Nat) (c : Int) (T : TypeId) (x : Value) (w : World) (h : XAt B g r s a (.iface T x) w) :
    Calls Try.prog 20 #[.pointer (some ⟨r, 0, none⟩), .int .i64 c] w fun e w' => e = .returned (.int .u64 0) ∧ w' = w := by
  have k1 := h.k1
  clear h
  go_enter Try.func20, Try.ntmps20
  go_wp2_with fail
  go_ret
  exact ⟨rfl, rfl⟩
end Go.Proofs.Ytodhnmflabehhaa
