import Derived.Test.YtodhnmflabehhaaBitP
import Derived.Test.YtodhnmflabehhaaBt
import Derived.Test.YtodhnmflabehhaaBlame
import Derived.Test.YtodhnmflabehhaaProg
import Derived.WalkKit
import Derived.Below
import Derived.Deep.QuietTactic
import Derived.BigQuiet
import Derived.LoopTactic
namespace Go.Proofs.Ytodhnmflabehhaa
open Go.RowKit Go.Proofs.YtodhnmflabehhaaW.PrintWords Hy

def ints (l : List Nat) : List Int := l.map fun (x : Nat) => (x : Int)
theorem ints_length (l : List Nat) : (ints l).length = l.length := by simp [ints]
theorem ints_append (a b : List Nat) : ints (a ++ b) = ints a ++ ints b := by simp [ints]
/-- A writer of the call's own, in its block: its bits. -/
def WAt (T : TypeId) (B : Nat) (g : Nat) (v : Value) (n : Nat) (L : List Nat) (w : World) : Prop :=
  B ≤ g ∧ w.heap[g]? = some (.cells #[v, .int .i64 (n : Int)] T (0, 0)) ∧ w.ownsRow B 5 1 v L.length (nums .u8 (ints L))
def IsW (T : TypeId) (B : Nat) (g : Nat) (l : List Bool) (w : World) : Prop := ∃ v, WAt T B g v l.length (pk l) w
theorem WAt.c0 {T B g v n L w} (h : WAt T B g v n L w) : w.cell? ⟨g, 0, none⟩ = some v := by rw [blk_cell h.2.1]; rfl
theorem WAt.c1 {T B g v n L w} (h : WAt T B g v n L w) : w.cell? ⟨g, 1, none⟩ = some (.int .i64 (n : Int)) := by rw [blk_cell h.2.1]; rfl
theorem WAt.f0 {T B g v n L w} (h : WAt T B g v n L w) : w.frozen? ⟨g, 0, none⟩ = false := blk_frozen h.2.1 0
theorem WAt.f1 {T B g v n L w} (h : WAt T B g v n L w) : w.frozen? ⟨g, 1, none⟩ = false := blk_frozen h.2.1 1
/-- A byte more: what the store of the row leaves. -/
theorem WAt.more {T B g : Nat} {v v1 : Value} {n c : Nat} {L : List Nat} {w w1 : World} (hT : 5 ≠ T) (h : WAt T B g v n L w) (ho : w1.ownsRow B 5 1 v1 (ints L ++ [((c : Nat) : Int)]).length (nums .u8 (ints L ++ [((c : Nat) : Int)]))) (hg : w.grownBy w1 v.ownBlock) :
    w1.cell? ⟨g, 0, none⟩ = some v ∧ w1.frozen? ⟨g, 0, none⟩ = false ∧ WAt T B g v1 n (L ++ [c]) (w1.setCell ⟨g, 0, none⟩ v1) := by
  have hb : w1.heap[g]? = some (.cells #[v, .int .i64 (n : Int)] T (0, 0)) := blk_grown h.2.1 hg (own_ne h.2.2 h.2.1 hT)
  refine ⟨by rw [blk_cell hb]; rfl, blk_frozen hb 0, h.1, by rw [blk_set hb]; rfl, ?_⟩
  have he : ints L ++ [((c : Nat) : Int)] = ints (L ++ [c]) := by rw [ints_append]; rfl
  rw [he] at ho
  rw [ints_length] at ho
  exact own_setCell ho (by exact own_ne ho hb hT) v1
/-- The last byte, and what its store and the number's leave. -/
theorem WAt.last {T B g : Nat} {v : Value} {n x : Nat} {P : List Nat} {w : World} (hT : 5 ≠ T) (h : WAt T B g v n (P ++ [x]) w) :
    ∃ ad cap, v = .slice (some ad) (P.length + 1) cap ∧ P.length + 1 ≤ cap ∧ w.cell? (ad.add P.length) = some (.int .u8 (x : Int)) ∧ w.frozen? (ad.add P.length) = false ∧
      (∀ u, (w.setCell (ad.add P.length) u).cell? ⟨g, 1, none⟩ = some (.int .i64 (n : Int))) ∧ (∀ u, (w.setCell (ad.add P.length) u).frozen? ⟨g, 1, none⟩ = false) ∧
      (∀ (y n' : Nat), WAt T B g v n' (P ++ [y]) ((w.setCell (ad.add P.length) (.int .u8 (y : Int))).setCell ⟨g, 1, none⟩ (.int .i64 (n' : Int)))) ∧
      (∀ u u' w0, Below B w0 w → Below B w0 ((w.setCell (ad.add P.length) u).setCell ⟨g, 1, none⟩ u')) := by
  obtain ⟨h1, h2, h3⟩ := h
  have hlen : (P ++ [x]).length = P.length + 1 := by simp
  have hlen2 : ∀ y, (P ++ [y]).length = P.length + 1 := by simp
  rw [hlen] at h3
  have h3' := h3
  rcases h3'.2 with ⟨_, h0⟩ | ⟨ga, cap, cur, rfl, hga, hh, hcap, _⟩
  · omega
  · have hne : g ≠ ga := by
      have := own_ne h3 h2 hT
      intro e; exact this (by simp [Value.ownBlock, e])
    have ha : (⟨ga, 0, none⟩ : Addr).add P.length = ⟨ga, P.length, none⟩ := add_plain _ _
    have hat := own_at h3 (P.length : Int) (by omega) (by omega)
    have hrd : rd (ints (P ++ [x])) (P.length : Int) = (x : Int) := by
      unfold rd; rw [ints_append]; simp [ints]
    rw [hrd, Int.toNat_natCast] at hat
    refine ⟨⟨ga, 0, none⟩, cap, rfl, hcap, by rw [ha]; exact hat.1, by rw [ha]; exact hat.2, fun u => ?_, fun u => ?_, fun y n' => ?_, fun u u' w0 hb => ?_⟩
    · rw [blk_cell (blk_far h2 (by rw [ha]; exact hne) u)]; rfl
    · exact blk_frozen (blk_far h2 (by rw [ha]; exact hne) u) 1
    · refine ⟨h1, by rw [blk_set (blk_far h2 (by rw [ha]; exact hne) _)]; rfl, ?_⟩
      rw [hlen2]
      refine own_setCell ?_ (by simp [Value.ownBlock]; exact hne) _
      have := (own_store h3 (P.length : Int) (y : Int)).1
      rw [Int.toNat_natCast] at this
      rw [ha]
      have he : (ints (P ++ [x])).set P.length (y : Int) = ints (P ++ [y]) := by
        rw [ints_append, ints_append, ← ints_length P, List.set_append_right _ _ (Nat.le_refl _), Nat.sub_self]; rfl
      rw [he] at this
      exact this
    · exact (hb.setCell (by rw [ha]; exact hga) u).setCell h1 u'
theorem uint8_info : (Try.prog.info? 5).map (fun i => (i.zero, i.size, i.bytes)) = some (some (.int .u8 0), 1, 1) := by kernel_rfl
end Go.Proofs.Ytodhnmflabehhaa
