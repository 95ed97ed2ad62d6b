import Derived.Test.YtodhnmflabehhaaBitPut
import Derived.Test.YtodhnmflabehhaaBitGet
namespace Go.Proofs.Ytodhnmflabehhaa
open Go.RowKit Go.Proofs.YtodhnmflabehhaaW.PrintWords Go.Proofs.YtodhnmflabehhaaW.PrintLast Go.Proofs.YtodhnmflabehhaaW.PrintMore Hy

theorem IsW.below {T B g : Nat} {l : List Bool} {w w' : World} (h : IsW T B g l w) (hb : Below w.heap.size w w') : IsW T B g l w' := by
  obtain ⟨v, h1, h2, h3⟩ := h
  exact ⟨v, h1, blk_below h2 hb, own_move h3 (fun k hk => hb.block k (own_lt h3 k hk))⟩
theorem IsW.new (T : Nat) (w : World) : IsW T w.heap.size w.heap.size [] (w.alloc (.cells #[.slice none 0 0, .int .i64 0] T)) :=
  ⟨.slice none 0 0, Nat.le_refl _, heap_alloc_new w _, by rw [pk_nil]; exact own_nil _ _ _ _⟩
theorem RAt.low {B B' g : Nat} {s : ByteArray} {a : Nat} {w : World} (h : RAt B g s a w) (hb : B' ≤ B) : RAt B' g s a w := ⟨Nat.le_trans hb h.1, h.2⟩
theorem wstring_any (T : TypeId) (B g : Nat) (l : List Bool) (w : World) (h : IsW T B g l w) :
    Calls Try.prog 16 #[.pointer (some ⟨g, 0, none⟩)] w fun e w' => e = .returned (.string (st (pk l))) ∧ w' = w := by
  obtain ⟨v, hv⟩ := h
  have c0 := hv.c0
  have hcv := own_string (P := Try.prog) Try.underlying35 Try.underlying5 Try.underlying9 hv.2.2
  have hst : strOfNums (ints (pk l)) = st (pk l) := strOfNums_eq _
  rw [hst] at hcv
  clear hv hst
  go_enter Try.func16, Try.ntmps16
  go_wp2
  go_ret
  exact ⟨rfl, rfl⟩
theorem wlen_any (T : TypeId) (B g : Nat) (l : List Bool) (w : World) (h : IsW T B g l w) :
    Calls Try.prog 17 #[.pointer (some ⟨g, 0, none⟩)] w fun e w' => e = .returned (.int .i64 (l.length : Int)) ∧ w' = w := by
  obtain ⟨v, hv⟩ := h
  have c1 := hv.c1
  clear hv
  go_enter Try.func17, Try.ntmps17
  go_wp2
  go_ret
  exact ⟨rfl, rfl⟩
theorem newReader_any (s : ByteArray) (w : World) :
    Calls Try.prog 14 #[.string s] w fun e w' => ∃ g, e = .returned (.pointer (some ⟨g, 0, none⟩)) ∧ RAt w.heap.size g s 0 w' ∧ Below w.heap.size w w' := by
  have HB := Aside0.mk (Below.refl w.heap.size w)
  go_enter Try.func14, Try.ntmps14
  go_wp2
  go_ret
  exact ⟨w.heap.size, rfl, ⟨Nat.le_refl _, heap_alloc_new w _⟩, HB.out.alloc (Nat.le_refl _) _⟩
end Go.Proofs.Ytodhnmflabehhaa
