import Derived.Test.YtodhnmflabehhaaProg
import Derived.WalkKit
import Derived.WideLaws
import Derived.LaidEql
import Derived.Deep.QuietTactic
import Derived.BigQuiet
import Derived.OwnWalk
namespace Go.Proofs.Ytodhnmflabehhaa
open Go.RowKit

/-- What an error tells. -/
inductive Err where
  | nil : Err
  | code : Int → Err
  | at_ : Int → Err → Err
  | fld : Int → Err → Err
  | oth : Err

/-- A value that tells an error, in a world. -/
def IsE (w : World) : Err → Value → Prop
  | .nil, v => v = .nilIface
  | .code c, v => v = .iface 48 (.int .i64 c)
  | .at_ n e, v => ∃ a u, v = .iface 63 (.pointer (some ⟨a, 0, none⟩)) ∧ w.heap[a]? = some (.cells #[.int .i64 n, u] 65 (0, 0)) ∧ IsE w e u
  | .fld _ _, _ => False
  | .oth, _ => False

theorem at_any (n : Int) (u : Value) (w : World) (h : ∃ T x, u = .iface T x) :
    Calls Try.prog 23 #[.int .i64 n, u] w fun e w' => e = .returned (.iface 63 (.pointer (some ⟨w.heap.size, 0, none⟩))) ∧ w' = w.alloc (.cells #[.int .i64 n, u] 65 (0, 0)) := by
  obtain ⟨T, x, rfl⟩ := h
  go_enter Try.func23, Try.ntmps23
  go_wp2
  go_ret
  exact ⟨rfl, rfl⟩

theorem IsE.below {w w' : World} {e : Err} : ∀ {v : Value}, IsE w e v → Below w.heap.size w w' → IsE w' e v := by
  induction e with
  | nil => intro v h _; exact h
  | code c => intro v h _; exact h
  | at_ n e ih =>
    intro v h hb
    obtain ⟨a, u, rfl, ha, hu⟩ := h
    exact ⟨a, u, rfl, by rw [hb.block a (Array.getElem?_eq_some_iff.1 ha).1]; exact ha, ih hu hb⟩
  | fld n e ih => intro v h _; exact h
  | oth => intro v h _; exact h
theorem IsE.iface {w : World} {e : Err} {v : Value} (h : IsE w e v) (he : e ≠ .nil) : ∃ T x, v = .iface T x := by
  cases e with
  | nil => exact absurd rfl he
  | code c => exact ⟨_, _, h⟩
  | at_ n e => obtain ⟨a, u, rfl, _⟩ := h; exact ⟨_, _, rfl⟩
  | fld n e => exact h.elim
  | oth => exact h.elim
theorem IsE.new {w : World} {n : Int} {e : Err} {u : Value} (h : IsE w e u) : IsE (w.alloc (.cells #[.int .i64 n, u] 65 (0, 0))) (.at_ n e) (.iface 63 (.pointer (some ⟨w.heap.size, 0, none⟩))) :=
  ⟨_, _, rfl, heap_alloc_new _ _, h.below ((Below.refl _ _).alloc (Nat.le_refl _) _)⟩
end Go.Proofs.Ytodhnmflabehhaa
