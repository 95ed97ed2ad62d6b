import Derived.Test.YtehfgemoccjomaaDoorRows
import Derived.Test.YtehfgemoccjomaaDoorProg
import Derived.Test.YtehfgemoccjomaaDoorWWords
import Derived.Below
import Derived.WalkKit
import Derived.LaidLaws
import Derived.LaidHandle
import Derived.Stop.Joined
namespace Go.Proofs.YtehfgemoccjomaaDoor
open Go.RowKit Go.Proofs.YtehfgemoccjomaaDoorW.PrintWords

/-- The variable errors.errorType as it is laid. -/
def Laid (w : World) : Prop := w.cell? ⟨0, 0, none⟩ = some (.iface 77 (.agg #[.pointer (some ⟨1, 33, none⟩)]))
theorem cell_lt {w : World} {a : Addr} {v : Value} (h : w.cell? a = some v) : a.block < w.heap.size := by
  rcases Nat.lt_or_ge a.block w.heap.size with hl | hl
  · exact hl
  · simp [World.cell?, Array.getElem?_eq_none hl] at h
theorem Laid.below {w w' : World} (h : Laid w) (hb : Below w.heap.size w w') : Laid w' := by
  unfold Laid at *
  rw [hb.cell (cell_lt h)]; exact h

theorem seat_et : Tryd.prog.globalNamed "errors.errorType" = some 0 := by kernel_rfl
theorem seat_rt : (Tryd.prog.cutTypes.find? (·.1 == "internal/reflectlite.rtype")).map (·.2) = some 77 := by kernel_rfl
theorem seat_oneRow : ((List.range 117).filter fun t => Tryd.prog.rowNamed t [101, 114, 114, 111, 114]) = [33] := by kernel_rfl
theorem seat_size : Tryd.prog.types.size = 117 := by kernel_rfl
/-- What the condition gives a walk: the variable's one cell. -/
theorem laid_of {W : World} (h : laidMetH Tryd.prog [("errors.errorType", Rows.laid_errors_errorType)] W) : Laid W := by
  have h' : laidMet Tryd.prog [] W ∧ handlesMet Tryd.prog [("errors.errorType", Rows.laid_errors_errorType)] W := h
  obtain ⟨name, u, ty, e1, e2, e3, e4, e5⟩ := h'.2 _ (List.mem_singleton.2 rfl)
  have en : name = [101, 114, 114, 111, 114] := (Option.some.inj e1).symm
  subst en
  obtain rfl := Option.some.inj (seat_rt.symm.trans e2)
  have hm : ty ∈ (List.range 117).filter fun t => Tryd.prog.rowNamed t [101, 114, 114, 111, 114] := List.mem_filter.2 ⟨List.mem_range.2 (by rw [← seat_size]; exact e3), e4⟩
  rw [seat_oneRow] at hm
  obtain rfl := List.mem_singleton.1 hm
  have hh : typeHandle Tryd.prog 33 = .pointer (some ⟨1, 33, none⟩) := by kernel_rfl
  rw [hh] at e5
  unfold Laid
  simpa using World.var?_cell seat_et e5 0
/-- A world that meets the condition. -/
noncomputable def laidWorld (os : Os) : World :=
  let w0 := World.holding Tryd.prog os ⟨#[], #[], []⟩
  { w0 with heap := w0.heap.modify 0 fun
      | .cells _ t frozen => .cells #[.iface 77 (.agg #[.pointer (some ⟨1, 33, none⟩)])] t frozen
      | o => o }
theorem laidWorld_met (os : Os) (args : Array Value) : laidMetH Tryd.prog [("errors.errorType", Rows.laid_errors_errorType)] ((laidWorld os).forCall (fun _ _ => 0) ⟨#[], args, []⟩).memory :=
  laidMetH_of_parts (laidMet_nil _ _) (by kernel_rfl)
end Go.Proofs.YtehfgemoccjomaaDoor
