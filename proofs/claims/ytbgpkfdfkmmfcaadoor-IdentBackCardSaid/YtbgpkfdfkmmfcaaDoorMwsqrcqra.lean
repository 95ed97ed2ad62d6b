import Derived.Test.YtbgpkfdfkmmfcaaDoorProg
import Derived.Test.YtbgpkfdfkmmfcaaDoorWWords
import Derived.Lib.Strings
import Derived.Lib.Slices
import Derived.Lib.Walk
import Derived.Lib.Builder
import Derived.Lib.AppendStr
import Derived.Lib.UnsafeStr
import Derived.Lib.MakeNoZero
import Derived.WalkKit
import Derived.RegionTactic
import Derived.Laws.Externs
import Derived.Laws.IdiomCopy
import Derived.Laws.BitsLemmas
import Derived.Test.YtbgpkfdfkmmfcaaDoorMyyqateca
import Derived.Test.YtbgpkfdfkmmfcaaDoorMvxdlsjdq
import Derived.Test.YtbgpkfdfkmmfcaaDoorMiuvcdyll
import Derived.Test.YtbgpkfdfkmmfcaaDoorMwkhpimho
set_option linter.unusedVariables false
namespace Go.Proofs.YtbgpkfdfkmmfcaaDoor
open Go.RowKit

/-! ### strings.Builder at a builder of the call's own (the laws of Derived/Lib/Builder and its kin) -/
theorem bld_info : (Tryd.prog.info? 5).map (fun i => (i.zero, i.size, i.bytes)) = some (some (.int .u8 0), 1, 1) := by kernel_rfl
theorem bld_size : (Tryd.prog.info? 49).map (·.size) = some 2 := by kernel_rfl
theorem bld_lies : liesAt Tryd.prog Tryd.prog.depth 49 (2 / Tryd.prog.cellsOf 49) 0 49 1 = true := by kernel_rfl

set_option maxHeartbeats 1000000 in
set_option maxRecDepth 100000 in
theorem bld_check_used (b : Nat) (w : World) (h0 : w.cell? ⟨b, 0, none⟩ = some (.pointer (some ⟨b, 0, none⟩))) :
    Calls Tryd.prog 23 #[.pointer (some ⟨b, 0, none⟩)] w fun e w' => e = .returned (.tuple #[]) ∧ w' = w := by
  obtain ⟨j, hj, _⟩ := Option.map_eq_some_iff.1 bld_size
  go_enter Tryd.func23, Tryd.ntmps23
  go_wp2
  rw [Lib.run_neq_ptr_same w _ Tryd.underlying46 hj]
  go_wp2
  go_end0
  exact ⟨rfl, rfl⟩

set_option maxHeartbeats 1000000 in
set_option maxRecDepth 100000 in
theorem bld_check_fresh (b : Nat) (w : World) (h0 : w.cell? ⟨b, 0, none⟩ = some (.pointer none)) (hsh : w.shape? b = some (49, 2)) (hfz : w.frozen? ⟨b, 0, none⟩ = false) :
    Calls Tryd.prog 23 #[.pointer (some ⟨b, 0, none⟩)] w fun e w' => e = .returned (.tuple #[]) ∧ w' = w.setCell ⟨b, 0, none⟩ (.pointer (some ⟨b, 0, none⟩)) := by
  obtain ⟨j, hj, hjs⟩ := Option.map_eq_some_iff.1 bld_size
  go_enter Tryd.func23, Tryd.ntmps23
  go_wp2
  rw [Lib.run_to_unsafe w ⟨b, 0, none⟩ Tryd.underlying46 Tryd.underlying61 hj (by rw [hjs]; decide) hsh (Nat.zero_lt_succ 1)]
  simp only [Result.andThen]
  rw [Oper.upon_value]
  go_wp2
  rw [run_callFunc_extern Tryd.func28 (by kernel_rfl) (by kernel_rfl) (by kernel_rfl) (e := Extern.AbiNoEscape.same) (by kernel_rfl)]
  rw [Lib.run_noEscape]
  simp only [Result.andThen]
  rw [Oper.upon_value]
  go_wp2
  rw [Lib.run_from_unsafe w ⟨b, 0, none⟩ Tryd.underlying61 Tryd.underlying46 hj hsh bld_lies]
  simp only [Result.andThen]
  rw [Oper.upon_value]
  go_wp2
  go_end0
  exact ⟨rfl, rfl⟩

theorem bld_check (B b : Nat) (bs : List Value) (w : World) (h : Lib.IsBuilder 49 5 B b bs w) :
    Calls Tryd.prog 23 #[.pointer (some ⟨b, 0, none⟩)] w fun e w' => e = .returned (.tuple #[]) ∧ (Lib.BuilderAt 49 5 B b (.pointer (some ⟨b, 0, none⟩)) bs w' ∧ Below B w w') := by
  rcases h with h | h
  · refine (bld_check_fresh b w h.cell0 h.shape h.frozen0).mono ?_
    rintro e w' ⟨rfl, rfl⟩
    exact ⟨rfl, h.used _, (Below.refl B w).setCell (p := ⟨b, 0, none⟩) h.1 _⟩
  · refine (bld_check_used b w h.cell0).mono ?_
    rintro e w' ⟨rfl, rfl⟩
    exact ⟨rfl, h, Below.refl B _⟩

set_option maxHeartbeats 2000000 in
set_option maxRecDepth 100000 in
theorem bld_write (B b : Nat) (bs : List Value) (s : ByteArray) (w : World) (h : Lib.IsBuilder 49 5 B b bs w) (hlen : bs.length + s.size ≤ 140737488355328) (hBw : B ≤ w.heap.size) :
    Calls Tryd.prog 18 #[.pointer (some ⟨b, 0, none⟩), .string s] w fun e w' => e = .returned (.tuple #[.int .i64 s.size, .nilIface]) ∧ (Lib.BuilderAt 49 5 B b (.pointer (some ⟨b, 0, none⟩)) (bs ++ Lib.strCells s) w' ∧ Below B w w') := by
  obtain ⟨i0, hi, hz0, hz1, hz2⟩ := info_parts bld_info
  go_enter Tryd.func18, Tryd.ntmps18
  go_wp2_with (go_at_call 23; refine (bld_check B b bs _ h).mono ?_)
  rintro e w1 ⟨rfl, h1, hb1⟩
  obtain ⟨hB, v, hbk, hown, hne⟩ := h1
  have c0 : w1.cell? ⟨b, 0, none⟩ = some (.pointer (some ⟨b, 0, none⟩)) := by rw [Lib.cell_of_heap hbk]; rfl
  have c1 : w1.cell? ⟨b, 1, none⟩ = some v := by rw [Lib.cell_of_heap hbk]; rfl
  go_wp2_with (at_builtin; refine Lib.wpList_append_own_string _ rfl _ _ 47 9 rfl B 5 i0 Tryd.underlying47 Tryd.underlying9 hi hz0 hz1 hz2 _ _ _ rfl hown s rfl ?c3 ?c4 ?c5 ?_)
  case c3 => unfold maxLen; omega
  case c4 => omega
  case c5 => have := hb1.size; omega
  intro v' w2 hown' hgrow _
  have hlt : b < w1.heap.size := by
    rcases Nat.lt_or_ge b w1.heap.size with h' | h'
    · exact h'
    · simp [Array.getElem?_eq_none h'] at hbk
  have hb2 : w2.heap[b]? = some (.cells #[.pointer (some ⟨b, 0, none⟩), v] 49 (0, 0)) := by
    rw [hgrow.block b hlt (fun e => hne e.symm)]
    exact hbk
  have d0 : w2.cell? ⟨b, 0, none⟩ = some (.pointer (some ⟨b, 0, none⟩)) := by rw [Lib.cell_of_heap hb2]; rfl
  have d1 : w2.cell? ⟨b, 1, none⟩ = some v := by rw [Lib.cell_of_heap hb2]; rfl
  have f1 : w2.frozen? ⟨b, 1, none⟩ = false := Lib.frozen_of_heap hb2 1
  obtain ⟨ao, n', cap, rfl⟩ : ∃ ao n' cap, v' = .slice ao n' cap := by
    rcases hown'.2 with ⟨hv, _⟩ | ⟨g, cap, cur, hv, _⟩
    · exact ⟨_, _, _, hv⟩
    · exact ⟨_, _, _, hv⟩
  go_wp2
  go_ret2
  refine ⟨rfl, ?_, ?_⟩
  · exact Lib.BuilderAt.put (T := 49) (e := 5) hB hb2 (bs' := bs ++ Lib.strCells s) (by simpa [Lib.strCells_length] using hown') (by decide)
  · exact (hb1.grown hgrow (by have := hb1.size; omega) (fun k hk => (hown.lt k hk).1)).setCell (p := ⟨b, 1, none⟩) hB _

set_option maxHeartbeats 1000000 in
set_option maxRecDepth 100000 in
theorem bld_string_some (B b : Nat) (l : List UInt8) (w : World) (h : Lib.IsBuilder 49 5 B b (Lib.byteCells l) w) (h0 : l ≠ []) :
    Calls Tryd.prog 20 #[.pointer (some ⟨b, 0, none⟩)] w fun e w' => e = .returned (.string ⟨l.toArray⟩) ∧ Below B w w' := by
  obtain ⟨p, hB, v, hbk, hown, hne⟩ : ∃ p, Lib.BuilderAt 49 5 B b p (Lib.byteCells l) w := by
    rcases h with h | h
    · exact ⟨_, h⟩
    · exact ⟨_, h⟩
  have hl0 : l.length ≠ 0 := by simpa using h0
  rw [Lib.byteCells_length] at hown
  obtain ⟨g, cap, cur, rfl, hbg, hg, hnc, hcm, hcs, htake⟩ : ∃ g cap cur, v = .slice (some ⟨g, 0, none⟩) l.length cap ∧ B ≤ g ∧ w.heap[g]? = some (.cells cur 5 (0, 0)) ∧ l.length ≤ cap ∧ cap ≤ maxLen ∧ cur.size = cap * 1 ∧ cur.toList.take (l.length * 1) = Lib.byteCells l := by
    rcases hown.2 with ⟨_, hz⟩ | ⟨g, cap, cur, hv, r⟩
    · exact absurd hz hl0
    · exact ⟨g, cap, cur, hv, r⟩
  have c1 : w.drew.cell? ⟨b, 1, none⟩ = some (.slice (some ⟨g, 0, none⟩) l.length cap) := by
    have : w.drew.heap[b]? = some (.cells #[p, .slice (some ⟨g, 0, none⟩) l.length cap] 49 (0, 0)) := hbk
    rw [Lib.cell_of_heap this]; rfl
  have hSD : (Builtin.unsafeSliceData_ #[47] 60 #[.slice (some ⟨g, 0, none⟩) l.length cap]).run Tryd.prog w.drew = .ok (.pointer (some ⟨g, 0, none⟩)) w.drew :=
    Lib.run_unsafeSliceData_row _ _ _ _ _ _ (by omega)
  have hUS : (Builtin.unsafeString_ #[60, 3] 9 #[.pointer (some ⟨g, 0, none⟩), .int .i64 l.length]).run Tryd.prog w.drew = .ok (.string ⟨l.toArray⟩) (w.drew.freeze ⟨g, 0, none⟩ l.length) := by
    refine Lib.run_unsafeString_row w.drew 60 3 9 5 Tryd.underlying60 (by kernel_rfl) g cur.size (by have hg' : w.drew.heap[g]? = some (.cells cur 5 (0, 0)) := hg; simp [World.shape?, hg']) l h0 (by omega) (by unfold maxLen at hcm; omega) ?_
    intro j x hx
    have := hown.cells (g := g) rfl j (.int .u8 x.toNat) (by simp [Lib.byteCells, hx])
    exact this
  go_enter Tryd.func20, Tryd.ntmps20
  go_wp2
  go_region
  all_goals (go_wp2; go_ret; exact ⟨rfl, Lib.below_freeze (Below.drew (Below.refl B w)) (p := ⟨g, 0, none⟩) hbg _⟩)

theorem bld_us_none (W : World) (q : Option Addr) : (Builtin.unsafeString_ #[60, 3] 9 #[.pointer q, .int .i64 0]).run Tryd.prog W = .ok (.string .empty) W :=
  Lib.run_unsafeString_none W _ _ _ q

set_option maxHeartbeats 2000000 in
set_option maxRecDepth 100000 in
theorem bld_string_nil (B b : Nat) (p : Value) (w : World) (hbk : w.heap[b]? = some (.cells #[p, .slice none 0 0] 49 (0, 0))) :
    Calls Tryd.prog 20 #[.pointer (some ⟨b, 0, none⟩)] w fun e w' => e = .returned (.string ⟨#[]⟩) ∧ Below B w w' := by
  have hUS := bld_us_none
  have c1 : w.drew.cell? ⟨b, 1, none⟩ = some (.slice none 0 0) := by
    have : w.drew.heap[b]? = some (.cells #[p, .slice none 0 0] 49 (0, 0)) := hbk
    rw [Lib.cell_of_heap this]; rfl
  have hSD : (Builtin.unsafeSliceData_ #[47] 60 #[.slice none 0 0]).run Tryd.prog w.drew = .ok (.pointer none) w.drew := rfl
  go_enter Tryd.func20, Tryd.ntmps20
  go_wp2
  go_region
  all_goals (go_wp2; go_ret; exact ⟨rfl, Below.drew (Below.refl B w)⟩)

set_option maxHeartbeats 2000000 in
set_option maxRecDepth 100000 in
theorem bld_string_noroom (B b g : Nat) (p : Value) (cur : Array Value) (w : World) (hBw : B ≤ w.heap.size) (hbk : w.heap[b]? = some (.cells #[p, .slice (some ⟨g, 0, none⟩) 0 0] 49 (0, 0))) (hg : w.heap[g]? = some (.cells cur 5 (0, 0))) :
    Calls Tryd.prog 20 #[.pointer (some ⟨b, 0, none⟩)] w fun e w' => e = .returned (.string ⟨#[]⟩) ∧ Below B w w' := by
  have hUS := bld_us_none
  have hlt : b < w.heap.size := by
    rcases Nat.lt_or_ge b w.heap.size with h' | h'
    · exact h'
    · simp [Array.getElem?_eq_none h'] at hbk
  have c1 : w.drew.cell? ⟨b, 1, none⟩ = some (.slice (some ⟨g, 0, none⟩) 0 0) := by
    have : w.drew.heap[b]? = some (.cells #[p, .slice (some ⟨g, 0, none⟩) 0 0] 49 (0, 0)) := hbk
    rw [Lib.cell_of_heap this]; rfl
  have hSD : (Builtin.unsafeSliceData_ #[47] 60 #[.slice (some ⟨g, 0, none⟩) 0 0]).run Tryd.prog w.drew = .ok (.pointer (some ⟨w.drew.heap.size, 0, none⟩)) (w.drew.alloc (.view ⟨g, 0, none⟩ 5)) :=
    Lib.run_unsafeSliceData_zero w.drew _ _ 5 Tryd.underlying60 ⟨g, 0, none⟩ 0 (5, cur.size) (by have hg' : w.drew.heap[g]? = some (.cells cur 5 (0, 0)) := hg; simp [World.shape?, hg'])
  have c2 : (w.drew.alloc (.view ⟨g, 0, none⟩ 5)).cell? ⟨b, 1, none⟩ = some (.slice (some ⟨g, 0, none⟩) 0 0) := by
    have : (w.drew.alloc (.view ⟨g, 0, none⟩ 5)).heap[b]? = _ := (Lib.alloc_old w.drew _ b hlt).trans hbk
    rw [Lib.cell_of_heap this]; rfl
  have c3 : (w.alloc (.view ⟨g, 0, none⟩ 5)).drew.cell? ⟨b, 1, none⟩ = some (.slice (some ⟨g, 0, none⟩) 0 0) := c2
  have c0 : w.cell? ⟨b, 1, none⟩ = some (.slice (some ⟨g, 0, none⟩) 0 0) := c1
  go_enter Tryd.func20, Tryd.ntmps20
  go_wp2
  go_region
  all_goals (go_wp2; go_ret; exact ⟨rfl, (Below.drew (Below.refl B w)).alloc hBw _⟩)

set_option maxHeartbeats 2000000 in
set_option maxRecDepth 100000 in
theorem bld_string_room (B b g cap : Nat) (p : Value) (w : World) (hc0 : cap ≠ 0) (hbk : w.heap[b]? = some (.cells #[p, .slice (some ⟨g, 0, none⟩) 0 cap] 49 (0, 0))) :
    Calls Tryd.prog 20 #[.pointer (some ⟨b, 0, none⟩)] w fun e w' => e = .returned (.string ⟨#[]⟩) ∧ Below B w w' := by
  have hUS := bld_us_none
  have c1 : w.drew.cell? ⟨b, 1, none⟩ = some (.slice (some ⟨g, 0, none⟩) 0 cap) := by
    have : w.drew.heap[b]? = some (.cells #[p, .slice (some ⟨g, 0, none⟩) 0 cap] 49 (0, 0)) := hbk
    rw [Lib.cell_of_heap this]; rfl
  have hSD : (Builtin.unsafeSliceData_ #[47] 60 #[.slice (some ⟨g, 0, none⟩) 0 cap]).run Tryd.prog w.drew = .ok (.pointer (some ⟨g, 0, none⟩)) w.drew :=
    Lib.run_unsafeSliceData_row _ _ _ _ _ _ hc0
  clear hc0
  go_enter Tryd.func20, Tryd.ntmps20
  go_wp2
  go_region
  all_goals (go_wp2; go_ret; exact ⟨rfl, Below.drew (Below.refl B w)⟩)

theorem bld_string (B b : Nat) (l : List UInt8) (w : World) (h : Lib.IsBuilder 49 5 B b (Lib.byteCells l) w) (hBw : B ≤ w.heap.size) :
    Calls Tryd.prog 20 #[.pointer (some ⟨b, 0, none⟩)] w fun e w' => e = .returned (.string ⟨l.toArray⟩) ∧ Below B w w' := by
  by_cases h0 : l = []
  · subst h0
    obtain ⟨p, hB, v, hbk, hown, hne⟩ : ∃ p, Lib.BuilderAt 49 5 B b p [] w := by
      rcases h with h | h
      · exact ⟨_, h⟩
      · exact ⟨_, h⟩
    rcases hown.2 with ⟨rfl, _⟩ | ⟨g, cap, cur, rfl, hbg, hg, _, _, _, _⟩
    · exact bld_string_nil B b p w hbk
    · by_cases hc0 : cap = 0
      · subst hc0
        exact bld_string_noroom B b g p cur w hBw hbk hg
      · exact bld_string_room B b g cap p w hc0 hbk
  · exact bld_string_some B b l w h h0

theorem bld_below {T e : TypeId} {B b : Nat} {bs : List Value} {w w1 : World} (h : Lib.IsBuilder T e B b bs w) (hb : Below w.heap.size w w1) : Lib.IsBuilder T e B b bs w1 := by
  have go : ∀ p, Lib.BuilderAt T e B b p bs w → Lib.BuilderAt T e B b p bs w1 := by
    intro p h
    have hlt := h.lt
    obtain ⟨hB, v, hh, ho, hne⟩ := h
    exact ⟨hB, v, by rw [hb.block b hlt]; exact hh, Go.Proofs.YtbgpkfdfkmmfcaaDoorW.PrintWords.pw_own_below ho hb, hne⟩
  rcases h with h | h
  · exact .inl (go _ h)
  · exact .inr (go _ h)
theorem bld_drewN {T e : TypeId} {B b : Nat} {bs : List Value} {w : World} {n : Nat} (h : Lib.IsBuilder T e B b bs w) : Lib.IsBuilder T e B b bs (w.drewN n) :=
  bld_below h (Go.Proofs.YtbgpkfdfkmmfcaaDoorW.PrintWords.pw_below_drewN (Below.refl _ _) n)
theorem bld_at {T e : TypeId} {B b : Nat} {bs : List Value} {w : World} (h : Lib.BuilderAt T e B b (.pointer (some ⟨b, 0, none⟩)) bs w) : Lib.IsBuilder T e B b bs w := .inr h
theorem strCells_append (a b : ByteArray) : Lib.strCells a ++ Lib.strCells b = Lib.strCells (a ++ b) := by
  unfold Lib.strCells
  rw [ByteArray.data_append]; simp
theorem bld_new (T e : TypeId) (w : World) : Lib.IsBuilder T e w.heap.size w.heap.size [] (w.alloc (.cells #[.pointer none, .slice none 0 0] T)) :=
  .inl ⟨Nat.le_refl _, _, heap_alloc_new _ _, Go.Proofs.YtbgpkfdfkmmfcaaDoorW.PrintWords.own_nil _ _ _ _, by simp [Value.ownBlock]⟩
end Go.Proofs.YtbgpkfdfkmmfcaaDoor
namespace Go.Proofs.YtbgpkfdfkmmfcaaDoor
open Go.RowKit Go.Proofs.YtbgpkfdfkmmfcaaDoorW.PrintWords Go.Proofs.YtbgpkfdfkmmfcaaDoorW.PrintLast Go.Proofs.YtbgpkfdfkmmfcaaDoorW.PrintMore Hy

theorem str_info : (Tryd.prog.info? 9).map (fun i => (i.zero, i.size, i.bytes)) = some (some (.string ByteArray.empty), 1, 16) := by kernel_rfl
/-! ### texts joined by the program -/
def jt (L : List ByteArray) (i : Nat) : ByteArray := st (joinL (bsL (L.take i)))
theorem jt_next (L : List ByteArray) (i : Nat) (h : i < L.length) : jt L (i + 1) = jt L i ++ (put ((L[i]).size : Int) ++ L[i]) := by
  unfold jt
  rw [List.take_succ_eq_append_getElem h, bsL_snoc, joinL_snoc, textL_size, st_append, st_append (putL _) (bs _), st_bs]
  rfl
theorem jt_le (L : List ByteArray) (i : Nat) : (jt L i).size ≤ (joinL (bsL L)).length := by
  unfold jt
  rw [st_size]
  conv => rhs; rw [← List.take_append_drop i L, bsL_append, joinL_append, List.length_append]
  omega
theorem jt_all (L : List ByteArray) : jt L L.length = st (joinL (bsL L)) := by unfold jt; rw [List.take_length]
set_option maxHeartbeats 2000000 in
set_option maxRecDepth 100000 in
theorem ijoin_any (A : Option Addr) (c : Nat) (L : List ByteArray) (w : World) (hr : Kd.C Kd.string w A L.length L) (hc : L.length ≤ c) (hl : L.length ≤ 1000000000) (hT : (joinL (bsL L)).length ≤ 1000000000) :
    Calls Tryd.prog 9 #[.slice A L.length c] w fun e w' => e = .returned (.string (st (joinL (bsL L)))) ∧ Below w.heap.size w w' := by
  have HT := Aside0.mk hT
  have HC := Aside0.mk hr
  have hB0 : Below w.heap.size w (w.alloc (.cells #[.pointer none, .slice none 0 0] 49)) := (Below.refl _ _).alloc (Nat.le_refl _) _
  have HB := Aside0.mk hB0
  have HD : Aside0 (Lib.IsBuilder 49 5 w.heap.size w.heap.size (Lib.strCells (jt L 0)) (w.alloc (.cells #[.pointer none, .slice none 0 0] 49))) := ⟨by unfold jt; rw [List.take_zero]; exact bld_new _ _ w⟩
  clear hr hT hB0
  obtain ⟨N, hN⟩ : ∃ N, L.length = N := ⟨_, rfl⟩
  rw [hN] at hl hc HC ⊢
  have HN := Aside0.mk hN
  clear hN
  go_enter Tryd.func9, Tryd.ntmps9
  go_wp2_with fail
  go_loopw [8] (fun v8 w' => ∃ i : Nat, i ≤ N ∧ v8 = .int .i64 (i : Int) ∧ Aside0 (Lib.IsBuilder 49 5 w.heap.size w.heap.size (Lib.strCells (jt L i)) w') ∧ Aside0 (Below w.heap.size w w')) (fun v8 _ => N - (intOf v8).toNat)
  case atStart => exact ⟨0, Nat.zero_le _, rfl, HD, HB⟩
  case round =>
    clear HB HD
    obtain ⟨i, hi, rfl, HD, HB⟩ := hrel
    by_cases hlt : i < N
    · have hlt2 : (i : Int) < (N : Int) := by omega
      obtain ⟨ad, rfl, hx⟩ := Kd.at_string HC.out (i : Int) (by omega) (by omega)
      have hi2 : i < L.length := by rw [HN.out]; omega
      obtain ⟨t, ht⟩ : ∃ t, L[i] = t := ⟨_, rfl⟩
      have hx2 : wr.cell? (ad.add i) = some (.string t) := by
        rw [Int.toNat_natCast] at hx
        refine pw_cell_below HB.out ?_
        rw [hx, ← ht]; simp [rdOf, List.getD_eq_getElem?_getD, hi2]
      have hnx := jt_next L i hi2
      rw [ht] at hnx
      have hle := jt_le L (i + 1)
      rw [hnx, ByteArray.size_append, ByteArray.size_append] at hle
      have hTb := HT.out
      have htz : t.size ≤ 1000000000 := by omega
      have A1 := fun w => put_any (t.size : Int) w (by omega) (by omega)
      have hcv : IntKind.u64.wrap (t.size : Int) = (t.size : Int) := by rw [wrap_u64]; omega
      have hbd : (Lib.strCells (jt L i)).length + (put (t.size : Int) ++ t).size ≤ 140737488355328 := by rw [Lib.strCells_length, ByteArray.size_append]; omega
      have hsum : (put (t.size : Int)).size + t.size ≤ 9223372036854775807 := by omega
      have HX := Aside0.mk hnx
      have HBD := Aside0.mk hbd
      clear hx ht hi2 hnx hle hTb hbd
      go_wp2_with fail
      refine (A1 _).mono ?_
      rintro e w1 ⟨rfl, hb⟩
      have HB1 := Aside0.mk (below_next HB.out hb)
      have HD1 := Aside0.mk (bld_below HD.out hb)
      clear hb HB HD hcv
      go_wp2_with fail
      refine (bld_write _ _ _ _ _ HD1.out HBD.out HB1.out.size).mono ?_
      rintro e w2 ⟨rfl, hd2, hb2⟩
      have HB2 := Aside0.mk (HB1.out.trans hb2)
      have HD2 : Aside0 (Lib.IsBuilder 49 5 w.heap.size w.heap.size (Lib.strCells (jt L (i + 1))) w2) := ⟨by rw [HX.out, ← strCells_append]; exact bld_at hd2⟩
      clear hb2 HB1 HD1 hd2
      go_wp2_with fail
      go_roundw
      case rel => exact ⟨i + 1, by omega, by go_num, HD2, HB2⟩
      case measure => simp [intOf]; omega
    · obtain rfl : i = N := by omega
      have hlt2 : ¬ ((i : Int) < (i : Int)) := by omega
      have hS : Aside0 (Lib.IsBuilder 49 5 w.heap.size w.heap.size (Lib.byteCells (st (joinL (bsL L))).data.toList) wr) := ⟨by have := HD.out; rw [← HN.out, jt_all] at this; exact this⟩
      clear hlt hi
      go_wp2_with fail
      refine (bld_string _ _ _ _ hS.out (below_size HB.out)).mono ?_
      rintro e wb ⟨rfl, hb⟩
      have HB2 := Aside0.mk (HB.out.trans hb)
      clear hb
      go_wp2_with fail
      go_ret
      exact ⟨by simp, HB2.out⟩

/-! ### taken apart by the program -/
theorem size_ok (v : Nat) (hv : v < 18446744073709551616) (w : World) : Calls Tryd.prog 14 #[.int .u64 (v : Int)] w fun e w' => e = .returned (.int .i64 ((putL v).length : Int)) ∧ Drawn0 w w' := by
  have := size_any (v : Int) w (by omega) (by omega)
  rwa [show (put (v : Int)).size = (putL v).length by rw [put_size, Int.toNat_natCast]] at this
theorem gnum_ok (s : ByteArray) (a v : Nat) (q : List Nat) (w : World) (ha : a ≤ s.size) (hs : s.size ≤ 140737488351232) (hv : v < 18446744073709551616) (he : (bs s).drop a = putL v ++ q) :
    Calls Tryd.prog 13 #[.string s, .int .i64 (a : Int)] w fun e w' => e = .returned (.tuple #[.int .u64 (v : Int), .int .i64 ((a + (putL v).length : Nat) : Int), .nilIface]) ∧ Below w.heap.size w w' := by
  have := get_put s (a : Int) (v : Int) q w (by omega) (by omega) hs (by omega) (by omega) (by rw [Int.toNat_natCast, Int.toNat_natCast]; exact he)
  rwa [show (put (v : Int)).size = (putL v).length by rw [put_size, Int.toNat_natCast], show (a : Int) + ((putL v).length : Int) = ((a + (putL v).length : Nat) : Int) by omega] at this
/-- An error comes back. -/
def IErr (w : World) (c : Option Int) (e : Ending) (w' : World) : Prop := ∃ T x E, e = .returned (.tuple #[.slice none 0 0, .iface T x]) ∧ IsE w' E (.iface T x) ∧ (∀ k, c = some k → ∃ a, E = .at_ a (.code k)) ∧ Below w.heap.size w w'
def IGood (w : World) (L : List ByteArray) (e : Ending) (w' : World) : Prop := ∃ A c, e = .returned (.tuple #[.slice A L.length c, .nilIface]) ∧ Kd.C Kd.string w' A L.length L ∧ L.length ≤ c ∧ Below w.heap.size w w'
/-- What is known of the error. -/
def shortAt (s : ByteArray) (c : Option Int) : Prop := ∀ k, c = some k → k = 1 ∧ ∃ v q, v < 18446744073709551616 ∧ bs s = putL v ++ q ∧ q.length < v
theorem none_abs {cq : Option Int} (h : cq = none) {P : Int → Prop} : ∀ k, cq = some k → P k := fun k hk => by rw [h] at hk; cases hk
set_option maxHeartbeats 4000000 in
set_option maxRecDepth 100000 in
theorem iparts_any (s : ByteArray) (cq : Option Int) (hcq : shortAt s cq) (w : World) (hs : s.size ≤ 4000000000) :
    Calls Tryd.prog 7 #[.string s] w fun e w' => (∃ L, isParts s L ∧ IGood w L e w') ∨ ((∀ L, ¬ isParts s L) ∧ IErr w cq e w') := by
  have HB := Aside0.mk (Below.refl w.heap.size w)
  have HCQ := Aside0.mk hcq
  clear hcq
  go_enter Tryd.func7, Tryd.ntmps7
  go_wp2_with fail
  go_loopw [4, 5] (fun v4 v5 w' => ∃ (a n : Nat) (D : List ByteArray) (A : Option Addr) (c : Nat), v5 = .int .i64 (a : Int) ∧ v4 = .slice A n c ∧ Aside0 (D.length = n) ∧ a ≤ s.size ∧ n ≤ a ∧ Aside0 (bs s = joinL (bsL D) ++ (bs s).drop a) ∧ Aside0 (D ≠ [] → cq = none) ∧ Aside0 (Kd.R Kd.string 9 w' w.heap.size (fun _ => True) (.slice A n c) D) ∧ Aside0 (Below w.heap.size w w')) (fun _ v5 _ => s.size - (intOf v5).toNat)
  case atStart => exact ⟨0, 0, [], none, 0, rfl, rfl, ⟨rfl⟩, Nat.zero_le _, Nat.le_refl _, ⟨rfl⟩, ⟨fun h => absurd rfl h⟩, ⟨Kd.R_nil _ _ _ _ _⟩, HB⟩
  case round =>
    clear HB
    obtain ⟨a, n, D, A, c, rfl, rfl, HDn, ha, hna, HE, HQ, HO, HB⟩ := hrel
    by_cases hlt : a < s.size
    · have hlt2 : (a : Int) < (s.size : Int) := by omega
      have hdl : ((bs s).drop a).length = s.size - a := by rw [List.length_drop, bs_length]
      have hne : (bs s).drop a ≠ [] := by intro e; rw [e] at hdl; simp at hdl; omega
      rcases text_or ((bs s).drop a) (okB_drop (bs_ok s) a) (by omega) with ⟨t, q, ht, he⟩ | ⟨v, q, hv, he, hq⟩ | hbad
      · have G1 := fun w => gnum_ok s a t.size (bs t ++ q) w ha (by omega) ht he
        have G2 := fun w => size_ok t.size ht w
        have hl := congrArg List.length he
        rw [hdl, List.length_append, List.length_append, bs_length] at hl
        have hm10 := putL_len10 _ ht
        have hmp := putL_pos t.size
        have x2 : s.extract (a + (putL t.size).length) (a + (putL t.size).length + t.size) = t := by
          apply bs_inj
          rw [bs_extract, List.drop_take, show a + (putL t.size).length + t.size - (a + (putL t.size).length) = t.size by omega, ← List.drop_drop, he, List.drop_left, ← bs_length, List.take_left]
        have hnx : bs s = joinL (bsL (D ++ [t])) ++ (bs s).drop (a + (putL t.size).length + t.size) := by
          have h3 : (bs s).drop (a + (putL t.size).length + t.size) = q := by rw [Nat.add_assoc, ← List.drop_drop, he, ← List.append_assoc, ← bs_length t, ← List.length_append, List.drop_left]
          rw [h3, bsL_snoc, joinL_snoc, textL_size, List.append_assoc, List.append_assoc, ← he]; exact HE.out
        have HQn : Aside0 (cq = none) := ⟨by
          cases hc : cq with
          | none => rfl
          | some k =>
            exfalso
            obtain ⟨_, v', q', hv', e', hq'⟩ := HCQ.out k hc
            by_cases hD : D = []
            · have hE := HE.out
              rw [hD, bsL_nil, joinL_nil, List.nil_append] at hE
              rw [← hE, e'] at he
              obtain ⟨rfl, rfl⟩ := putL_inj _ _ _ _ hv' ht he
              rw [List.length_append, bs_length] at hq'; omega
            · have := HQ.out hD
              rw [hc] at this; cases this⟩
        generalize (putL t.size).length = m at *
        obtain ⟨b, hb⟩ : ∃ b, a + m = b := ⟨_, rfl⟩
        rw [hb] at G1 x2 hnx
        obtain ⟨z, hz⟩ : ∃ z, t.size = z := ⟨_, rfl⟩
        rw [hz] at G1 G2 x2 hnx hl ht
        have hbm : (((b : Int) - (a : Int)) != (m : Int)) = false := by rw [bne_eq_false_iff_eq]; omega
        have hba : a < b := by omega
        have hbz : b + z ≤ s.size := by omega
        have hw1 : IntKind.u64.wrap ((s.size : Int) - (b : Int)) = ((s.size - b : Nat) : Int) := by rw [wrap_u64]; omega
        have hgt : decide (s.size - b < z) = false := decide_eq_false (by omega)
        have hw3 : IntKind.i64.wrap (z : Int) = (z : Int) := by rw [IntKind.wrap_i64]; omega
        have hb0 : (0 : Int) ≤ (b : Int) := by omega
        have hbz2 : (b : Int) + (z : Int) ≤ (s.size : Int) := by omega
        have hle : (b : Int) ≤ (b : Int) + (z : Int) := by omega
        have HX2 := Aside0.mk x2
        have HNX := Aside0.mk hnx
        clear he hdl hne hl hmp hb hz hnx ht
        go_wp2_with fail
        refine (G1 _).mono ?_
        rintro e w2 ⟨rfl, hb2⟩
        have HB2 := Aside0.mk (below_next HB.out hb2)
        have HO2 := Aside0.mk (Kd.R_below HO.out hb2)
        clear hb2 HB HO G1
        go_wp2_with fail
        refine (G2 _).mono ?_
        rintro e w3 ⟨rfl, ⟨n3, rfl⟩⟩
        have HB3 : Aside0 (Below w.heap.size w (w2.drewN n3)) := ⟨pw_below_drewN HB2.out _⟩
        have HO3 : Aside0 (Kd.R Kd.string 9 (w2.drewN n3) w.heap.size (fun _ => True) (.slice A n c) D) := ⟨Kd.R_below HO2.out (pw_below_drewN (Below.refl _ _) _)⟩
        obtain ⟨w3, hw3e⟩ : ∃ w3, w2.drewN n3 = w3 := ⟨_, rfl⟩
        rw [hw3e] at HB3 HO3 ⊢
        clear hw3e HB2 HO2 G2
        have HB := HB3
        have HO := HO3
        clear HB3 HO3
        go_wp2_with (first
          | ((with_reducible refine gate_builtin (b := .append) (xs := #[.tmp 49, .tmp 54]) rfl ?_); at_builtin; refine Kd.R_append Kd.string (w0 := w) w.heap.size rfl (.tmp 49) (.tmp 54) 22 9 (.string ByteArray.empty) 16 rfl Tryd.underlying22 str_info rfl (by decide) (by omega) (.slice A n c) D t [.string t] (fun _ => True) (fun _ => False) rfl rfl ?aP (fun _ hk => hk.elim) ?aF ?aO ?aB ?aS ?aL ?_; (case aP => exact rfl); (case aB => exact (by repeat (first | (with_reducible exact HB.out) | apply below_alloc | apply pw_below_drewN | apply below_drew1))); (case aF => exact (fun _ _ => trivial)); (case aO => exact (by (with_reducible repeat (first | apply Kd.R_alloc | apply Kd.R_drewN | apply Kd.R_drew)); exact HO.out)); (case aS => exact (below_size (by repeat (first | (with_reducible exact HB.out) | apply below_alloc | apply pw_below_drewN | apply below_drew1)))); (case aL => (have := HDn.out; omega)); intro va wa ho hb hg hat; have n0_ := Aside0.mk hb; have n1_ := Aside0.mk ho; clear HB HO; have HB := n0_; have HO := n1_; clear n0_ n1_ ho hb hg hat))
        obtain ⟨A2, c2, rfl, hc2, _⟩ := Kd.R_reads HO.out
        have hlen2 : (D ++ [t]).length = n + 1 := by rw [List.length_append, List.length_singleton, HDn.out]
        have HO2 := HO.out
        rw [hlen2] at HO2 ⊢
        have HO3 := Aside0.mk HO2
        have HL2 := Aside0.mk hlen2
        clear HO2 HO hlen2 hc2 x2
        go_roundw
        case rel => exact ⟨b + z, n + 1, D ++ [t], A2, c2, by go_num, rfl, HL2, hbz, by omega, HNX, ⟨fun _ => HQn.out⟩, HO3, HB⟩
        case measure => simp [intOf]; omega
      · have HN : Aside0 (∀ L, ¬ isParts s L) := ⟨parts_stuck (by omega) HE.out hne (text_no (.inl ⟨v, q, hv, he, hq⟩) (by omega))⟩
        have G1 := fun w => gnum_ok s a v q w ha (by omega) hv he
        have G2 := fun w => size_ok v hv w
        have hl := congrArg List.length he
        rw [hdl, List.length_append] at hl
        have hm10 := putL_len10 _ hv
        have hmp := putL_pos v
        generalize (putL v).length = m at *
        obtain ⟨b, hb⟩ : ∃ b, a + m = b := ⟨_, rfl⟩
        rw [hb] at G1
        have hbm : (((b : Int) - (a : Int)) != (m : Int)) = false := by rw [bne_eq_false_iff_eq]; omega
        have hba : a < b := by omega
        have hbs : b ≤ s.size := by omega
        have hw1 : IntKind.u64.wrap ((s.size : Int) - (b : Int)) = ((s.size - b : Nat) : Int) := by rw [wrap_u64]; omega
        have hgt : decide (s.size - b < v) = true := decide_eq_true (by omega)
        clear he hdl hne hl hmp hb hq
        go_wp2_with fail
        refine (G1 _).mono ?_
        rintro e w2 ⟨rfl, hb2⟩
        have HB2 := Aside0.mk (below_next HB.out hb2)
        clear hb2 HB HO G1
        go_wp2_with fail
        refine (G2 _).mono ?_
        rintro e w3 ⟨rfl, ⟨n3, rfl⟩⟩
        have HB3 : Aside0 (Below w.heap.size w (w2.drewN n3)) := ⟨pw_below_drewN HB2.out _⟩
        go_wp2_with (go_at_call 15; refine (at_any _ _ _ ⟨_, _, rfl⟩).mono ?_; rintro e wx ⟨rfl, rfl⟩)
        go_ret2
        exact .inr ⟨HN.out, _, _, _, rfl, IsE.new (e := .code 1) rfl, fun k hk => ⟨(b : Int), by obtain ⟨rfl, _⟩ := HCQ.out k hk; rfl⟩, below_alloc HB3.out _⟩
      · have HN : Aside0 (∀ L, ¬ isParts s L) := ⟨parts_stuck (by omega) HE.out hne (text_no (.inr hbad) (by omega))⟩
        have HQn : Aside0 (cq = none) := ⟨by
          cases hc : cq with
          | none => rfl
          | some k =>
            exfalso
            obtain ⟨_, v', q', hv', e', hq'⟩ := HCQ.out k hc
            by_cases hD : D = []
            · have hE := HE.out
              rw [hD, bsL_nil, joinL_nil, List.nil_append] at hE
              exact no_num hbad v' hv' q' (by rw [← hE, e'])
            · have := HQ.out hD
              rw [hc] at this; cases this⟩
        rcases hd : dec 0 ((bs s).drop a) with cc | ⟨v, k⟩
        · have G1 := fun w => get_err s (a : Int) cc w (by omega) (by omega) (by omega) (by rw [Int.toNat_natCast]; exact hd)
          clear hbad hd hdl hne
          go_wp2_with fail
          refine (G1 _).mono ?_
          rintro e w2 ⟨u, rfl, hu, hb2⟩
          obtain ⟨T, x, rfl⟩ := hu.iface (by simp)
          have HB2 := Aside0.mk (below_next HB.out hb2)
          have HU2 := Aside0.mk hu
          clear hb2 hu HB HO G1
          go_wp2_with fail
          go_ret2
          exact .inr ⟨HN.out, _, _, _, rfl, HU2.out, none_abs HQn.out, HB2.out⟩
        · have hk := hbad v k hd
          have hds := dec_some _ 0 v k (okB_drop (bs_ok s) _) (by omega) hd
          have hds2 := hds.2.1
          rw [hdl] at hds2
          have hv : v < 18446744073709551616 := hds.2.2.2.2
          have hk10 : k ≤ 10 := by omega
          have G1 := fun w => get_ok s (a : Int) v k w (by omega) (by omega) (by omega) (by rw [Int.toNat_natCast]; exact hd)
          have G2 := fun w => size_ok v hv w
          generalize (putL v).length = m at *
          have hbm : (((a : Int) + (k : Int) - (a : Int)) != (m : Int)) = true := by rw [bne_iff_ne]; omega
          have hbm2 : ((k : Int) != (m : Int)) = true := by rw [bne_iff_ne]; omega
          clear hbad hd hdl hne hds hds2 hk
          go_wp2_with fail
          refine (G1 _).mono ?_
          rintro e w2 ⟨rfl, hb2⟩
          have HB2 := Aside0.mk (below_next HB.out hb2)
          clear hb2 HB HO G1
          go_wp2_with fail
          refine (G2 _).mono ?_
          rintro e w3 ⟨rfl, ⟨n3, rfl⟩⟩
          have HB3 : Aside0 (Below w.heap.size w (w2.drewN n3)) := ⟨pw_below_drewN HB2.out _⟩
          go_wp2_with (go_at_call 15; refine (at_any _ _ _ ⟨_, _, rfl⟩).mono ?_; rintro e wx ⟨rfl, rfl⟩)
          go_ret2
          exact .inr ⟨HN.out, _, _, _, rfl, IsE.new (e := .code 3) rfl, none_abs HQn.out, below_alloc HB3.out _⟩
    · obtain rfl : a = s.size := by omega
      have hlt2 : ¬ ((s.size : Int) < (s.size : Int)) := by omega
      have hP : isParts s D := by
        have := HE.out
        rwa [List.drop_of_length_le (by rw [bs_length]; omega), List.append_nil] at this
      have HP := Aside0.mk hP
      obtain ⟨A', c', e', hc, hC⟩ := Kd.R_reads HO.out
      injection e' with e1 e2 e3
      subst e1
      subst e3
      have HC := Aside0.mk hC
      have Hc := Aside0.mk hc
      clear hP hC hc e2 hlt ha
      go_wp2_with fail
      go_ret2
      exact .inl ⟨D, HP.out, A, c, congrArg (fun m => Ending.returned (.tuple #[.slice A m c, .nilIface])) HDn.out.symm, HC.out, Hc.out, HB.out⟩
end Go.Proofs.YtbgpkfdfkmmfcaaDoor
namespace Go.Proofs.YtbgpkfdfkmmfcaaDoor
open Go.RowKit Go.Proofs.YtbgpkfdfkmmfcaaDoorW.PrintWords Go.Proofs.YtbgpkfdfkmmfcaaDoorW.PrintLast Go.Proofs.YtbgpkfdfkmmfcaaDoorW.PrintMore Hy

theorem C_lits (W : World) (xs : List ByteArray) (e : TypeId) (hm : xs.length ≤ 9223372036854775807) : Kd.C Kd.string (W.alloc (.cells (encs Value.string xs).toArray e)) (some ⟨W.heap.size, 0, none⟩) xs.length xs := by
  have h := own_lit_of (enc := Value.string) W 0 e xs (by omega) hm
  obtain ⟨A, c, e1, h2⟩ := own_reads_of (d := ByteArray.empty) h
  injection e1 with e1 e2 e3
  subst e1
  exact Kd.C_of_reads (d := ByteArray.empty) (h1 := fun _ => rfl) h2
theorem iparts_ok (s : ByteArray) (L : List ByteArray) (w : World) (hs : s.size ≤ 4000000000) (h : isParts s L) : Calls Tryd.prog 7 #[.string s] w (IGood w L) := by
  refine (iparts_any s none (fun k hk => by cases hk) w hs).mono ?_
  rintro e w' (⟨M, hM, hg⟩ | ⟨hno, _⟩)
  · rw [isParts_uniq (by omega) h hM]; exact hg
  · exact absurd h (hno L)
theorem iparts_no (s : ByteArray) (w : World) (hs : s.size ≤ 4000000000) (h : ∀ L, ¬ isParts s L) : Calls Tryd.prog 7 #[.string s] w (IErr w none) := by
  refine (iparts_any s none (fun k hk => by cases hk) w hs).mono ?_
  rintro e w' (⟨M, hM, hg⟩ | ⟨_, hn⟩)
  · exact absurd hM (h M)
  · exact hn
def ya : ByteArray := ⟨#[97]⟩
def y1 : ByteArray := ⟨#[1, 97, 0]⟩
def y2 : ByteArray := ⟨#[5, 97]⟩
theorem joinL_y : joinL (bsL [ya, ByteArray.empty]) = [1, 97, 0] := by
  have e1 : bsL [ya, ByteArray.empty] = [[97], []] := rfl
  rw [e1, joinL_cons, joinL_cons, joinL_nil]
  unfold textL
  rw [show ([97] : List Nat).length = 1 from rfl, show ([] : List Nat).length = 0 from rfl, putL_lo 1 (by omega), putL_lo 0 (by omega)]
  rfl
theorem parts_y1 : isParts y1 [ya, ByteArray.empty] := by unfold isParts; rw [joinL_y]; rfl
theorem short_y2 : shortAt y2 (some 1) := by
  intro k hk
  injection hk with hk
  subst hk
  refine ⟨rfl, 5, [97], by omega, ?_, by simp⟩
  rw [putL_lo 5 (by omega)]; rfl
theorem iparts_y2 (w : World) : Calls Tryd.prog 7 #[.string y2] w fun e w' => ∃ a T x, e = .returned (.tuple #[.slice none 0 0, .iface T x]) ∧ IsE w' (.at_ a (.code 1)) (.iface T x) ∧ Below w.heap.size w w' := by
  refine (iparts_any y2 (some 1) short_y2 w (by decide)).mono ?_
  rintro e w' (⟨M, hM, _⟩ | ⟨_, T, x, E, rfl, hu, hE, hb⟩)
  · exfalso
    obtain ⟨_, v, q, hv, e, hq⟩ := short_y2 1 rfl
    exact parts_stuck (s := y2) (D := []) (r := bs y2) (by decide) rfl (by decide) (text_no (.inl ⟨v, q, hv, e, hq⟩) (by decide)) M hM
  · obtain ⟨a, rfl⟩ := hE 1 rfl
    exact ⟨a, T, x, rfl, hu, hb⟩
set_option maxHeartbeats 2000000 in
theorem ident_first (w : World) (hg : Laid w) : Calls Tryd.prog 5 #[] w fun e w' => e = .returned (.bool true) ∧ Below w.heap.size w w' := by
  have HG := Aside0.mk hg
  have A1 := fun w => iparts_ok y1 [ya, ByteArray.empty] w (by decide) parts_y1
  clear hg
  go_enter Tryd.func5, Tryd.ntmps5
  go_wp2_with fail
  refine (A1 _).mono ?_
  rintro e w1 ⟨A, c, rfl, hC, hc, hb1⟩
  have HB1 := Aside0.mk hb1
  have HC1 := Aside0.mk hC
  have Hc1 := Aside0.mk hc
  clear hC hc hb1 A1
  go_wp2_with fail
  refine (iparts_y2 _).mono ?_
  rintro e w2 ⟨a, T, x, rfl, hu, hb2⟩
  have HB2 := Aside0.mk (below_next HB1.out hb2)
  have HC2 := Aside0.mk (Kd.C_below HC1.out hb2)
  have HU2 := Aside0.mk hu
  have hL3 := C_lits w2 [ya, ByteArray.empty] 9 (by simp)
  have HB3 := Aside0.mk (HB2.out.alloc HB2.out.size (.cells (encs Value.string [ya, ByteArray.empty]).toArray 9))
  have G : Calls Tryd.prog 9 #[.slice (some ⟨w2.heap.size, 0, none⟩) 2 2] (w2.alloc (.cells (encs Value.string [ya, ByteArray.empty]).toArray 9)) fun e w' => e = .returned (.string y1) ∧ Below (w2.alloc (.cells (encs Value.string [ya, ByteArray.empty]).toArray 9)).heap.size (w2.alloc (.cells (encs Value.string [ya, ByteArray.empty]).toArray 9)) w' := by
    have := ijoin_any _ 2 [ya, ByteArray.empty] _ hL3 (by simp) (by simp) (by rw [joinL_y]; simp)
    rw [joinL_y] at this
    exact this
  have HC3 := Aside0.mk (Kd.C_below HC2.out ((Below.refl _ _).alloc (Nat.le_refl _) (.cells (encs Value.string [ya, ByteArray.empty]).toArray 9)))
  have HU3 := Aside0.mk (HU2.out.below ((Below.refl _ _).alloc (Nat.le_refl _) (.cells (encs Value.string [ya, ByteArray.empty]).toArray 9)))
  have hy : y1.toList = [1, 97, 0] := by rw [ByteArray.toList_eq]; rfl
  have hy2 : (y1.toList == [1, 97, 0]) = true := by rw [hy]; rfl
  clear hu hb2 HB1 HC1 hL3 HB2 HC2 HU2
  go_wp2_with fail
  refine G.mono ?_
  rintro e w4 ⟨rfl, hb4⟩
  have HB4 := Aside0.mk (below_next HB3.out hb4)
  have HC4 := Aside0.mk (Kd.C_below HC3.out hb4)
  have HU4 := Aside0.mk (HU3.out.below hb4)
  have hL5 := C_lits w4 [ya, ByteArray.empty] 9 (by simp)
  have hb5 := (Below.refl w4.heap.size w4).alloc (Nat.le_refl _) (.cells (encs Value.string [ya, ByteArray.empty]).toArray 9)
  have G2 := texts_same A c [ya, ByteArray.empty] (some ⟨w4.heap.size, 0, none⟩) 2 _ (Kd.C_below HC4.out hb5) Hc1.out hL5 (by simp) (by simp)
  have HB5 := Aside0.mk (below_next HB4.out hb5)
  have HU5 := Aside0.mk (HU4.out.below hb5)
  clear hb4 HB3 HC3 HU3 hL5 hb5 G HB4 HU4
  go_wp2_with fail
  refine G2.mono ?_
  rintro e w6 ⟨rfl, ⟨n6, rfl⟩⟩
  have hb6 := pw_below_drewN (Below.refl (w4.alloc (.cells (encs Value.string [ya, ByteArray.empty]).toArray 9)).heap.size (w4.alloc (.cells (encs Value.string [ya, ByteArray.empty]).toArray 9))) n6
  have HB6 := Aside0.mk (below_next HB5.out hb6)
  have G3 := code_any (.at_ a (.code 1)) _ _ (HG.out.below HB6.out) (HU5.out.below hb6)
  have G4 : Calls Tryd.prog 12 #[.iface T x] ((w4.alloc (.cells (encs Value.string [ya, ByteArray.empty]).toArray 9)).drewN n6) fun e w' => e = .returned (.int .i64 1) ∧ Below ((w4.alloc (.cells (encs Value.string [ya, ByteArray.empty]).toArray 9)).drewN n6).heap.size ((w4.alloc (.cells (encs Value.string [ya, ByteArray.empty]).toArray 9)).drewN n6) w' := G3
  clear hb6 G3 G2 HC4
  go_wp2_with fail
  refine G4.mono ?_
  rintro e w7 ⟨rfl, hb7⟩
  have HB7 := Aside0.mk (below_next HB6.out hb7)
  clear hb7 G4
  go_wp2_with fail
  go_ret
  exact ⟨rfl, HB7.out⟩
end Go.Proofs.YtbgpkfdfkmmfcaaDoor
