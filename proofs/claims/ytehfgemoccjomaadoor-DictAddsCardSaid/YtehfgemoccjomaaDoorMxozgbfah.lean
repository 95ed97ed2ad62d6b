import Derived.Test.YtehfgemoccjomaaDoorProg
import Derived.Test.YtehfgemoccjomaaDoorWWords
import Derived.Lib.Strings
import Derived.Lib.Slices
import Derived.Lib.Walk
import Derived.Lib.Builder
import Derived.Lib.AppendStr
import Derived.Lib.UnsafeStr
import Derived.Lib.MakeNoZero
import Derived.WalkKit
import Derived.RegionTactic
import Derived.Laws.Externs
import Derived.Laws.IdiomCopy
import Derived.Laws.BitsLemmas
import Derived.Test.YtehfgemoccjomaaDoorMqnaweyei
import Derived.Test.YtehfgemoccjomaaDoorMpwhyjyth
set_option linter.unusedVariables false
namespace Go.Proofs.YtehfgemoccjomaaDoor
open Go.RowKit

/-! ### strings.Builder at a builder of the call's own (the laws of Derived/Lib/Builder and its kin) -/
theorem bld_info : (Tryd.prog.info? 5).map (fun i => (i.zero, i.size, i.bytes)) = some (some (.int .u8 0), 1, 1) := by kernel_rfl
theorem bld_size : (Tryd.prog.info? 52).map (·.size) = some 2 := by kernel_rfl
theorem bld_lies : liesAt Tryd.prog Tryd.prog.depth 52 (2 / Tryd.prog.cellsOf 52) 0 52 1 = true := by kernel_rfl

set_option maxHeartbeats 1000000 in
set_option maxRecDepth 100000 in
theorem bld_check_used (b : Nat) (w : World) (h0 : w.cell? ⟨b, 0, none⟩ = some (.pointer (some ⟨b, 0, none⟩))) :
    Calls Tryd.prog 22 #[.pointer (some ⟨b, 0, none⟩)] w fun e w' => e = .returned (.tuple #[]) ∧ w' = w := by
  obtain ⟨j, hj, _⟩ := Option.map_eq_some_iff.1 bld_size
  go_enter Tryd.func22, Tryd.ntmps22
  go_wp2
  rw [Lib.run_neq_ptr_same w _ Tryd.underlying49 hj]
  go_wp2
  go_end0
  exact ⟨rfl, rfl⟩

set_option maxHeartbeats 1000000 in
set_option maxRecDepth 100000 in
theorem bld_check_fresh (b : Nat) (w : World) (h0 : w.cell? ⟨b, 0, none⟩ = some (.pointer none)) (hsh : w.shape? b = some (52, 2)) (hfz : w.frozen? ⟨b, 0, none⟩ = false) :
    Calls Tryd.prog 22 #[.pointer (some ⟨b, 0, none⟩)] w fun e w' => e = .returned (.tuple #[]) ∧ w' = w.setCell ⟨b, 0, none⟩ (.pointer (some ⟨b, 0, none⟩)) := by
  obtain ⟨j, hj, hjs⟩ := Option.map_eq_some_iff.1 bld_size
  go_enter Tryd.func22, Tryd.ntmps22
  go_wp2
  rw [Lib.run_to_unsafe w ⟨b, 0, none⟩ Tryd.underlying49 Tryd.underlying63 hj (by rw [hjs]; decide) hsh (Nat.zero_lt_succ 1)]
  simp only [Result.andThen]
  rw [Oper.upon_value]
  go_wp2
  rw [run_callFunc_extern Tryd.func27 (by kernel_rfl) (by kernel_rfl) (by kernel_rfl) (e := Extern.AbiNoEscape.same) (by kernel_rfl)]
  rw [Lib.run_noEscape]
  simp only [Result.andThen]
  rw [Oper.upon_value]
  go_wp2
  rw [Lib.run_from_unsafe w ⟨b, 0, none⟩ Tryd.underlying63 Tryd.underlying49 hj hsh bld_lies]
  simp only [Result.andThen]
  rw [Oper.upon_value]
  go_wp2
  go_end0
  exact ⟨rfl, rfl⟩

theorem bld_check (B b : Nat) (bs : List Value) (w : World) (h : Lib.IsBuilder 52 5 B b bs w) :
    Calls Tryd.prog 22 #[.pointer (some ⟨b, 0, none⟩)] w fun e w' => e = .returned (.tuple #[]) ∧ (Lib.BuilderAt 52 5 B b (.pointer (some ⟨b, 0, none⟩)) bs w' ∧ Below B w w') := by
  rcases h with h | h
  · refine (bld_check_fresh b w h.cell0 h.shape h.frozen0).mono ?_
    rintro e w' ⟨rfl, rfl⟩
    exact ⟨rfl, h.used _, (Below.refl B w).setCell (p := ⟨b, 0, none⟩) h.1 _⟩
  · refine (bld_check_used b w h.cell0).mono ?_
    rintro e w' ⟨rfl, rfl⟩
    exact ⟨rfl, h, Below.refl B _⟩

set_option maxHeartbeats 2000000 in
set_option maxRecDepth 100000 in
theorem bld_write (B b : Nat) (bs : List Value) (s : ByteArray) (w : World) (h : Lib.IsBuilder 52 5 B b bs w) (hlen : bs.length + s.size ≤ 140737488355328) (hBw : B ≤ w.heap.size) :
    Calls Tryd.prog 16 #[.pointer (some ⟨b, 0, none⟩), .string s] w fun e w' => e = .returned (.tuple #[.int .i64 s.size, .nilIface]) ∧ (Lib.BuilderAt 52 5 B b (.pointer (some ⟨b, 0, none⟩)) (bs ++ Lib.strCells s) w' ∧ Below B w w') := by
  obtain ⟨i0, hi, hz0, hz1, hz2⟩ := info_parts bld_info
  go_enter Tryd.func16, Tryd.ntmps16
  go_wp2_with (go_at_call 22; refine (bld_check B b bs _ h).mono ?_)
  rintro e w1 ⟨rfl, h1, hb1⟩
  obtain ⟨hB, v, hbk, hown, hne⟩ := h1
  have c0 : w1.cell? ⟨b, 0, none⟩ = some (.pointer (some ⟨b, 0, none⟩)) := by rw [Lib.cell_of_heap hbk]; rfl
  have c1 : w1.cell? ⟨b, 1, none⟩ = some v := by rw [Lib.cell_of_heap hbk]; rfl
  go_wp2_with (at_builtin; refine Lib.wpList_append_own_string _ rfl _ _ 50 9 rfl B 5 i0 Tryd.underlying50 Tryd.underlying9 hi hz0 hz1 hz2 _ _ _ rfl hown s rfl ?c3 ?c4 ?c5 ?_)
  case c3 => unfold maxLen; omega
  case c4 => omega
  case c5 => have := hb1.size; omega
  intro v' w2 hown' hgrow _
  have hlt : b < w1.heap.size := by
    rcases Nat.lt_or_ge b w1.heap.size with h' | h'
    · exact h'
    · simp [Array.getElem?_eq_none h'] at hbk
  have hb2 : w2.heap[b]? = some (.cells #[.pointer (some ⟨b, 0, none⟩), v] 52 (0, 0)) := by
    rw [hgrow.block b hlt (fun e => hne e.symm)]
    exact hbk
  have d0 : w2.cell? ⟨b, 0, none⟩ = some (.pointer (some ⟨b, 0, none⟩)) := by rw [Lib.cell_of_heap hb2]; rfl
  have d1 : w2.cell? ⟨b, 1, none⟩ = some v := by rw [Lib.cell_of_heap hb2]; rfl
  have f1 : w2.frozen? ⟨b, 1, none⟩ = false := Lib.frozen_of_heap hb2 1
  obtain ⟨ao, n', cap, rfl⟩ : ∃ ao n' cap, v' = .slice ao n' cap := by
    rcases hown'.2 with ⟨hv, _⟩ | ⟨g, cap, cur, hv, _⟩
    · exact ⟨_, _, _, hv⟩
    · exact ⟨_, _, _, hv⟩
  go_wp2
  go_ret2
  refine ⟨rfl, ?_, ?_⟩
  · exact Lib.BuilderAt.put (T := 52) (e := 5) hB hb2 (bs' := bs ++ Lib.strCells s) (by simpa [Lib.strCells_length] using hown') (by decide)
  · exact (hb1.grown hgrow (by have := hb1.size; omega) (fun k hk => (hown.lt k hk).1)).setCell (p := ⟨b, 1, none⟩) hB _

set_option maxHeartbeats 1000000 in
set_option maxRecDepth 100000 in
theorem bld_string_some (B b : Nat) (l : List UInt8) (w : World) (h : Lib.IsBuilder 52 5 B b (Lib.byteCells l) w) (h0 : l ≠ []) :
    Calls Tryd.prog 18 #[.pointer (some ⟨b, 0, none⟩)] w fun e w' => e = .returned (.string ⟨l.toArray⟩) ∧ Below B w w' := by
  obtain ⟨p, hB, v, hbk, hown, hne⟩ : ∃ p, Lib.BuilderAt 52 5 B b p (Lib.byteCells l) w := by
    rcases h with h | h
    · exact ⟨_, h⟩
    · exact ⟨_, h⟩
  have hl0 : l.length ≠ 0 := by simpa using h0
  rw [Lib.byteCells_length] at hown
  obtain ⟨g, cap, cur, rfl, hbg, hg, hnc, hcm, hcs, htake⟩ : ∃ g cap cur, v = .slice (some ⟨g, 0, none⟩) l.length cap ∧ B ≤ g ∧ w.heap[g]? = some (.cells cur 5 (0, 0)) ∧ l.length ≤ cap ∧ cap ≤ maxLen ∧ cur.size = cap * 1 ∧ cur.toList.take (l.length * 1) = Lib.byteCells l := by
    rcases hown.2 with ⟨_, hz⟩ | ⟨g, cap, cur, hv, r⟩
    · exact absurd hz hl0
    · exact ⟨g, cap, cur, hv, r⟩
  have c1 : w.drew.cell? ⟨b, 1, none⟩ = some (.slice (some ⟨g, 0, none⟩) l.length cap) := by
    have : w.drew.heap[b]? = some (.cells #[p, .slice (some ⟨g, 0, none⟩) l.length cap] 52 (0, 0)) := hbk
    rw [Lib.cell_of_heap this]; rfl
  have hSD : (Builtin.unsafeSliceData_ #[50] 62 #[.slice (some ⟨g, 0, none⟩) l.length cap]).run Tryd.prog w.drew = .ok (.pointer (some ⟨g, 0, none⟩)) w.drew :=
    Lib.run_unsafeSliceData_row _ _ _ _ _ _ (by omega)
  have hUS : (Builtin.unsafeString_ #[62, 3] 9 #[.pointer (some ⟨g, 0, none⟩), .int .i64 l.length]).run Tryd.prog w.drew = .ok (.string ⟨l.toArray⟩) (w.drew.freeze ⟨g, 0, none⟩ l.length) := by
    refine Lib.run_unsafeString_row w.drew 62 3 9 5 Tryd.underlying62 (by kernel_rfl) g cur.size (by have hg' : w.drew.heap[g]? = some (.cells cur 5 (0, 0)) := hg; simp [World.shape?, hg']) l h0 (by omega) (by unfold maxLen at hcm; omega) ?_
    intro j x hx
    have := hown.cells (g := g) rfl j (.int .u8 x.toNat) (by simp [Lib.byteCells, hx])
    exact this
  go_enter Tryd.func18, Tryd.ntmps18
  go_wp2
  go_region
  all_goals (go_wp2; go_ret; exact ⟨rfl, Lib.below_freeze (Below.drew (Below.refl B w)) (p := ⟨g, 0, none⟩) hbg _⟩)

theorem bld_us_none (W : World) (q : Option Addr) : (Builtin.unsafeString_ #[62, 3] 9 #[.pointer q, .int .i64 0]).run Tryd.prog W = .ok (.string .empty) W :=
  Lib.run_unsafeString_none W _ _ _ q

set_option maxHeartbeats 2000000 in
set_option maxRecDepth 100000 in
theorem bld_string_nil (B b : Nat) (p : Value) (w : World) (hbk : w.heap[b]? = some (.cells #[p, .slice none 0 0] 52 (0, 0))) :
    Calls Tryd.prog 18 #[.pointer (some ⟨b, 0, none⟩)] w fun e w' => e = .returned (.string ⟨#[]⟩) ∧ Below B w w' := by
  have hUS := bld_us_none
  have c1 : w.drew.cell? ⟨b, 1, none⟩ = some (.slice none 0 0) := by
    have : w.drew.heap[b]? = some (.cells #[p, .slice none 0 0] 52 (0, 0)) := hbk
    rw [Lib.cell_of_heap this]; rfl
  have hSD : (Builtin.unsafeSliceData_ #[50] 62 #[.slice none 0 0]).run Tryd.prog w.drew = .ok (.pointer none) w.drew := rfl
  go_enter Tryd.func18, Tryd.ntmps18
  go_wp2
  go_region
  all_goals (go_wp2; go_ret; exact ⟨rfl, Below.drew (Below.refl B w)⟩)

set_option maxHeartbeats 2000000 in
set_option maxRecDepth 100000 in
theorem bld_string_noroom (B b g : Nat) (p : Value) (cur : Array Value) (w : World) (hBw : B ≤ w.heap.size) (hbk : w.heap[b]? = some (.cells #[p, .slice (some ⟨g, 0, none⟩) 0 0] 52 (0, 0))) (hg : w.heap[g]? = some (.cells cur 5 (0, 0))) :
    Calls Tryd.prog 18 #[.pointer (some ⟨b, 0, none⟩)] w fun e w' => e = .returned (.string ⟨#[]⟩) ∧ Below B w w' := by
  have hUS := bld_us_none
  have hlt : b < w.heap.size := by
    rcases Nat.lt_or_ge b w.heap.size with h' | h'
    · exact h'
    · simp [Array.getElem?_eq_none h'] at hbk
  have c1 : w.drew.cell? ⟨b, 1, none⟩ = some (.slice (some ⟨g, 0, none⟩) 0 0) := by
    have : w.drew.heap[b]? = some (.cells #[p, .slice (some ⟨g, 0, none⟩) 0 0] 52 (0, 0)) := hbk
    rw [Lib.cell_of_heap this]; rfl
  have hSD : (Builtin.unsafeSliceData_ #[50] 62 #[.slice (some ⟨g, 0, none⟩) 0 0]).run Tryd.prog w.drew = .ok (.pointer (some ⟨w.drew.heap.size, 0, none⟩)) (w.drew.alloc (.view ⟨g, 0, none⟩ 5)) :=
    Lib.run_unsafeSliceData_zero w.drew _ _ 5 Tryd.underlying62 ⟨g, 0, none⟩ 0 (5, cur.size) (by have hg' : w.drew.heap[g]? = some (.cells cur 5 (0, 0)) := hg; simp [World.shape?, hg'])
  have c2 : (w.drew.alloc (.view ⟨g, 0, none⟩ 5)).cell? ⟨b, 1, none⟩ = some (.slice (some ⟨g, 0, none⟩) 0 0) := by
    have : (w.drew.alloc (.view ⟨g, 0, none⟩ 5)).heap[b]? = _ := (Lib.alloc_old w.drew _ b hlt).trans hbk
    rw [Lib.cell_of_heap this]; rfl
  have c3 : (w.alloc (.view ⟨g, 0, none⟩ 5)).drew.cell? ⟨b, 1, none⟩ = some (.slice (some ⟨g, 0, none⟩) 0 0) := c2
  have c0 : w.cell? ⟨b, 1, none⟩ = some (.slice (some ⟨g, 0, none⟩) 0 0) := c1
  go_enter Tryd.func18, Tryd.ntmps18
  go_wp2
  go_region
  all_goals (go_wp2; go_ret; exact ⟨rfl, (Below.drew (Below.refl B w)).alloc hBw _⟩)

set_option maxHeartbeats 2000000 in
set_option maxRecDepth 100000 in
theorem bld_string_room (B b g cap : Nat) (p : Value) (w : World) (hc0 : cap ≠ 0) (hbk : w.heap[b]? = some (.cells #[p, .slice (some ⟨g, 0, none⟩) 0 cap] 52 (0, 0))) :
    Calls Tryd.prog 18 #[.pointer (some ⟨b, 0, none⟩)] w fun e w' => e = .returned (.string ⟨#[]⟩) ∧ Below B w w' := by
  have hUS := bld_us_none
  have c1 : w.drew.cell? ⟨b, 1, none⟩ = some (.slice (some ⟨g, 0, none⟩) 0 cap) := by
    have : w.drew.heap[b]? = some (.cells #[p, .slice (some ⟨g, 0, none⟩) 0 cap] 52 (0, 0)) := hbk
    rw [Lib.cell_of_heap this]; rfl
  have hSD : (Builtin.unsafeSliceData_ #[50] 62 #[.slice (some ⟨g, 0, none⟩) 0 cap]).run Tryd.prog w.drew = .ok (.pointer (some ⟨g, 0, none⟩)) w.drew :=
    Lib.run_unsafeSliceData_row _ _ _ _ _ _ hc0
  clear hc0
  go_enter Tryd.func18, Tryd.ntmps18
  go_wp2
  go_region
  all_goals (go_wp2; go_ret; exact ⟨rfl, Below.drew (Below.refl B w)⟩)

theorem bld_string (B b : Nat) (l : List UInt8) (w : World) (h : Lib.IsBuilder 52 5 B b (Lib.byteCells l) w) (hBw : B ≤ w.heap.size) :
    Calls Tryd.prog 18 #[.pointer (some ⟨b, 0, none⟩)] w fun e w' => e = .returned (.string ⟨l.toArray⟩) ∧ Below B w w' := by
  by_cases h0 : l = []
  · subst h0
    obtain ⟨p, hB, v, hbk, hown, hne⟩ : ∃ p, Lib.BuilderAt 52 5 B b p [] w := by
      rcases h with h | h
      · exact ⟨_, h⟩
      · exact ⟨_, h⟩
    rcases hown.2 with ⟨rfl, _⟩ | ⟨g, cap, cur, rfl, hbg, hg, _, _, _, _⟩
    · exact bld_string_nil B b p w hbk
    · by_cases hc0 : cap = 0
      · subst hc0
        exact bld_string_noroom B b g p cur w hBw hbk hg
      · exact bld_string_room B b g cap p w hc0 hbk
  · exact bld_string_some B b l w h h0

theorem bld_below {T e : TypeId} {B b : Nat} {bs : List Value} {w w1 : World} (h : Lib.IsBuilder T e B b bs w) (hb : Below w.heap.size w w1) : Lib.IsBuilder T e B b bs w1 := by
  have go : ∀ p, Lib.BuilderAt T e B b p bs w → Lib.BuilderAt T e B b p bs w1 := by
    intro p h
    have hlt := h.lt
    obtain ⟨hB, v, hh, ho, hne⟩ := h
    exact ⟨hB, v, by rw [hb.block b hlt]; exact hh, Go.Proofs.YtehfgemoccjomaaDoorW.PrintWords.pw_own_below ho hb, hne⟩
  rcases h with h | h
  · exact .inl (go _ h)
  · exact .inr (go _ h)
theorem bld_drewN {T e : TypeId} {B b : Nat} {bs : List Value} {w : World} {n : Nat} (h : Lib.IsBuilder T e B b bs w) : Lib.IsBuilder T e B b bs (w.drewN n) :=
  bld_below h (Go.Proofs.YtehfgemoccjomaaDoorW.PrintWords.pw_below_drewN (Below.refl _ _) n)
theorem bld_at {T e : TypeId} {B b : Nat} {bs : List Value} {w : World} (h : Lib.BuilderAt T e B b (.pointer (some ⟨b, 0, none⟩)) bs w) : Lib.IsBuilder T e B b bs w := .inr h
theorem strCells_append (a b : ByteArray) : Lib.strCells a ++ Lib.strCells b = Lib.strCells (a ++ b) := by
  unfold Lib.strCells
  rw [ByteArray.data_append]; simp
theorem bld_new (T e : TypeId) (w : World) : Lib.IsBuilder T e w.heap.size w.heap.size [] (w.alloc (.cells #[.pointer none, .slice none 0 0] T)) :=
  .inl ⟨Nat.le_refl _, _, heap_alloc_new _ _, Go.Proofs.YtehfgemoccjomaaDoorW.PrintWords.own_nil _ _ _ _, by simp [Value.ownBlock]⟩
end Go.Proofs.YtehfgemoccjomaaDoor
namespace Go.Proofs.YtehfgemoccjomaaDoor
open Go.RowKit Go.Proofs.YtehfgemoccjomaaDoorW.PrintWords Go.Proofs.YtehfgemoccjomaaDoorW.PrintLast Go.Proofs.YtehfgemoccjomaaDoorW.PrintMore Hy

/-! ### all texts of a dictionary; its bytes -/
def AllOf (w : World) (L : List ByteArray) (e : Ending) (w' : World) : Prop := ∃ A c, e = .returned (.slice A L.length c) ∧ Kd.C Kd.string w' A L.length L ∧ L.length ≤ c ∧ Below w.heap.size w w'
set_option maxHeartbeats 1000000 in
theorem dall_any (w : World) (base d : Nat) (v : Value) (bm : Nat) (L : List ByteArray) (hl : L.length ≤ 1000000000) (h : Dct w base d v bm L) :
    Calls Tryd.prog 14 #[.pointer (some ⟨d, 0, none⟩)] w (AllOf w L) := by
  have HI := Aside0.mk h
  have HB := Aside0.mk (Below.refl w.heap.size w)
  clear h
  go_enter Tryd.func14, Tryd.ntmps14
  go_wp2_with fail
  go_loopw [3, 4] (fun v3 v4 w' => ∃ (i : Nat) (A : Option Addr) (c : Nat), i ≤ L.length ∧ v4 = .int .i64 (i : Int) ∧ v3 = .slice A i c ∧ Aside0 (Kd.R Kd.string 9 w' w.heap.size (fun _ => True) (.slice A i c) (L.take i)) ∧ Aside0 (Below w.heap.size w w')) (fun _ v4 _ => L.length - (intOf v4).toNat)
  case atStart => exact ⟨0, none, 0, Nat.zero_le _, rfl, rfl, ⟨by rw [List.take_zero]; exact Kd.R_nil _ _ _ _ _⟩, HB⟩
  case round =>
    clear HB
    obtain ⟨i, A, c, hi, rfl, rfl, HO, HB⟩ := hrel
    have HC := Aside0.mk (HI.out.below HB.out)
    have A1 := dlen_any wr base d v bm L HC.out
    by_cases hlt : i < L.length
    · have hlt2 : (i : Int) < (L.length : Int) := by omega
      have A2 := dget_in wr base d v bm L i hlt hl HC.out
      obtain ⟨t, ht⟩ : ∃ t, L[i] = t := ⟨_, rfl⟩
      rw [ht] at A2
      have HT : Aside0 (L.take i ++ [t] = L.take (i + 1)) := ⟨by rw [← ht, List.take_succ_eq_append_getElem hlt]⟩
      have hlen : Aside0 ((L.take i).length = i) := ⟨by rw [List.length_take]; omega⟩
      have hlen2 : Aside0 ((L.take (i + 1)).length = i + 1) := ⟨by rw [List.length_take]; omega⟩
      clear ht
      go_wp2_with fail
      refine A1.mono ?_
      rintro e w2 ⟨rfl, rfl⟩
      go_wp2_with fail
      refine A2.mono ?_
      rintro e wb ⟨rfl, hb⟩
      have HBn : Aside0 (Below w.heap.size w wb) := ⟨below_next HB.out hb⟩
      have HOn := Aside0.mk (Kd.R_below HO.out hb)
      clear HB HO hb HC A1 A2
      have HB := HBn
      have HO := HOn
      clear HBn HOn
      go_wp2_with (first
        | ((with_reducible refine gate_builtin (b := .append) (xs := #[.tmp 21, .tmp 23]) rfl ?_); at_builtin; refine Kd.R_append Kd.string (w0 := w) w.heap.size rfl (.tmp 21) (.tmp 23) 22 9 (.string ByteArray.empty) 16 rfl Tryd.underlying22 str_info rfl (by decide) (by omega) (.slice A i c) (L.take i) t [.string t] (fun _ => True) (fun _ => False) rfl rfl ?aP (fun _ hk => hk.elim) ?aF ?aO ?aB ?aS ?aL ?_; (case aP => exact rfl); (case aB => exact (by repeat (first | (with_reducible exact HB.out) | apply below_alloc | apply pw_below_drewN | apply below_drew1))); (case aF => exact (fun _ _ => trivial)); (case aO => exact (by (with_reducible repeat (first | apply Kd.R_alloc | apply Kd.R_drewN | apply Kd.R_drew)); exact HO.out)); (case aS => exact (below_size (by repeat (first | (with_reducible exact HB.out) | apply below_alloc | apply pw_below_drewN | apply below_drew1)))); (case aL => (have := hlen.out; omega)); intro va wa ho hb hg hat; have n0_ := Aside0.mk hb; have n1_ := Aside0.mk ho; clear HB HO; have HB := n0_; have HO := n1_; clear n0_ n1_ ho hb hg hat))
      have HO2 := HO.out
      rw [HT.out] at HO2
      obtain ⟨A2, c2, rfl, hc2, _⟩ := Kd.R_reads HO2
      rw [hlen2.out] at HO2 hc2 ⊢
      have HO3 := Aside0.mk HO2
      clear HO2 HO
      go_roundw
      case rel => exact ⟨i + 1, A2, c2, by omega, by go_num, rfl, HO3, HB⟩
      case measure => simp [intOf]; omega
    · obtain rfl : i = L.length := by omega
      have hlt2 : ¬ ((L.length : Int) < (L.length : Int)) := by omega
      have HO2 := HO.out
      rw [List.take_length] at HO2
      obtain ⟨A', c', e', hc, hC⟩ := Kd.R_reads HO2
      injection e' with e1 e2 e3
      subst e1
      subst e3
      clear HO2 hlt
      go_wp2_with fail
      refine A1.mono ?_
      rintro e w2 ⟨rfl, rfl⟩
      go_wp2_with fail
      go_ret
      exact ⟨_, _, rfl, hC, hc, HB.out⟩
theorem joinL_take (L : List ByteArray) (i : Nat) (h : i < L.length) : joinL (bsL (L.take (i + 1))) = joinL (bsL (L.take i)) ++ (putL (L[i]).size ++ bs L[i]) := by
  rw [List.take_succ_eq_append_getElem h, bsL_snoc, joinL_snoc, textL_size]
theorem joinL_take_le (L : List ByteArray) (i : Nat) : (joinL (bsL (L.take i))).length ≤ (joinL (bsL L)).length := by
  conv => rhs; rw [← List.take_append_drop i L, bsL_append, joinL_append, List.length_append]
  omega
theorem dput_many (w : World) (base d : Nat) (v : Value) (bm : Nat) (L : List ByteArray) (hl : 20000 < L.length) (h : Dct w base d v bm L) :
    Calls Tryd.prog 10 #[.pointer (some ⟨d, 0, none⟩)] w fun e w' => e = .returned (.tuple #[.string ByteArray.empty, .iface 36 (.int .i64 9)]) ∧ Below w.heap.size w w' := by
  have c0 := h.c0
  obtain ⟨A, c, rfl⟩ := Kd.R_slice h.row
  clear h
  go_enter Tryd.func10, Tryd.ntmps10
  go_wp2
  go_ret2
  exact ⟨rfl, Below.refl _ _⟩
def dtxt (L : List ByteArray) (i : Nat) : ByteArray := st (putL L.length ++ joinL (bsL (L.take i)))
theorem dtxt_next (L : List ByteArray) (i : Nat) (h : i < L.length) : dtxt L (i + 1) = dtxt L i ++ (put ((L[i]).size : Int) ++ L[i]) := by
  unfold dtxt
  rw [joinL_take L i h, ← List.append_assoc, st_append, st_append, st_append (putL _) (bs _), st_bs]
  rfl
theorem dtxt_le (L : List ByteArray) (i : Nat) : (dtxt L i).size ≤ (dictL (bsL L)).length := by
  unfold dtxt dictL
  rw [st_size, List.length_append, List.length_append, bsL_length]
  have := joinL_take_le L i
  omega
theorem dtxt_all (L : List ByteArray) : dtxt L L.length = st (dictL (bsL L)) := by unfold dtxt dictL; rw [List.take_length, bsL_length]
theorem dtxt_zero (L : List ByteArray) : dtxt L 0 = put (L.length : Int) := by unfold dtxt; rw [List.take_zero, bsL_nil, joinL_nil, List.append_nil]; rfl
set_option maxHeartbeats 2000000 in
set_option maxRecDepth 100000 in
theorem dput_ok (w : World) (base d : Nat) (v : Value) (bm : Nat) (L : List ByteArray) (hl : L.length ≤ 20000) (hT : (dictL (bsL L)).length ≤ 1000000000) (h : Dct w base d v bm L) :
    Calls Tryd.prog 10 #[.pointer (some ⟨d, 0, none⟩)] w fun e w' => e = .returned (.tuple #[.string (st (dictL (bsL L))), .nilIface]) ∧ Below w.heap.size w w' := by
  have HI := Aside0.mk h
  have HT := Aside0.mk hT
  obtain ⟨A, c, hv, hc, hC⟩ := Kd.R_reads h.row
  subst hv
  have HC := Aside0.mk hC
  have c0 := h.c0
  have hd := blk_lt h.blk
  have A0 := fun w => put_any (L.length : Int) w (by omega) (by omega)
  have hB0 : Below w.heap.size w (w.alloc (.cells #[.pointer none, .slice none 0 0] 52)) := (Below.refl _ _).alloc (Nat.le_refl _) _
  have HB := Aside0.mk hB0
  have c0a : (w.alloc (.cells #[.pointer none, .slice none 0 0] 52)).cell? ⟨d, 0, none⟩ = some (.slice A L.length c) := (h.below hB0).c0
  have HD : Aside0 (Lib.IsBuilder 52 5 w.heap.size w.heap.size [] (w.alloc (.cells #[.pointer none, .slice none 0 0] 52))) := ⟨bld_new _ _ w⟩
  clear h hC hT hB0
  have hz0 : (put (L.length : Int)).size ≤ 10 := by rw [put_size]; exact putL_len10 _ (by omega)
  obtain ⟨N, hN⟩ : ∃ N, L.length = N := ⟨_, rfl⟩
  rw [hN] at c0 c0a A0 hl hc HC HI hz0
  have HN := Aside0.mk hN
  have hcv : IntKind.u64.wrap (N : Int) = (N : Int) := by rw [wrap_u64]; omega
  clear hN
  go_enter Tryd.func10, Tryd.ntmps10
  go_wp2_with fail
  refine (A0 _).mono ?_
  rintro e w1 ⟨rfl, hb⟩
  have HB1 := Aside0.mk (below_next HB.out hb)
  have HD1 := Aside0.mk (bld_below HD.out hb)
  have c1 : w1.cell? ⟨d, 0, none⟩ = some (.slice A N c) := pw_cell_below hb c0a
  clear hb HB HD
  go_wp2_with fail
  refine (bld_write _ _ _ _ _ HD1.out (by simp; omega) HB1.out.size).mono ?_
  rintro e w2 ⟨rfl, hd2, hb2⟩
  have HB2 := Aside0.mk (HB1.out.trans hb2)
  have HD2 : Aside0 (Lib.IsBuilder 52 5 w.heap.size w.heap.size (Lib.strCells (dtxt L 0)) w2) := ⟨by rw [dtxt_zero, HN.out]; exact bld_at hd2⟩
  have c2 : w2.cell? ⟨d, 0, none⟩ = some (.slice A N c) := pw_cell_below HB2.out c0
  clear hb2 HB1 HD1 hd2 hcv
  go_wp2_with fail
  go_loopw [27] (fun v27 w' => ∃ i : Nat, i ≤ N ∧ v27 = .int .i64 (i : Int) ∧ Aside0 (Lib.IsBuilder 52 5 w.heap.size w.heap.size (Lib.strCells (dtxt L i)) w') ∧ Aside0 (Below w.heap.size w w')) (fun v27 _ => N - (intOf v27).toNat)
  case atStart => exact ⟨0, Nat.zero_le _, rfl, HD2, HB2⟩
  case round =>
    clear HB2 HD2 c2 c1
    obtain ⟨i, hi, rfl, HD, HB⟩ := hrel
    by_cases hlt : i < N
    · have hlt2 : (i : Int) < (N : Int) := by omega
      obtain ⟨ad, rfl, hx⟩ := Kd.at_string HC.out (i : Int) (by omega) (by omega)
      have hi2 : i < L.length := by rw [HN.out]; omega
      obtain ⟨t, ht⟩ : ∃ t, L[i] = t := ⟨_, rfl⟩
      have hx2 : wr.cell? (ad.add i) = some (.string t) := by
        rw [Int.toNat_natCast] at hx
        refine pw_cell_below HB.out ?_
        rw [hx, ← ht]; simp [rdOf, List.getD_eq_getElem?_getD, hi2]
      have hnx := dtxt_next L i hi2
      rw [ht] at hnx
      have hle := dtxt_le L (i + 1)
      rw [hnx, ByteArray.size_append, ByteArray.size_append] at hle
      have hTb := HT.out
      have htz : t.size ≤ 1000000000 := by omega
      have A1 := fun w => put_any (t.size : Int) w (by omega) (by omega)
      have hcv : IntKind.u64.wrap (t.size : Int) = (t.size : Int) := by rw [wrap_u64]; omega
      have hbd : (Lib.strCells (dtxt L i)).length + (put (t.size : Int) ++ t).size ≤ 140737488355328 := by rw [Lib.strCells_length, ByteArray.size_append]; omega
      have hsum : (put (t.size : Int)).size + t.size ≤ 9223372036854775807 := by omega
      have HX := Aside0.mk hnx
      have HBD := Aside0.mk hbd
      clear hx ht hi2 hnx hle hTb hbd
      go_wp2_with fail
      refine (A1 _).mono ?_
      rintro e w1 ⟨rfl, hb⟩
      have HB1 := Aside0.mk (below_next HB.out hb)
      have HD1 := Aside0.mk (bld_below HD.out hb)
      clear hb HB HD hcv
      go_wp2_with fail
      refine (bld_write _ _ _ _ _ HD1.out HBD.out HB1.out.size).mono ?_
      rintro e w2 ⟨rfl, hd2, hb2⟩
      have HB2 := Aside0.mk (HB1.out.trans hb2)
      have HD2 : Aside0 (Lib.IsBuilder 52 5 w.heap.size w.heap.size (Lib.strCells (dtxt L (i + 1))) w2) := ⟨by rw [HX.out, ← strCells_append]; exact bld_at hd2⟩
      clear hb2 HB1 HD1 hd2
      go_wp2_with fail
      go_roundw
      case rel => exact ⟨i + 1, by omega, by go_num, HD2, HB2⟩
      case measure => simp [intOf]; omega
    · obtain rfl : i = N := by omega
      have hlt2 : ¬ ((i : Int) < (i : Int)) := by omega
      have hS : Aside0 (Lib.IsBuilder 52 5 w.heap.size w.heap.size (Lib.byteCells (st (dictL (bsL L))).data.toList) wr) := ⟨by have := HD.out; rw [← HN.out, dtxt_all] at this; exact this⟩
      clear hlt hi
      go_wp2_with fail
      refine (bld_string _ _ _ _ hS.out (below_size HB.out)).mono ?_
      rintro e wb ⟨rfl, hb⟩
      have HB2 := Aside0.mk (HB.out.trans hb)
      clear hb
      go_wp2_with fail
      go_ret2
      exact ⟨by simp, HB2.out⟩
end Go.Proofs.YtehfgemoccjomaaDoor
namespace Go.Proofs.YtehfgemoccjomaaDoor
open Go.RowKit Go.Proofs.YtehfgemoccjomaaDoorW.PrintWords Go.Proofs.YtehfgemoccjomaaDoorW.PrintLast Go.Proofs.YtehfgemoccjomaaDoorW.PrintMore Hy

def xa : ByteArray := ⟨#[97]⟩
def xb : ByteArray := ⟨#[98]⟩
theorem xab : xb ∉ [xa] := by
  intro h
  have := List.mem_singleton.1 h
  injection this with this
  exact absurd this (by decide)
theorem dict_ab : st (dictL (bsL [xa, xb])) = ⟨#[2, 1, 97, 1, 98]⟩ := by
  have e1 : bsL [xa, xb] = [[97], [98]] := rfl
  rw [e1]
  unfold dictL
  rw [joinL_cons, joinL_cons, joinL_nil]
  unfold textL
  rw [show ([[97], [98]] : List (List Nat)).length = 2 from rfl, show ([97] : List Nat).length = 1 from rfl, show ([98] : List Nat).length = 1 from rfl, putL_lo 2 (by omega), putL_lo 1 (by omega)]
  rfl
set_option maxHeartbeats 2000000 in
theorem dict_first (w : World) : Calls Tryd.prog 4 #[] w fun e w' => e = .returned (.bool true) ∧ Below w.heap.size w w' := by
  go_enter Tryd.func4, Tryd.ntmps4
  go_wp2_with fail
  refine (dnew_any _).mono ?_
  rintro e w1 ⟨rfl, hd1, hb1⟩
  obtain ⟨d, hd⟩ : ∃ d, w.heap.size + 1 = d := ⟨_, rfl⟩
  obtain ⟨bm, hbm⟩ : ∃ bm, w.heap.size = bm := ⟨_, rfl⟩
  have HB1 := Aside0.mk hb1
  have hd2 : Dct w1 w.heap.size d (.slice none 0 0) bm [] := by rw [← hd, ← hbm]; exact hd1
  have G : Calls Tryd.prog 7 #[.pointer (some ⟨d, 0, none⟩), .string xa] w1 fun e w' => e = .returned (.int .i64 0) ∧ ∃ v1, Dct w' w.heap.size d v1 bm [xa] ∧ (∀ k, v1.ownBlock = some k → (Value.slice none 0 0).ownBlock = some k ∨ w1.heap.size ≤ k) ∧ Kp (GD d bm (.slice none 0 0)) w1 w' := dadd_new w1 w.heap.size d _ bm [] xa (by simp) (by simp) (by decide) hb1.size hd2
  rw [hd]
  have HD1 := Aside0.mk hd2
  clear hd1 hb1 hd2 hd hbm
  go_wp2_with fail
  refine G.mono ?_
  rintro e w2 ⟨rfl, v2, hd2, _, hk2⟩
  have HB2 := Aside0.mk (HB1.out.trans (hk2.toBelow HB1.out.size (fun k hk => HD1.out.ge k hk)))
  have HD2 := Aside0.mk hd2
  have G : Calls Tryd.prog 7 #[.pointer (some ⟨d, 0, none⟩), .string xb] w2 fun e w' => e = .returned (.int .i64 1) ∧ ∃ v1, Dct w' w.heap.size d v1 bm [xa, xb] ∧ (∀ k, v1.ownBlock = some k → v2.ownBlock = some k ∨ w2.heap.size ≤ k) ∧ Kp (GD d bm v2) w2 w' := dadd_new w2 w.heap.size d _ bm [xa] xb xab (by simp) (by decide) HB2.out.size hd2
  clear hd2 hk2 HB1 HD1
  go_wp2_with fail
  refine G.mono ?_
  rintro e w3 ⟨rfl, v3, hd3, _, hk3⟩
  have HB3 := Aside0.mk (HB2.out.trans (hk3.toBelow HB2.out.size (fun k hk => HD2.out.ge k hk)))
  have HD3 := Aside0.mk hd3
  have G : Calls Tryd.prog 7 #[.pointer (some ⟨d, 0, none⟩), .string xa] w3 fun e w' => e = .returned (.int .i64 0) ∧ w3 = w' := dadd_old w3 w.heap.size d _ bm [xa, xb] xa 0 rfl (by simp) (by decide) hd3
  have G2 : Calls Tryd.prog 9 #[.pointer (some ⟨d, 0, none⟩)] w3 fun e w' => e = .returned (.int .i64 2) ∧ w3 = w' := dlen_any w3 w.heap.size d _ bm [xa, xb] hd3
  have G3 : Calls Tryd.prog 10 #[.pointer (some ⟨d, 0, none⟩)] w3 fun e w' => e = .returned (.tuple #[.string ⟨#[2, 1, 97, 1, 98]⟩, .nilIface]) ∧ Below w3.heap.size w3 w' := by
    have := dput_ok w3 w.heap.size d _ bm [xa, xb] (by simp) (by
      have h := congrArg ByteArray.size dict_ab
      rw [st_size] at h
      rw [h]; decide) hd3
    rwa [dict_ab] at this
  clear hd3 hk3 HB2 HD2
  go_wp2_with fail
  refine G.mono ?_
  rintro e w4 ⟨rfl, rfl⟩
  go_wp2_with fail
  refine G2.mono ?_
  rintro e w4 ⟨rfl, rfl⟩
  go_wp2_with fail
  refine G3.mono ?_
  rintro e w4 ⟨rfl, hb4⟩
  have HB4 := Aside0.mk (below_next HB3.out hb4)
  have G4 := dget_out w4 w.heap.size d _ bm [xa, xb] 2 (.inr (by simp)) (HD3.out.below hb4)
  clear hb4 HB3 HD3 G G2 G3
  go_wp2_with fail
  refine G4.mono ?_
  rintro e w5 ⟨rfl, hb5⟩
  have HB5 := Aside0.mk (below_next HB4.out hb5)
  clear hb5
  go_wp2_with fail
  go_ret
  exact ⟨rfl, HB5.out⟩
end Go.Proofs.YtehfgemoccjomaaDoor
