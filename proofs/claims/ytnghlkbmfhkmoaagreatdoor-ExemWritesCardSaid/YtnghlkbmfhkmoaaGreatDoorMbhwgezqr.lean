import Derived.Test.YtnghlkbmfhkmoaaGreatDoorProg
import Derived.Test.YtnghlkbmfhkmoaaGreatDoorMhhfprggg
import Derived.Lib.Strings
import Derived.Lib.Slices
import Derived.Lib.Walk
import Derived.Lib.Builder
import Derived.Lib.AppendStr
import Derived.Lib.UnsafeStr
import Derived.Lib.MakeNoZero
import Derived.WalkKit
import Derived.RegionTactic
import Derived.Laws.Externs
import Derived.Laws.IdiomCopy
import Derived.Laws.BitsLemmas
import Derived.RowKit
import Derived.Laws.BytesArg
import Derived.WideLaws
import Derived.LaidEql
import Derived.Deep.QuietTactic
import Derived.BigQuiet
import Derived.OwnWalk
set_option linter.unusedVariables false
namespace Go.Proofs.YtnghlkbmfhkmoaaGreatDoor
open Go.RowKit
/-! ### strings.Builder at a builder of the call's own (the laws of Derived/Lib/Builder and its kin) -/
theorem bld_info : (Tryz.prog.info? 5).map (fun i => (i.zero, i.size, i.bytes)) = some (some (.int .u8 0), 1, 1) := by kernel_rfl
theorem bld_size : (Tryz.prog.info? 48).map (·.size) = some 2 := by kernel_rfl
theorem bld_lies : liesAt Tryz.prog Tryz.prog.depth 50 (2 / Tryz.prog.cellsOf 50) 0 48 1 = true := by kernel_rfl
set_option maxHeartbeats 1000000 in
set_option maxRecDepth 100000 in
theorem bld_check_used (b : Nat) (w : World) (h0 : w.cell? ⟨b, 0, none⟩ = some (.pointer (some ⟨b, 0, none⟩))) :
    Calls Tryz.prog 74 #[.pointer (some ⟨b, 0, none⟩)] w fun e w' => e = .returned (.tuple #[]) ∧ w' = w := by
  obtain ⟨j, hj, _⟩ := Option.map_eq_some_iff.1 bld_size
  go_enter Tryz.func74, Tryz.ntmps74
  go_wp2
  rw [Lib.run_neq_ptr_same w _ Tryz.underlying45 hj]
  go_wp2
  go_end0
  exact ⟨rfl, rfl⟩
set_option maxHeartbeats 1000000 in
set_option maxRecDepth 100000 in
theorem bld_check_fresh (b : Nat) (w : World) (h0 : w.cell? ⟨b, 0, none⟩ = some (.pointer none)) (hsh : w.shape? b = some (50, 2)) (hfz : w.frozen? ⟨b, 0, none⟩ = false) :
    Calls Tryz.prog 74 #[.pointer (some ⟨b, 0, none⟩)] w fun e w' => e = .returned (.tuple #[]) ∧ w' = w.setCell ⟨b, 0, none⟩ (.pointer (some ⟨b, 0, none⟩)) := by
  obtain ⟨j, hj, hjs⟩ := Option.map_eq_some_iff.1 bld_size
  go_enter Tryz.func74, Tryz.ntmps74
  go_wp2
  rw [Lib.run_to_unsafe w ⟨b, 0, none⟩ Tryz.underlying45 Tryz.underlying94 hj (by rw [hjs]; decide) hsh (Nat.zero_lt_succ 1)]
  simp only [Result.andThen]
  rw [Oper.upon_value]
  go_wp2
  rw [run_callFunc_extern Tryz.func96 (by kernel_rfl) (by kernel_rfl) (by kernel_rfl) (e := Extern.AbiNoEscape.same) (by kernel_rfl)]
  rw [Lib.run_noEscape]
  simp only [Result.andThen]
  rw [Oper.upon_value]
  go_wp2
  rw [Lib.run_from_unsafe w ⟨b, 0, none⟩ Tryz.underlying94 Tryz.underlying45 hj hsh bld_lies]
  simp only [Result.andThen]
  rw [Oper.upon_value]
  go_wp2
  go_end0
  exact ⟨rfl, rfl⟩
theorem bld_check (B b : Nat) (bs : List Value) (w : World) (h : Lib.IsBuilder 50 5 B b bs w) :
    Calls Tryz.prog 74 #[.pointer (some ⟨b, 0, none⟩)] w fun e w' => e = .returned (.tuple #[]) ∧ (Lib.BuilderAt 50 5 B b (.pointer (some ⟨b, 0, none⟩)) bs w' ∧ Below B w w') := by
  rcases h with h | h
  · refine (bld_check_fresh b w h.cell0 h.shape h.frozen0).mono ?_
    rintro e w' ⟨rfl, rfl⟩
    exact ⟨rfl, h.used _, (Below.refl B w).setCell (p := ⟨b, 0, none⟩) h.1 _⟩
  · refine (bld_check_used b w h.cell0).mono ?_
    rintro e w' ⟨rfl, rfl⟩
    exact ⟨rfl, h, Below.refl B _⟩
set_option maxHeartbeats 2000000 in
set_option maxRecDepth 100000 in
theorem bld_write (B b : Nat) (bs : List Value) (s : ByteArray) (w : World) (h : Lib.IsBuilder 50 5 B b bs w) (hlen : bs.length + s.size ≤ 140737488355328) (hBw : B ≤ w.heap.size) :
    Calls Tryz.prog 50 #[.pointer (some ⟨b, 0, none⟩), .string s] w fun e w' => e = .returned (.tuple #[.int .i64 s.size, .nilIface]) ∧ (Lib.BuilderAt 50 5 B b (.pointer (some ⟨b, 0, none⟩)) (bs ++ Lib.strCells s) w' ∧ Below B w w') := by
  obtain ⟨i0, hi, hz0, hz1, hz2⟩ := info_parts bld_info
  go_enter Tryz.func50, Tryz.ntmps50
  go_wp2_with (go_at_call 74; refine (bld_check B b bs _ h).mono ?_)
  rintro e w1 ⟨rfl, h1, hb1⟩
  obtain ⟨hB, v, hbk, hown, hne⟩ := h1
  have c0 : w1.cell? ⟨b, 0, none⟩ = some (.pointer (some ⟨b, 0, none⟩)) := by rw [Lib.cell_of_heap hbk]; rfl
  have c1 : w1.cell? ⟨b, 1, none⟩ = some v := by rw [Lib.cell_of_heap hbk]; rfl
  go_wp2_with (at_builtin; refine Lib.wpList_append_own_string _ rfl _ _ 46 9 rfl B 5 i0 Tryz.underlying46 Tryz.underlying9 hi hz0 hz1 hz2 _ _ _ rfl hown s rfl ?c3 ?c4 ?c5 ?_)
  case c3 => unfold maxLen; omega
  case c4 => omega
  case c5 => have := hb1.size; omega
  intro v' w2 hown' hgrow _
  have hlt : b < w1.heap.size := by
    rcases Nat.lt_or_ge b w1.heap.size with h' | h'
    · exact h'
    · simp [Array.getElem?_eq_none h'] at hbk
  have hb2 : w2.heap[b]? = some (.cells #[.pointer (some ⟨b, 0, none⟩), v] 50 (0, 0)) := by
    rw [hgrow.block b hlt (fun e => hne e.symm)]
    exact hbk
  have d0 : w2.cell? ⟨b, 0, none⟩ = some (.pointer (some ⟨b, 0, none⟩)) := by rw [Lib.cell_of_heap hb2]; rfl
  have d1 : w2.cell? ⟨b, 1, none⟩ = some v := by rw [Lib.cell_of_heap hb2]; rfl
  have f1 : w2.frozen? ⟨b, 1, none⟩ = false := Lib.frozen_of_heap hb2 1
  obtain ⟨ao, n', cap, rfl⟩ : ∃ ao n' cap, v' = .slice ao n' cap := by
    rcases hown'.2 with ⟨hv, _⟩ | ⟨g, cap, cur, hv, _⟩
    · exact ⟨_, _, _, hv⟩
    · exact ⟨_, _, _, hv⟩
  go_wp2
  go_ret2
  refine ⟨rfl, ?_, ?_⟩
  · exact Lib.BuilderAt.put (T := 50) (e := 5) hB hb2 (bs' := bs ++ Lib.strCells s) (by simpa [Lib.strCells_length] using hown') (by decide)
  · exact (hb1.grown hgrow (by have := hb1.size; omega) (fun k hk => (hown.lt k hk).1)).setCell (p := ⟨b, 1, none⟩) hB _
set_option maxHeartbeats 1000000 in
set_option maxRecDepth 100000 in
theorem bld_string_some (B b : Nat) (l : List UInt8) (w : World) (h : Lib.IsBuilder 50 5 B b (Lib.byteCells l) w) (h0 : l ≠ []) :
    Calls Tryz.prog 51 #[.pointer (some ⟨b, 0, none⟩)] w fun e w' => e = .returned (.string ⟨l.toArray⟩) ∧ Below B w w' := by
  obtain ⟨p, hB, v, hbk, hown, hne⟩ : ∃ p, Lib.BuilderAt 50 5 B b p (Lib.byteCells l) w := by
    rcases h with h | h
    · exact ⟨_, h⟩
    · exact ⟨_, h⟩
  have hl0 : l.length ≠ 0 := by simpa using h0
  rw [Lib.byteCells_length] at hown
  obtain ⟨g, cap, cur, rfl, hbg, hg, hnc, hcm, hcs, htake⟩ : ∃ g cap cur, v = .slice (some ⟨g, 0, none⟩) l.length cap ∧ B ≤ g ∧ w.heap[g]? = some (.cells cur 5 (0, 0)) ∧ l.length ≤ cap ∧ cap ≤ maxLen ∧ cur.size = cap * 1 ∧ cur.toList.take (l.length * 1) = Lib.byteCells l := by
    rcases hown.2 with ⟨_, hz⟩ | ⟨g, cap, cur, hv, r⟩
    · exact absurd hz hl0
    · exact ⟨g, cap, cur, hv, r⟩
  have c1 : w.drew.cell? ⟨b, 1, none⟩ = some (.slice (some ⟨g, 0, none⟩) l.length cap) := by
    have : w.drew.heap[b]? = some (.cells #[p, .slice (some ⟨g, 0, none⟩) l.length cap] 50 (0, 0)) := hbk
    rw [Lib.cell_of_heap this]; rfl
  have hSD : (Builtin.unsafeSliceData_ #[46] 111 #[.slice (some ⟨g, 0, none⟩) l.length cap]).run Tryz.prog w.drew = .ok (.pointer (some ⟨g, 0, none⟩)) w.drew :=
    Lib.run_unsafeSliceData_row _ _ _ _ _ _ (by omega)
  have hUS : (Builtin.unsafeString_ #[111, 3] 9 #[.pointer (some ⟨g, 0, none⟩), .int .i64 l.length]).run Tryz.prog w.drew = .ok (.string ⟨l.toArray⟩) (w.drew.freeze ⟨g, 0, none⟩ l.length) := by
    refine Lib.run_unsafeString_row w.drew 111 3 9 5 Tryz.underlying111 (by kernel_rfl) g cur.size (by have hg' : w.drew.heap[g]? = some (.cells cur 5 (0, 0)) := hg; simp [World.shape?, hg']) l h0 (by omega) (by unfold maxLen at hcm; omega) ?_
    intro j x hx
    have := hown.cells (g := g) rfl j (.int .u8 x.toNat) (by simp [Lib.byteCells, hx])
    exact this
  go_enter Tryz.func51, Tryz.ntmps51
  go_wp2
  go_region
  all_goals (go_wp2; go_ret; exact ⟨rfl, Lib.below_freeze (Below.drew (Below.refl B w)) (p := ⟨g, 0, none⟩) hbg _⟩)
theorem bld_us_none (W : World) (q : Option Addr) : (Builtin.unsafeString_ #[111, 3] 9 #[.pointer q, .int .i64 0]).run Tryz.prog W = .ok (.string .empty) W :=
  Lib.run_unsafeString_none W _ _ _ q
set_option maxHeartbeats 2000000 in
set_option maxRecDepth 100000 in
theorem bld_string_nil (B b : Nat) (p : Value) (w : World) (hbk : w.heap[b]? = some (.cells #[p, .slice none 0 0] 50 (0, 0))) :
    Calls Tryz.prog 51 #[.pointer (some ⟨b, 0, none⟩)] w fun e w' => e = .returned (.string ⟨#[]⟩) ∧ Below B w w' := by
  have hUS := bld_us_none
  have c1 : w.drew.cell? ⟨b, 1, none⟩ = some (.slice none 0 0) := by
    have : w.drew.heap[b]? = some (.cells #[p, .slice none 0 0] 50 (0, 0)) := hbk
    rw [Lib.cell_of_heap this]; rfl
  have hSD : (Builtin.unsafeSliceData_ #[46] 111 #[.slice none 0 0]).run Tryz.prog w.drew = .ok (.pointer none) w.drew := rfl
  go_enter Tryz.func51, Tryz.ntmps51
  go_wp2
  go_region
  all_goals (go_wp2; go_ret; exact ⟨rfl, Below.drew (Below.refl B w)⟩)
set_option maxHeartbeats 2000000 in
set_option maxRecDepth 100000 in
theorem bld_string_noroom (B b g : Nat) (p : Value) (cur : Array Value) (w : World) (hBw : B ≤ w.heap.size) (hbk : w.heap[b]? = some (.cells #[p, .slice (some ⟨g, 0, none⟩) 0 0] 50 (0, 0))) (hg : w.heap[g]? = some (.cells cur 5 (0, 0))) :
    Calls Tryz.prog 51 #[.pointer (some ⟨b, 0, none⟩)] w fun e w' => e = .returned (.string ⟨#[]⟩) ∧ Below B w w' := by
  have hUS := bld_us_none
  have hlt : b < w.heap.size := by
    rcases Nat.lt_or_ge b w.heap.size with h' | h'
    · exact h'
    · simp [Array.getElem?_eq_none h'] at hbk
  have c1 : w.drew.cell? ⟨b, 1, none⟩ = some (.slice (some ⟨g, 0, none⟩) 0 0) := by
    have : w.drew.heap[b]? = some (.cells #[p, .slice (some ⟨g, 0, none⟩) 0 0] 50 (0, 0)) := hbk
    rw [Lib.cell_of_heap this]; rfl
  have hSD : (Builtin.unsafeSliceData_ #[46] 111 #[.slice (some ⟨g, 0, none⟩) 0 0]).run Tryz.prog w.drew = .ok (.pointer (some ⟨w.drew.heap.size, 0, none⟩)) (w.drew.alloc (.view ⟨g, 0, none⟩ 5)) :=
    Lib.run_unsafeSliceData_zero w.drew _ _ 5 Tryz.underlying111 ⟨g, 0, none⟩ 0 (5, cur.size) (by have hg' : w.drew.heap[g]? = some (.cells cur 5 (0, 0)) := hg; simp [World.shape?, hg'])
  have c2 : (w.drew.alloc (.view ⟨g, 0, none⟩ 5)).cell? ⟨b, 1, none⟩ = some (.slice (some ⟨g, 0, none⟩) 0 0) := by
    have : (w.drew.alloc (.view ⟨g, 0, none⟩ 5)).heap[b]? = _ := (Lib.alloc_old w.drew _ b hlt).trans hbk
    rw [Lib.cell_of_heap this]; rfl
  have c3 : (w.alloc (.view ⟨g, 0, none⟩ 5)).drew.cell? ⟨b, 1, none⟩ = some (.slice (some ⟨g, 0, none⟩) 0 0) := c2
  have c0 : w.cell? ⟨b, 1, none⟩ = some (.slice (some ⟨g, 0, none⟩) 0 0) := c1
  go_enter Tryz.func51, Tryz.ntmps51
  go_wp2
  go_region
  all_goals (go_wp2; go_ret; exact ⟨rfl, (Below.drew (Below.refl B w)).alloc hBw _⟩)
set_option maxHeartbeats 2000000 in
set_option maxRecDepth 100000 in
theorem bld_string_room (B b g cap : Nat) (p : Value) (w : World) (hc0 : cap ≠ 0) (hbk : w.heap[b]? = some (.cells #[p, .slice (some ⟨g, 0, none⟩) 0 cap] 50 (0, 0))) :
    Calls Tryz.prog 51 #[.pointer (some ⟨b, 0, none⟩)] w fun e w' => e = .returned (.string ⟨#[]⟩) ∧ Below B w w' := by
  have hUS := bld_us_none
  have c1 : w.drew.cell? ⟨b, 1, none⟩ = some (.slice (some ⟨g, 0, none⟩) 0 cap) := by
    have : w.drew.heap[b]? = some (.cells #[p, .slice (some ⟨g, 0, none⟩) 0 cap] 50 (0, 0)) := hbk
    rw [Lib.cell_of_heap this]; rfl
  have hSD : (Builtin.unsafeSliceData_ #[46] 111 #[.slice (some ⟨g, 0, none⟩) 0 cap]).run Tryz.prog w.drew = .ok (.pointer (some ⟨g, 0, none⟩)) w.drew :=
    Lib.run_unsafeSliceData_row _ _ _ _ _ _ hc0
  clear hc0
  go_enter Tryz.func51, Tryz.ntmps51
  go_wp2
  go_region
  all_goals (go_wp2; go_ret; exact ⟨rfl, Below.drew (Below.refl B w)⟩)
theorem bld_string (B b : Nat) (l : List UInt8) (w : World) (h : Lib.IsBuilder 50 5 B b (Lib.byteCells l) w) (hBw : B ≤ w.heap.size) :
    Calls Tryz.prog 51 #[.pointer (some ⟨b, 0, none⟩)] w fun e w' => e = .returned (.string ⟨l.toArray⟩) ∧ Below B w w' := by
  by_cases h0 : l = []
  · subst h0
    obtain ⟨p, hB, v, hbk, hown, hne⟩ : ∃ p, Lib.BuilderAt 50 5 B b p [] w := by
      rcases h with h | h
      · exact ⟨_, h⟩
      · exact ⟨_, h⟩
    rcases hown.2 with ⟨rfl, _⟩ | ⟨g, cap, cur, rfl, hbg, hg, _, _, _, _⟩
    · exact bld_string_nil B b p w hbk
    · by_cases hc0 : cap = 0
      · subst hc0
        exact bld_string_noroom B b g p cur w hBw hbk hg
      · exact bld_string_room B b g cap p w hc0 hbk
  · exact bld_string_some B b l w h h0
theorem bld_below {T e : TypeId} {B b : Nat} {bs : List Value} {w w1 : World} (h : Lib.IsBuilder T e B b bs w) (hb : Below w.heap.size w w1) : Lib.IsBuilder T e B b bs w1 := by
  have go : ∀ p, Lib.BuilderAt T e B b p bs w → Lib.BuilderAt T e B b p bs w1 := by
    intro p h
    have hlt := h.lt
    obtain ⟨hB, v, hh, ho, hne⟩ := h
    exact ⟨hB, v, by rw [hb.block b hlt]; exact hh, Go.Proofs.YtnghlkbmfhkmoaaGreatDoorW.PrintWords.pw_own_below ho hb, hne⟩
  rcases h with h | h
  · exact .inl (go _ h)
  · exact .inr (go _ h)
theorem bld_at {T e : TypeId} {B b : Nat} {bs : List Value} {w : World} (h : Lib.BuilderAt T e B b (.pointer (some ⟨b, 0, none⟩)) bs w) : Lib.IsBuilder T e B b bs w := .inr h
theorem strCells_append (a b : ByteArray) : Lib.strCells a ++ Lib.strCells b = Lib.strCells (a ++ b) := by
  unfold Lib.strCells
  rw [ByteArray.data_append]; simp
theorem bld_new (T e : TypeId) (w : World) : Lib.IsBuilder T e w.heap.size w.heap.size [] (w.alloc (.cells #[.pointer none, .slice none 0 0] T)) :=
  .inl ⟨Nat.le_refl _, _, heap_alloc_new _ _, Go.Proofs.YtnghlkbmfhkmoaaGreatDoorW.PrintWords.own_nil _ _ _ _, by simp [Value.ownBlock]⟩
end Go.Proofs.YtnghlkbmfhkmoaaGreatDoor
namespace Go.Proofs.YtnghlkbmfhkmoaaGreatDoor.Hy
open Go.RowKit
/-! ### bits -/
theorem wrap_u64 (n : Int) : IntKind.u64.wrap n = n % 18446744073709551616 := by simp [IntKind.wrap, IntKind.bits, IntKind.signed]
theorem and_u64_127 (x : Int) (h0 : 0 ≤ x) (h1 : x < 18446744073709551616) : Go.bits .and .u64 x 127 = x % 128 :=
  bits_mask .u64 64 (by decide) (fun n a b => by rw [wrap_u64]; omega) 7 (by decide) x h0 (by simpa using h1)
theorem or_nat (k : IntKind) (j : Nat) (hj : j ≤ k.bits) (hk : ∀ n : Int, 0 ≤ n → n < 2 ^ j → k.wrap n = n) (a b : Nat) (ha : a < 2 ^ j) (hb : b < 2 ^ j) : Go.bits .or k a b = ((a ||| b : Nat) : Int) := (bits_nat k j hj hk a b ha hb).2
theorem or_u8_128 (x : Int) (h0 : 0 ≤ x) (h1 : x < 256) : Go.bits .or .u8 x 128 = x % 128 + 128 := by
  obtain ⟨n, rfl⟩ := Int.eq_ofNat_of_zero_le h0
  rw [show (128 : Int) = ((128 : Nat) : Int) from rfl, or_nat .u8 8 (by decide) wraps_u8 n 128 (by omega) (by decide)]
  have hn : n < 256 := by omega
  have : n ||| 128 = n % 128 + 128 := by
    have h : ∀ m : Fin 256, m.val ||| 128 = m.val % 128 + 128 := by decide +kernel
    exact h ⟨n, hn⟩
  rw [this]; simp
theorem or_u64_128 (x : Int) (h0 : 0 ≤ x) (h1 : x < 128) : Go.bits .or .u64 x 128 = x + 128 := by
  obtain ⟨n, rfl⟩ := Int.eq_ofNat_of_zero_le h0
  rw [show (128 : Int) = ((128 : Nat) : Int) from rfl, or_nat .u64 64 (by decide) (fun n a b => by rw [wrap_u64]; omega) n 128 (by omega) (by decide)]
  have hn : n < 128 := by omega
  have : n ||| 128 = n + 128 := by
    have h : ∀ m : Fin 128, m.val ||| 128 = m.val + 128 := by decide +kernel
    exact h ⟨n, hn⟩
  rw [this]; simp
theorem andNot_u8_128 (x : Int) (h0 : 0 ≤ x) (h1 : x < 256) : Go.bits .andNot .u8 x 128 = x % 128 := by
  obtain ⟨n, rfl⟩ := Int.eq_ofNat_of_zero_le h0
  have h : ∀ m : Fin 256, Go.bits .andNot .u8 ((m.val : Nat) : Int) 128 = ((m.val : Nat) : Int) % 128 := by decide +kernel
  exact h ⟨n, by omega⟩
/-- Or of what has no bit in common. -/
theorem or_join_u64 (x y : Int) (i : Nat) (hx0 : 0 ≤ x) (hx : x < 2 ^ i) (hy0 : 0 ≤ y) (hy : y % 2 ^ i = 0) (hx1 : x < 18446744073709551616) (hy1 : y < 18446744073709551616) : Go.bits .or .u64 x y = x + y := by
  obtain ⟨a, rfl⟩ := Int.eq_ofNat_of_zero_le hx0
  obtain ⟨b, rfl⟩ := Int.eq_ofNat_of_zero_le hy0
  have h := bits_join .u64 64 (by decide) (fun n a b => by rw [wrap_u64]; omega) i (b : Int) (a : Int) hy0 hy (by simpa using hy1) hx0 hx (by simpa using hx1)
  have e : Go.bits .or .u64 (a : Int) (b : Int) = Go.bits .or .u64 (b : Int) (a : Int) := by
    simp only [Go.bits, BitVec.or_comm]
  rw [e, h]; omega
/-! ### zigzag -/
/-! ### bytes: strings as lists of numbers -/
def bs (s : ByteArray) : List Nat := s.data.toList.map UInt8.toNat
def st (l : List Nat) : ByteArray := ⟨(l.map UInt8.ofNat).toArray⟩
def okB (l : List Nat) : Prop := ∀ x ∈ l, x < 256
theorem bs_ok (s : ByteArray) : okB (bs s) := by
  intro x hx
  obtain ⟨u, _, rfl⟩ := List.mem_map.1 hx
  exact u.toNat_lt
theorem bs_st (l : List Nat) (h : okB l) : bs (st l) = l := by
  unfold bs st
  simp only [List.map_map]
  conv => rhs; rw [← List.map_id l]
  apply List.map_congr_left
  intro x hx
  have := h x hx
  simp [Function.comp]
  omega
theorem st_bs (s : ByteArray) : st (bs s) = s := by
  unfold bs st
  simp only [List.map_map]
  have : (UInt8.ofNat ∘ UInt8.toNat) = id := by funext u; simp
  rw [this]; simp
theorem bs_inj {s t : ByteArray} (h : bs s = bs t) : s = t := by rw [← st_bs s, ← st_bs t, h]
theorem bs_length (s : ByteArray) : (bs s).length = s.size := by unfold bs; simp
theorem st_size (l : List Nat) : (st l).size = l.length := by
  unfold st; show (List.toArray _).size = _; simp
theorem bs_append (s t : ByteArray) : bs (s ++ t) = bs s ++ bs t := by
  unfold bs
  rw [ByteArray.data_append]; simp
theorem bs_extract (s : ByteArray) (a b : Nat) : bs (s.extract a b) = ((bs s).take b).drop a := by
  unfold bs
  rw [ByteArray.data_extract]
  simp [List.map_take, List.map_drop, List.drop_take, List.extract_eq_take_drop]
theorem strOfNums_eq (l : List Nat) : strOfNums (l.map fun (n : Nat) => (n : Int)) = st l := by
  unfold strOfNums st
  simp [List.map_map, Function.comp]
end Go.Proofs.YtnghlkbmfhkmoaaGreatDoor.Hy
namespace Go.Proofs.YtnghlkbmfhkmoaaGreatDoor.Hy
/-! ### numbers in few bytes -/
def putL (n : Nat) : List Nat := if h : n < 128 then [n] else (n % 128 + 128) :: putL (n / 128)
termination_by n
decreasing_by omega
theorem putL_lo (n : Nat) (h : n < 128) : putL n = [n] := by rw [putL]; simp [h]
theorem putL_hi (n : Nat) (h : ¬ n < 128) : putL n = (n % 128 + 128) :: putL (n / 128) := by rw [putL]; simp [h]
def put (n : Int) : ByteArray := st (putL n.toNat)
theorem putL_pos (n : Nat) : 0 < (putL n).length := by
  by_cases h : n < 128
  · rw [putL_lo n h]; simp
  · rw [putL_hi n h]; simp
theorem putL_len : ∀ j n, n < 2 ^ (7 * (j + 1)) → (putL n).length ≤ j + 1 := by
  intro j
  induction j with
  | zero => intro n h; rw [putL_lo n (by simpa using h)]; simp
  | succ j ih =>
    intro n h
    by_cases hn : n < 128
    · rw [putL_lo n hn]; simp
    · rw [putL_hi n hn]
      have : n / 128 < 2 ^ (7 * (j + 1)) := by
        rw [Nat.div_lt_iff_lt_mul (by omega)]
        calc n < _ := h
          _ = _ := by rw [show 7 * (j + 1 + 1) = 7 * (j + 1) + 7 by omega, Nat.pow_add]
      have := ih _ this
      simp; omega
theorem putL_len10 (n : Nat) (h : n < 18446744073709551616) : (putL n).length ≤ 10 := putL_len 9 n (by omega)
theorem put_size (n : Int) : (put n).size = (putL n.toNat).length := st_size _
/-! ### and back: an error's code, or what the bytes from place i on add, and how many these are -/
def dec : Nat → List Nat → Sum Nat (Nat × Nat)
  | _, [] => .inl 1
  | i, c :: r => if i = 9 ∧ 1 < c then .inl 4 else if c < 128 then .inr (c * 2 ^ (7 * i), 1) else
      match dec (i + 1) r with
      | .inl e => .inl e
      | .inr (v, k) => .inr ((c - 128) * 2 ^ (7 * i) + v, k + 1)
theorem dec_nil (i : Nat) : dec i [] = .inl 1 := rfl
theorem dec_big (c : Nat) (r : List Nat) (h : 1 < c) : dec 9 (c :: r) = .inl 4 := by simp only [dec]; rw [if_pos ⟨trivial, h⟩]
theorem dec_end (i c : Nat) (r : List Nat) (h9 : ¬ (i = 9 ∧ 1 < c)) (h : c < 128) : dec i (c :: r) = .inr (c * 2 ^ (7 * i), 1) := by simp only [dec]; rw [if_neg h9, if_pos h]
theorem dec_on (i c : Nat) (r : List Nat) (h9 : ¬ (i = 9 ∧ 1 < c)) (h : ¬ c < 128) : dec i (c :: r) = (match dec (i + 1) r with
      | .inl e => .inl e
      | .inr (v, k) => .inr ((c - 128) * 2 ^ (7 * i) + v, k + 1)) := by rw [dec, if_neg h9, if_neg h]
/-- What is read: its bounds. -/
theorem dec_some : ∀ (l : List Nat) (i v k : Nat), okB l → i ≤ 9 → dec i l = .inr (v, k) → 1 ≤ k ∧ k ≤ l.length ∧ i + k ≤ 10 ∧ v % 2 ^ (7 * i) = 0 ∧ v < 18446744073709551616 := by
  intro l
  induction l with
  | nil => intro i v k _ _ h; simp [dec] at h
  | cons c r ih =>
    intro i v k hok hi h
    simp only [dec] at h
    split at h
    · simp at h
    · rename_i h9
      have hpow : 2 ^ (7 * i) * 2 ^ (64 - 7 * i) = 18446744073709551616 := by
        rw [← Nat.pow_add, show 7 * i + (64 - 7 * i) = 64 by omega]
      split at h
      · rename_i hc
        simp only [Sum.inr.injEq, Prod.mk.injEq] at h
        obtain ⟨rfl, rfl⟩ := h
        refine ⟨by omega, by simp, by omega, Nat.mul_mod_left _ _, ?_⟩
        have : c < 2 ^ (64 - 7 * i) := by
          by_cases e : i = 9
          · subst e; simp; omega
          · calc c < 2 ^ 7 := hc
              _ ≤ _ := Nat.pow_le_pow_right (by omega) (by omega)
        rw [← hpow, Nat.mul_comm]
        exact Nat.mul_lt_mul_of_pos_left this (Nat.two_pow_pos _)
      · rename_i hc
        have hi8 : i ≤ 8 := by omega
        have hokr : okB r := fun x hx => hok x (List.mem_cons_of_mem _ hx)
        have hc256 := hok c List.mem_cons_self
        cases e : dec (i + 1) r with
        | inl x => rw [e] at h; simp at h
        | inr x =>
          obtain ⟨v', k'⟩ := x
          rw [e] at h
          simp only [Sum.inr.injEq, Prod.mk.injEq] at h
          obtain ⟨rfl, rfl⟩ := h
          obtain ⟨h1, h2, h3, h4, h5⟩ := ih (i + 1) v' k' hokr (by omega) e
          have hp : 2 ^ (7 * (i + 1)) = 128 * 2 ^ (7 * i) := by rw [show 7 * (i + 1) = 7 * i + 7 by omega, Nat.pow_add]; omega
          have hpow' : 2 ^ (7 * (i + 1)) * 2 ^ (64 - 7 * (i + 1)) = 18446744073709551616 := by
            rw [← Nat.pow_add, show 7 * (i + 1) + (64 - 7 * (i + 1)) = 64 by omega]
          refine ⟨by omega, by simp; omega, by omega, ?_, ?_⟩
          · rw [Nat.mul_add_mod_self_right]
            have : v' = 2 ^ (7 * (i + 1)) * (v' / 2 ^ (7 * (i + 1))) := by have := Nat.div_add_mod v' (2 ^ (7 * (i + 1))); omega
            rw [this, hp, Nat.mul_assoc, Nat.mul_comm 128, Nat.mul_assoc]
            exact Nat.mul_mod_right _ _
          · have hq : v' = 2 ^ (7 * (i + 1)) * (v' / 2 ^ (7 * (i + 1))) := by have := Nat.div_add_mod v' (2 ^ (7 * (i + 1))); omega
            have hlt : v' / 2 ^ (7 * (i + 1)) < 2 ^ (64 - 7 * (i + 1)) := by
              rw [Nat.div_lt_iff_lt_mul (Nat.two_pow_pos _), Nat.mul_comm, hpow']; exact h5
            have hb : (c - 128) * 2 ^ (7 * i) < 2 ^ (7 * (i + 1)) := by
              rw [hp]; exact Nat.mul_lt_mul_of_pos_right (by omega) (Nat.two_pow_pos _)
            calc (c - 128) * 2 ^ (7 * i) + v' < 2 ^ (7 * (i + 1)) + 2 ^ (7 * (i + 1)) * (v' / 2 ^ (7 * (i + 1))) := by omega
              _ = 2 ^ (7 * (i + 1)) * (v' / 2 ^ (7 * (i + 1)) + 1) := by generalize 2 ^ (7 * (i + 1)) = z; rw [Nat.mul_add, Nat.mul_one, Nat.add_comm]
              _ ≤ 2 ^ (7 * (i + 1)) * 2 ^ (64 - 7 * (i + 1)) := Nat.mul_le_mul_left _ hlt
              _ = _ := hpow'
/-! ### numbers one behind the other -/
end Go.Proofs.YtnghlkbmfhkmoaaGreatDoor.Hy
namespace Go.Proofs.YtnghlkbmfhkmoaaGreatDoor.Hy
/-! ### records: what stands ahead, what behind -/
theorem dec_pos : ∀ (l : List Nat) (i v k : Nat), dec i l = .inr (v, k) → 1 ≤ k ∧ k ≤ l.length := by
  intro l
  induction l with
  | nil => intro i v k h; rw [dec_nil] at h; cases h
  | cons c r ih =>
    intro i v k h
    by_cases h9 : i = 9 ∧ 1 < c
    · obtain ⟨rfl, hx⟩ := h9
      rw [dec_big c r hx] at h; cases h
    · by_cases hc : c < 128
      · rw [dec_end i c r h9 hc] at h
        simp only [Sum.inr.injEq, Prod.mk.injEq] at h
        obtain ⟨_, rfl⟩ := h
        simp
      · rw [dec_on i c r h9 hc] at h
        cases hd : dec (i + 1) r with
        | inl y => rw [hd] at h; cases h
        | inr y =>
          obtain ⟨v', k'⟩ := y
          rw [hd] at h
          simp only [Sum.inr.injEq, Prod.mk.injEq] at h
          obtain ⟨_, rfl⟩ := h
          have := ih _ _ _ hd
          simp; omega
/-- A tag: its number, its type, how many bytes. -/
def tagL (b : List Nat) : Option (Nat × Nat × Nat) := match dec 0 b with
  | .inl _ => none
  | .inr (v, k) => if 1 ≤ v / 8 ∧ v / 8 < 536870912 then some (v / 8, v % 8, k) else none
theorem tagL_pos {b : List Nat} {n t k : Nat} (h : tagL b = some (n, t, k)) : 1 ≤ k ∧ k ≤ b.length ∧ 1 ≤ n ∧ n < 536870912 ∧ t < 8 := by
  unfold tagL at h
  cases hd : dec 0 b with
  | inl c => rw [hd] at h; cases h
  | inr x =>
    obtain ⟨v, k'⟩ := x
    rw [hd] at h
    simp only at h
    by_cases hv : 1 ≤ v / 8 ∧ v / 8 < 536870912
    · rw [if_pos hv] at h
      simp only [Option.some.injEq, Prod.mk.injEq] at h
      obtain ⟨rfl, rfl, rfl⟩ := h
      have := dec_pos _ _ _ _ hd
      omega
    · rw [if_neg hv] at h; cases h
/-- What stands behind a tag: how many bytes; g: a group's content. -/
def restG (g : Nat → Nat → List Nat → Option Nat) (d n t : Nat) (b : List Nat) : Option Nat :=
  if t = 0 then (match dec 0 b with | .inl _ => none | .inr (_, k) => some k)
  else if t = 1 then (if 8 ≤ b.length then some 8 else none)
  else if t = 5 then (if 4 ≤ b.length then some 4 else none)
  else if t = 2 then (match dec 0 b with | .inl _ => none | .inr (v, k) => if v ≤ b.length - k then some (k + v) else none)
  else if t = 3 then (if d = 0 then none else g (d - 1) n b)
  else none
/-- A group's content, up to its end's tag: d: groups that may be within; n: its number. -/
def grpL : Nat → Nat → Nat → List Nat → Option Nat
  | 0, _, _, _ => none
  | f + 1, d, n, b => match tagL b with
    | none => none
    | some (m, t, k1) => if t = 4 then (if m = n then some k1 else none) else
      match restG (grpL f) d m t (b.drop k1) with
      | none => none
      | some k2 => match grpL f d n (b.drop (k1 + k2)) with
        | none => none
        | some k3 => some (k1 + k2 + k3)
def restL (f : Nat) := restG (grpL f)
theorem restG_le {g : Nat → Nat → List Nat → Option Nat} {d n t k : Nat} {b : List Nat} (hg : ∀ d n k, g d n b = some k → k ≤ b.length) (h : restG g d n t b = some k) : k ≤ b.length := by
  unfold restG at h
  by_cases h0 : t = 0
  · rw [if_pos h0] at h
    cases hd : dec 0 b with
    | inl c => rw [hd] at h; cases h
    | inr x => obtain ⟨v, k'⟩ := x; rw [hd] at h; simp only [Option.some.injEq] at h; subst h; exact (dec_pos _ _ _ _ hd).2
  · rw [if_neg h0] at h
    by_cases h1 : t = 1
    · rw [if_pos h1] at h
      by_cases h8 : 8 ≤ b.length
      · rw [if_pos h8] at h; cases h; exact h8
      · rw [if_neg h8] at h; cases h
    · rw [if_neg h1] at h
      by_cases h5 : t = 5
      · rw [if_pos h5] at h
        by_cases h8 : 4 ≤ b.length
        · rw [if_pos h8] at h; cases h; exact h8
        · rw [if_neg h8] at h; cases h
      · rw [if_neg h5] at h
        by_cases h2 : t = 2
        · rw [if_pos h2] at h
          cases hd : dec 0 b with
          | inl c => rw [hd] at h; cases h
          | inr x =>
            obtain ⟨v, k'⟩ := x
            rw [hd] at h
            have := (dec_pos _ _ _ _ hd).2
            simp only at h
            by_cases hv : v ≤ b.length - k'
            · rw [if_pos hv] at h; cases h; omega
            · rw [if_neg hv] at h; cases h
        · rw [if_neg h2] at h
          by_cases h3 : t = 3
          · rw [if_pos h3] at h
            by_cases hd : d = 0
            · rw [if_pos hd] at h; cases h
            · rw [if_neg hd] at h; exact hg _ _ _ h
          · rw [if_neg h3] at h; cases h
theorem grpL_le : ∀ (f d n : Nat) (b : List Nat) (k : Nat), grpL f d n b = some k → 1 ≤ k ∧ k ≤ b.length := by
  intro f
  induction f with
  | zero => intro d n b k h; cases h
  | succ f ih =>
    intro d n b k h
    simp only [grpL] at h
    cases ht : tagL b with
    | none => rw [ht] at h; cases h
    | some x =>
      obtain ⟨m, t, k1⟩ := x
      obtain ⟨p1, p2, _⟩ := tagL_pos ht
      rw [ht] at h
      simp only at h
      by_cases h4 : t = 4
      · rw [if_pos h4] at h
        by_cases hm : m = n
        · rw [if_pos hm] at h; cases h; omega
        · rw [if_neg hm] at h; cases h
      · rw [if_neg h4] at h
        cases hr : restG (grpL f) d m t (b.drop k1) with
        | none => rw [hr] at h; cases h
        | some k2 =>
          rw [hr] at h
          simp only at h
          have q := restG_le (fun d n k e => (ih d n _ k e).2) hr
          rw [List.length_drop] at q
          cases hg : grpL f d n (b.drop (k1 + k2)) with
          | none => rw [hg] at h; cases h
          | some k3 =>
            rw [hg] at h
            simp only [Option.some.injEq] at h
            have := (ih _ _ _ _ hg).2
            rw [List.length_drop] at this
            omega
theorem restL_le {f d n t k : Nat} {b : List Nat} (h : restL f d n t b = some k) : k ≤ b.length := restG_le (fun d n k e => (grpL_le f d n b k e).2) h
theorem restG_congr {g g' : Nat → Nat → List Nat → Option Nat} {d n t : Nat} {b : List Nat} (h : ∀ d n, g d n b = g' d n b) : restG g d n t b = restG g' d n t b := by
  unfold restG; simp only [h]
/-- Fuel beyond the bytes tells no more. -/
theorem grpL_fuel : ∀ (f f' d n : Nat) (b : List Nat), b.length < f → b.length < f' → grpL f d n b = grpL f' d n b := by
  intro f
  induction f with
  | zero => intro f' d n b h _; omega
  | succ f ih =>
    intro f' d n b h h'
    obtain ⟨f', rfl⟩ : ∃ m, f' = m + 1 := ⟨f' - 1, by omega⟩
    simp only [grpL]
    cases ht : tagL b with
    | none => rfl
    | some x =>
      obtain ⟨m, t, k1⟩ := x
      obtain ⟨p1, p2, _⟩ := tagL_pos ht
      have e1 : restG (grpL f) d m t (b.drop k1) = restG (grpL f') d m t (b.drop k1) := restG_congr (fun d n => ih f' d n _ (by rw [List.length_drop]; omega) (by rw [List.length_drop]; omega))
      simp only [e1]
      by_cases h4 : t = 4
      · rw [if_pos h4, if_pos h4]
      · rw [if_neg h4, if_neg h4]
        cases hr : restG (grpL f') d m t (b.drop k1) with
        | none => rfl
        | some k2 =>
          simp only
          rw [ih f' d n (b.drop (k1 + k2)) (by rw [List.length_drop]; omega) (by rw [List.length_drop]; omega)]
/-! ### a record's value -/
def little : List Nat → Nat
  | [] => 0
  | c :: r => c + 256 * little r
def numV (t : Nat) (b : List Nat) : Nat :=
  if t = 0 then (match dec 0 b with | .inl _ => 0 | .inr (v, _) => v) else if t = 1 then little (b.take 8) else if t = 5 then little (b.take 4) else 0
def strV (t : Nat) (b : List Nat) : List Nat :=
  if t = 2 then (match dec 0 b with | .inl _ => [] | .inr (v, k) => (b.drop k).take v) else []
structure RecL where
  num : Nat
  type : Nat
  n : Nat
  s : List Nat
  raw : List Nat
/-- A record: what it tells, how many bytes. -/
def recL (d : Nat) (b : List Nat) : Option (RecL × Nat) := match tagL b with
  | none => none
  | some (m, t, k1) => match restL (b.length + 1) d m t (b.drop k1) with
    | none => none
    | some k2 => some (⟨m, t, numV t (b.drop k1), strV t (b.drop k1), b.take (k1 + k2)⟩, k1 + k2)
theorem recL_le {d k : Nat} {b : List Nat} {r : RecL} (h : recL d b = some (r, k)) : 1 ≤ k ∧ k ≤ b.length ∧ r.raw = b.take k ∧ r.raw.length = k := by
  unfold recL at h
  cases ht : tagL b with
  | none => rw [ht] at h; cases h
  | some x =>
    obtain ⟨m, t, k1⟩ := x
    obtain ⟨p1, p2, _⟩ := tagL_pos ht
    rw [ht] at h
    simp only at h
    cases hr : restL (b.length + 1) d m t (b.drop k1) with
    | none => rw [hr] at h; cases h
    | some k2 =>
      rw [hr] at h
      have q := restL_le hr
      rw [List.length_drop] at q
      simp only [Option.some.injEq, Prod.mk.injEq] at h
      obtain ⟨rfl, rfl⟩ := h
      exact ⟨by omega, by omega, rfl, by rw [List.length_take]; omega⟩
/-- Records one behind the other. -/
def allL : Nat → Nat → List Nat → Option (List RecL)
  | 0, _, _ => none
  | f + 1, d, b => if b = [] then some [] else match recL d b with
    | none => none
    | some (r, k) => match allL f d (b.drop k) with
      | none => none
      | some l => some (r :: l)
theorem allL_fuel : ∀ (f f' d : Nat) (b : List Nat), b.length < f → b.length < f' → allL f d b = allL f' d b := by
  intro f
  induction f with
  | zero => intro f' d b h _; omega
  | succ f ih =>
    intro f' d b h h'
    obtain ⟨f', rfl⟩ : ∃ m, f' = m + 1 := ⟨f' - 1, by omega⟩
    simp only [allL]
    by_cases hb : b = []
    · rw [if_pos hb, if_pos hb]
    · rw [if_neg hb, if_neg hb]
      cases hr : recL d b with
      | none => rfl
      | some x =>
        obtain ⟨r, k⟩ := x
        have := recL_le hr
        simp only
        rw [ih f' d (b.drop k) (by rw [List.length_drop]; omega) (by rw [List.length_drop]; omega)]
def recsL (d : Nat) (b : List Nat) : Option (List RecL) := allL (b.length + 1) d b
theorem recsL_nil (d : Nat) : recsL d [] = some [] := rfl
theorem recsL_step (d : Nat) (b : List Nat) (hb : b ≠ []) : recsL d b = match recL d b with
    | none => none
    | some (r, k) => match recsL d (b.drop k) with
      | none => none
      | some l => some (r :: l) := by
  unfold recsL
  rw [show allL (b.length + 1) d b = (if b = [] then some [] else match recL d b with
    | none => none
    | some (r, k) => match allL b.length d (b.drop k) with
      | none => none
      | some l => some (r :: l)) from rfl, if_neg hb]
  cases hr : recL d b with
  | none => rfl
  | some x =>
    obtain ⟨r, k⟩ := x
    have := recL_le hr
    simp only
    rw [allL_fuel b.length ((b.drop k).length + 1) d (b.drop k) (by rw [List.length_drop]; omega) (by omega)]
/-! ### the same, its fuel out of sight -/
def grp (d n : Nat) (b : List Nat) : Option Nat := grpL (b.length + 1) d n b
def rst (d n t : Nat) (b : List Nat) : Option Nat := restG grp d n t b
theorem rst_eq (f d n t : Nat) (b : List Nat) (hf : b.length < f) : restL f d n t b = rst d n t b := restG_congr (fun d n => grpL_fuel f (b.length + 1) d n b hf (by omega))
theorem grp_le {d n k : Nat} {b : List Nat} (h : grp d n b = some k) : 1 ≤ k ∧ k ≤ b.length := grpL_le _ _ _ _ _ h
theorem rst_le {d n t k : Nat} {b : List Nat} (h : rst d n t b = some k) : k ≤ b.length := restG_le (fun _ _ _ e => (grp_le e).2) h
theorem grp_none {d n : Nat} {b : List Nat} (h : tagL b = none) : grp d n b = none := by unfold grp; simp only [grpL, h]
theorem grp_end {d n m k : Nat} {b : List Nat} (h : tagL b = some (m, 4, k)) : grp d n b = if m = n then some k else none := by
  unfold grp; simp only [grpL, h, if_true]
theorem grp_fall {d n m t k : Nat} {b : List Nat} (h : tagL b = some (m, t, k)) (ht : t ≠ 4) (hr : rst d m t (b.drop k) = none) : grp d n b = none := by
  have p := tagL_pos h
  unfold grp; simp only [grpL, h, if_neg ht]
  have := rst_eq b.length d m t (b.drop k) (by rw [List.length_drop]; omega)
  unfold restL at this
  rw [this, hr]
theorem grp_on {d n m t k k2 : Nat} {b : List Nat} (h : tagL b = some (m, t, k)) (ht : t ≠ 4) (hr : rst d m t (b.drop k) = some k2) : grp d n b = (grp d n (b.drop (k + k2))).map (k + k2 + ·) := by
  have p := tagL_pos h
  unfold grp
  rw [show grpL (b.length + 1) d n b = _ from rfl]
  simp only [grpL, h, if_neg ht]
  have := rst_eq b.length d m t (b.drop k) (by rw [List.length_drop]; omega)
  unfold restL at this
  rw [this, hr]
  simp only
  have e := grpL_fuel b.length ((b.drop (k + k2)).length + 1) d n (b.drop (k + k2)) (by rw [List.length_drop]; omega) (by omega)
  unfold grp at *
  rw [e]
  simp only [grpL]
  cases hx : grpL ((b.drop (k + k2)).length + 1) d n (b.drop (k + k2)) with
  | none => simp only [grpL] at hx; rw [hx]; rfl
  | some x => simp only [grpL] at hx; rw [hx]; rfl
theorem rst_0 {d n : Nat} {b : List Nat} : rst d n 0 b = (match dec 0 b with | .inl _ => none | .inr (_, k) => some k) := rfl
theorem rst_1 {d n : Nat} {b : List Nat} : rst d n 1 b = if 8 ≤ b.length then some 8 else none := rfl
theorem rst_5 {d n : Nat} {b : List Nat} : rst d n 5 b = if 4 ≤ b.length then some 4 else none := rfl
theorem rst_2 {d n : Nat} {b : List Nat} : rst d n 2 b = (match dec 0 b with | .inl _ => none | .inr (v, k) => if v ≤ b.length - k then some (k + v) else none) := rfl
theorem rst_3 {d n : Nat} {b : List Nat} : rst d n 3 b = if d = 0 then none else grp (d - 1) n b := rfl
theorem rst_other {d n t : Nat} {b : List Nat} (h0 : t ≠ 0) (h1 : t ≠ 1) (h2 : t ≠ 2) (h3 : t ≠ 3) (h5 : t ≠ 5) : rst d n t b = none := by
  unfold rst restG; rw [if_neg h0, if_neg h1, if_neg h5, if_neg h2, if_neg h3]
theorem rec_none {d : Nat} {b : List Nat} (h : tagL b = none) : recL d b = none := by unfold recL; rw [h]
theorem rec_rst {d m t k : Nat} {b : List Nat} (h : tagL b = some (m, t, k)) : recL d b = (rst d m t (b.drop k)).map (fun k2 => (⟨m, t, numV t (b.drop k), strV t (b.drop k), b.take (k + k2)⟩, k + k2)) := by
  have p := tagL_pos h
  unfold recL; rw [h]
  simp only
  rw [rst_eq (b.length + 1) d m t (b.drop k) (by rw [List.length_drop]; omega)]
  cases rst d m t (b.drop k) <;> rfl
theorem dec_code : ∀ (l : List Nat) (i c : Nat), dec i l = .inl c → c = 1 ∨ c = 4 := by
  intro l
  induction l with
  | nil => intro i c h; rw [dec_nil] at h; injection h with h; exact .inl h.symm
  | cons x r ih =>
    intro i c h
    by_cases h9 : i = 9 ∧ 1 < x
    · obtain ⟨rfl, hx⟩ := h9
      rw [dec_big x r hx] at h; injection h with h; exact .inr h.symm
    · by_cases hx : x < 128
      · rw [dec_end i x r h9 hx] at h; cases h
      · rw [dec_on i x r h9 hx] at h
        cases hd : dec (i + 1) r with
        | inl y => rw [hd] at h; injection h with h; subst h; exact ih _ _ hd
        | inr y => rw [hd] at h; cases h
end Go.Proofs.YtnghlkbmfhkmoaaGreatDoor.Hy
namespace Go.Proofs.YtnghlkbmfhkmoaaGreatDoor
open Go.RowKit Go.Proofs.YtnghlkbmfhkmoaaGreatDoorW.PrintWords Hy
theorem below_next {w w1 w2 : World} (h : Below w.heap.size w w1) (h' : Below w1.heap.size w1 w2) : Below w.heap.size w w2 := h.trans (h'.mono h.size)
theorem bt_bs (s : ByteArray) (i : Nat) (h : i < s.size) : ∃ c r, (bs s).drop i = c :: r ∧ bt s (i : Int) = (c : Int) ∧ c < 256 ∧ (bs s).drop (i + 1) = r := by
  have hl : i < (bs s).length := by rw [bs_length]; exact h
  refine ⟨(bs s)[i], (bs s).drop (i + 1), List.drop_eq_getElem_cons hl, ?_, bs_ok s _ (List.getElem_mem hl), rfl⟩
  unfold bt
  rw [dif_pos (by simpa using h)]
  simp [bs]
  rfl
end Go.Proofs.YtnghlkbmfhkmoaaGreatDoor
namespace Go.Proofs.YtnghlkbmfhkmoaaGreatDoor
open Go.RowKit
/-- What an error tells. -/
inductive Err where
  | nil : Err
  | code : Int → Err
  | at_ : Int → Err → Err
  | fld : Int → Err → Err
  | oth : Err
/-- A value that tells an error, in a world. -/
def IsE (w : World) : Err → Value → Prop
  | .nil, v => v = .nilIface
  | .code c, v => v = .iface 36 (.int .i64 c)
  | .at_ n e, v => ∃ a u, v = .iface 162 (.pointer (some ⟨a, 0, none⟩)) ∧ w.heap[a]? = some (.cells #[.int .i64 n, u] 164 (0, 0)) ∧ IsE w e u
  | .fld _ _, _ => False
  | .oth, _ => False
theorem at_any (n : Int) (u : Value) (w : World) (h : ∃ T x, u = .iface T x) :
    Calls Tryz.prog 117 #[.int .i64 n, u] w fun e w' => e = .returned (.iface 162 (.pointer (some ⟨w.heap.size, 0, none⟩))) ∧ w' = w.alloc (.cells #[.int .i64 n, u] 164 (0, 0)) := by
  obtain ⟨T, x, rfl⟩ := h
  go_enter Tryz.func117, Tryz.ntmps117
  go_wp2
  go_ret
  exact ⟨rfl, rfl⟩
theorem IsE.below {w w' : World} {e : Err} : ∀ {v : Value}, IsE w e v → Below w.heap.size w w' → IsE w' e v := by
  induction e with
  | nil => intro v h _; exact h
  | code c => intro v h _; exact h
  | at_ n e ih =>
    intro v h hb
    obtain ⟨a, u, rfl, ha, hu⟩ := h
    exact ⟨a, u, rfl, by rw [hb.block a (Array.getElem?_eq_some_iff.1 ha).1]; exact ha, ih hu hb⟩
  | fld n e ih => intro v h _; exact h
  | oth => intro v h _; exact h
theorem IsE.iface {w : World} {e : Err} {v : Value} (h : IsE w e v) (he : e ≠ .nil) : ∃ T x, v = .iface T x := by
  cases e with
  | nil => exact absurd rfl he
  | code c => exact ⟨_, _, h⟩
  | at_ n e => obtain ⟨a, u, rfl, _⟩ := h; exact ⟨_, _, rfl⟩
  | fld n e => exact h.elim
  | oth => exact h.elim
theorem IsE.new {w : World} {n : Int} {e : Err} {u : Value} (h : IsE w e u) : IsE (w.alloc (.cells #[.int .i64 n, u] 164 (0, 0))) (.at_ n e) (.iface 162 (.pointer (some ⟨w.heap.size, 0, none⟩))) :=
  ⟨_, _, rfl, heap_alloc_new _ _, h.below ((Below.refl _ _).alloc (Nat.le_refl _) _)⟩
end Go.Proofs.YtnghlkbmfhkmoaaGreatDoor
