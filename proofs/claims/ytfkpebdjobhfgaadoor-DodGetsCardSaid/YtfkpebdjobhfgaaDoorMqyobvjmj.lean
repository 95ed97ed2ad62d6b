import Derived.Test.YtfkpebdjobhfgaaDoorProg
import Derived.Test.YtfkpebdjobhfgaaDoorWWords
import Derived.Lib.Strings
import Derived.Lib.Slices
import Derived.Lib.Walk
import Derived.Lib.Builder
import Derived.Lib.AppendStr
import Derived.Lib.UnsafeStr
import Derived.Lib.MakeNoZero
import Derived.WalkKit
import Derived.RegionTactic
import Derived.Laws.Externs
import Derived.Laws.IdiomCopy
import Derived.Laws.BitsLemmas
import Derived.Test.YtfkpebdjobhfgaaDoorMsrebcxpn
import Derived.Test.YtfkpebdjobhfgaaDoorWLast
import Derived.Test.YtfkpebdjobhfgaaDoorWMore
import Derived.Below
import Derived.Test.YtfkpebdjobhfgaaDoorPDodGetsx
set_option linter.unusedVariables false
namespace Go.Proofs.YtfkpebdjobhfgaaDoor
open Go.RowKit

/-! ### strings.Builder at a builder of the call's own (the laws of Derived/Lib/Builder and its kin) -/
theorem bld_info : (Tryd.prog.info? 5).map (fun i => (i.zero, i.size, i.bytes)) = some (some (.int .u8 0), 1, 1) := by kernel_rfl
theorem bld_size : (Tryd.prog.info? 65).map (·.size) = some 2 := by kernel_rfl
theorem bld_lies : liesAt Tryd.prog Tryd.prog.depth 65 (2 / Tryd.prog.cellsOf 65) 0 65 1 = true := by kernel_rfl

set_option maxHeartbeats 1000000 in
set_option maxRecDepth 100000 in
theorem bld_check_used (b : Nat) (w : World) (h0 : w.cell? ⟨b, 0, none⟩ = some (.pointer (some ⟨b, 0, none⟩))) :
    Calls Tryd.prog 38 #[.pointer (some ⟨b, 0, none⟩)] w fun e w' => e = .returned (.tuple #[]) ∧ w' = w := by
  obtain ⟨j, hj, _⟩ := Option.map_eq_some_iff.1 bld_size
  go_enter Tryd.func38, Tryd.ntmps38
  go_wp2
  rw [Lib.run_neq_ptr_same w _ Tryd.underlying63 hj]
  go_wp2
  go_end0
  exact ⟨rfl, rfl⟩

set_option maxHeartbeats 1000000 in
set_option maxRecDepth 100000 in
theorem bld_check_fresh (b : Nat) (w : World) (h0 : w.cell? ⟨b, 0, none⟩ = some (.pointer none)) (hsh : w.shape? b = some (65, 2)) (hfz : w.frozen? ⟨b, 0, none⟩ = false) :
    Calls Tryd.prog 38 #[.pointer (some ⟨b, 0, none⟩)] w fun e w' => e = .returned (.tuple #[]) ∧ w' = w.setCell ⟨b, 0, none⟩ (.pointer (some ⟨b, 0, none⟩)) := by
  obtain ⟨j, hj, hjs⟩ := Option.map_eq_some_iff.1 bld_size
  go_enter Tryd.func38, Tryd.ntmps38
  go_wp2
  rw [Lib.run_to_unsafe w ⟨b, 0, none⟩ Tryd.underlying63 Tryd.underlying72 hj (by rw [hjs]; decide) hsh (Nat.zero_lt_succ 1)]
  simp only [Result.andThen]
  rw [Oper.upon_value]
  go_wp2
  rw [run_callFunc_extern Tryd.func42 (by kernel_rfl) (by kernel_rfl) (by kernel_rfl) (e := Extern.AbiNoEscape.same) (by kernel_rfl)]
  rw [Lib.run_noEscape]
  simp only [Result.andThen]
  rw [Oper.upon_value]
  go_wp2
  rw [Lib.run_from_unsafe w ⟨b, 0, none⟩ Tryd.underlying72 Tryd.underlying63 hj hsh bld_lies]
  simp only [Result.andThen]
  rw [Oper.upon_value]
  go_wp2
  go_end0
  exact ⟨rfl, rfl⟩

theorem bld_check (B b : Nat) (bs : List Value) (w : World) (h : Lib.IsBuilder 65 5 B b bs w) :
    Calls Tryd.prog 38 #[.pointer (some ⟨b, 0, none⟩)] w fun e w' => e = .returned (.tuple #[]) ∧ (Lib.BuilderAt 65 5 B b (.pointer (some ⟨b, 0, none⟩)) bs w' ∧ Below B w w') := by
  rcases h with h | h
  · refine (bld_check_fresh b w h.cell0 h.shape h.frozen0).mono ?_
    rintro e w' ⟨rfl, rfl⟩
    exact ⟨rfl, h.used _, (Below.refl B w).setCell (p := ⟨b, 0, none⟩) h.1 _⟩
  · refine (bld_check_used b w h.cell0).mono ?_
    rintro e w' ⟨rfl, rfl⟩
    exact ⟨rfl, h, Below.refl B _⟩

set_option maxHeartbeats 2000000 in
set_option maxRecDepth 100000 in
theorem bld_write (B b : Nat) (bs : List Value) (s : ByteArray) (w : World) (h : Lib.IsBuilder 65 5 B b bs w) (hlen : bs.length + s.size ≤ 140737488355328) (hBw : B ≤ w.heap.size) :
    Calls Tryd.prog 28 #[.pointer (some ⟨b, 0, none⟩), .string s] w fun e w' => e = .returned (.tuple #[.int .i64 s.size, .nilIface]) ∧ (Lib.BuilderAt 65 5 B b (.pointer (some ⟨b, 0, none⟩)) (bs ++ Lib.strCells s) w' ∧ Below B w w') := by
  obtain ⟨i0, hi, hz0, hz1, hz2⟩ := info_parts bld_info
  go_enter Tryd.func28, Tryd.ntmps28
  go_wp2_with (go_at_call 38; refine (bld_check B b bs _ h).mono ?_)
  rintro e w1 ⟨rfl, h1, hb1⟩
  obtain ⟨hB, v, hbk, hown, hne⟩ := h1
  have c0 : w1.cell? ⟨b, 0, none⟩ = some (.pointer (some ⟨b, 0, none⟩)) := by rw [Lib.cell_of_heap hbk]; rfl
  have c1 : w1.cell? ⟨b, 1, none⟩ = some v := by rw [Lib.cell_of_heap hbk]; rfl
  go_wp2_with (at_builtin; refine Lib.wpList_append_own_string _ rfl _ _ 24 9 rfl B 5 i0 Tryd.underlying24 Tryd.underlying9 hi hz0 hz1 hz2 _ _ _ rfl hown s rfl ?c3 ?c4 ?c5 ?_)
  case c3 => unfold maxLen; omega
  case c4 => omega
  case c5 => have := hb1.size; omega
  intro v' w2 hown' hgrow _
  have hlt : b < w1.heap.size := by
    rcases Nat.lt_or_ge b w1.heap.size with h' | h'
    · exact h'
    · simp [Array.getElem?_eq_none h'] at hbk
  have hb2 : w2.heap[b]? = some (.cells #[.pointer (some ⟨b, 0, none⟩), v] 65 (0, 0)) := by
    rw [hgrow.block b hlt (fun e => hne e.symm)]
    exact hbk
  have d0 : w2.cell? ⟨b, 0, none⟩ = some (.pointer (some ⟨b, 0, none⟩)) := by rw [Lib.cell_of_heap hb2]; rfl
  have d1 : w2.cell? ⟨b, 1, none⟩ = some v := by rw [Lib.cell_of_heap hb2]; rfl
  have f1 : w2.frozen? ⟨b, 1, none⟩ = false := Lib.frozen_of_heap hb2 1
  obtain ⟨ao, n', cap, rfl⟩ : ∃ ao n' cap, v' = .slice ao n' cap := by
    rcases hown'.2 with ⟨hv, _⟩ | ⟨g, cap, cur, hv, _⟩
    · exact ⟨_, _, _, hv⟩
    · exact ⟨_, _, _, hv⟩
  go_wp2
  go_ret2
  refine ⟨rfl, ?_, ?_⟩
  · exact Lib.BuilderAt.put (T := 65) (e := 5) hB hb2 (bs' := bs ++ Lib.strCells s) (by simpa [Lib.strCells_length] using hown') (by decide)
  · exact (hb1.grown hgrow (by have := hb1.size; omega) (fun k hk => (hown.lt k hk).1)).setCell (p := ⟨b, 1, none⟩) hB _

set_option maxHeartbeats 1000000 in
set_option maxRecDepth 100000 in
theorem bld_string_some (B b : Nat) (l : List UInt8) (w : World) (h : Lib.IsBuilder 65 5 B b (Lib.byteCells l) w) (h0 : l ≠ []) :
    Calls Tryd.prog 29 #[.pointer (some ⟨b, 0, none⟩)] w fun e w' => e = .returned (.string ⟨l.toArray⟩) ∧ Below B w w' := by
  obtain ⟨p, hB, v, hbk, hown, hne⟩ : ∃ p, Lib.BuilderAt 65 5 B b p (Lib.byteCells l) w := by
    rcases h with h | h
    · exact ⟨_, h⟩
    · exact ⟨_, h⟩
  have hl0 : l.length ≠ 0 := by simpa using h0
  rw [Lib.byteCells_length] at hown
  obtain ⟨g, cap, cur, rfl, hbg, hg, hnc, hcm, hcs, htake⟩ : ∃ g cap cur, v = .slice (some ⟨g, 0, none⟩) l.length cap ∧ B ≤ g ∧ w.heap[g]? = some (.cells cur 5 (0, 0)) ∧ l.length ≤ cap ∧ cap ≤ maxLen ∧ cur.size = cap * 1 ∧ cur.toList.take (l.length * 1) = Lib.byteCells l := by
    rcases hown.2 with ⟨_, hz⟩ | ⟨g, cap, cur, hv, r⟩
    · exact absurd hz hl0
    · exact ⟨g, cap, cur, hv, r⟩
  have c1 : w.drew.cell? ⟨b, 1, none⟩ = some (.slice (some ⟨g, 0, none⟩) l.length cap) := by
    have : w.drew.heap[b]? = some (.cells #[p, .slice (some ⟨g, 0, none⟩) l.length cap] 65 (0, 0)) := hbk
    rw [Lib.cell_of_heap this]; rfl
  have hSD : (Builtin.unsafeSliceData_ #[24] 84 #[.slice (some ⟨g, 0, none⟩) l.length cap]).run Tryd.prog w.drew = .ok (.pointer (some ⟨g, 0, none⟩)) w.drew :=
    Lib.run_unsafeSliceData_row _ _ _ _ _ _ (by omega)
  have hUS : (Builtin.unsafeString_ #[84, 3] 9 #[.pointer (some ⟨g, 0, none⟩), .int .i64 l.length]).run Tryd.prog w.drew = .ok (.string ⟨l.toArray⟩) (w.drew.freeze ⟨g, 0, none⟩ l.length) := by
    refine Lib.run_unsafeString_row w.drew 84 3 9 5 Tryd.underlying84 (by kernel_rfl) g cur.size (by have hg' : w.drew.heap[g]? = some (.cells cur 5 (0, 0)) := hg; simp [World.shape?, hg']) l h0 (by omega) (by unfold maxLen at hcm; omega) ?_
    intro j x hx
    have := hown.cells (g := g) rfl j (.int .u8 x.toNat) (by simp [Lib.byteCells, hx])
    exact this
  go_enter Tryd.func29, Tryd.ntmps29
  go_wp2
  go_region
  all_goals (go_wp2; go_ret; exact ⟨rfl, Lib.below_freeze (Below.drew (Below.refl B w)) (p := ⟨g, 0, none⟩) hbg _⟩)

theorem bld_us_none (W : World) (q : Option Addr) : (Builtin.unsafeString_ #[84, 3] 9 #[.pointer q, .int .i64 0]).run Tryd.prog W = .ok (.string .empty) W :=
  Lib.run_unsafeString_none W _ _ _ q

set_option maxHeartbeats 2000000 in
set_option maxRecDepth 100000 in
theorem bld_string_nil (B b : Nat) (p : Value) (w : World) (hbk : w.heap[b]? = some (.cells #[p, .slice none 0 0] 65 (0, 0))) :
    Calls Tryd.prog 29 #[.pointer (some ⟨b, 0, none⟩)] w fun e w' => e = .returned (.string ⟨#[]⟩) ∧ Below B w w' := by
  have hUS := bld_us_none
  have c1 : w.drew.cell? ⟨b, 1, none⟩ = some (.slice none 0 0) := by
    have : w.drew.heap[b]? = some (.cells #[p, .slice none 0 0] 65 (0, 0)) := hbk
    rw [Lib.cell_of_heap this]; rfl
  have hSD : (Builtin.unsafeSliceData_ #[24] 84 #[.slice none 0 0]).run Tryd.prog w.drew = .ok (.pointer none) w.drew := rfl
  go_enter Tryd.func29, Tryd.ntmps29
  go_wp2
  go_region
  all_goals (go_wp2; go_ret; exact ⟨rfl, Below.drew (Below.refl B w)⟩)

set_option maxHeartbeats 2000000 in
set_option maxRecDepth 100000 in
theorem bld_string_noroom (B b g : Nat) (p : Value) (cur : Array Value) (w : World) (hBw : B ≤ w.heap.size) (hbk : w.heap[b]? = some (.cells #[p, .slice (some ⟨g, 0, none⟩) 0 0] 65 (0, 0))) (hg : w.heap[g]? = some (.cells cur 5 (0, 0))) :
    Calls Tryd.prog 29 #[.pointer (some ⟨b, 0, none⟩)] w fun e w' => e = .returned (.string ⟨#[]⟩) ∧ Below B w w' := by
  have hUS := bld_us_none
  have hlt : b < w.heap.size := by
    rcases Nat.lt_or_ge b w.heap.size with h' | h'
    · exact h'
    · simp [Array.getElem?_eq_none h'] at hbk
  have c1 : w.drew.cell? ⟨b, 1, none⟩ = some (.slice (some ⟨g, 0, none⟩) 0 0) := by
    have : w.drew.heap[b]? = some (.cells #[p, .slice (some ⟨g, 0, none⟩) 0 0] 65 (0, 0)) := hbk
    rw [Lib.cell_of_heap this]; rfl
  have hSD : (Builtin.unsafeSliceData_ #[24] 84 #[.slice (some ⟨g, 0, none⟩) 0 0]).run Tryd.prog w.drew = .ok (.pointer (some ⟨w.drew.heap.size, 0, none⟩)) (w.drew.alloc (.view ⟨g, 0, none⟩ 5)) :=
    Lib.run_unsafeSliceData_zero w.drew _ _ 5 Tryd.underlying84 ⟨g, 0, none⟩ 0 (5, cur.size) (by have hg' : w.drew.heap[g]? = some (.cells cur 5 (0, 0)) := hg; simp [World.shape?, hg'])
  have c2 : (w.drew.alloc (.view ⟨g, 0, none⟩ 5)).cell? ⟨b, 1, none⟩ = some (.slice (some ⟨g, 0, none⟩) 0 0) := by
    have : (w.drew.alloc (.view ⟨g, 0, none⟩ 5)).heap[b]? = _ := (Lib.alloc_old w.drew _ b hlt).trans hbk
    rw [Lib.cell_of_heap this]; rfl
  have c3 : (w.alloc (.view ⟨g, 0, none⟩ 5)).drew.cell? ⟨b, 1, none⟩ = some (.slice (some ⟨g, 0, none⟩) 0 0) := c2
  have c0 : w.cell? ⟨b, 1, none⟩ = some (.slice (some ⟨g, 0, none⟩) 0 0) := c1
  go_enter Tryd.func29, Tryd.ntmps29
  go_wp2
  go_region
  all_goals (go_wp2; go_ret; exact ⟨rfl, (Below.drew (Below.refl B w)).alloc hBw _⟩)

set_option maxHeartbeats 2000000 in
set_option maxRecDepth 100000 in
theorem bld_string_room (B b g cap : Nat) (p : Value) (w : World) (hc0 : cap ≠ 0) (hbk : w.heap[b]? = some (.cells #[p, .slice (some ⟨g, 0, none⟩) 0 cap] 65 (0, 0))) :
    Calls Tryd.prog 29 #[.pointer (some ⟨b, 0, none⟩)] w fun e w' => e = .returned (.string ⟨#[]⟩) ∧ Below B w w' := by
  have hUS := bld_us_none
  have c1 : w.drew.cell? ⟨b, 1, none⟩ = some (.slice (some ⟨g, 0, none⟩) 0 cap) := by
    have : w.drew.heap[b]? = some (.cells #[p, .slice (some ⟨g, 0, none⟩) 0 cap] 65 (0, 0)) := hbk
    rw [Lib.cell_of_heap this]; rfl
  have hSD : (Builtin.unsafeSliceData_ #[24] 84 #[.slice (some ⟨g, 0, none⟩) 0 cap]).run Tryd.prog w.drew = .ok (.pointer (some ⟨g, 0, none⟩)) w.drew :=
    Lib.run_unsafeSliceData_row _ _ _ _ _ _ hc0
  clear hc0
  go_enter Tryd.func29, Tryd.ntmps29
  go_wp2
  go_region
  all_goals (go_wp2; go_ret; exact ⟨rfl, Below.drew (Below.refl B w)⟩)

theorem bld_string (B b : Nat) (l : List UInt8) (w : World) (h : Lib.IsBuilder 65 5 B b (Lib.byteCells l) w) (hBw : B ≤ w.heap.size) :
    Calls Tryd.prog 29 #[.pointer (some ⟨b, 0, none⟩)] w fun e w' => e = .returned (.string ⟨l.toArray⟩) ∧ Below B w w' := by
  by_cases h0 : l = []
  · subst h0
    obtain ⟨p, hB, v, hbk, hown, hne⟩ : ∃ p, Lib.BuilderAt 65 5 B b p [] w := by
      rcases h with h | h
      · exact ⟨_, h⟩
      · exact ⟨_, h⟩
    rcases hown.2 with ⟨rfl, _⟩ | ⟨g, cap, cur, rfl, hbg, hg, _, _, _, _⟩
    · exact bld_string_nil B b p w hbk
    · by_cases hc0 : cap = 0
      · subst hc0
        exact bld_string_noroom B b g p cur w hBw hbk hg
      · exact bld_string_room B b g cap p w hc0 hbk
  · exact bld_string_some B b l w h h0

theorem bld_below {T e : TypeId} {B b : Nat} {bs : List Value} {w w1 : World} (h : Lib.IsBuilder T e B b bs w) (hb : Below w.heap.size w w1) : Lib.IsBuilder T e B b bs w1 := by
  have go : ∀ p, Lib.BuilderAt T e B b p bs w → Lib.BuilderAt T e B b p bs w1 := by
    intro p h
    have hlt := h.lt
    obtain ⟨hB, v, hh, ho, hne⟩ := h
    exact ⟨hB, v, by rw [hb.block b hlt]; exact hh, Go.Proofs.YtfkpebdjobhfgaaDoorW.PrintWords.pw_own_below ho hb, hne⟩
  rcases h with h | h
  · exact .inl (go _ h)
  · exact .inr (go _ h)
theorem bld_drewN {T e : TypeId} {B b : Nat} {bs : List Value} {w : World} {n : Nat} (h : Lib.IsBuilder T e B b bs w) : Lib.IsBuilder T e B b bs (w.drewN n) :=
  bld_below h (Go.Proofs.YtfkpebdjobhfgaaDoorW.PrintWords.pw_below_drewN (Below.refl _ _) n)
theorem bld_at {T e : TypeId} {B b : Nat} {bs : List Value} {w : World} (h : Lib.BuilderAt T e B b (.pointer (some ⟨b, 0, none⟩)) bs w) : Lib.IsBuilder T e B b bs w := .inr h
theorem strCells_append (a b : ByteArray) : Lib.strCells a ++ Lib.strCells b = Lib.strCells (a ++ b) := by
  unfold Lib.strCells
  rw [ByteArray.data_append]; simp
theorem bld_new (T e : TypeId) (w : World) : Lib.IsBuilder T e w.heap.size w.heap.size [] (w.alloc (.cells #[.pointer none, .slice none 0 0] T)) :=
  .inl ⟨Nat.le_refl _, _, heap_alloc_new _ _, Go.Proofs.YtfkpebdjobhfgaaDoorW.PrintWords.own_nil _ _ _ _, by simp [Value.ownBlock]⟩
end Go.Proofs.YtfkpebdjobhfgaaDoor
namespace Go.Proofs.YtfkpebdjobhfgaaDoor
open Go.RowKit Go.Proofs.YtfkpebdjobhfgaaDoorW.PrintWords Go.Proofs.YtfkpebdjobhfgaaDoorW.PrintLast Go.Proofs.YtfkpebdjobhfgaaDoorW.PrintMore Hy

theorem cellAt {w : World} {A : Option Addr} {l : List Int} {ik : IntKind} (h : Kd.C (Kd.int ik) w A l.length l) (k : Nat) (hk : k < l.length) : ∃ ad, A = some ad ∧ w.cell? (ad.add k) = some (.int ik (l[k])) := by
  obtain ⟨ad, e, hx⟩ := Kd.at_int h (k : Int) (by omega) (by omega)
  refine ⟨ad, e, ?_⟩
  simpa [rd, List.getD_eq_getElem?_getD, hk] using hx

theorem R_C {α : Type} {d : Kd α} {e : Nat} {w : World} {base : Nat} {ok : Nat → Prop} {A : Option Addr} {n c : Nat} {xs : List α} (h : d.R e w base ok (.slice A n c) xs) : d.C w A xs.length xs ∧ n = xs.length ∧ xs.length ≤ c := by
  obtain ⟨A', c', e, hl, hc⟩ := Kd.R_reads h
  injection e with e1 e2 e3
  subst e1; subst e3
  exact ⟨hc, e2, hl⟩
theorem info_u64 : (Tryd.prog.info? 22).map (fun i => (i.zero, i.size, i.bytes)) = some (some (.int .u64 0), 1, 8) := by kernel_rfl

theorem C_lit (W : World) (k : IntKind) (xs : List Int) (e : TypeId) (hm : xs.length ≤ 9223372036854775807) : Kd.C (Kd.int k) (W.alloc (.cells (nums k xs).toArray e)) (some ⟨W.heap.size, 0, none⟩) xs.length xs := by
  have h := own_lit W 0 e k xs (by omega) hm
  obtain ⟨A, c, e1, h2⟩ := own_reads h
  injection e1 with e1 e2 e3
  subst e1
  exact Kd.C_of_reads (d := (0 : Int)) (h1 := fun _ => rfl) h2

/-- string([]byte{x}) -/
theorem conv_byte (x : Int) (W : World) (n : Nat) : (convert 24 9 (.slice (some ⟨W.heap.size, 0, none⟩) 1 1)).run Tryd.prog ((W.drewN n).alloc (.cells #[.int .u8 x] 5)) = .ok (.string (st [x.toNat])) ((W.drewN n).alloc (.cells #[.int .u8 x] 5)) := by
  have h := own_lit (W.drewN n) 0 5 .u8 [x] (by omega) (by simp)
  have h2 := own_string (P := Tryd.prog) Tryd.underlying24 Tryd.underlying5 Tryd.underlying9 h
  exact h2
theorem nums_l0 (a b : List Int) (h : a.length = b.length) (hb : a.length ≤ 140737488355328) : ∀ (d i k : Nat), i + d = a.length → d < k → PDodGets.hygref_Nums.l0 k a b (i : Int) = some (decide (a.drop i = b.drop i)) := by
  intro d
  induction d with
  | zero =>
    intro i k hi hk
    obtain ⟨k, rfl⟩ : ∃ m, k = m + 1 := ⟨k - 1, by omega⟩
    simp only [PDodGets.hygref_Nums.l0]
    rw [if_neg (by omega), List.drop_of_length_le (by omega), List.drop_of_length_le (by omega)]
    simp
  | succ d ih =>
    intro i k hi hk
    obtain ⟨k, rfl⟩ : ∃ m, k = m + 1 := ⟨k - 1, by omega⟩
    have hi1 : i < a.length := by omega
    have hi2 : i < b.length := by omega
    have ra : rd a (i : Int) = a[i] := by simp [rd, List.getD_eq_getElem?_getD, hi1]
    have rb : rd b (i : Int) = b[i] := by simp [rd, List.getD_eq_getElem?_getD, hi2]
    simp only [PDodGets.hygref_Nums.l0]
    rw [if_pos (by omega), if_pos (by omega), if_pos (by omega), ra, rb]
    have hd : (a.drop i = b.drop i) ↔ (a[i] = b[i] ∧ a.drop (i + 1) = b.drop (i + 1)) := by
      rw [List.drop_eq_getElem_cons hi1, List.drop_eq_getElem_cons hi2, List.cons.injEq]
    by_cases he : a[i] = b[i]
    · rw [if_pos he, show wrap64 ((i : Int) + 1) = ((i + 1 : Nat) : Int) by unfold wrap64; omega, ih (i + 1) k (by omega) (by omega)]
      rw [show decide (a.drop i = b.drop i) = decide (a.drop (i + 1) = b.drop (i + 1)) from decide_eq_decide.2 (hd.trans ⟨fun h => h.2, fun h => ⟨he, h⟩⟩)]
    · rw [if_neg he, decide_eq_false (fun e => he (hd.1 e).1)]
theorem nums_f (a b : List Int) (hb : a.length ≤ 140737488355328) : PDodGets.hygref_Nums.f (a.length + 1) a b = some (decide (a = b)) := by
  unfold PDodGets.hygref_Nums.f
  by_cases h : a.length = b.length
  · rw [if_pos (by omega)]
    have := nums_l0 a b h hb a.length 0 (a.length + 1) (by omega) (by omega)
    simpa using this
  · rw [if_neg (by omega)]
    simp
    intro e; exact h (by rw [e])
theorem nums_any (A : Option Addr) (c : Nat) (l : List Int) (A' : Option Addr) (c' : Nat) (l' : List Int) (w : World) (hr : Kd.C (Kd.int .u64) w A l.length l) (hc : l.length ≤ c) (hr' : Kd.C (Kd.int .u64) w A' l'.length l') (hc' : l'.length ≤ c') (hl : l.length ≤ 140737488355328) :
    Calls Tryd.prog 18 #[.slice A l.length c, .slice A' l'.length c'] w fun e w' => e = .returned (.bool (decide (l = l'))) ∧ Drawn0 w w' :=
  PDodGets.hygref_Nums.calls (l.length + 1) A c l A' c' l' _ w hr hc hr' hc' (nums_f l l' hl)
end Go.Proofs.YtfkpebdjobhfgaaDoor
namespace Go.Proofs.YtfkpebdjobhfgaaDoor
open Go.RowKit Go.Proofs.YtfkpebdjobhfgaaDoorW.PrintWords Go.Proofs.YtfkpebdjobhfgaaDoorW.PrintLast Go.Proofs.YtfkpebdjobhfgaaDoorW.PrintMore Hy

/-- One more of the row is set. -/
theorem set_fill (i L : Nat) (n : Int) (h : i < L) : (List.replicate i n ++ List.replicate (L - i) (0 : Int)).set i n = List.replicate (i + 1) n ++ List.replicate (L - (i + 1)) (0 : Int) := by
  rw [List.set_append_right _ _ (by simp), List.length_replicate, Nat.sub_self]
  obtain ⟨m, hm⟩ : ∃ m, L - i = m + 1 := ⟨L - i - 1, by omega⟩
  rw [hm, show L - (i + 1) = m by omega, List.replicate_succ, List.set_cons_zero, List.replicate_succ' (n := i), List.append_assoc]
  rfl
theorem fill_len (i L : Nat) (n : Int) (h : i ≤ L) : (List.replicate i n ++ List.replicate (L - i) (0 : Int)).length = L := by simp; omega
end Go.Proofs.YtfkpebdjobhfgaaDoor
namespace Go.Proofs.YtfkpebdjobhfgaaDoor.Hy
open Go.RowKit

/-! ### differences of differences -/
def guess (l : List Int) : Int := match l.reverse with
  | [] => 0
  | [a] => a
  | a :: b :: _ => (2 * a - b) % 18446744073709551616
def off (l : List Int) (n : Int) : Int := if l = [] then (n - guess l) % 18446744073709551616 else zig (wrap64 ((n - guess l) % 18446744073709551616))
def unoff (l : List Int) (v : Int) : Int := (guess l + (if l = [] then v else zag v % 18446744073709551616)) % 18446744073709551616
theorem guess_range (l : List Int) (h : u64s l) : 0 ≤ guess l ∧ guess l < 18446744073709551616 := by
  unfold guess
  split
  · omega
  · rename_i a e
    have : a ∈ l := List.mem_reverse.1 (by rw [e]; simp)
    exact h a this
  · omega
theorem off_range (l : List Int) (n : Int) : 0 ≤ off l n ∧ off l n < 18446744073709551616 := by
  unfold off
  split
  · omega
  · exact zig_range _ (by unfold wrap64; omega) (by unfold wrap64; omega)
theorem unoff_range (l : List Int) (v : Int) : 0 ≤ unoff l v ∧ unoff l v < 18446744073709551616 := by unfold unoff; omega
theorem unoff_first (l : List Int) (v : Int) (h : l.length = 0) : (guess l + v) % 18446744073709551616 = unoff l v := by
  unfold unoff
  rw [if_pos (List.eq_nil_of_length_eq_zero h)]
theorem unoff_next (l : List Int) (v : Int) (h : l.length ≠ 0) : (guess l + zag v % 18446744073709551616) % 18446744073709551616 = unoff l v := by
  unfold unoff
  rw [if_neg (fun e => h (by rw [e]; rfl))]
theorem unoff_off (l : List Int) (n : Int) (h : 0 ≤ n ∧ n < 18446744073709551616) : unoff l (off l n) = n := by
  unfold unoff off
  split
  · omega
  · rw [zag_zig]; unfold wrap64; omega
theorem off_unoff (l : List Int) (v : Int) (h : 0 ≤ v ∧ v < 18446744073709551616) : off l (unoff l v) = v := by
  unfold unoff off
  split
  · omega
  · have hz := zag_range v h.1 h.2
    rw [show wrap64 (((guess l + zag v % 18446744073709551616) % 18446744073709551616 - guess l) % 18446744073709551616) = zag v by unfold wrap64; omega, zig_zag v h.1]
/-- The numbers that are written behind those of acc. -/
def offs : List Int → List Int → List Int
  | _, [] => []
  | acc, n :: l => off acc n :: offs (acc ++ [n]) l
def unoffs : List Int → List Int → List Int
  | acc, [] => acc
  | acc, v :: vs => unoffs (acc ++ [unoff acc v]) vs
theorem offs_range (acc l : List Int) : u64s (offs acc l) := by
  induction l generalizing acc with
  | nil => intro x hx; simp [offs] at hx
  | cons n l ih =>
    intro x hx
    rcases List.mem_cons.1 hx with rfl | hx
    · exact off_range acc n
    · exact ih _ x hx
theorem offs_length (acc l : List Int) : (offs acc l).length = l.length := by
  induction l generalizing acc with
  | nil => rfl
  | cons n l ih => simp [offs, ih]
theorem unoffs_offs (acc l : List Int) (h : u64s l) : unoffs acc (offs acc l) = acc ++ l := by
  induction l generalizing acc with
  | nil => simp [offs, unoffs]
  | cons n l ih =>
    simp only [offs, unoffs]
    rw [unoff_off acc n (h n List.mem_cons_self), ih _ (fun x hx => h x (List.mem_cons_of_mem _ hx))]
    simp
theorem unoffs_split (acc vs : List Int) : ∃ l, unoffs acc vs = acc ++ l ∧ l.length = vs.length ∧ u64s l ∧ (u64s vs → offs acc l = vs) := by
  induction vs generalizing acc with
  | nil => exact ⟨[], by simp [unoffs], rfl, fun x hx => by simp at hx, fun _ => rfl⟩
  | cons v vs ih =>
    obtain ⟨l, h1, h2, h3, h4⟩ := ih (acc ++ [unoff acc v])
    refine ⟨unoff acc v :: l, by simp [unoffs, h1], by simp [h2], ?_, ?_⟩
    · intro x hx
      rcases List.mem_cons.1 hx with rfl | hx
      · exact unoff_range acc v
      · exact h3 x hx
    · intro hv
      simp only [offs]
      rw [off_unoff acc v (hv v List.mem_cons_self), h4 (fun x hx => hv x (List.mem_cons_of_mem _ hx))]
theorem unoffs_length (acc vs : List Int) : (unoffs acc vs).length = acc.length + vs.length := by
  obtain ⟨l, h1, h2, _⟩ := unoffs_split acc vs
  rw [h1, List.length_append, h2]
theorem unoffs_snoc (acc vs : List Int) (v : Int) : unoffs acc (vs ++ [v]) = unoffs acc vs ++ [unoff (unoffs acc vs) v] := by
  induction vs generalizing acc with
  | nil => rfl
  | cons x vs ih => simp only [List.cons_append, unoffs]; exact ih _
theorem offs_snoc (acc l : List Int) (n : Int) : offs acc (l ++ [n]) = offs acc l ++ [off (acc ++ l) n] := by
  induction l generalizing acc with
  | nil => simp [offs]
  | cons x l ih => simp only [List.cons_append, offs]; rw [ih]; simp
end Go.Proofs.YtfkpebdjobhfgaaDoor.Hy
