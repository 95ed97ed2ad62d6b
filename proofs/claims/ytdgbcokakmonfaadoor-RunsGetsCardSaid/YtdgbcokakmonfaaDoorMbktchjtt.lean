import Derived.Test.YtdgbcokakmonfaaDoorProg
import Derived.Test.YtdgbcokakmonfaaDoorWWords
import Derived.Lib.Strings
import Derived.Lib.Slices
import Derived.Lib.Walk
import Derived.Lib.Builder
import Derived.Lib.AppendStr
import Derived.Lib.UnsafeStr
import Derived.Lib.MakeNoZero
import Derived.WalkKit
import Derived.RegionTactic
import Derived.Laws.Externs
import Derived.Laws.IdiomCopy
import Derived.Laws.BitsLemmas
import Derived.Test.YtdgbcokakmonfaaDoorMggzlhgxc
import Derived.Test.YtdgbcokakmonfaaDoorWLast
import Derived.Test.YtdgbcokakmonfaaDoorWMore
import Derived.Below
import Derived.Test.YtdgbcokakmonfaaDoorPRunsGetsx1
set_option linter.unusedVariables false
namespace Go.Proofs.YtdgbcokakmonfaaDoor
open Go.RowKit

/-! ### strings.Builder at a builder of the call's own (the laws of Derived/Lib/Builder and its kin) -/
theorem bld_info : (Tryd.prog.info? 5).map (fun i => (i.zero, i.size, i.bytes)) = some (some (.int .u8 0), 1, 1) := by kernel_rfl
theorem bld_size : (Tryd.prog.info? 45).map (·.size) = some 2 := by kernel_rfl
theorem bld_lies : liesAt Tryd.prog Tryd.prog.depth 45 (2 / Tryd.prog.cellsOf 45) 0 45 1 = true := by kernel_rfl

set_option maxHeartbeats 1000000 in
set_option maxRecDepth 100000 in
theorem bld_check_used (b : Nat) (w : World) (h0 : w.cell? ⟨b, 0, none⟩ = some (.pointer (some ⟨b, 0, none⟩))) :
    Calls Tryd.prog 22 #[.pointer (some ⟨b, 0, none⟩)] w fun e w' => e = .returned (.tuple #[]) ∧ w' = w := by
  obtain ⟨j, hj, _⟩ := Option.map_eq_some_iff.1 bld_size
  go_enter Tryd.func22, Tryd.ntmps22
  go_wp2
  rw [Lib.run_neq_ptr_same w _ Tryd.underlying42 hj]
  go_wp2
  go_end0
  exact ⟨rfl, rfl⟩

set_option maxHeartbeats 1000000 in
set_option maxRecDepth 100000 in
theorem bld_check_fresh (b : Nat) (w : World) (h0 : w.cell? ⟨b, 0, none⟩ = some (.pointer none)) (hsh : w.shape? b = some (45, 2)) (hfz : w.frozen? ⟨b, 0, none⟩ = false) :
    Calls Tryd.prog 22 #[.pointer (some ⟨b, 0, none⟩)] w fun e w' => e = .returned (.tuple #[]) ∧ w' = w.setCell ⟨b, 0, none⟩ (.pointer (some ⟨b, 0, none⟩)) := by
  obtain ⟨j, hj, hjs⟩ := Option.map_eq_some_iff.1 bld_size
  go_enter Tryd.func22, Tryd.ntmps22
  go_wp2
  rw [Lib.run_to_unsafe w ⟨b, 0, none⟩ Tryd.underlying42 Tryd.underlying59 hj (by rw [hjs]; decide) hsh (Nat.zero_lt_succ 1)]
  simp only [Result.andThen]
  rw [Oper.upon_value]
  go_wp2
  rw [run_callFunc_extern Tryd.func30 (by kernel_rfl) (by kernel_rfl) (by kernel_rfl) (e := Extern.AbiNoEscape.same) (by kernel_rfl)]
  rw [Lib.run_noEscape]
  simp only [Result.andThen]
  rw [Oper.upon_value]
  go_wp2
  rw [Lib.run_from_unsafe w ⟨b, 0, none⟩ Tryd.underlying59 Tryd.underlying42 hj hsh bld_lies]
  simp only [Result.andThen]
  rw [Oper.upon_value]
  go_wp2
  go_end0
  exact ⟨rfl, rfl⟩

theorem bld_check (B b : Nat) (bs : List Value) (w : World) (h : Lib.IsBuilder 45 5 B b bs w) :
    Calls Tryd.prog 22 #[.pointer (some ⟨b, 0, none⟩)] w fun e w' => e = .returned (.tuple #[]) ∧ (Lib.BuilderAt 45 5 B b (.pointer (some ⟨b, 0, none⟩)) bs w' ∧ Below B w w') := by
  rcases h with h | h
  · refine (bld_check_fresh b w h.cell0 h.shape h.frozen0).mono ?_
    rintro e w' ⟨rfl, rfl⟩
    exact ⟨rfl, h.used _, (Below.refl B w).setCell (p := ⟨b, 0, none⟩) h.1 _⟩
  · refine (bld_check_used b w h.cell0).mono ?_
    rintro e w' ⟨rfl, rfl⟩
    exact ⟨rfl, h, Below.refl B _⟩

set_option maxHeartbeats 2000000 in
set_option maxRecDepth 100000 in
theorem bld_write (B b : Nat) (bs : List Value) (s : ByteArray) (w : World) (h : Lib.IsBuilder 45 5 B b bs w) (hlen : bs.length + s.size ≤ 140737488355328) (hBw : B ≤ w.heap.size) :
    Calls Tryd.prog 14 #[.pointer (some ⟨b, 0, none⟩), .string s] w fun e w' => e = .returned (.tuple #[.int .i64 s.size, .nilIface]) ∧ (Lib.BuilderAt 45 5 B b (.pointer (some ⟨b, 0, none⟩)) (bs ++ Lib.strCells s) w' ∧ Below B w w') := by
  obtain ⟨i0, hi, hz0, hz1, hz2⟩ := info_parts bld_info
  go_enter Tryd.func14, Tryd.ntmps14
  go_wp2_with (go_at_call 22; refine (bld_check B b bs _ h).mono ?_)
  rintro e w1 ⟨rfl, h1, hb1⟩
  obtain ⟨hB, v, hbk, hown, hne⟩ := h1
  have c0 : w1.cell? ⟨b, 0, none⟩ = some (.pointer (some ⟨b, 0, none⟩)) := by rw [Lib.cell_of_heap hbk]; rfl
  have c1 : w1.cell? ⟨b, 1, none⟩ = some v := by rw [Lib.cell_of_heap hbk]; rfl
  go_wp2_with (at_builtin; refine Lib.wpList_append_own_string _ rfl _ _ 43 9 rfl B 5 i0 Tryd.underlying43 Tryd.underlying9 hi hz0 hz1 hz2 _ _ _ rfl hown s rfl ?c3 ?c4 ?c5 ?_)
  case c3 => unfold maxLen; omega
  case c4 => omega
  case c5 => have := hb1.size; omega
  intro v' w2 hown' hgrow _
  have hlt : b < w1.heap.size := by
    rcases Nat.lt_or_ge b w1.heap.size with h' | h'
    · exact h'
    · simp [Array.getElem?_eq_none h'] at hbk
  have hb2 : w2.heap[b]? = some (.cells #[.pointer (some ⟨b, 0, none⟩), v] 45 (0, 0)) := by
    rw [hgrow.block b hlt (fun e => hne e.symm)]
    exact hbk
  have d0 : w2.cell? ⟨b, 0, none⟩ = some (.pointer (some ⟨b, 0, none⟩)) := by rw [Lib.cell_of_heap hb2]; rfl
  have d1 : w2.cell? ⟨b, 1, none⟩ = some v := by rw [Lib.cell_of_heap hb2]; rfl
  have f1 : w2.frozen? ⟨b, 1, none⟩ = false := Lib.frozen_of_heap hb2 1
  obtain ⟨ao, n', cap, rfl⟩ : ∃ ao n' cap, v' = .slice ao n' cap := by
    rcases hown'.2 with ⟨hv, _⟩ | ⟨g, cap, cur, hv, _⟩
    · exact ⟨_, _, _, hv⟩
    · exact ⟨_, _, _, hv⟩
  go_wp2
  go_ret2
  refine ⟨rfl, ?_, ?_⟩
  · exact Lib.BuilderAt.put (T := 45) (e := 5) hB hb2 (bs' := bs ++ Lib.strCells s) (by simpa [Lib.strCells_length] using hown') (by decide)
  · exact (hb1.grown hgrow (by have := hb1.size; omega) (fun k hk => (hown.lt k hk).1)).setCell (p := ⟨b, 1, none⟩) hB _

set_option maxHeartbeats 1000000 in
set_option maxRecDepth 100000 in
theorem bld_string_some (B b : Nat) (l : List UInt8) (w : World) (h : Lib.IsBuilder 45 5 B b (Lib.byteCells l) w) (h0 : l ≠ []) :
    Calls Tryd.prog 16 #[.pointer (some ⟨b, 0, none⟩)] w fun e w' => e = .returned (.string ⟨l.toArray⟩) ∧ Below B w w' := by
  obtain ⟨p, hB, v, hbk, hown, hne⟩ : ∃ p, Lib.BuilderAt 45 5 B b p (Lib.byteCells l) w := by
    rcases h with h | h
    · exact ⟨_, h⟩
    · exact ⟨_, h⟩
  have hl0 : l.length ≠ 0 := by simpa using h0
  rw [Lib.byteCells_length] at hown
  obtain ⟨g, cap, cur, rfl, hbg, hg, hnc, hcm, hcs, htake⟩ : ∃ g cap cur, v = .slice (some ⟨g, 0, none⟩) l.length cap ∧ B ≤ g ∧ w.heap[g]? = some (.cells cur 5 (0, 0)) ∧ l.length ≤ cap ∧ cap ≤ maxLen ∧ cur.size = cap * 1 ∧ cur.toList.take (l.length * 1) = Lib.byteCells l := by
    rcases hown.2 with ⟨_, hz⟩ | ⟨g, cap, cur, hv, r⟩
    · exact absurd hz hl0
    · exact ⟨g, cap, cur, hv, r⟩
  have c1 : w.drew.cell? ⟨b, 1, none⟩ = some (.slice (some ⟨g, 0, none⟩) l.length cap) := by
    have : w.drew.heap[b]? = some (.cells #[p, .slice (some ⟨g, 0, none⟩) l.length cap] 45 (0, 0)) := hbk
    rw [Lib.cell_of_heap this]; rfl
  have hSD : (Builtin.unsafeSliceData_ #[43] 58 #[.slice (some ⟨g, 0, none⟩) l.length cap]).run Tryd.prog w.drew = .ok (.pointer (some ⟨g, 0, none⟩)) w.drew :=
    Lib.run_unsafeSliceData_row _ _ _ _ _ _ (by omega)
  have hUS : (Builtin.unsafeString_ #[58, 3] 9 #[.pointer (some ⟨g, 0, none⟩), .int .i64 l.length]).run Tryd.prog w.drew = .ok (.string ⟨l.toArray⟩) (w.drew.freeze ⟨g, 0, none⟩ l.length) := by
    refine Lib.run_unsafeString_row w.drew 58 3 9 5 Tryd.underlying58 (by kernel_rfl) g cur.size (by have hg' : w.drew.heap[g]? = some (.cells cur 5 (0, 0)) := hg; simp [World.shape?, hg']) l h0 (by omega) (by unfold maxLen at hcm; omega) ?_
    intro j x hx
    have := hown.cells (g := g) rfl j (.int .u8 x.toNat) (by simp [Lib.byteCells, hx])
    exact this
  go_enter Tryd.func16, Tryd.ntmps16
  go_wp2
  go_region
  all_goals (go_wp2; go_ret; exact ⟨rfl, Lib.below_freeze (Below.drew (Below.refl B w)) (p := ⟨g, 0, none⟩) hbg _⟩)

theorem bld_us_none (W : World) (q : Option Addr) : (Builtin.unsafeString_ #[58, 3] 9 #[.pointer q, .int .i64 0]).run Tryd.prog W = .ok (.string .empty) W :=
  Lib.run_unsafeString_none W _ _ _ q

set_option maxHeartbeats 2000000 in
set_option maxRecDepth 100000 in
theorem bld_string_nil (B b : Nat) (p : Value) (w : World) (hbk : w.heap[b]? = some (.cells #[p, .slice none 0 0] 45 (0, 0))) :
    Calls Tryd.prog 16 #[.pointer (some ⟨b, 0, none⟩)] w fun e w' => e = .returned (.string ⟨#[]⟩) ∧ Below B w w' := by
  have hUS := bld_us_none
  have c1 : w.drew.cell? ⟨b, 1, none⟩ = some (.slice none 0 0) := by
    have : w.drew.heap[b]? = some (.cells #[p, .slice none 0 0] 45 (0, 0)) := hbk
    rw [Lib.cell_of_heap this]; rfl
  have hSD : (Builtin.unsafeSliceData_ #[43] 58 #[.slice none 0 0]).run Tryd.prog w.drew = .ok (.pointer none) w.drew := rfl
  go_enter Tryd.func16, Tryd.ntmps16
  go_wp2
  go_region
  all_goals (go_wp2; go_ret; exact ⟨rfl, Below.drew (Below.refl B w)⟩)

set_option maxHeartbeats 2000000 in
set_option maxRecDepth 100000 in
theorem bld_string_noroom (B b g : Nat) (p : Value) (cur : Array Value) (w : World) (hBw : B ≤ w.heap.size) (hbk : w.heap[b]? = some (.cells #[p, .slice (some ⟨g, 0, none⟩) 0 0] 45 (0, 0))) (hg : w.heap[g]? = some (.cells cur 5 (0, 0))) :
    Calls Tryd.prog 16 #[.pointer (some ⟨b, 0, none⟩)] w fun e w' => e = .returned (.string ⟨#[]⟩) ∧ Below B w w' := by
  have hUS := bld_us_none
  have hlt : b < w.heap.size := by
    rcases Nat.lt_or_ge b w.heap.size with h' | h'
    · exact h'
    · simp [Array.getElem?_eq_none h'] at hbk
  have c1 : w.drew.cell? ⟨b, 1, none⟩ = some (.slice (some ⟨g, 0, none⟩) 0 0) := by
    have : w.drew.heap[b]? = some (.cells #[p, .slice (some ⟨g, 0, none⟩) 0 0] 45 (0, 0)) := hbk
    rw [Lib.cell_of_heap this]; rfl
  have hSD : (Builtin.unsafeSliceData_ #[43] 58 #[.slice (some ⟨g, 0, none⟩) 0 0]).run Tryd.prog w.drew = .ok (.pointer (some ⟨w.drew.heap.size, 0, none⟩)) (w.drew.alloc (.view ⟨g, 0, none⟩ 5)) :=
    Lib.run_unsafeSliceData_zero w.drew _ _ 5 Tryd.underlying58 ⟨g, 0, none⟩ 0 (5, cur.size) (by have hg' : w.drew.heap[g]? = some (.cells cur 5 (0, 0)) := hg; simp [World.shape?, hg'])
  have c2 : (w.drew.alloc (.view ⟨g, 0, none⟩ 5)).cell? ⟨b, 1, none⟩ = some (.slice (some ⟨g, 0, none⟩) 0 0) := by
    have : (w.drew.alloc (.view ⟨g, 0, none⟩ 5)).heap[b]? = _ := (Lib.alloc_old w.drew _ b hlt).trans hbk
    rw [Lib.cell_of_heap this]; rfl
  have c3 : (w.alloc (.view ⟨g, 0, none⟩ 5)).drew.cell? ⟨b, 1, none⟩ = some (.slice (some ⟨g, 0, none⟩) 0 0) := c2
  have c0 : w.cell? ⟨b, 1, none⟩ = some (.slice (some ⟨g, 0, none⟩) 0 0) := c1
  go_enter Tryd.func16, Tryd.ntmps16
  go_wp2
  go_region
  all_goals (go_wp2; go_ret; exact ⟨rfl, (Below.drew (Below.refl B w)).alloc hBw _⟩)

set_option maxHeartbeats 2000000 in
set_option maxRecDepth 100000 in
theorem bld_string_room (B b g cap : Nat) (p : Value) (w : World) (hc0 : cap ≠ 0) (hbk : w.heap[b]? = some (.cells #[p, .slice (some ⟨g, 0, none⟩) 0 cap] 45 (0, 0))) :
    Calls Tryd.prog 16 #[.pointer (some ⟨b, 0, none⟩)] w fun e w' => e = .returned (.string ⟨#[]⟩) ∧ Below B w w' := by
  have hUS := bld_us_none
  have c1 : w.drew.cell? ⟨b, 1, none⟩ = some (.slice (some ⟨g, 0, none⟩) 0 cap) := by
    have : w.drew.heap[b]? = some (.cells #[p, .slice (some ⟨g, 0, none⟩) 0 cap] 45 (0, 0)) := hbk
    rw [Lib.cell_of_heap this]; rfl
  have hSD : (Builtin.unsafeSliceData_ #[43] 58 #[.slice (some ⟨g, 0, none⟩) 0 cap]).run Tryd.prog w.drew = .ok (.pointer (some ⟨g, 0, none⟩)) w.drew :=
    Lib.run_unsafeSliceData_row _ _ _ _ _ _ hc0
  clear hc0
  go_enter Tryd.func16, Tryd.ntmps16
  go_wp2
  go_region
  all_goals (go_wp2; go_ret; exact ⟨rfl, Below.drew (Below.refl B w)⟩)

theorem bld_string (B b : Nat) (l : List UInt8) (w : World) (h : Lib.IsBuilder 45 5 B b (Lib.byteCells l) w) (hBw : B ≤ w.heap.size) :
    Calls Tryd.prog 16 #[.pointer (some ⟨b, 0, none⟩)] w fun e w' => e = .returned (.string ⟨l.toArray⟩) ∧ Below B w w' := by
  by_cases h0 : l = []
  · subst h0
    obtain ⟨p, hB, v, hbk, hown, hne⟩ : ∃ p, Lib.BuilderAt 45 5 B b p [] w := by
      rcases h with h | h
      · exact ⟨_, h⟩
      · exact ⟨_, h⟩
    rcases hown.2 with ⟨rfl, _⟩ | ⟨g, cap, cur, rfl, hbg, hg, _, _, _, _⟩
    · exact bld_string_nil B b p w hbk
    · by_cases hc0 : cap = 0
      · subst hc0
        exact bld_string_noroom B b g p cur w hBw hbk hg
      · exact bld_string_room B b g cap p w hc0 hbk
  · exact bld_string_some B b l w h h0

theorem bld_below {T e : TypeId} {B b : Nat} {bs : List Value} {w w1 : World} (h : Lib.IsBuilder T e B b bs w) (hb : Below w.heap.size w w1) : Lib.IsBuilder T e B b bs w1 := by
  have go : ∀ p, Lib.BuilderAt T e B b p bs w → Lib.BuilderAt T e B b p bs w1 := by
    intro p h
    have hlt := h.lt
    obtain ⟨hB, v, hh, ho, hne⟩ := h
    exact ⟨hB, v, by rw [hb.block b hlt]; exact hh, Go.Proofs.YtdgbcokakmonfaaDoorW.PrintWords.pw_own_below ho hb, hne⟩
  rcases h with h | h
  · exact .inl (go _ h)
  · exact .inr (go _ h)
theorem bld_drewN {T e : TypeId} {B b : Nat} {bs : List Value} {w : World} {n : Nat} (h : Lib.IsBuilder T e B b bs w) : Lib.IsBuilder T e B b bs (w.drewN n) :=
  bld_below h (Go.Proofs.YtdgbcokakmonfaaDoorW.PrintWords.pw_below_drewN (Below.refl _ _) n)
theorem bld_at {T e : TypeId} {B b : Nat} {bs : List Value} {w : World} (h : Lib.BuilderAt T e B b (.pointer (some ⟨b, 0, none⟩)) bs w) : Lib.IsBuilder T e B b bs w := .inr h
theorem strCells_append (a b : ByteArray) : Lib.strCells a ++ Lib.strCells b = Lib.strCells (a ++ b) := by
  unfold Lib.strCells
  rw [ByteArray.data_append]; simp
theorem bld_new (T e : TypeId) (w : World) : Lib.IsBuilder T e w.heap.size w.heap.size [] (w.alloc (.cells #[.pointer none, .slice none 0 0] T)) :=
  .inl ⟨Nat.le_refl _, _, heap_alloc_new _ _, Go.Proofs.YtdgbcokakmonfaaDoorW.PrintWords.own_nil _ _ _ _, by simp [Value.ownBlock]⟩
end Go.Proofs.YtdgbcokakmonfaaDoor
namespace Go.Proofs.YtdgbcokakmonfaaDoor
open Go.RowKit Go.Proofs.YtdgbcokakmonfaaDoorW.PrintWords Go.Proofs.YtdgbcokakmonfaaDoorW.PrintLast Go.Proofs.YtdgbcokakmonfaaDoorW.PrintMore Hy

theorem cellAt {w : World} {A : Option Addr} {l : List Int} {ik : IntKind} (h : Kd.C (Kd.int ik) w A l.length l) (k : Nat) (hk : k < l.length) : ∃ ad, A = some ad ∧ w.cell? (ad.add k) = some (.int ik (l[k])) := by
  obtain ⟨ad, e, hx⟩ := Kd.at_int h (k : Int) (by omega) (by omega)
  refine ⟨ad, e, ?_⟩
  simpa [rd, List.getD_eq_getElem?_getD, hk] using hx

theorem R_C {α : Type} {d : Kd α} {e : Nat} {w : World} {base : Nat} {ok : Nat → Prop} {A : Option Addr} {n c : Nat} {xs : List α} (h : d.R e w base ok (.slice A n c) xs) : d.C w A xs.length xs ∧ n = xs.length ∧ xs.length ≤ c := by
  obtain ⟨A', c', e, hl, hc⟩ := Kd.R_reads h
  injection e with e1 e2 e3
  subst e1; subst e3
  exact ⟨hc, e2, hl⟩
theorem info_u64 : (Tryd.prog.info? 40).map (fun i => (i.zero, i.size, i.bytes)) = some (some (.int .u64 0), 1, 8) := by kernel_rfl

theorem C_lit (W : World) (k : IntKind) (xs : List Int) (e : TypeId) (hm : xs.length ≤ 9223372036854775807) : Kd.C (Kd.int k) (W.alloc (.cells (nums k xs).toArray e)) (some ⟨W.heap.size, 0, none⟩) xs.length xs := by
  have h := own_lit W 0 e k xs (by omega) hm
  obtain ⟨A, c, e1, h2⟩ := own_reads h
  injection e1 with e1 e2 e3
  subst e1
  exact Kd.C_of_reads (d := (0 : Int)) (h1 := fun _ => rfl) h2

/-- string([]byte{x}) -/
theorem conv_byte (x : Int) (W : World) (n : Nat) : (convert 43 9 (.slice (some ⟨W.heap.size, 0, none⟩) 1 1)).run Tryd.prog ((W.drewN n).alloc (.cells #[.int .u8 x] 5)) = .ok (.string (st [x.toNat])) ((W.drewN n).alloc (.cells #[.int .u8 x] 5)) := by
  have h := own_lit (W.drewN n) 0 5 .u8 [x] (by omega) (by simp)
  have h2 := own_string (P := Tryd.prog) Tryd.underlying43 Tryd.underlying5 Tryd.underlying9 h
  exact h2
theorem nums_l0 (a b : List Int) (h : a.length = b.length) (hb : a.length ≤ 140737488355328) : ∀ (d i k : Nat), i + d = a.length → d < k → PRunsGets.hygref_Nums.l0 k a b (i : Int) = some (decide (a.drop i = b.drop i)) := by
  intro d
  induction d with
  | zero =>
    intro i k hi hk
    obtain ⟨k, rfl⟩ : ∃ m, k = m + 1 := ⟨k - 1, by omega⟩
    simp only [PRunsGets.hygref_Nums.l0]
    rw [if_neg (by omega), List.drop_of_length_le (by omega), List.drop_of_length_le (by omega)]
    simp
  | succ d ih =>
    intro i k hi hk
    obtain ⟨k, rfl⟩ : ∃ m, k = m + 1 := ⟨k - 1, by omega⟩
    have hi1 : i < a.length := by omega
    have hi2 : i < b.length := by omega
    have ra : rd a (i : Int) = a[i] := by simp [rd, List.getD_eq_getElem?_getD, hi1]
    have rb : rd b (i : Int) = b[i] := by simp [rd, List.getD_eq_getElem?_getD, hi2]
    simp only [PRunsGets.hygref_Nums.l0]
    rw [if_pos (by omega), if_pos (by omega), if_pos (by omega), ra, rb]
    have hd : (a.drop i = b.drop i) ↔ (a[i] = b[i] ∧ a.drop (i + 1) = b.drop (i + 1)) := by
      rw [List.drop_eq_getElem_cons hi1, List.drop_eq_getElem_cons hi2, List.cons.injEq]
    by_cases he : a[i] = b[i]
    · rw [if_pos he, show wrap64 ((i : Int) + 1) = ((i + 1 : Nat) : Int) by unfold wrap64; omega, ih (i + 1) k (by omega) (by omega)]
      rw [show decide (a.drop i = b.drop i) = decide (a.drop (i + 1) = b.drop (i + 1)) from decide_eq_decide.2 (hd.trans ⟨fun h => h.2, fun h => ⟨he, h⟩⟩)]
    · rw [if_neg he, decide_eq_false (fun e => he (hd.1 e).1)]
theorem nums_f (a b : List Int) (hb : a.length ≤ 140737488355328) : PRunsGets.hygref_Nums.f (a.length + 1) a b = some (decide (a = b)) := by
  unfold PRunsGets.hygref_Nums.f
  by_cases h : a.length = b.length
  · rw [if_pos (by omega)]
    have := nums_l0 a b h hb a.length 0 (a.length + 1) (by omega) (by omega)
    simpa using this
  · rw [if_neg (by omega)]
    simp
    intro e; exact h (by rw [e])
theorem nums_any (A : Option Addr) (c : Nat) (l : List Int) (A' : Option Addr) (c' : Nat) (l' : List Int) (w : World) (hr : Kd.C (Kd.int .u64) w A l.length l) (hc : l.length ≤ c) (hr' : Kd.C (Kd.int .u64) w A' l'.length l') (hc' : l'.length ≤ c') (hl : l.length ≤ 140737488355328) :
    Calls Tryd.prog 11 #[.slice A l.length c, .slice A' l'.length c'] w fun e w' => e = .returned (.bool (decide (l = l'))) ∧ Drawn0 w w' :=
  PRunsGets.hygref_Nums.calls (l.length + 1) A c l A' c' l' _ w hr hc hr' hc' (nums_f l l' hl)
end Go.Proofs.YtdgbcokakmonfaaDoor
namespace Go.Proofs.YtdgbcokakmonfaaDoor
open Go.RowKit Go.Proofs.YtdgbcokakmonfaaDoorW.PrintWords Go.Proofs.YtdgbcokakmonfaaDoorW.PrintLast Go.Proofs.YtdgbcokakmonfaaDoorW.PrintMore Hy

/-- One more of the row is set. -/
theorem set_fill (i L : Nat) (n : Int) (h : i < L) : (List.replicate i n ++ List.replicate (L - i) (0 : Int)).set i n = List.replicate (i + 1) n ++ List.replicate (L - (i + 1)) (0 : Int) := by
  rw [List.set_append_right _ _ (by simp), List.length_replicate, Nat.sub_self]
  obtain ⟨m, hm⟩ : ∃ m, L - i = m + 1 := ⟨L - i - 1, by omega⟩
  rw [hm, show L - (i + 1) = m by omega, List.replicate_succ, List.set_cons_zero, List.replicate_succ' (n := i), List.append_assoc]
  rfl
theorem fill_len (i L : Nat) (n : Int) (h : i ≤ L) : (List.replicate i n ++ List.replicate (L - i) (0 : Int)).length = L := by simp; omega
end Go.Proofs.YtdgbcokakmonfaaDoor
namespace Go.Proofs.YtdgbcokakmonfaaDoor.Hy
open Go.RowKit

/-! ### what begins a list of numbers' bytes -/
theorem putsL_prefix (a b : List Int) (r : List Nat) (ha : u64s a) (hb : u64s b) (h : putsL a ++ r = putsL b) : ∃ b', b = a ++ b' ∧ putsL b' = r ∧ u64s b' := by
  have h1 := getN_puts a r ha
  rw [h] at h1
  by_cases hl : b.length < a.length
  · rw [getN_more b a.length hb hl] at h1; cases h1
  · have h2 := getN_puts (b.take a.length) (putsL (b.drop a.length)) (u64s_take hb _)
    rw [List.length_take, Nat.min_eq_left (by omega), ← putsL_append, List.take_append_drop, h1] at h2
    simp only [Option.some.injEq, Prod.mk.injEq] at h2
    refine ⟨b.drop a.length, ?_, h2.2.symm, fun x hx => hb x (List.mem_of_mem_drop hx)⟩
    have h3 := (List.take_append_drop a.length b).symm
    rw [← h2.1] at h3
    exact h3

/-! ### runs of alike numbers: the number, how many more -/
def grp : List Int → List Int
  | [] => []
  | x :: l => match grp l with
    | v :: n :: r => if v = x then x :: (n + 1) :: r else x :: 0 :: v :: n :: r
    | _ => [x, 0]
def tot : List Int → Int
  | _ :: n :: r => n + 1 + tot r
  | _ => 0
theorem grp_shape (x : Int) (l : List Int) : ∃ n r, grp (x :: l) = x :: n :: r ∧ 0 ≤ n := by
  induction l generalizing x with
  | nil => exact ⟨0, [], rfl, by omega⟩
  | cons y l ih =>
    obtain ⟨n, r, e, hn⟩ := ih y
    rw [grp, e]
    by_cases h : y = x
    · exact ⟨n + 1, r, by simp only; rw [if_pos h], by omega⟩
    · exact ⟨0, y :: n :: r, by simp only; rw [if_neg h], by omega⟩
theorem grp_same (x n : Int) (l r : List Int) (h : grp l = x :: n :: r) : grp (x :: l) = x :: (n + 1) :: r := by
  rw [grp, h]; simp
theorem grp_new (x : Int) (l : List Int) (h : l.head? ≠ some x) : grp (x :: l) = x :: 0 :: grp l := by
  cases l with
  | nil => rfl
  | cons y l =>
    obtain ⟨n, r, e, _⟩ := grp_shape y l
    rw [grp, e]
    simp only
    rw [if_neg (fun hh => h (by simp [hh]))]
theorem grp_run (x : Int) (n : Nat) (l : List Int) (h : l.head? ≠ some x) : grp (List.replicate (n + 1) x ++ l) = x :: (n : Int) :: grp l := by
  induction n with
  | zero => exact grp_new x l h
  | succ n ih =>
    rw [List.replicate_succ, List.cons_append, grp_same x n _ _ ih]
    simp
theorem split_run (l : List Int) (h : l ≠ []) : ∃ x n l3, l = List.replicate (n + 1) x ++ l3 ∧ l3.head? ≠ some x := by
  induction l with
  | nil => exact absurd rfl h
  | cons x l ih =>
    cases l with
    | nil => exact ⟨x, 0, [], rfl, by simp⟩
    | cons y l =>
      by_cases hy : y = x
      · obtain ⟨x', n, l3, e, h3⟩ := ih (by simp)
        have : x' = y := by
          rw [List.replicate_succ, List.cons_append] at e
          injection e with e _; exact e.symm
        subst this; subst hy
        exact ⟨x', n + 1, l3, by rw [List.replicate_succ, List.cons_append, ← e], h3⟩
      · exact ⟨x, 0, y :: l, rfl, by simp [hy]⟩
theorem grp_append : ∀ (k : Nat) (l1 l2 : List Int), l1.length ≤ k → (∀ x, l1.getLast? = some x → l2.head? ≠ some x) → grp (l1 ++ l2) = grp l1 ++ grp l2 := by
  intro k
  induction k with
  | zero => intro l1 l2 hk _; rw [List.eq_nil_of_length_eq_zero (by omega : l1.length = 0)]; rfl
  | succ k ih =>
    intro l1 l2 hk hb
    by_cases h1 : l1 = []
    · subst h1; rfl
    · obtain ⟨x, n, l3, e, h3⟩ := split_run l1 h1
      subst e
      rw [List.append_assoc, grp_run x n l3 h3]
      by_cases h3e : l3 = []
      · subst h3e
        rw [List.nil_append, grp_run x n l2 (hb x (by simp [List.getLast?_replicate]))]
        rfl
      · have hh : (l3 ++ l2).head? ≠ some x := by
          cases l3 with
          | nil => exact absurd rfl h3e
          | cons a t => simpa using h3
        rw [grp_run x n (l3 ++ l2) hh, ih l3 l2 (by simp at hk; omega) (fun y hy => hb y (by
          rw [List.getLast?_append]; simp [hy]))]
        rfl
theorem grp_snoc (l : List Int) (x : Int) (n : Nat) (h : l.getLast? ≠ some x) : grp (l ++ List.replicate (n + 1) x) = grp l ++ [x, (n : Int)] := by
  rw [grp_append l.length l _ (Nat.le_refl _) (fun y hy => by
    rw [List.replicate_succ]
    simp
    intro e
    exact h (by rw [hy, e]))]
  have := grp_run x n [] (by simp)
  rw [List.append_nil] at this
  rw [this]; rfl
theorem tot_grp (l : List Int) : tot (grp l) = l.length ∧ (grp l).length % 2 = 0 := by
  induction l with
  | nil => exact ⟨rfl, rfl⟩
  | cons x l ih =>
    cases l with
    | nil => exact ⟨rfl, by simp [grp]⟩
    | cons y l =>
      obtain ⟨n, r, e, hn⟩ := grp_shape y l
      rw [e] at ih
      rw [grp, e]
      simp only
      have e2 : tot (y :: n :: r) = n + 1 + tot r := rfl
      rw [e2] at ih
      by_cases h : y = x
      · rw [if_pos h]
        have e3 : tot (x :: (n + 1) :: r) = n + 1 + 1 + tot r := rfl
        rw [e3]
        simp only [List.length_cons] at ih ⊢
        constructor
        · omega
        · exact ih.2
      · rw [if_neg h]
        have e3 : tot (x :: 0 :: y :: n :: r) = 0 + 1 + (n + 1 + tot r) := rfl
        rw [e3]
        simp only [List.length_cons] at ih ⊢
        constructor
        · omega
        · have := ih.2; omega
theorem grp_len (l : List Int) : (grp l).length ≤ 2 * l.length := by
  induction l with
  | nil => simp [grp]
  | cons x l ih =>
    cases l with
    | nil => simp [grp]
    | cons y l =>
      obtain ⟨n, r, e, hn⟩ := grp_shape y l
      rw [e] at ih
      rw [grp, e]
      simp only
      split
      · simp only [List.length_cons] at ih ⊢; omega
      · simp only [List.length_cons] at ih ⊢; omega
theorem grp_u64 (l : List Int) (h : u64s l) (hl : l.length ≤ 20000) : u64s (grp l) ∧ ∀ n r x, grp l = x :: n :: r → n < l.length := by
  induction l with
  | nil => exact ⟨fun x hx => by simp [grp] at hx, fun n r x e => by simp [grp] at e⟩
  | cons x l ih =>
    have hx := h x List.mem_cons_self
    have ih' := ih (fun y hy => h y (List.mem_cons_of_mem _ hy)) (by simp at hl; omega)
    cases l with
    | nil =>
      refine ⟨fun y hy => ?_, fun n r z e => ?_⟩
      · simp [grp] at hy; omega
      · simp [grp] at e; simp; omega
    | cons y l =>
      obtain ⟨n, r, e, hn⟩ := grp_shape y l
      obtain ⟨i1, i2⟩ := ih'
      have hlt := i2 n r y e
      rw [e] at i1
      rw [grp, e]
      simp only
      by_cases hy : y = x
      · rw [if_pos hy]
        refine ⟨fun z hz => ?_, fun m q z e' => ?_⟩
        · rcases List.mem_cons.1 hz with rfl | hz
          · exact hx
          · rcases List.mem_cons.1 hz with rfl | hz
            · simp only [List.length_cons] at hlt hl; omega
            · exact i1 z (by simp [hz])
        · injection e' with _ e'; injection e' with e' _
          simp only [List.length_cons] at hlt ⊢; omega
      · rw [if_neg hy]
        refine ⟨fun z hz => ?_, fun m q z e' => ?_⟩
        · rcases List.mem_cons.1 hz with rfl | hz
          · exact hx
          · rcases List.mem_cons.1 hz with rfl | hz
            · omega
            · exact i1 z hz
        · injection e' with _ e'; injection e' with e' _
          simp only [List.length_cons]; omega
theorem tot_append : ∀ (k : Nat) (a b : List Int), a.length ≤ k → a.length % 2 = 0 → tot (a ++ b) = tot a + tot b := by
  intro k
  induction k with
  | zero => intro a b hk _; rw [List.eq_nil_of_length_eq_zero (by omega : a.length = 0)]; simp [tot]
  | succ k ih =>
    intro a b hk ha
    match a with
    | [] => simp [tot]
    | [_] => simp at ha
    | x :: n :: r =>
      have := ih r b (by simp at hk; omega) (by simp at ha; omega)
      have e1 : tot (x :: n :: r ++ b) = n + 1 + tot (r ++ b) := rfl
      have e2 : tot (x :: n :: r) = n + 1 + tot r := rfl
      rw [e1, e2, this]; omega
theorem tot_pos : ∀ (k : Nat) (a : List Int), a.length ≤ k → u64s a → 0 ≤ tot a ∧ (a.length % 2 = 0 → a ≠ [] → 0 < tot a) := by
  intro k
  induction k with
  | zero => intro a hk _; rw [List.eq_nil_of_length_eq_zero (by omega : a.length = 0)]; exact ⟨by simp [tot], fun _ h => absurd rfl h⟩
  | succ k ih =>
    intro a hk ha
    match a with
    | [] => exact ⟨by simp [tot], fun _ h => absurd rfl h⟩
    | [_] => exact ⟨by simp [tot], fun h => by simp at h⟩
    | x :: n :: r =>
      have := ih r (by simp at hk; omega) (fun y hy => ha y (by simp [hy]))
      have hn := ha n (by simp)
      have e2 : tot (x :: n :: r) = n + 1 + tot r := rfl
      rw [e2]
      exact ⟨by omega, fun _ _ => by omega⟩
/-- The bytes are l's column. -/
def isRuns (b : List Nat) (l : List Int) : Prop := b = putsL (grp l) ∧ u64s l
theorem runs_one (l l' : List Int) (hl : l.length ≤ 20000) (hl' : l'.length ≤ 20000) (h : u64s l) (h' : u64s l') (r : List Nat) (e : putsL (grp l) ++ r = putsL (grp l')) (hr : r ≠ []) : l.length < l'.length := by
  obtain ⟨b, e1, e2, e3⟩ := putsL_prefix _ _ r (grp_u64 l h hl).1 (grp_u64 l' h' hl').1 e
  have hb : b ≠ [] := by rintro rfl; exact hr e2.symm
  have t1 := tot_grp l
  have t2 := tot_grp l'
  rw [e1, tot_append _ _ b (Nat.le_refl _) t1.2] at t2
  have hbl : b.length % 2 = 0 := by
    have := t2.2; rw [List.length_append] at this; omega
  have := (tot_pos _ b (Nat.le_refl _) e3).2 hbl hb
  omega
theorem runs_same (l l' : List Int) (hl : l.length ≤ 20000) (hl' : l'.length ≤ 20000) (h : u64s l) (h' : u64s l') (e : putsL (grp l) = putsL (grp l')) : l.length = l'.length := by
  obtain ⟨b, e1, e2, e3⟩ := putsL_prefix (grp l) (grp l') [] (grp_u64 l h hl).1 (grp_u64 l' h' hl').1 (by rw [List.append_nil]; exact e)
  have hb : b = [] := by
    cases b with
    | nil => rfl
    | cons a t =>
      rw [putsL_cons] at e2
      have := putL_pos a.toNat
      have h0 := congrArg List.length e2
      rw [List.length_append, List.length_nil] at h0; omega
  rw [hb, List.append_nil] at e1
  have t1 := tot_grp l
  have t2 := tot_grp l'
  rw [e1] at t2
  omega
end Go.Proofs.YtdgbcokakmonfaaDoor.Hy
