import Derived.Test.YtehfgemoccjomaaMyomvuqnc
import Derived.Test.YtehfgemoccjomaaWLast
import Derived.Test.YtehfgemoccjomaaWMore
import Derived.Maps.OwnSet
import Derived.StringKeys
import Derived.Test.YtehfgemoccjomaaProg
import Derived.WalkKit
import Derived.Below
import Derived.OwnWalk
import Derived.BigQuiet
import Derived.Deep.QuietTactic
import Derived.Outline
import Derived.Test.YtehfgemoccjomaaMmcifgwom
namespace Go.Proofs.Ytehfgemoccjomaa
open Go.RowKit Go.WideMaps Go.Maps Go.Proofs.YtehfgemoccjomaaW.PrintWords Go.Proofs.YtehfgemoccjomaaW.PrintLast Go.Proofs.YtehfgemoccjomaaW.PrintMore Hy

theorem dlaw : Keyed Try.prog 9 := string_keyed Try.underlying9
theorem dzero (w : World) : (zeroValue 3).run Try.prog w = .ok (.int .i64 0) w := by kernel_rfl
theorem str_info : (Try.prog.info? 9).map (fun i => (i.zero, i.size, i.bytes)) = some (some (.string ByteArray.empty), 1, 16) := by kernel_rfl

/-! ### a map's datum: each text's number -/
def MD (D : DataW Unit) (L : List ByteArray) : Prop := IsMap D ∧ ∀ s : ByteArray, (s ∈ L → Maps.has D (.string s.data.toList) = true) ∧ (s ∉ L → Maps.has D (.string s.data.toList) = false) ∧ ∀ j : Nat, L[j]? = some s → D.atKey (.string s.data.toList) (.lit (.int .i64 0)) = .lit (.int .i64 (j : Int))
theorem str_lit_inj {s t : ByteArray} (h : (Lit.string s.data.toList) = .string t.data.toList) : s = t := by
  injection h with h
  cases s; cases t
  simpa using h
theorem str_key (s : ByteArray) : WideAt.IsKeyLit (.string s.data.toList) := trivial
theorem MD.nil : MD (.map []) [] := ⟨isMap_empty, fun s => ⟨fun h => by simp at h, fun _ => rfl, fun j h => by simp at h⟩⟩
theorem MD.add {D : DataW Unit} {L : List ByteArray} (h : MD D L) (s : ByteArray) (hs : s ∉ L) : MD (D.put (.string s.data.toList) (.lit (.int .i64 (L.length : Int)))) (L ++ [s]) := by
  refine ⟨h.1.put _ _, fun t => ?_⟩
  by_cases e : t = s
  · subst e
    refine ⟨fun _ => has_put_same h.1 (str_key t) _, fun hn => absurd (by simp) hn, fun j hj => ?_⟩
    have hjl : j = L.length := by
      rcases Nat.lt_or_ge j L.length with hl | hl
      · rw [List.getElem?_append_left hl] at hj
        exact absurd (List.mem_of_getElem? hj) hs
      · have := (List.getElem?_eq_some_iff.1 hj).1
        simp at this; omega
    rw [atKey_put_same h.1 (str_key t), hjl]
  · have hne : (Lit.string t.data.toList) ≠ .string s.data.toList := fun e2 => e (str_lit_inj e2)
    refine ⟨fun hm => ?_, fun hm => ?_, fun j hj => ?_⟩
    · rw [has_put_other hne]
      refine (h.2 t).1 ?_
      rcases List.mem_append.1 hm with hm | hm
      · exact hm
      · exact absurd (List.mem_singleton.1 hm) e
    · rw [has_put_other hne]
      exact (h.2 t).2.1 (fun h2 => hm (List.mem_append_left _ h2))
    rw [atKey_put_other hne]
    refine (h.2 t).2.2 j ?_
    rcases Nat.lt_or_ge j L.length with hl | hl
    · rwa [List.getElem?_append_left hl] at hj
    · rw [List.getElem?_append_right hl] at hj
      have h0 : j - L.length = 0 := by
        have := (List.getElem?_eq_some_iff.1 hj).1
        simp at this; omega
      rw [h0] at hj
      simp at hj
      exact absurd hj.symm e

/-! ### the program's dictionary: its block d, its row v, its map bm -/
structure Dct (w : World) (base d : Nat) (v : Value) (bm : Nat) (L : List ByteArray) : Prop where
  hd : base ≤ d
  hm : base ≤ bm
  blk : w.heap[d]? = some (.cells #[v, .map (some bm)] 61 (0, 0))
  row : Kd.R Kd.string 9 w base (fun _ => True) v L
  mp : ∃ (D : DataW Unit) (n : Nat), w.ownsMap Try.prog 9 (plainElem Try.prog 3) bm n D ∧ n ≤ L.length ∧ MD D L
  nod : L.Nodup
def GD (d bm : Nat) (v : Value) (k : Nat) : Prop := k = d ∨ k = bm ∨ v.ownBlock = some k
section
variable {w w' : World} {base d : Nat} {v : Value} {bm : Nat} {L : List ByteArray}
theorem Dct.c0 (h : Dct w base d v bm L) : w.cell? ⟨d, 0, none⟩ = some v := by rw [blk_cell h.blk]; rfl
theorem Dct.c1 (h : Dct w base d v bm L) : w.cell? ⟨d, 1, none⟩ = some (.map (some bm)) := by rw [blk_cell h.blk]; rfl
theorem Dct.ne (h : Dct w base d v bm L) : d ≠ bm := by
  obtain ⟨D, n, ⟨es, clock, hb, _⟩, _⟩ := h.mp
  rintro rfl
  have := h.blk
  rw [hb] at this
  simp at this
theorem Dct.rowd (h : Dct w base d v bm L) : v.ownBlock ≠ some d := fun e => own_ne (Kd.own_of_R h.row) h.blk (by decide) e.symm
theorem Dct.rowm (h : Dct w base d v bm L) : v.ownBlock ≠ some bm := by
  intro e
  obtain ⟨D, n, ⟨es, clock, hb, _⟩, _⟩ := h.mp
  obtain ⟨cells, hc⟩ := own_typed (Kd.own_of_R h.row) bm e
  rw [hb] at hc
  simp at hc
theorem Dct.below (h : Dct w base d v bm L) (hb : Below w.heap.size w w') : Dct w' base d v bm L := by
  obtain ⟨D, n, ho, hn, hD⟩ := h.mp
  exact ⟨h.hd, h.hm, blk_below h.blk hb, Kd.R_below h.row hb, ⟨D, n, ho.kept (grown_of_below hb none) (by simp), hn, hD⟩, h.nod⟩
theorem Dct.kp {M : Nat → Prop} (h : Dct w base d v bm L) (hk : Kp M w w') (hM : ∀ k, GD d bm v k → ¬ M k) : Dct w' base d v bm L := by
  obtain ⟨D, n, ⟨es, clock, hb, r⟩, hn, hD⟩ := h.mp
  refine ⟨h.hd, h.hm, hk.obj h.blk (hM d (.inl rfl)), Kd.R_of_own (hk.own (Kd.own_of_R h.row) (fun k e => hM k (.inr (.inr e)))) (fun _ _ => trivial), ⟨D, n, ⟨es, clock, hk.obj hb (hM bm (.inr (.inl rfl))), r⟩, hn, hD⟩, h.nod⟩
theorem Dct.ge (h : Dct w base d v bm L) (k : Nat) (hk : GD d bm v k) : base ≤ k := by
  rcases hk with rfl | rfl | hk
  · exact h.hd
  · exact h.hm
  · exact own_base (Kd.own_of_R h.row) k hk
theorem Dct.lt (h : Dct w base d v bm L) (k : Nat) (hk : GD d bm v k) : k < w.heap.size := by
  rcases hk with rfl | rfl | hk
  · exact blk_lt h.blk
  · obtain ⟨D, n, ho, _⟩ := h.mp; exact ho.lt
  · exact own_lt (Kd.own_of_R h.row) k hk
theorem Dct.lower {base' : Nat} (h : Dct w base d v bm L) (hb : base' ≤ base) : Dct w base' d v bm L := ⟨Nat.le_trans hb h.hd, Nat.le_trans hb h.hm, h.blk, Kd.R_lower h.row hb, h.mp, h.nod⟩
end

/-- One text more: what the store of the map and the append leave. -/
theorem Dct.more {w w1 w2 : World} {base d bm n : Nat} {v v1 : Value} {L : List ByteArray} {D : DataW Unit} (s : ByteArray) (hs : s ∉ L) (h : Dct w base d v bm L) (hM : MD D L) (hn : n ≤ L.length)
    (ho1 : w1.ownsMap Try.prog 9 (plainElem Try.prog 3) bm (n + 1) (D.put (.string s.data.toList) (.lit (.int .i64 (L.length : Int))))) (hg1 : w.grownBy w1 (some bm))
    (ho2 : Kd.R Kd.string 9 w2 base (fun _ => True) v1 (L ++ [s])) (hg2 : w1.grownBy w2 v.ownBlock) (hat : v1.ownBlock = v.ownBlock ∨ ∃ b, v1.ownBlock = some b ∧ w1.heap.size ≤ b) :
    w2.cell? ⟨d, 0, none⟩ = some v ∧ w2.frozen? ⟨d, 0, none⟩ = false ∧ Dct (w2.setCell ⟨d, 0, none⟩ v1) base d v1 bm (L ++ [s]) ∧ (∀ k, v1.ownBlock = some k → v.ownBlock = some k ∨ w.heap.size ≤ k) ∧ Kp (GD d bm v) w (w2.setCell ⟨d, 0, none⟩ v1) := by
  have hb1 : w1.heap[d]? = some (.cells #[v, .map (some bm)] 61 (0, 0)) := blk_grown h.blk hg1 (by have := h.ne; simpa using this)
  have hb2 : w2.heap[d]? = some (.cells #[v, .map (some bm)] 61 (0, 0)) := blk_grown hb1 hg2 (fun e => h.rowd e.symm)
  have hne : ∀ k, v1.ownBlock = some k → k ≠ d := fun k hk e => own_ne (Kd.own_of_R ho2) hb2 (by decide) (by rw [hk, e])
  have hkp : Kp (GD d bm v) w w2 := by
    have k1 : Kp (GD d bm v) w w1 := ⟨hg1.os, hg1.tape, hg1.output, hg1.size, fun k hk hm => hg1.block k hk (fun e => hm (.inr (.inl (by simpa using e))))⟩
    exact k1.trans ⟨hg2.os, hg2.tape, hg2.output, hg2.size, fun k hk hm => hg2.block k hk (fun e => hm (.inr (.inr e.symm)))⟩
  refine ⟨by rw [blk_cell hb2]; rfl, blk_frozen hb2 0, ⟨h.hd, h.hm, by rw [blk_set hb2]; rfl, ?_, ⟨_, n + 1, ?_, by rw [List.length_append, List.length_singleton]; omega, hM.add s hs⟩, ?_⟩, ?_, hkp.set (.inl rfl) _⟩
  · exact Kd.R_of_own (own_move (Kd.own_of_R ho2) (fun k hk => Below.heap_setCell w2 ⟨d, 0, none⟩ v1 k (hne k hk))) (fun _ _ => trivial)
  · exact (ho1.kept hg2 (fun e => h.rowm e.symm)).setCell (fun e => h.ne e.symm) _
  · rw [List.nodup_append]
    refine ⟨h.nod, by simp, fun a ha b hb => ?_⟩
    rw [List.mem_singleton.1 hb]
    rintro rfl
    exact hs ha
  · intro k hk
    rcases hat with e | ⟨b, e, hb⟩
    · rw [e] at hk; exact .inl hk
    · rw [e] at hk
      injection hk with hk
      exact .inr (by have := hg1.size; omega)

theorem dnew_any (w : World) : Calls Try.prog 11 #[] w fun e w' => e = .returned (.pointer (some ⟨w.heap.size + 1, 0, none⟩)) ∧ Dct w' w.heap.size (w.heap.size + 1) (.slice none 0 0) w.heap.size [] ∧ Below w.heap.size w w' := by
  have hmm := @run_makeMap Try.prog
  go_enter Try.func11, Try.ntmps11
  go_wp2
  go_ret
  have hb := ((Below.refl w.heap.size w).alloc (Nat.le_refl _) (.map #[] 0))
  refine ⟨by simp, ⟨by omega, Nat.le_refl _, ?_, Kd.R_nil _ _ _ _ _, ⟨.map [], 0, ?_, by simp, MD.nil⟩, List.nodup_nil⟩, below_alloc hb _⟩
  · have := blk_new (w.alloc (.map #[] 0)) (.cells #[.slice none 0 0, .map (some w.heap.size)] 61 (0, 0))
    rw [World.size_alloc] at this
    exact this
  · exact (World.ownsMap_made w _ _ _).alloc _
theorem dlen_any (w : World) (base d : Nat) (v : Value) (bm : Nat) (L : List ByteArray) (h : Dct w base d v bm L) :
    Calls Try.prog 16 #[.pointer (some ⟨d, 0, none⟩)] w fun e w' => e = .returned (.int .i64 (L.length : Int)) ∧ w = w' := by
  have c0 := h.c0
  obtain ⟨A, c, rfl⟩ := Kd.R_slice h.row
  clear h
  go_enter Try.func16, Try.ntmps16
  go_wp2
  go_ret
  exact ⟨rfl, rfl⟩
theorem dget_in (w : World) (base d : Nat) (v : Value) (bm : Nat) (L : List ByteArray) (i : Nat) (hi : i < L.length) (_hl : L.length ≤ 1000000000) (h : Dct w base d v bm L) :
    Calls Try.prog 14 #[.pointer (some ⟨d, 0, none⟩), .int .i64 (i : Int)] w fun e w' => e = .returned (.tuple #[.string L[i], .bool true]) ∧ Below w.heap.size w w' := by
  have c0 := h.c0
  obtain ⟨A, c, rfl, hc, hC⟩ := Kd.R_reads h.row
  obtain ⟨ad, rfl, hx⟩ := Kd.at_string hC (i : Int) (by omega) (by omega)
  obtain ⟨t, ht⟩ : ∃ t, L[i] = t := ⟨_, rfl⟩
  have hx2 : w.cell? (ad.add i) = some (.string t) := by
    rw [Int.toNat_natCast] at hx
    rw [hx, ← ht]; simp [rdOf, List.getD_eq_getElem?_getD, hi]
  rw [ht]
  have hi1 : ¬ ((i : Int) < 0) := by omega
  have hi2 : (i : Int) < (L.length : Int) := by omega
  have hd : decide ((i : Int) < 0) = false := decide_eq_false hi1
  clear h hC hx ht
  go_enter Try.func14, Try.ntmps14
  go_wp2
  go_ret2
  exact ⟨rfl, Below.refl _ _⟩
theorem dget_out (w : World) (base d : Nat) (v : Value) (bm : Nat) (L : List ByteArray) (i : Int) (hi : i < 0 ∨ (L.length : Int) ≤ i) (h : Dct w base d v bm L) :
    Calls Try.prog 14 #[.pointer (some ⟨d, 0, none⟩), .int .i64 i] w fun e w' => e = .returned (.tuple #[.string ByteArray.empty, .bool false]) ∧ Below w.heap.size w w' := by
  have c0 := h.c0
  obtain ⟨A, c, rfl⟩ := Kd.R_slice h.row
  clear h
  by_cases h0 : i < 0
  · have hd : decide (i < 0) = true := decide_eq_true h0
    clear hi
    go_enter Try.func14, Try.ntmps14
    go_wp2
    go_ret2
    exact ⟨rfl, Below.refl _ _⟩
  · have hd : decide (i < 0) = false := decide_eq_false h0
    have hi2 : (L.length : Int) ≤ i := by omega
    clear hi
    go_enter Try.func14, Try.ntmps14
    go_wp2
    go_ret2
    exact ⟨rfl, Below.refl _ _⟩
set_option maxHeartbeats 1000000 in
theorem dadd_old (w : World) (base d : Nat) (v : Value) (bm : Nat) (L : List ByteArray) (s : ByteArray) (j : Nat) (hj : L[j]? = some s) (_hl : L.length ≤ 1000000000) (hs : s.size ≤ 9223372036854775807) (h : Dct w base d v bm L) :
    Calls Try.prog 13 #[.pointer (some ⟨d, 0, none⟩), .string s] w fun e w' => e = .returned (.int .i64 (j : Int)) ∧ w = w' := by
  have c1 := h.c1
  obtain ⟨D, n, hown, hn, hM⟩ := h.mp
  have hhas : Maps.has D (.string s.data.toList) = true := (hM.2 s).1 (List.mem_of_getElem? hj)
  have hat := (hM.2 s).2.2 j hj
  have HH := Aside0.mk hhas
  have HA := Aside0.mk hat
  clear h hhas hat hj hM
  go_enter Try.func13, Try.ntmps13
  go_wp2_with (at_lookup; refine wpList_lookup_own_ok_int _ rfl _ _ 59 rfl 9 3 .i64 dlaw Try.underlying59 Try.underlying3 (dzero _) bm n D rfl hown _ _ rfl (keyOf_string_mk Try.underlying9 hs) ?_; intro c hat hwc; rw [HA.out] at hat; obtain rfl : (j : Int) = c := (by injection hat with hat; injection hat with _ hat); rw [HH.out]; clear hat hwc)
  go_ret
  exact ⟨rfl, rfl⟩
set_option maxHeartbeats 1000000 in
theorem dadd_new (w : World) (base d : Nat) (v : Value) (bm : Nat) (L : List ByteArray) (s : ByteArray) (hj : s ∉ L) (hl : L.length ≤ 1000000000) (hs : s.size ≤ 9223372036854775807) (hB : base ≤ w.heap.size) (h : Dct w base d v bm L) :
    Calls Try.prog 13 #[.pointer (some ⟨d, 0, none⟩), .string s] w fun e w' => e = .returned (.int .i64 (L.length : Int)) ∧ ∃ v1, Dct w' base d v1 bm (L ++ [s]) ∧ (∀ k, v1.ownBlock = some k → v.ownBlock = some k ∨ w.heap.size ≤ k) ∧ Kp (GD d bm v) w w' := by
  have c0 := h.c0
  have c1 := h.c1
  obtain ⟨D, n, hown, hn, hM⟩ := h.mp
  have hhas : Maps.has D (.string s.data.toList) = false := (hM.2 s).2.1 hj
  have HH := Aside0.mk hhas
  have HI := Aside0.mk h
  have HM := Aside0.mk hM
  have HJ := Aside0.mk hj
  obtain ⟨A0, k0, hv⟩ := Kd.R_slice h.row
  obtain ⟨N, hN⟩ : ∃ N, L.length = N := ⟨_, rfl⟩
  rw [hN] at hv
  subst hv
  have HN := Aside0.mk hN
  have hN2 : N ≤ 1000000000 := by omega
  have hn2 : n < maxLen := by unfold maxLen; omega
  have hwf : (Lit.int .i64 (N : Int)).wf = true := WalkArith.wf_i64 (by omega)
  clear h hhas hM hj hN
  go_enter Try.func13, Try.ntmps13
  go_wp2_with (first
    | (at_lookup; refine wpList_lookup_own_ok_int _ rfl _ _ 59 rfl 9 3 .i64 dlaw Try.underlying59 Try.underlying3 (dzero _) bm n D rfl hown _ _ rfl (keyOf_string_mk Try.underlying9 hs) ?_; intro c hat hwc; rw [HH.out]; clear hat hwc)
    | (at_mapUpdate; refine wpList_mapUpdate_own _ rfl _ _ _ 59 rfl 9 3 dlaw Try.underlying59 _ bm n D rfl hown hn2 _ _ _ rfl rfl (keyOf_string_mk Try.underlying9 hs) _ [] (plainElem_int Try.underlying3 hwf) ?_; intro w1 hown1 hgrow1; have HO1 := Aside0.mk hown1; have HG1 := Aside0.mk hgrow1; have hb1 := blk_grown HI.out.blk hgrow1 (by have := HI.out.ne; simpa using this); have d0 : w1.cell? ⟨d, 0, none⟩ = some (.slice A0 N k0) := (by rw [blk_cell hb1]; rfl); clear hb1 hown1 hgrow1 c0 c1 hown)
    | ((with_reducible refine gate_builtin (b := .append) (xs := #[.tmp 33, .tmp 35]) rfl ?_); at_builtin; refine Kd.R_append Kd.string (w0 := w1) base rfl (.tmp 33) (.tmp 35) 32 9 (.string ByteArray.empty) 16 rfl Try.underlying32 str_info rfl (by decide) (by omega) (.slice A0 N k0) L s [.string s] (fun _ => True) (fun _ => False) rfl rfl rfl (fun _ hk => hk.elim) (fun _ _ => trivial) ?aO (Below.refl _ _) (Nat.le_trans hB HG1.out.size) (by omega) ?_; (case aO => exact Kd.R_of_own (own_other (Kd.own_of_R HI.out.row) HG1.out (.inr HI.out.rowm)) (fun _ _ => trivial)); intro va wa ho hb hg hat; obtain ⟨A', c', hva⟩ := Kd.R_slice ho; obtain ⟨N2, hN2⟩ : ∃ N2, (L ++ [s]).length = N2 := ⟨_, rfl⟩; rw [hN2] at hva; subst hva; obtain ⟨q0, q1, q2, q3, q4⟩ := HI.out.more s HJ.out HM.out (by omega) (by rw [HN.out]; exact HO1.out) HG1.out ho hg hat; have H2 := Aside0.mk q2; have H3 := Aside0.mk q3; have H4 := Aside0.mk q4; clear q2 q3 q4 ho hb hg hat d0 hN2))
  go_ret
  exact ⟨congrArg (fun m : Nat => Ending.returned (.int .i64 (m : Int))) HN.out.symm, _, H2.out, H3.out, H4.out⟩
end Go.Proofs.Ytehfgemoccjomaa
namespace Go.Proofs.Ytehfgemoccjomaa
open Go.RowKit Go.Proofs.YtehfgemoccjomaaW.PrintWords Go.Proofs.YtehfgemoccjomaaW.PrintLast Go.Proofs.YtehfgemoccjomaaW.PrintMore Hy

/-! ### the reader of texts: its block -/
def RD (w : World) (r : Nat) (s : ByteArray) (a : Nat) (u : Value) : Prop := w.heap[r]? = some (.cells #[.string s, .int .i64 (a : Int), u] 48 (0, 0))
section
variable {w w' : World} {r : Nat} {s : ByteArray} {a : Nat} {u : Value}
theorem RD.c0 (h : RD w r s a u) : w.cell? ⟨r, 0, none⟩ = some (.string s) := by rw [blk_cell h]; rfl
theorem RD.c1 (h : RD w r s a u) : w.cell? ⟨r, 1, none⟩ = some (.int .i64 (a : Int)) := by rw [blk_cell h]; rfl
theorem RD.c2 (h : RD w r s a u) : w.cell? ⟨r, 2, none⟩ = some u := by rw [blk_cell h]; rfl
theorem RD.fz (h : RD w r s a u) (i : Nat) : w.frozen? ⟨r, i, none⟩ = false := blk_frozen h i
theorem RD.drew (h : RD w r s a u) : RD w.drew r s a u := h
theorem RD.below (h : RD w r s a u) (hb : Below w.heap.size w w') : RD w' r s a u := blk_below h hb
theorem RD.err (h : RD w r s a u) (u' : Value) : RD (w.setCell ⟨r, 2, none⟩ u') r s a u' := by
  unfold RD at *
  rw [blk_set h]; rfl
theorem RD.at_ (h : RD w r s a u) (a' : Nat) : RD (w.setCell ⟨r, 1, none⟩ (.int .i64 (a' : Int))) r s a' u := by
  unfold RD at *
  rw [blk_set h]; rfl
theorem RD.at2 (h : RD w r s a u) {x : Int} {a' : Nat} (hx : x = (a' : Int)) : RD (w.setCell ⟨r, 1, none⟩ (.int .i64 x)) r s a' u := by subst hx; exact h.at_ a'
theorem RD.drewN (h : RD w r s a u) (n : Nat) : RD (w.drewN n) r s a u := h
theorem quiet_drawn {P : Program} {f : FuncId} {args : Array Value} {w : World} {n : Nat} {v : Value} (h : Calls P f args (w.drewN n) fun e w' => e = .returned v ∧ Drawn0 (w.drewN n) w') : Calls P f args (w.drewN n) fun e w'' => e = .returned v ∧ ∃ m, w'' = w.drewN m :=
  Calls.quiet_of (h.mono fun _ _ h => ⟨h.1, h.2.out⟩)
theorem kp_r {W : World} (h : Kp (fun k => k = r) w W) (i : Nat) (x : Value) : Kp (fun k => k = r) w (W.setCell ⟨r, i, none⟩ x) := h.set (p := ⟨r, i, none⟩) rfl x
theorem RD.kp {M : Nat → Prop} (h : RD w r s a u) (hk : Kp M w w') (hr : ¬ M r) : RD w' r s a u := hk.obj h hr
theorem IsE.kp {M : Nat → Prop} {e : Err} : ∀ {v : Value}, IsE w e v → Kp M w w' → (∀ k c, w.heap[k]? = some (.cells c 78 (0, 0)) → ¬ M k) → IsE w' e v := by
  induction e with
  | nil => intro v h _ _; exact h
  | code c => intro v h _ _; exact h
  | at_ n e ih =>
    intro v h hk hM
    obtain ⟨a, u, rfl, ha, hu⟩ := h
    exact ⟨a, u, rfl, hk.obj ha (hM _ _ ha), ih hu hk hM⟩
  | fld n e ih => intro v h _ _; exact h.elim
  | oth => intro v h _ _; exact h.elim
/-- A store to the reader leaves errors as they are. -/
theorem IsE.rset {e : Err} {v : Value} (h : RD w r s a u) (hv : IsE w e v) (i : Nat) (x : Value) : IsE (w.setCell ⟨r, i, none⟩ x) e v :=
  hv.kp (Kp.set (Kp.refl (fun k => k = r) w) (p := ⟨r, i, none⟩) rfl x) (fun k c hk e => by
    subst e
    unfold RD at h
    rw [h] at hk
    injection hk with hk
    injection hk with _ hk
    exact absurd hk (by decide))
end
set_option maxHeartbeats 1000000 in
theorem fails_new (w : World) (r : Nat) (s : ByteArray) (a : Nat) (n c : Int) (h : RD w r s a .nilIface) :
    Calls Try.prog 18 #[.pointer (some ⟨r, 0, none⟩), .int .i64 n, .int .i64 c] w fun e w' => e = .returned (.tuple #[]) ∧ ∃ u, RD w' r s a u ∧ IsE w' (.at_ n (.code c)) u ∧ Kp (· = r) w w' := by
  have c2 := h.c2
  have HR := Aside0.mk h
  have hr1 : RD (w.alloc (.cells #[.int .i64 n, .iface 52 (.int .i64 c)] 78 (0, 0))) r s a .nilIface := h.below ((Below.refl _ _).alloc (Nat.le_refl _) _)
  have HR1 := Aside0.mk hr1
  have q2 := hr1.c2
  have q3 := hr1.fz 2
  clear h hr1
  go_enter Try.func18, Try.ntmps18
  go_wp2_with (go_at_call 29; refine (at_any _ _ _ ⟨_, _, rfl⟩).mono ?_; rintro e wx ⟨rfl, rfl⟩)
  go_end0
  refine ⟨rfl, _, HR1.out.err _, (IsE.new (w := w) (n := n) (e := .code c) rfl).rset HR1.out 2 _, ?_⟩
  exact Kp.set (M := fun k => k = r) ((Kp.refl _ w).alloc _) (p := ⟨r, 2, none⟩) rfl _
theorem fails_old (w : World) (r : Nat) (s : ByteArray) (a : Nat) (n c : Int) (T : Nat) (x : Value) (h : RD w r s a (.iface T x)) :
    Calls Try.prog 18 #[.pointer (some ⟨r, 0, none⟩), .int .i64 n, .int .i64 c] w fun e w' => e = .returned (.tuple #[]) ∧ w = w' := by
  have c2 := h.c2
  clear h
  go_enter Try.func18, Try.ntmps18
  go_wp2
  go_end0
  exact ⟨rfl, rfl⟩
theorem number_old (w : World) (r : Nat) (s : ByteArray) (a : Nat) (T : Nat) (x : Value) (h : RD w r s a (.iface T x)) :
    Calls Try.prog 17 #[.pointer (some ⟨r, 0, none⟩)] w fun e w' => e = .returned (.int .u64 0) ∧ w = w' := by
  have c2 := h.c2
  clear h
  go_enter Try.func17, Try.ntmps17
  go_wp2
  go_ret
  exact ⟨rfl, rfl⟩
set_option maxHeartbeats 2000000 in
theorem dnum_ok (w : World) (r : Nat) (s : ByteArray) (a v : Nat) (q : List Nat) (h : RD w r s a .nilIface) (ha : a ≤ s.size) (hs : s.size ≤ 140737488351232) (hv : v < 18446744073709551616) (he : (bs s).drop a = putL v ++ q) :
    Calls Try.prog 17 #[.pointer (some ⟨r, 0, none⟩)] w fun e w' => e = .returned (.int .u64 (v : Int)) ∧ RD w' r s (a + (putL v).length) .nilIface ∧ Kp (· = r) w w' := by
  have c0 := h.c0
  have c1 := h.c1
  have c2 := h.c2
  have HR := Aside0.mk h
  have G := fun w => get_put s (a : Int) (v : Int) q w (by omega) (by omega) hs (by omega) (by omega) (by rw [Int.toNat_natCast, Int.toNat_natCast]; exact he)
  have hz : (put (v : Int)).size = (putL v).length := by rw [put_size, Int.toNat_natCast]
  have h10 : (putL v).length ≤ 10 := putL_len10 _ hv
  rw [hz] at G
  obtain ⟨m, hm⟩ : ∃ m, (putL v).length = m := ⟨_, rfl⟩
  rw [hm] at G h10 hz ⊢
  have hQ := fun w => size_any (v : Int) w (by omega) (by omega)
  rw [hz] at hQ
  clear h he hz hm
  go_enter Try.func17, Try.ntmps17
  go_wp2_with fail
  refine start_ (n := 16) (S := fun w' => w'.cell? ⟨r, 0, none⟩ = some (.string s) ∧ w'.cell? ⟨r, 1, none⟩ = some (.int .i64 (a : Int))) (ds := []) #[false, false, false, false, false, false, false, false, false, false, false, false, false, false, false, false] (by kernel_rfl) rfl rfl ⟨c0, c1⟩ (fun hHeld => ?_)
  refine pure_ (i := 0) (N := some 12) (v := ?_) (a' := ?_) #[true, false, false, false, false, false, false, false, false, false, false, false, false, false, false, false] rfl rfl (by kernel_rfl) (fun _ _ _ h => h) (Or.inl ⟨by rfl, ?_⟩) ?_ ?_
  rotate_left
  · intro w'
    go_simp
    with_reducible rfl
  rotate_left
  · simp only [Act.put, List.setIfInBounds_toArray, List.set_cons_zero, List.set_cons_succ]
    rfl
  refine pure_ (i := 1) (N := some 13) (v := ?_) (a' := ?_) #[true, true, false, false, false, false, false, false, false, false, false, false, false, false, false, false] rfl rfl (by kernel_rfl) (fun _ _ _ h => h) (Or.inl ⟨by rfl, ?_⟩) ?_ ?_
  rotate_left
  · intro w'
    go_simp
    with_reducible rfl
  rotate_left
  · simp only [Act.put, List.setIfInBounds_toArray, List.set_cons_zero, List.set_cons_succ]
    rfl
  refine pure_ (i := 2) (N := some 14) (v := ?_) (a' := ?_) #[true, true, true, false, false, false, false, false, false, false, false, false, false, false, false, false] rfl rfl (by kernel_rfl) (fun _ _ _ h => h) (Or.inl ⟨by rfl, ?_⟩) ?_ ?_
  rotate_left
  · intro w'
    go_simp
    with_reducible rfl
  rotate_left
  · simp only [Act.put, List.setIfInBounds_toArray, List.set_cons_zero, List.set_cons_succ]
    rfl
  refine pure_ (i := 4) (N := some 16) (v := ?_) (a' := ?_) #[true, true, true, false, true, false, false, false, false, false, false, false, false, false, false, false] rfl rfl (by kernel_rfl) (fun _ _ _ h => h) (Or.inl ⟨by rfl, ?_⟩) ?_ ?_
  rotate_left
  · intro w'
    go_simp
    with_reducible rfl
  rotate_left
  · simp only [Act.put, List.setIfInBounds_toArray, List.set_cons_zero, List.set_cons_succ]
    rfl
  refine pure_ (i := 5) (N := some 17) (v := ?_) (a' := ?_) #[true, true, true, false, true, true, false, false, false, false, false, false, false, false, false, false] rfl rfl (by kernel_rfl) (fun _ _ _ h => h) (Or.inl ⟨by rfl, ?_⟩) ?_ ?_
  rotate_left
  · intro w'
    go_simp
    with_reducible rfl
  rotate_left
  · simp only [Act.put, List.setIfInBounds_toArray, List.set_cons_zero, List.set_cons_succ]
    rfl
  refine pure_ (i := 6) (N := some 18) (v := ?_) (a' := ?_) #[true, true, true, false, true, true, true, false, false, false, false, false, false, false, false, false] rfl rfl (by kernel_rfl) (fun _ _ _ h => h) (Or.inl ⟨by rfl, ?_⟩) ?_ ?_
  rotate_left
  · intro w'
    go_simp
    with_reducible rfl
  rotate_left
  · simp only [Act.put, List.setIfInBounds_toArray, List.set_cons_zero, List.set_cons_succ]
    rfl
  refine take_ (i := 3) (N := some 15) (v := ?_) (a' := ?_) #[true, true, true, true, true, true, true, false, false, false, false, false, false, false, false, false] rfl rfl (by kernel_rfl) (fun _ _ _ h => h) (Or.inl ⟨by rfl, ?_⟩) hHeld ?_ ?_
  rotate_left
  · rintro w' ⟨s0, s1⟩
    go_simp
    with_reducible rfl
  rotate_left
  · simp only [Act.put, List.setIfInBounds_toArray, List.set_cons_zero, List.set_cons_succ]
    rfl
  refine take_ (i := 7) (N := some 19) (v := ?_) (a' := ?_) #[true, true, true, true, true, true, true, true, false, false, false, false, false, false, false, false] rfl rfl (by kernel_rfl) (fun _ _ _ h => h) (Or.inl ⟨by rfl, ?_⟩) hHeld ?_ ?_
  rotate_left
  · rintro w' ⟨s0, s1⟩
    go_simp
    with_reducible rfl
  rotate_left
  · simp only [Act.put, List.setIfInBounds_toArray, List.set_cons_zero, List.set_cons_succ]
    rfl
  refine one_ (i := 8) (N := some 20) #[true, true, true, true, true, true, true, true, true, false, false, false, false, false, false, false] rfl rfl (by kernel_rfl) (by decide) (fun K hK => ?_)
  refine goes_ Try.func27 (by kernel_rfl) rfl #[.string s, .int .i64 (a : Int)] (by rfl) rfl rfl (by simp only [List.map_toArray, List.map_cons, List.map_nil]; rfl) ?_
  with_reducible refine (G _).mono ?_
  rintro e w2 ⟨rfl, hb2⟩
  refine ⟨_, rfl, ?_⟩
  have hq2 := (HR.out.drew.below hb2)
  have HR2 := Aside0.mk hq2
  have HB2 := Aside0.mk hb2
  clear hb2 hq2
  refine hK.out _ _ ⟨HR2.out.c0, HR2.out.c1⟩ (fun hHeld => ?_)
  clear hK K
  refine norm_ (a' := ?_) ?_ ?_
  rotate_left
  · show Act.put _ (some 20) _ = _
    simp only [Act.put, List.setIfInBounds_toArray, List.set_cons_zero, List.set_cons_succ]
    rfl
  refine pure_ (i := 9) (N := some 11) (v := ?_) (a' := ?_) #[true, true, true, true, true, true, true, true, true, true, false, false, false, false, false, false] rfl rfl (by kernel_rfl) (fun _ _ _ h => h) (Or.inl ⟨by rfl, ?_⟩) ?_ ?_
  rotate_left
  · intro w'
    go_simp
    with_reducible rfl
  rotate_left
  · simp only [Act.put, List.setIfInBounds_toArray, List.set_cons_zero, List.set_cons_succ]
    rfl
  refine pure_ (i := 10) (N := some 21) (v := ?_) (a' := ?_) #[true, true, true, true, true, true, true, true, true, true, true, false, false, false, false, false] rfl rfl (by kernel_rfl) (fun _ _ _ h => h) (Or.inl ⟨by rfl, ?_⟩) ?_ ?_
  rotate_left
  · intro w'
    go_simp
    with_reducible rfl
  rotate_left
  · simp only [Act.put, List.setIfInBounds_toArray, List.set_cons_zero, List.set_cons_succ]
    rfl
  refine pure_ (i := 11) (N := some 22) (v := ?_) (a' := ?_) #[true, true, true, true, true, true, true, true, true, true, true, true, false, false, false, false] rfl rfl (by kernel_rfl) (fun _ _ _ h => h) (Or.inl ⟨by rfl, ?_⟩) ?_ ?_
  rotate_left
  · intro w'
    go_simp
    with_reducible rfl
  rotate_left
  · simp only [Act.put, List.setIfInBounds_toArray, List.set_cons_zero, List.set_cons_succ]
    rfl
  refine pure_ (i := 12) (N := some 23) (v := ?_) (a' := ?_) #[true, true, true, true, true, true, true, true, true, true, true, true, true, false, false, false] rfl rfl (by kernel_rfl) (fun _ _ _ h => h) (Or.inl ⟨by rfl, ?_⟩) ?_ ?_
  rotate_left
  · intro w'
    go_simp
    with_reducible rfl
  rotate_left
  · simp only [Act.put, List.setIfInBounds_toArray, List.set_cons_zero, List.set_cons_succ]
    rfl
  refine pure_ (i := 13) (N := some 3) (v := ?_) (a' := ?_) #[true, true, true, true, true, true, true, true, true, true, true, true, true, true, false, false] rfl rfl (by kernel_rfl) (fun _ _ _ h => h) (Or.inl ⟨by rfl, ?_⟩) ?_ ?_
  rotate_left
  · intro w'
    go_simp
    with_reducible rfl
  rotate_left
  · simp only [Act.put, List.setIfInBounds_toArray, List.set_cons_zero, List.set_cons_succ]
    rfl
  refine pure_ (i := 14) (N := some 4) (v := ?_) (a' := ?_) #[true, true, true, true, true, true, true, true, true, true, true, true, true, true, true, false] rfl rfl (by kernel_rfl) (fun _ _ _ h => h) (Or.inl ⟨by rfl, ?_⟩) ?_ ?_
  rotate_left
  · intro w'
    go_simp
    with_reducible rfl
  rotate_left
  · simp only [Act.put, List.setIfInBounds_toArray, List.set_cons_zero, List.set_cons_succ]
    rfl
  refine pure_ (i := 15) (N := some 5) (v := ?_) (a' := ?_) #[true, true, true, true, true, true, true, true, true, true, true, true, true, true, true, true] rfl rfl (by kernel_rfl) (fun _ _ _ h => h) (Or.inl ⟨by rfl, ?_⟩) ?_ ?_
  rotate_left
  · intro w'
    go_simp
    with_reducible rfl
  rotate_left
  · simp only [Act.put, List.setIfInBounds_toArray, List.set_cons_zero, List.set_cons_succ]
    rfl
  refine done_ (by kernel_rfl) ?_
  have q0 := HR2.out.c0
  have q1 := HR2.out.c1
  have q2 := HR2.out.c2
  have q3 := HR2.out.fz 2
  have q4 := HR2.out.fz 1
  have HR3 := Aside0.mk (HR2.out.err .nilIface)
  have p1 := HR3.out.c1
  have p4 := HR3.out.fz 1
  have hw1 : IntKind.i64.wrap ((a : Int) + (m : Int) - (a : Int)) = (m : Int) := by rw [IntKind.wrap_i64]; omega
  have hne : ((m : Int) != (m : Int)) = false := by simp
  go_wp2_with fail
  go_quiet ((go_at_call 28; exact quiet_drawn (hQ _)))
  go_wp2_with fail
  go_ret
  exact ⟨rfl, (HR3.out.drewN _).at2 (by omega), kp_r ((kp_r ((Kp.refl _ w).drew.next HB2.out) _ _).drewN _) _ _⟩

/-- The reader has failed. -/
def RBad (w : World) (r : Nat) (s : ByteArray) (w' : World) : Prop := ∃ (a' T : Nat) (x : Value) (E : Err), a' ≤ s.size ∧ RD w' r s a' (.iface T x) ∧ IsE w' E (.iface T x) ∧ E ≠ .nil ∧ Kp (fun k => k = r) w w'
def RBadN (w : World) (r : Nat) (s : ByteArray) (e : Ending) (w' : World) : Prop := ∃ n : Int, 0 ≤ n ∧ n < 18446744073709551616 ∧ e = .returned (.int .u64 n) ∧ RBad w r s w'
set_option maxHeartbeats 2000000 in
theorem dnum_bad (w : World) (r : Nat) (s : ByteArray) (a : Nat) (h : RD w r s a .nilIface) (ha : a ≤ s.size) (hs : s.size ≤ 140737488351232) (hb : ∀ v k, dec 0 ((bs s).drop a) = .inr (v, k) → k ≠ (putL v).length) :
    Calls Try.prog 17 #[.pointer (some ⟨r, 0, none⟩)] w (RBadN w r s) := by
  have c0 := h.c0
  have c1 := h.c1
  have c2 := h.c2
  have HR := Aside0.mk h
  rcases hd : dec 0 ((bs s).drop a) with c | ⟨v, k⟩
  · have G := fun w => get_err s (a : Int) c w (by omega) (by omega) hs (by rw [Int.toNat_natCast]; exact hd)
    clear h hb hd
    go_enter Try.func17, Try.ntmps17
    go_wp2_with fail
    refine start_ (n := 16) (S := fun w' => w'.cell? ⟨r, 0, none⟩ = some (.string s) ∧ w'.cell? ⟨r, 1, none⟩ = some (.int .i64 (a : Int))) (ds := []) #[false, false, false, false, false, false, false, false, false, false, false, false, false, false, false, false] (by kernel_rfl) rfl rfl ⟨c0, c1⟩ (fun hHeld => ?_)
    refine pure_ (i := 0) (N := some 12) (v := ?_) (a' := ?_) #[true, false, false, false, false, false, false, false, false, false, false, false, false, false, false, false] rfl rfl (by kernel_rfl) (fun _ _ _ h => h) (Or.inl ⟨by rfl, ?_⟩) ?_ ?_
    rotate_left
    · intro w'
      go_simp
      with_reducible rfl
    rotate_left
    · simp only [Act.put, List.setIfInBounds_toArray, List.set_cons_zero, List.set_cons_succ]
      rfl
    refine pure_ (i := 1) (N := some 13) (v := ?_) (a' := ?_) #[true, true, false, false, false, false, false, false, false, false, false, false, false, false, false, false] rfl rfl (by kernel_rfl) (fun _ _ _ h => h) (Or.inl ⟨by rfl, ?_⟩) ?_ ?_
    rotate_left
    · intro w'
      go_simp
      with_reducible rfl
    rotate_left
    · simp only [Act.put, List.setIfInBounds_toArray, List.set_cons_zero, List.set_cons_succ]
      rfl
    refine pure_ (i := 2) (N := some 14) (v := ?_) (a' := ?_) #[true, true, true, false, false, false, false, false, false, false, false, false, false, false, false, false] rfl rfl (by kernel_rfl) (fun _ _ _ h => h) (Or.inl ⟨by rfl, ?_⟩) ?_ ?_
    rotate_left
    · intro w'
      go_simp
      with_reducible rfl
    rotate_left
    · simp only [Act.put, List.setIfInBounds_toArray, List.set_cons_zero, List.set_cons_succ]
      rfl
    refine pure_ (i := 4) (N := some 16) (v := ?_) (a' := ?_) #[true, true, true, false, true, false, false, false, false, false, false, false, false, false, false, false] rfl rfl (by kernel_rfl) (fun _ _ _ h => h) (Or.inl ⟨by rfl, ?_⟩) ?_ ?_
    rotate_left
    · intro w'
      go_simp
      with_reducible rfl
    rotate_left
    · simp only [Act.put, List.setIfInBounds_toArray, List.set_cons_zero, List.set_cons_succ]
      rfl
    refine pure_ (i := 5) (N := some 17) (v := ?_) (a' := ?_) #[true, true, true, false, true, true, false, false, false, false, false, false, false, false, false, false] rfl rfl (by kernel_rfl) (fun _ _ _ h => h) (Or.inl ⟨by rfl, ?_⟩) ?_ ?_
    rotate_left
    · intro w'
      go_simp
      with_reducible rfl
    rotate_left
    · simp only [Act.put, List.setIfInBounds_toArray, List.set_cons_zero, List.set_cons_succ]
      rfl
    refine pure_ (i := 6) (N := some 18) (v := ?_) (a' := ?_) #[true, true, true, false, true, true, true, false, false, false, false, false, false, false, false, false] rfl rfl (by kernel_rfl) (fun _ _ _ h => h) (Or.inl ⟨by rfl, ?_⟩) ?_ ?_
    rotate_left
    · intro w'
      go_simp
      with_reducible rfl
    rotate_left
    · simp only [Act.put, List.setIfInBounds_toArray, List.set_cons_zero, List.set_cons_succ]
      rfl
    refine take_ (i := 3) (N := some 15) (v := ?_) (a' := ?_) #[true, true, true, true, true, true, true, false, false, false, false, false, false, false, false, false] rfl rfl (by kernel_rfl) (fun _ _ _ h => h) (Or.inl ⟨by rfl, ?_⟩) hHeld ?_ ?_
    rotate_left
    · rintro w' ⟨s0, s1⟩
      go_simp
      with_reducible rfl
    rotate_left
    · simp only [Act.put, List.setIfInBounds_toArray, List.set_cons_zero, List.set_cons_succ]
      rfl
    refine take_ (i := 7) (N := some 19) (v := ?_) (a' := ?_) #[true, true, true, true, true, true, true, true, false, false, false, false, false, false, false, false] rfl rfl (by kernel_rfl) (fun _ _ _ h => h) (Or.inl ⟨by rfl, ?_⟩) hHeld ?_ ?_
    rotate_left
    · rintro w' ⟨s0, s1⟩
      go_simp
      with_reducible rfl
    rotate_left
    · simp only [Act.put, List.setIfInBounds_toArray, List.set_cons_zero, List.set_cons_succ]
      rfl
    refine one_ (i := 8) (N := some 20) #[true, true, true, true, true, true, true, true, true, false, false, false, false, false, false, false] rfl rfl (by kernel_rfl) (by decide) (fun K hK => ?_)
    refine goes_ Try.func27 (by kernel_rfl) rfl #[.string s, .int .i64 (a : Int)] (by rfl) rfl rfl (by simp only [List.map_toArray, List.map_cons, List.map_nil]; rfl) ?_
    with_reducible refine (G _).mono ?_
    rintro e w2 ⟨u, rfl, hu2, hb2⟩
    refine ⟨_, rfl, ?_⟩
    obtain ⟨uT, ux, rfl⟩ := hu2.iface (by simp)
    have HU2 := Aside0.mk hu2
    clear hu2
    have hq2 := (HR.out.drew.below hb2)
    have HR2 := Aside0.mk hq2
    have HB2 := Aside0.mk hb2
    clear hb2 hq2
    refine hK.out _ _ ⟨HR2.out.c0, HR2.out.c1⟩ (fun hHeld => ?_)
    clear hK K
    refine norm_ (a' := ?_) ?_ ?_
    rotate_left
    · show Act.put _ (some 20) _ = _
      simp only [Act.put, List.setIfInBounds_toArray, List.set_cons_zero, List.set_cons_succ]
      rfl
    refine pure_ (i := 9) (N := some 11) (v := ?_) (a' := ?_) #[true, true, true, true, true, true, true, true, true, true, false, false, false, false, false, false] rfl rfl (by kernel_rfl) (fun _ _ _ h => h) (Or.inl ⟨by rfl, ?_⟩) ?_ ?_
    rotate_left
    · intro w'
      go_simp
      with_reducible rfl
    rotate_left
    · simp only [Act.put, List.setIfInBounds_toArray, List.set_cons_zero, List.set_cons_succ]
      rfl
    refine pure_ (i := 10) (N := some 21) (v := ?_) (a' := ?_) #[true, true, true, true, true, true, true, true, true, true, true, false, false, false, false, false] rfl rfl (by kernel_rfl) (fun _ _ _ h => h) (Or.inl ⟨by rfl, ?_⟩) ?_ ?_
    rotate_left
    · intro w'
      go_simp
      with_reducible rfl
    rotate_left
    · simp only [Act.put, List.setIfInBounds_toArray, List.set_cons_zero, List.set_cons_succ]
      rfl
    refine pure_ (i := 11) (N := some 22) (v := ?_) (a' := ?_) #[true, true, true, true, true, true, true, true, true, true, true, true, false, false, false, false] rfl rfl (by kernel_rfl) (fun _ _ _ h => h) (Or.inl ⟨by rfl, ?_⟩) ?_ ?_
    rotate_left
    · intro w'
      go_simp
      with_reducible rfl
    rotate_left
    · simp only [Act.put, List.setIfInBounds_toArray, List.set_cons_zero, List.set_cons_succ]
      rfl
    refine pure_ (i := 12) (N := some 23) (v := ?_) (a' := ?_) #[true, true, true, true, true, true, true, true, true, true, true, true, true, false, false, false] rfl rfl (by kernel_rfl) (fun _ _ _ h => h) (Or.inl ⟨by rfl, ?_⟩) ?_ ?_
    rotate_left
    · intro w'
      go_simp
      with_reducible rfl
    rotate_left
    · simp only [Act.put, List.setIfInBounds_toArray, List.set_cons_zero, List.set_cons_succ]
      rfl
    refine pure_ (i := 13) (N := some 3) (v := ?_) (a' := ?_) #[true, true, true, true, true, true, true, true, true, true, true, true, true, true, false, false] rfl rfl (by kernel_rfl) (fun _ _ _ h => h) (Or.inl ⟨by rfl, ?_⟩) ?_ ?_
    rotate_left
    · intro w'
      go_simp
      with_reducible rfl
    rotate_left
    · simp only [Act.put, List.setIfInBounds_toArray, List.set_cons_zero, List.set_cons_succ]
      rfl
    refine pure_ (i := 14) (N := some 4) (v := ?_) (a' := ?_) #[true, true, true, true, true, true, true, true, true, true, true, true, true, true, true, false] rfl rfl (by kernel_rfl) (fun _ _ _ h => h) (Or.inl ⟨by rfl, ?_⟩) ?_ ?_
    rotate_left
    · intro w'
      go_simp
      with_reducible rfl
    rotate_left
    · simp only [Act.put, List.setIfInBounds_toArray, List.set_cons_zero, List.set_cons_succ]
      rfl
    refine pure_ (i := 15) (N := some 5) (v := ?_) (a' := ?_) #[true, true, true, true, true, true, true, true, true, true, true, true, true, true, true, true] rfl rfl (by kernel_rfl) (fun _ _ _ h => h) (Or.inl ⟨by rfl, ?_⟩) ?_ ?_
    rotate_left
    · intro w'
      go_simp
      with_reducible rfl
    rotate_left
    · simp only [Act.put, List.setIfInBounds_toArray, List.set_cons_zero, List.set_cons_succ]
      rfl
    refine done_ (by kernel_rfl) ?_
    have q2 := HR2.out.c2
    have q3 := HR2.out.fz 2
    go_wp2_with fail
    go_ret
    exact ⟨0, by omega, by omega, rfl, a, _, _, _, ha, HR2.out.err _, HU2.out.rset HR2.out _ _, by simp, kp_r ((Kp.refl _ w).drew.next HB2.out) _ _⟩
  · have hk := hb v k hd
    have hds := dec_some _ 0 v k (okB_drop (bs_ok s) _) (by omega) hd
    have hds2 := hds.2.1
    rw [List.length_drop, bs_length] at hds2
    have G := fun w => get_ok s (a : Int) v k w (by omega) (by omega) hs (by rw [Int.toNat_natCast]; exact hd)
    have hz : (put (v : Int)).size = (putL v).length := by rw [put_size, Int.toNat_natCast]
    have hQ := fun w => size_any (v : Int) w (by omega) (by omega)
    rw [hz] at hQ
    obtain ⟨m, hm⟩ : ∃ m, (putL v).length = m := ⟨_, rfl⟩
    rw [hm] at hQ hk
    have hv : v < 18446744073709551616 := hds.2.2.2.2
    have hk10 : k ≤ 10 := by omega
    have hk2 : a + k ≤ s.size := by omega
    have hne : ((k : Int) != (m : Int)) = true := by simp; omega
    clear h hb hd hds hds2 hz hm hk
    go_enter Try.func17, Try.ntmps17
    go_wp2_with fail
    refine start_ (n := 16) (S := fun w' => w'.cell? ⟨r, 0, none⟩ = some (.string s) ∧ w'.cell? ⟨r, 1, none⟩ = some (.int .i64 (a : Int))) (ds := []) #[false, false, false, false, false, false, false, false, false, false, false, false, false, false, false, false] (by kernel_rfl) rfl rfl ⟨c0, c1⟩ (fun hHeld => ?_)
    refine pure_ (i := 0) (N := some 12) (v := ?_) (a' := ?_) #[true, false, false, false, false, false, false, false, false, false, false, false, false, false, false, false] rfl rfl (by kernel_rfl) (fun _ _ _ h => h) (Or.inl ⟨by rfl, ?_⟩) ?_ ?_
    rotate_left
    · intro w'
      go_simp
      with_reducible rfl
    rotate_left
    · simp only [Act.put, List.setIfInBounds_toArray, List.set_cons_zero, List.set_cons_succ]
      rfl
    refine pure_ (i := 1) (N := some 13) (v := ?_) (a' := ?_) #[true, true, false, false, false, false, false, false, false, false, false, false, false, false, false, false] rfl rfl (by kernel_rfl) (fun _ _ _ h => h) (Or.inl ⟨by rfl, ?_⟩) ?_ ?_
    rotate_left
    · intro w'
      go_simp
      with_reducible rfl
    rotate_left
    · simp only [Act.put, List.setIfInBounds_toArray, List.set_cons_zero, List.set_cons_succ]
      rfl
    refine pure_ (i := 2) (N := some 14) (v := ?_) (a' := ?_) #[true, true, true, false, false, false, false, false, false, false, false, false, false, false, false, false] rfl rfl (by kernel_rfl) (fun _ _ _ h => h) (Or.inl ⟨by rfl, ?_⟩) ?_ ?_
    rotate_left
    · intro w'
      go_simp
      with_reducible rfl
    rotate_left
    · simp only [Act.put, List.setIfInBounds_toArray, List.set_cons_zero, List.set_cons_succ]
      rfl
    refine pure_ (i := 4) (N := some 16) (v := ?_) (a' := ?_) #[true, true, true, false, true, false, false, false, false, false, false, false, false, false, false, false] rfl rfl (by kernel_rfl) (fun _ _ _ h => h) (Or.inl ⟨by rfl, ?_⟩) ?_ ?_
    rotate_left
    · intro w'
      go_simp
      with_reducible rfl
    rotate_left
    · simp only [Act.put, List.setIfInBounds_toArray, List.set_cons_zero, List.set_cons_succ]
      rfl
    refine pure_ (i := 5) (N := some 17) (v := ?_) (a' := ?_) #[true, true, true, false, true, true, false, false, false, false, false, false, false, false, false, false] rfl rfl (by kernel_rfl) (fun _ _ _ h => h) (Or.inl ⟨by rfl, ?_⟩) ?_ ?_
    rotate_left
    · intro w'
      go_simp
      with_reducible rfl
    rotate_left
    · simp only [Act.put, List.setIfInBounds_toArray, List.set_cons_zero, List.set_cons_succ]
      rfl
    refine pure_ (i := 6) (N := some 18) (v := ?_) (a' := ?_) #[true, true, true, false, true, true, true, false, false, false, false, false, false, false, false, false] rfl rfl (by kernel_rfl) (fun _ _ _ h => h) (Or.inl ⟨by rfl, ?_⟩) ?_ ?_
    rotate_left
    · intro w'
      go_simp
      with_reducible rfl
    rotate_left
    · simp only [Act.put, List.setIfInBounds_toArray, List.set_cons_zero, List.set_cons_succ]
      rfl
    refine take_ (i := 3) (N := some 15) (v := ?_) (a' := ?_) #[true, true, true, true, true, true, true, false, false, false, false, false, false, false, false, false] rfl rfl (by kernel_rfl) (fun _ _ _ h => h) (Or.inl ⟨by rfl, ?_⟩) hHeld ?_ ?_
    rotate_left
    · rintro w' ⟨s0, s1⟩
      go_simp
      with_reducible rfl
    rotate_left
    · simp only [Act.put, List.setIfInBounds_toArray, List.set_cons_zero, List.set_cons_succ]
      rfl
    refine take_ (i := 7) (N := some 19) (v := ?_) (a' := ?_) #[true, true, true, true, true, true, true, true, false, false, false, false, false, false, false, false] rfl rfl (by kernel_rfl) (fun _ _ _ h => h) (Or.inl ⟨by rfl, ?_⟩) hHeld ?_ ?_
    rotate_left
    · rintro w' ⟨s0, s1⟩
      go_simp
      with_reducible rfl
    rotate_left
    · simp only [Act.put, List.setIfInBounds_toArray, List.set_cons_zero, List.set_cons_succ]
      rfl
    refine one_ (i := 8) (N := some 20) #[true, true, true, true, true, true, true, true, true, false, false, false, false, false, false, false] rfl rfl (by kernel_rfl) (by decide) (fun K hK => ?_)
    refine goes_ Try.func27 (by kernel_rfl) rfl #[.string s, .int .i64 (a : Int)] (by rfl) rfl rfl (by simp only [List.map_toArray, List.map_cons, List.map_nil]; rfl) ?_
    with_reducible refine (G _).mono ?_
    rintro e w2 ⟨rfl, hb2⟩
    refine ⟨_, rfl, ?_⟩
    have hq2 := (HR.out.drew.below hb2)
    have HR2 := Aside0.mk hq2
    have HB2 := Aside0.mk hb2
    clear hb2 hq2
    refine hK.out _ _ ⟨HR2.out.c0, HR2.out.c1⟩ (fun hHeld => ?_)
    clear hK K
    refine norm_ (a' := ?_) ?_ ?_
    rotate_left
    · show Act.put _ (some 20) _ = _
      simp only [Act.put, List.setIfInBounds_toArray, List.set_cons_zero, List.set_cons_succ]
      rfl
    refine pure_ (i := 9) (N := some 11) (v := ?_) (a' := ?_) #[true, true, true, true, true, true, true, true, true, true, false, false, false, false, false, false] rfl rfl (by kernel_rfl) (fun _ _ _ h => h) (Or.inl ⟨by rfl, ?_⟩) ?_ ?_
    rotate_left
    · intro w'
      go_simp
      with_reducible rfl
    rotate_left
    · simp only [Act.put, List.setIfInBounds_toArray, List.set_cons_zero, List.set_cons_succ]
      rfl
    refine pure_ (i := 10) (N := some 21) (v := ?_) (a' := ?_) #[true, true, true, true, true, true, true, true, true, true, true, false, false, false, false, false] rfl rfl (by kernel_rfl) (fun _ _ _ h => h) (Or.inl ⟨by rfl, ?_⟩) ?_ ?_
    rotate_left
    · intro w'
      go_simp
      with_reducible rfl
    rotate_left
    · simp only [Act.put, List.setIfInBounds_toArray, List.set_cons_zero, List.set_cons_succ]
      rfl
    refine pure_ (i := 11) (N := some 22) (v := ?_) (a' := ?_) #[true, true, true, true, true, true, true, true, true, true, true, true, false, false, false, false] rfl rfl (by kernel_rfl) (fun _ _ _ h => h) (Or.inl ⟨by rfl, ?_⟩) ?_ ?_
    rotate_left
    · intro w'
      go_simp
      with_reducible rfl
    rotate_left
    · simp only [Act.put, List.setIfInBounds_toArray, List.set_cons_zero, List.set_cons_succ]
      rfl
    refine pure_ (i := 12) (N := some 23) (v := ?_) (a' := ?_) #[true, true, true, true, true, true, true, true, true, true, true, true, true, false, false, false] rfl rfl (by kernel_rfl) (fun _ _ _ h => h) (Or.inl ⟨by rfl, ?_⟩) ?_ ?_
    rotate_left
    · intro w'
      go_simp
      with_reducible rfl
    rotate_left
    · simp only [Act.put, List.setIfInBounds_toArray, List.set_cons_zero, List.set_cons_succ]
      rfl
    refine pure_ (i := 13) (N := some 3) (v := ?_) (a' := ?_) #[true, true, true, true, true, true, true, true, true, true, true, true, true, true, false, false] rfl rfl (by kernel_rfl) (fun _ _ _ h => h) (Or.inl ⟨by rfl, ?_⟩) ?_ ?_
    rotate_left
    · intro w'
      go_simp
      with_reducible rfl
    rotate_left
    · simp only [Act.put, List.setIfInBounds_toArray, List.set_cons_zero, List.set_cons_succ]
      rfl
    refine pure_ (i := 14) (N := some 4) (v := ?_) (a' := ?_) #[true, true, true, true, true, true, true, true, true, true, true, true, true, true, true, false] rfl rfl (by kernel_rfl) (fun _ _ _ h => h) (Or.inl ⟨by rfl, ?_⟩) ?_ ?_
    rotate_left
    · intro w'
      go_simp
      with_reducible rfl
    rotate_left
    · simp only [Act.put, List.setIfInBounds_toArray, List.set_cons_zero, List.set_cons_succ]
      rfl
    refine pure_ (i := 15) (N := some 5) (v := ?_) (a' := ?_) #[true, true, true, true, true, true, true, true, true, true, true, true, true, true, true, true] rfl rfl (by kernel_rfl) (fun _ _ _ h => h) (Or.inl ⟨by rfl, ?_⟩) ?_ ?_
    rotate_left
    · intro w'
      go_simp
      with_reducible rfl
    rotate_left
    · simp only [Act.put, List.setIfInBounds_toArray, List.set_cons_zero, List.set_cons_succ]
      rfl
    refine done_ (by kernel_rfl) ?_
    have q0 := HR2.out.c0
    have q1 := HR2.out.c1
    have q2 := HR2.out.c2
    have q3 := HR2.out.fz 2
    have q4 := HR2.out.fz 1
    have HR3 := Aside0.mk (HR2.out.err .nilIface)
    have p1 := HR3.out.c1
    have hw1 : IntKind.i64.wrap ((a : Int) + (k : Int) - (a : Int)) = (k : Int) := by rw [IntKind.wrap_i64]; omega
    go_wp2_with fail
    go_quiet ((go_at_call 28; exact quiet_drawn (hQ _)))
    have G2 := fun n => fails_new ((w2.setCell ⟨r, 2, none⟩ .nilIface).drewN n) r s a (a : Int) 3 (HR3.out.drewN n)
    clear hw1
    go_wp2_with fail
    refine (G2 _).mono ?_
    rintro e w4 ⟨rfl, u, hr4, hu4, hk4⟩
    obtain ⟨uT, ux, rfl⟩ := hu4.iface (by simp)
    have HR4 := Aside0.mk hr4
    have HU4 := Aside0.mk hu4
    have HK4 := Aside0.mk hk4
    have z1 := hr4.c1
    have z2 := hr4.fz 1
    clear hr4 hu4 hk4
    go_wp2_with fail
    go_ret
    exact ⟨v, by omega, by omega, rfl, a + k, _, _, _, hk2, HR4.out.at2 (by omega), HU4.out.rset HR4.out _ _, by simp, kp_r (((kp_r ((Kp.refl _ w).drew.next HB2.out) _ _).drewN _).trans HK4.out) _ _⟩

/-! ### a text -/
set_option maxHeartbeats 2000000 in
theorem dtext_ok (w : World) (r : Nat) (s t : ByteArray) (a : Nat) (q : List Nat) (h : RD w r s a .nilIface) (ha : a ≤ s.size) (hs : s.size ≤ 140737488351232) (ht : t.size < 18446744073709551616) (he : (bs s).drop a = putL t.size ++ (bs t ++ q)) :
    Calls Try.prog 19 #[.pointer (some ⟨r, 0, none⟩)] w fun e w' => e = .returned (.string t) ∧ RD w' r s (a + (textL (bs t)).length) .nilIface ∧ Kp (fun k => k = r) w w' := by
  have G := dnum_ok w r s a t.size (bs t ++ q) h ha hs ht he
  have hlen := congrArg List.length he
  rw [List.length_drop, bs_length, List.length_append, List.length_append, bs_length] at hlen
  have hex : s.extract (a + (putL t.size).length) (a + (putL t.size).length + t.size) = t := by
    apply bs_inj
    rw [bs_extract, List.drop_take, show a + (putL t.size).length + t.size - (a + (putL t.size).length) = t.size by omega, ← List.drop_drop, he, List.drop_left, ← bs_length, List.take_left]
  have hL : a + (textL (bs t)).length = a + (putL t.size).length + t.size := by rw [textL_size, List.length_append, bs_length]; omega
  rw [hL]
  generalize (putL t.size).length = m at *
  obtain ⟨b, hb⟩ : ∃ b, a + m = b := ⟨_, rfl⟩
  rw [hb] at G hex hL ⊢
  obtain ⟨n, hn⟩ : ∃ n, t.size = n := ⟨_, rfl⟩
  rw [hn] at G hex hL ht hlen ⊢
  have hbn : b + n ≤ s.size := by omega
  have HX := Aside0.mk hex
  clear he hlen hex hL hn hb h
  go_enter Try.func19, Try.ntmps19
  go_wp2_with fail
  refine G.mono ?_
  rintro e w2 ⟨rfl, hr2, hk2⟩
  have c0 := hr2.c0
  have c1 := hr2.c1
  have c2 := hr2.c2
  have f1 := hr2.fz 1
  have HR2 := Aside0.mk hr2
  have HK2 := Aside0.mk hk2
  have hw1 : IntKind.i64.wrap ((s.size : Int) - (b : Int)) = ((s.size - b : Nat) : Int) := by rw [IntKind.wrap_i64]; omega
  have hw2 : IntKind.u64.wrap ((s.size - b : Nat) : Int) = ((s.size - b : Nat) : Int) := by rw [wrap_u64]; omega
  have hgt : decide (s.size - b < n) = false := decide_eq_false (by omega)
  clear hr2 hk2
  go_wp2_with fail
  go_quiet (fail)
  clear hw1 hw2
  have hw3 : IntKind.i64.wrap (n : Int) = (n : Int) := by rw [IntKind.wrap_i64]; omega
  have hbn2 : (b : Int) + (n : Int) ≤ (s.size : Int) := by omega
  go_wp2_with fail
  have hw4 : IntKind.i64.wrap ((b : Int) + (n : Int) - (n : Int)) = (b : Int) := by rw [IntKind.wrap_i64]; omega
  have hle : (b : Int) ≤ (b : Int) + (n : Int) := by omega
  have hb0 : (0 : Int) ≤ (b : Int) := by omega
  have d0 : ((w2.drewN nq).setCell ⟨r, 1, none⟩ (.int .i64 ((b : Int) + (n : Int)))).cell? ⟨r, 0, none⟩ = some (.string s) := ((HR2.out.drewN nq).at2 (a' := b + n) (by omega)).c0
  have d1 : ((w2.drewN nq).setCell ⟨r, 1, none⟩ (.int .i64 ((b : Int) + (n : Int)))).cell? ⟨r, 1, none⟩ = some (.int .i64 ((b : Int) + (n : Int))) := by
    have := ((HR2.out.drewN nq).at2 (x := (b : Int) + (n : Int)) (a' := b + n) (by omega)).c1
    rw [this, show ((b + n : Nat) : Int) = (b : Int) + (n : Int) by omega]
  go_quiet (fail)
  go_wp2_with fail
  go_ret
  exact ⟨congrArg (fun t => Ending.returned (.string t)) HX.out, ((HR2.out.drewN _).at2 (by omega)).drewN _, ((kp_r (HK2.out.drewN _) _ _).drewN _)⟩
set_option maxHeartbeats 2000000 in
theorem dtext_bad (w : World) (r : Nat) (s : ByteArray) (a : Nat) (h : RD w r s a .nilIface) (ha : a ≤ s.size) (hs : s.size ≤ 140737488351232)
    (hb : (∃ (v : Nat) (q : List Nat), v < 18446744073709551616 ∧ (bs s).drop a = putL v ++ q ∧ q.length < v) ∨ (∀ v k, dec 0 ((bs s).drop a) = .inr (v, k) → k ≠ (putL v).length)) :
    Calls Try.prog 19 #[.pointer (some ⟨r, 0, none⟩)] w fun e w' => e = .returned (.string ByteArray.empty) ∧ RBad w r s w' := by
  rcases hb with ⟨v, q, hv, he, hlt⟩ | hb
  · have G := dnum_ok w r s a v q h ha hs hv he
    have hlen := congrArg List.length he
    rw [List.length_drop, bs_length, List.length_append] at hlen
    have hp := putL_pos v
    generalize (putL v).length = m at *
    obtain ⟨b, hb⟩ : ∃ b, a + m = b := ⟨_, rfl⟩
    rw [hb] at G
    have hbn : b ≤ s.size := by omega
    have hql : q.length = s.size - b := by omega
    rw [hql] at hlt
    clear he hlen hql hb h
    go_enter Try.func19, Try.ntmps19
    go_wp2_with fail
    refine G.mono ?_
    rintro e w2 ⟨rfl, hr2, hk2⟩
    have c0 := hr2.c0
    have c1 := hr2.c1
    have c2 := hr2.c2
    have HR2 := Aside0.mk hr2
    have HK2 := Aside0.mk hk2
    have hw1 : IntKind.i64.wrap ((s.size : Int) - (b : Int)) = ((s.size - b : Nat) : Int) := by rw [IntKind.wrap_i64]; omega
    have hw2 : IntKind.u64.wrap ((s.size - b : Nat) : Int) = ((s.size - b : Nat) : Int) := by rw [wrap_u64]; omega
    have hgt : decide (s.size - b < v) = true := decide_eq_true hlt
    have G2 := fun n => fails_new (w2.drewN n) r s b (b : Int) 1 (hr2.drewN n)
    clear hr2 hk2
    go_wp2_with fail
    go_quiet (fail)
    clear hw1 hw2 hgt
    go_wp2_with fail
    refine (G2 _).mono ?_
    rintro e w4 ⟨rfl, u, hr4, hu4, hk4⟩
    obtain ⟨uT, ux, rfl⟩ := hu4.iface (by simp)
    have HR4 := Aside0.mk hr4
    have HU4 := Aside0.mk hu4
    have HK4 := Aside0.mk hk4
    have z2 := hr4.c2
    clear hr4 hu4 hk4
    go_wp2_with fail
    go_ret
    exact ⟨rfl, b, _, _, _, hbn, HR4.out, HU4.out, by simp, (HK2.out.drewN _).trans HK4.out⟩
  · have G := dnum_bad w r s a h ha hs hb
    clear hb h
    go_enter Try.func19, Try.ntmps19
    go_wp2_with fail
    refine G.mono ?_
    rintro e w2 ⟨n, hn0, hn1, rfl, b, T, x, E, hbs, hr2, hu2, hE, hk2⟩
    obtain ⟨n, rfl⟩ := Int.eq_ofNat_of_zero_le hn0
    have c0 := hr2.c0
    have c1 := hr2.c1
    have c2 := hr2.c2
    have HR2 := Aside0.mk hr2
    have HU2 := Aside0.mk hu2
    have HE2 := Aside0.mk hE
    have HK2 := Aside0.mk hk2
    have hw1 : IntKind.i64.wrap ((s.size : Int) - (b : Int)) = ((s.size - b : Nat) : Int) := by rw [IntKind.wrap_i64]; omega
    have hw2 : IntKind.u64.wrap ((s.size - b : Nat) : Int) = ((s.size - b : Nat) : Int) := by rw [wrap_u64]; omega
    have G2 := fun n => fails_old (w2.drewN n) r s b (b : Int) 1 T x (hr2.drewN n)
    clear hr2 hk2 hu2 hE
    by_cases hlt : s.size - b < n
    · have hgt : decide (s.size - b < n) = true := decide_eq_true hlt
      go_wp2_with fail
      go_quiet (fail)
      clear hw1 hw2 hgt
      go_wp2_with fail
      refine (G2 _).mono ?_
      rintro e w4 ⟨rfl, rfl⟩
      go_wp2_with fail
      go_ret
      exact ⟨rfl, b, _, _, _, hbs, HR2.out.drewN _, HU2.out.below (pw_below_drewN (Below.refl _ _) _), HE2.out, HK2.out.drewN _⟩
    · have hgt : decide (s.size - b < n) = false := decide_eq_false hlt
      go_wp2_with fail
      go_quiet (fail)
      clear hw1 hw2 hgt
      go_wp2_with fail
      go_ret
      exact ⟨rfl, b, _, _, _, hbs, HR2.out.drewN _, HU2.out.below (pw_below_drewN (Below.refl _ _) _), HE2.out, HK2.out.drewN _⟩
end Go.Proofs.Ytehfgemoccjomaa
namespace Go.Proofs.Ytehfgemoccjomaa
open Go.RowKit Go.Proofs.YtehfgemoccjomaaW.PrintWords Go.Proofs.YtehfgemoccjomaaW.PrintLast Go.Proofs.YtehfgemoccjomaaW.PrintMore Hy

theorem RD.apart {w : World} {r : Nat} {s : ByteArray} {a : Nat} {u : Value} {base d : Nat} {v : Value} {bm : Nat} {L : List ByteArray} (h : RD w r s a u) (hd : Dct w base d v bm L) : ¬ GD d bm v r := by
  rintro (rfl | rfl | e)
  · have := hd.blk
    unfold RD at h
    rw [h] at this
    injection this with this
    injection this with _ this
    exact absurd this (by decide)
  · obtain ⟨D, n, ⟨es, clock, hb, _⟩, _⟩ := hd.mp
    unfold RD at h
    rw [h] at hb
    simp at hb
  · exact own_ne (Kd.own_of_R hd.row) h (by decide) e.symm
theorem IsE.dct {w w' : World} {base d : Nat} {v : Value} {bm : Nat} {L : List ByteArray} {e : Err} {x : Value} (hx : IsE w e x) (hd : Dct w base d v bm L) (hk : Kp (GD d bm v) w w') : IsE w' e x := by
  refine hx.kp hk (fun k c hc h => ?_)
  rcases h with rfl | rfl | h
  · have := hd.blk
    rw [hc] at this
    injection this with this
    injection this with _ this
    exact absurd this (by decide)
  · obtain ⟨D, n, ⟨es, clock, hb, _⟩, _⟩ := hd.mp
    rw [hc] at hb
    simp at hb
  · exact own_ne (Kd.own_of_R hd.row) hc (by decide) h.symm
theorem Dct.rkp {w w' : World} {r : Nat} {s : ByteArray} {a : Nat} {u : Value} {base d : Nat} {v : Value} {bm : Nat} {L : List ByteArray} (hd : Dct w base d v bm L) (h : RD w r s a u) (hk : Kp (fun k => k = r) w w') : Dct w' base d v bm L :=
  hd.kp hk (fun _k hg e => h.apart hd (e ▸ hg))
/-- It is read. -/
def DGood (w : World) (L : List ByteArray) (e : Ending) (w' : World) : Prop := ∃ d v bm, e = .returned (.tuple #[.pointer (some ⟨d, 0, none⟩), .nilIface]) ∧ Dct w' w.heap.size d v bm L ∧ Below w.heap.size w w'
def DBad (w : World) (e : Ending) (w' : World) : Prop := ∃ T x E, e = .returned (.tuple #[.pointer none, .iface T x]) ∧ IsE w' E (.iface T x) ∧ E ≠ .nil ∧ Below w.heap.size w w'
set_option maxHeartbeats 4000000 in
set_option maxRecDepth 100000 in
theorem dread_ok (s : ByteArray) (L : List ByteArray) (w : World) (hs : s.size ≤ 140737488351232) (h : isDictB s L) : Calls Try.prog 7 #[.string s] w (DGood w L) := by
  have hL : L.length ≤ 20000 := by have := h.2.2; rwa [bsL_length] at this
  have HN := Aside0.mk (bsL_nodup.1 h.2.1)
  have HD : Aside0 (bs s = putL L.length ++ joinL (bsL L)) := ⟨by have := h.1; unfold dictL at this; rwa [bsL_length] at this⟩
  have hr0 : RD (w.alloc (.cells #[.string s, .int .i64 0, .nilIface] 48 (0, 0))) w.heap.size s 0 .nilIface := blk_new w _
  have G := dnum_ok _ w.heap.size s 0 L.length (joinL (bsL L)) hr0 (Nat.zero_le _) hs (by omega) (by rw [List.drop_zero]; exact HD.out)
  have HB0 : Aside0 (Below w.heap.size w (w.alloc (.cells #[.string s, .int .i64 0, .nilIface] 48 (0, 0)))) := ⟨(Below.refl _ _).alloc (Nat.le_refl _) _⟩
  clear h hr0
  rw [Nat.zero_add] at G
  go_enter Try.func7, Try.ntmps7
  go_wp2_with fail
  refine G.mono ?_
  rintro e w2 ⟨rfl, hr2, hk2⟩
  have HR2 := Aside0.mk hr2
  have HB2 := Aside0.mk (HB0.out.trans (hk2.toBelow HB0.out.size (fun k hk => by subst hk; exact Nat.le_refl _)))
  clear hr2 hk2 G HB0
  go_wp2_with fail
  refine (dnew_any _).mono ?_
  rintro e w3 ⟨rfl, hd3, hb3⟩
  obtain ⟨d, hd⟩ : ∃ d, w2.heap.size + 1 = d := ⟨_, rfl⟩
  obtain ⟨bm, hbm⟩ : ∃ bm, w2.heap.size = bm := ⟨_, rfl⟩
  have hr3 := HR2.out.below hb3
  have HB3 := Aside0.mk (below_next HB2.out hb3)
  have hd4 := hd3.lower HB2.out.size
  rw [hd] at hd4 ⊢
  rw [hbm] at hd4
  have HR3 := Aside0.mk hr3
  have HD3 := Aside0.mk hd4
  clear hd3 hb3 hr3 hd4 HR2 HB2 hd hbm
  go_wp2_with fail
  go_loopw [7] (fun v7 w' => ∃ (D R : List ByteArray) (v : Value), Aside0 (L = D ++ R) ∧ v7 = .int .i64 (D.length : Int) ∧ Aside0 (RD w' w.heap.size s ((putL L.length).length + (joinL (bsL D)).length) .nilIface) ∧ Aside0 (Dct w' w.heap.size d v bm D) ∧ Aside0 (Below w.heap.size w w')) (fun v7 _ => L.length - (intOf v7).toNat)
  case atStart => exact ⟨[], L, _, ⟨rfl⟩, rfl, HR3, HD3, HB3⟩
  case round =>
    clear HB3 HD3 HR3
    obtain ⟨D, R, v, HE, rfl, HR, HC, HB⟩ := hrel
    have hlen := congrArg List.length HE.out
    rw [List.length_append] at hlen
    have q0 := HR.out.c0
    have q1 := HR.out.c1
    have q2 := HR.out.c2
    have HDD : Aside0 (bs s = (putL L.length ++ joinL (bsL D)) ++ joinL (bsL R)) := ⟨by
      have h1 := HD.out
      rw [HE.out, bsL_append, joinL_append, ← List.append_assoc, ← HE.out] at h1
      exact h1⟩
    cases R with
    | nil =>
      have hz := congrArg List.length HDD.out
      rw [bsL_nil, joinL_nil, List.append_nil, bs_length, List.length_append] at hz
      have hDL : D = L := by rw [HE.out, List.append_nil]
      have hDl : D.length = L.length := by rw [hDL]
      have hlt : ¬ ((D.length : Int) < (L.length : Int)) := by omega
      have hcv : IntKind.u64.wrap (D.length : Int) = (D.length : Int) := by rw [wrap_u64]; omega
      have HDL := Aside0.mk hDL
      generalize (putL L.length).length + (joinL (bsL D)).length = a at *
      have hat : ¬ ((a : Int) < (s.size : Int)) := by omega
      clear hDL hDl hlen hz
      go_wp2_with fail
      go_ret2
      exact ⟨_, _, _, rfl, HDL.out ▸ HC.out, HB.out⟩
    | cons t R =>
      have hts : t.size < 18446744073709551616 := by
        have := congrArg List.length HDD.out
        rw [bsL_cons, joinL_cons, textL_size] at this
        simp only [List.length_append, bs_length] at this
        omega
      have hz := congrArg List.length HDD.out
      rw [bs_length, List.length_append, List.length_append] at hz
      have hdrop : (bs s).drop ((putL L.length).length + (joinL (bsL D)).length) = putL t.size ++ (bs t ++ joinL (bsL R)) := by
        rw [HDD.out, ← List.length_append, List.drop_left, bsL_cons, joinL_cons, textL_size, List.append_assoc]
      have G := dtext_ok wr w.heap.size s t ((putL L.length).length + (joinL (bsL D)).length) (joinL (bsL R)) HR.out (by omega) hs hts hdrop
      have hpos : (putL L.length).length + (joinL (bsL D)).length + (textL (bs t)).length = (putL L.length).length + (joinL (bsL (D ++ [t]))).length := by rw [bsL_snoc, joinL_snoc, List.length_append]; omega
      rw [hpos] at G
      rw [List.length_cons] at hlen
      have hlt : (D.length : Int) < (L.length : Int) := by omega
      have hcv : IntKind.u64.wrap (D.length : Int) = (D.length : Int) := by rw [wrap_u64]; omega
      have hnt : t ∉ D := by
        have := HN.out
        rw [HE.out, List.nodup_append] at this
        exact fun hm => this.2.2 t hm t (by simp) rfl
      have HNT := Aside0.mk hnt
      have HE2 : Aside0 (L = (D ++ [t]) ++ R) := ⟨by rw [HE.out, List.append_assoc]; rfl⟩
      have htz : t.size ≤ 9223372036854775807 := by
        have := congrArg List.length hdrop
        rw [List.length_drop, bs_length, List.length_append, List.length_append, bs_length] at this
        omega
      generalize (putL L.length).length + (joinL (bsL D)).length = a at *
      generalize ha2 : (putL L.length).length + (joinL (bsL (D ++ [t]))).length = a2 at *
      have HA2 := Aside0.mk ha2
      clear ha2
      have hDs : D.length ≤ 20000 := by omega
      have hms : 0 < R.length + 1 ∧ D.length < L.length := ⟨by omega, by omega⟩
      have HMS := Aside0.mk hms
      clear hnt hdrop hz hpos hts HDD hlen hms
      go_wp2_with fail
      refine G.mono ?_
      rintro e w5 ⟨rfl, hr5, hk5⟩
      have hc5 := HC.out.rkp HR.out hk5
      have HB5 := Aside0.mk (HB.out.trans (hk5.toBelow HB.out.size (fun k hk => by subst hk; exact Nat.le_refl _)))
      have z2 := hr5.c2
      have G2 := dadd_new w5 w.heap.size d v bm D t HNT.out (by omega) htz HB5.out.size hc5
      have HR5 := Aside0.mk hr5
      have HC5 := Aside0.mk hc5
      have hne : ((D.length : Int) != (D.length : Int)) = false := by simp
      clear hr5 hk5 hc5 G HC HR HB q0 q1 q2
      go_wp2_with fail
      refine G2.mono ?_
      rintro e w6 ⟨rfl, v1, hc6, _, hk6⟩
      have HR6 := Aside0.mk (HR5.out.kp hk6 (HR5.out.apart HC5.out))
      have HB6 := Aside0.mk (HB5.out.trans (hk6.toBelow HB5.out.size (fun k hk => HC5.out.ge k hk)))
      have HC6 := Aside0.mk hc6
      clear hc6 hk6
      go_wp2_with fail
      go_roundw
      case rel => exact ⟨D ++ [t], R, v1, HE2, by rw [List.length_append, List.length_singleton]; go_num, ⟨by rw [HA2.out]; exact HR6.out⟩, HC6, HB6⟩
      case measure => have := HMS.out; simp [intOf]; omega

set_option maxHeartbeats 4000000 in
set_option maxRecDepth 100000 in
theorem dread_err (s : ByteArray) (w : World) (hs : s.size ≤ 140737488351232) (h : ∀ L, ¬ isDictB s L) : Calls Try.prog 7 #[.string s] w (DBad w) := by
  have HH := Aside0.mk h
  have hr0 : RD (w.alloc (.cells #[.string s, .int .i64 0, .nilIface] 48 (0, 0))) w.heap.size s 0 .nilIface := blk_new w _
  have HB0 : Aside0 (Below w.heap.size w (w.alloc (.cells #[.string s, .int .i64 0, .nilIface] 48 (0, 0)))) := ⟨(Below.refl _ _).alloc (Nat.le_refl _) _⟩
  clear h
  rcases dec_or2 (bs s) (bs_ok s) with ⟨n, hn, he⟩ | hbad
  · have G := dnum_ok _ w.heap.size s 0 n ((bs s).drop (putL n).length) hr0 (Nat.zero_le _) hs hn (by rw [List.drop_zero]; exact he)
    have hpl : (putL n).length ≤ s.size := by have := congrArg List.length he; rw [List.length_append, bs_length] at this; omega
    rw [Nat.zero_add] at G
    have HE0 := Aside0.mk he
    clear hr0 he
    by_cases hbig : 20000 < n
    · generalize (putL n).length = a at *
      go_enter Try.func7, Try.ntmps7
      go_wp2_with fail
      refine G.mono ?_
      rintro e w1 ⟨rfl, hr2, hk2⟩
      have HB1 := Aside0.mk (HB0.out.trans (hk2.toBelow HB0.out.size (fun k hk => by subst hk; exact Nat.le_refl _)))
      have G2 := fails_new w1 w.heap.size s a 0 9 hr2
      clear hr2 hk2 G HB0
      go_wp2_with fail
      refine G2.mono ?_
      rintro e w2 ⟨rfl, u, hr2, hu2, hk2⟩
      obtain ⟨T, x, rfl⟩ := hu2.iface (by simp)
      obtain ⟨E, hE⟩ : ∃ E, Err.at_ 0 (.code 9) = E := ⟨_, rfl⟩
      rw [hE] at hu2
      have HE3 : Aside0 (E ≠ .nil) := ⟨by rw [← hE]; simp⟩
      have HR2 := Aside0.mk hr2
      have HU2 := Aside0.mk hu2
      have HB2 := Aside0.mk (HB1.out.trans (hk2.toBelow HB1.out.size (fun k hk => by subst hk; exact Nat.le_refl _)))
      clear hr2 hu2 hk2 G2 HB1 hE
      go_wp2_with fail
      refine (dnew_any _).mono ?_
      rintro e w3 ⟨rfl, hd3, hb3⟩
      obtain ⟨d, hd⟩ : ∃ d, w2.heap.size + 1 = d := ⟨_, rfl⟩
      rw [hd]
      have HR3 := Aside0.mk (HR2.out.below hb3)
      have HU3 := Aside0.mk (HU2.out.below hb3)
      have HB3 := Aside0.mk (below_next HB2.out hb3)
      clear hd3 hb3 HR2 HU2 HB2 hd
      go_wp2_with fail
      go_loopw [7] (fun v7 w' => ∃ i : Nat, i ≤ 20000 ∧ v7 = .int .i64 (i : Int) ∧ Aside0 (RD w' w.heap.size s a (.iface T x)) ∧ Aside0 (IsE w' E (.iface T x)) ∧ Aside0 (Below w.heap.size w w')) (fun _ _ => 0)
      case atStart => exact ⟨0, by omega, rfl, HR3, HU3, HB3⟩
      case round =>
        clear HR3 HU3 HB3
        obtain ⟨i, hi, rfl, HR3, HU3, HB3⟩ := hrel
        have q1 := HR3.out.c1
        have q2 := HR3.out.c2
        by_cases hat : a < s.size
        · have hat2 : (a : Int) < (s.size : Int) := by omega
          go_wp2_with fail
          refine (fails_old _ _ _ _ _ _ _ _ HR3.out).mono ?_
          rintro e w4 ⟨rfl, rfl⟩
          go_wp2_with fail
          go_quiet (fail)
          go_wp2_with fail
          go_ret2
          exact ⟨_, _, _, rfl, HU3.out.below (pw_below_drewN (Below.refl _ _) _), HE3.out, pw_below_drewN HB3.out _⟩
        · have hat2 : ¬ ((a : Int) < (s.size : Int)) := by omega
          go_wp2_with fail
          go_quiet (fail)
          go_wp2_with fail
          go_ret2
          exact ⟨_, _, _, rfl, HU3.out.below (pw_below_drewN (Below.refl _ _) _), HE3.out, pw_below_drewN HB3.out _⟩
    · have hn2 : n ≤ 20000 := by omega
      have HA0 : Aside0 (dictAtB s n [] ((bs s).drop (putL n).length)) := ⟨by unfold dictAtB dictAt; rw [bsL_nil, joinL_nil, List.nil_append]; exact HE0.out⟩
      clear HE0 hn hbig
      generalize (putL n).length = a0 at *
      go_enter Try.func7, Try.ntmps7
      go_wp2_with fail
      refine G.mono ?_
      rintro e w2 ⟨rfl, hr2, hk2⟩
      have HR2 := Aside0.mk hr2
      have HB2 := Aside0.mk (HB0.out.trans (hk2.toBelow HB0.out.size (fun k hk => by subst hk; exact Nat.le_refl _)))
      clear hr2 hk2 G HB0
      go_wp2_with fail
      refine (dnew_any _).mono ?_
      rintro e w3 ⟨rfl, hd3, hb3⟩
      obtain ⟨d, hd⟩ : ∃ d, w2.heap.size + 1 = d := ⟨_, rfl⟩
      obtain ⟨bm, hbm⟩ : ∃ bm, w2.heap.size = bm := ⟨_, rfl⟩
      have hr3 := HR2.out.below hb3
      have HB3 := Aside0.mk (below_next HB2.out hb3)
      have hd4 := hd3.lower HB2.out.size
      rw [hd] at hd4 ⊢
      rw [hbm] at hd4
      have HR3 := Aside0.mk hr3
      have HD3 := Aside0.mk hd4
      clear hd3 hb3 hr3 hd4 HR2 HB2 hd hbm
      go_wp2_with fail
      go_loopw [7] (fun v7 w' => ∃ (i a : Nat) (u v : Value) (D : List ByteArray), v7 = .int .i64 (i : Int) ∧ i ≤ n ∧ a ≤ s.size ∧ Aside0 (RD w' w.heap.size s a u) ∧ Aside0 (Dct w' w.heap.size d v bm D) ∧ Aside0 (Below w.heap.size w w') ∧ Aside0 ((u = .nilIface ∧ i = D.length ∧ dictAtB s n D ((bs s).drop a)) ∨ ∃ T x E, u = .iface T x ∧ IsE w' E (.iface T x) ∧ E ≠ .nil)) (fun v7 _ => n - (intOf v7).toNat)
      case atStart => exact ⟨0, a0, .nilIface, _, [], rfl, by omega, hpl, HR3, HD3, HB3, ⟨.inl ⟨rfl, rfl, HA0.out⟩⟩⟩
      case round =>
        clear HB3 HD3 HR3 HA0 hpl
        obtain ⟨i, a, u, v, D, rfl, hi, ha, HR3, HC3, HB3, HS⟩ := hrel
        rcases HS.out with ⟨rfl, hiD, hA⟩ | ⟨T, x, E, rfl, hu, hE⟩
        · have HDl := Aside0.mk hiD
          have HA := Aside0.mk hA
          have q0 := HR3.out.c0
          have q1 := HR3.out.c1
          have q2 := HR3.out.c2
          have hcv : IntKind.u64.wrap (i : Int) = (i : Int) := by rw [wrap_u64]; omega
          clear hiD hA HS
          by_cases hlt : i < n
          · have hlt2 : (i : Int) < (n : Int) := by omega
            have hdl : ((bs s).drop a).length < 18446744073709551616 := by rw [List.length_drop, bs_length]; omega
            rcases text_or ((bs s).drop a) (okB_drop (bs_ok s) a) hdl with ⟨t, q, ht, he⟩ | hbad
            · have G := dtext_ok wr w.heap.size s t a q HR3.out ha hs ht he
              have hT : (bs s).drop a = textL (bs t) ++ q := by rw [he, textL_size, List.append_assoc]
              have hlen := congrArg List.length hT
              rw [List.length_drop, bs_length, List.length_append] at hlen
              have htl := textL_length (bs t)
              rw [bs_length] at htl
              have hq : (bs s).drop (a + (textL (bs t)).length) = q := by rw [← List.drop_drop, hT, List.drop_left]
              have htz : t.size ≤ 9223372036854775807 := by omega
              have ha2 : a + (textL (bs t)).length ≤ s.size := by omega
              have HN : Aside0 (dictAtB s n (D ++ [t]) ((bs s).drop (a + (textL (bs t)).length))) := ⟨by rw [hq]; unfold dictAtB; rw [bsL_snoc]; exact dictAt_next HA.out hT⟩
              generalize a + (textL (bs t)).length = a2 at *
              clear hT hlen htl hq he hdl ht
              by_cases hm : t ∈ D
              · obtain ⟨j, hj⟩ := List.mem_iff_getElem?.1 hm
                have hji : j < i := by rw [HDl.out]; exact (List.getElem?_eq_some_iff.1 hj).1
                have hne : ((j : Int) != (i : Int)) = true := by simp; omega
                have HJ := Aside0.mk hj
                clear hm hj HN hji
                go_wp2_with fail
                refine G.mono ?_
                rintro e w5 ⟨rfl, hr5, hk5⟩
                have hc5 := HC3.out.rkp HR3.out hk5
                have HB5 := Aside0.mk (HB3.out.trans (hk5.toBelow HB3.out.size (fun k hk => by subst hk; exact Nat.le_refl _)))
                have z2 := hr5.c2
                have G2 := dadd_old w5 w.heap.size d v bm D t j HJ.out (by have := HDl.out; omega) htz hc5
                have HR5 := Aside0.mk hr5
                have HC5 := Aside0.mk hc5
                have G3 := fails_new w5 w.heap.size s a2 (a : Int) 3 hr5
                clear hr5 hk5 hc5 G HC3 HR3 HB3 q0 q1 q2
                go_wp2_with fail
                refine G2.mono ?_
                rintro e w6 ⟨rfl, rfl⟩
                go_wp2_with fail
                refine G3.mono ?_
                rintro e w7 ⟨rfl, u, hr7, hu7, hk7⟩
                obtain ⟨T, x, rfl⟩ := hu7.iface (by simp)
                have HR7 := Aside0.mk hr7
                have HC7 := Aside0.mk (HC5.out.rkp HR5.out hk7)
                have HB7 := Aside0.mk (HB5.out.trans (hk7.toBelow HB5.out.size (fun k hk => by subst hk; exact Nat.le_refl _)))
                have HU7 := Aside0.mk hu7
                clear hr7 hu7 hk7 G2 G3
                go_wp2_with fail
                go_roundw
                case rel => exact ⟨i + 1, a2, _, v, D, by go_num, by omega, ha2, HR7, HC7, HB7, ⟨.inr ⟨_, _, _, rfl, HU7.out, by simp⟩⟩⟩
                case measure => simp [intOf]; omega
              · have hDl2 : D.length ≤ 20000 := by have := HDl.out; omega
                have hne : ((D.length : Int) != (i : Int)) = false := by have := HDl.out; simp; omega
                have HM := Aside0.mk hm
                clear hm
                go_wp2_with fail
                refine G.mono ?_
                rintro e w5 ⟨rfl, hr5, hk5⟩
                have hc5 := HC3.out.rkp HR3.out hk5
                have HB5 := Aside0.mk (HB3.out.trans (hk5.toBelow HB3.out.size (fun k hk => by subst hk; exact Nat.le_refl _)))
                have z2 := hr5.c2
                have G2 := dadd_new w5 w.heap.size d v bm D t HM.out (by omega) htz HB5.out.size hc5
                have HR5 := Aside0.mk hr5
                have HC5 := Aside0.mk hc5
                clear hr5 hk5 hc5 G HC3 HR3 HB3 q0 q1 q2
                go_wp2_with fail
                refine G2.mono ?_
                rintro e w6 ⟨rfl, v1, hc6, _, hk6⟩
                have HR6 := Aside0.mk (HR5.out.kp hk6 (HR5.out.apart HC5.out))
                have HB6 := Aside0.mk (HB5.out.trans (hk6.toBelow HB5.out.size (fun k hk => HC5.out.ge k hk)))
                have HC6 := Aside0.mk hc6
                clear hc6 hk6
                go_wp2_with fail
                go_roundw
                case rel => exact ⟨i + 1, a2, _, v1, D ++ [t], by go_num, by omega, ha2, HR6, HC6, HB6, ⟨.inl ⟨rfl, by rw [List.length_append, List.length_singleton]; have := HDl.out; omega, HN.out⟩⟩⟩
                case measure => simp [intOf]; omega
            · have G := dtext_bad wr w.heap.size s a HR3.out ha hs hbad
              clear hbad hdl
              go_wp2_with fail
              refine G.mono ?_
              rintro e w5 ⟨rfl, a2, T, x, E, ha2, hr5, hu5, hE5, hk5⟩
              have HC5 := Aside0.mk (HC3.out.rkp HR3.out hk5)
              have HB5 := Aside0.mk (HB3.out.trans (hk5.toBelow HB3.out.size (fun k hk => by subst hk; exact Nat.le_refl _)))
              have HR5 := Aside0.mk hr5
              have HU5 := Aside0.mk hu5
              have HE5 := Aside0.mk hE5
              have z2 := hr5.c2
              clear hr5 hk5 hu5 hE5 G HC3 HR3 HB3 q0 q1 q2
              go_wp2_with fail
              go_roundw
              case rel => exact ⟨i + 1, a2, _, v, D, by go_num, by omega, ha2, HR5, HC5, HB5, ⟨.inr ⟨_, _, _, rfl, HU5.out, HE5.out⟩⟩⟩
              case measure => simp [intOf]; omega
          · obtain rfl : i = n := by omega
            have hat : a < s.size := by
              rcases Nat.lt_or_ge a s.size with h | h
              · exact h
              · have h1 := HA.out
                rw [List.drop_of_length_le (by rw [bs_length]; omega)] at h1
                exact absurd (dictAt_done hn2 (by rw [bsL_length]; exact HDl.out.symm) (bsL_nodup.2 HC3.out.nod) h1) (HH.out D)
            have hat2 : (a : Int) < (s.size : Int) := by omega
            have hlt2 : ¬ ((i : Int) < (i : Int)) := by omega
            have G := fails_new wr w.heap.size s a (a : Int) 2 HR3.out
            go_wp2_with fail
            refine G.mono ?_
            rintro e w7 ⟨rfl, u, hr7, hu7, hk7⟩
            obtain ⟨T, x, rfl⟩ := hu7.iface (by simp)
            have z2 := hr7.c2
            have HB7 := Aside0.mk (HB3.out.trans (hk7.toBelow HB3.out.size (fun k hk => by subst hk; exact Nat.le_refl _)))
            have HU7 := Aside0.mk hu7
            clear hr7 hu7 hk7 G HB3 HR3 HC3 q0 q1 q2
            go_wp2_with fail
            go_quiet (fail)
            go_wp2_with fail
            go_ret2
            exact ⟨_, _, _, rfl, HU7.out.below (pw_below_drewN (Below.refl _ _) _), by simp, pw_below_drewN HB7.out _⟩
        · have HU3 := Aside0.mk hu
          have HE3 := Aside0.mk hE
          have q1 := HR3.out.c1
          have q2 := HR3.out.c2
          clear hu hE HS
          by_cases hat : a < s.size
          · have hat2 : (a : Int) < (s.size : Int) := by omega
            go_wp2_with fail
            refine (fails_old _ _ _ _ _ _ _ _ HR3.out).mono ?_
            rintro e w4 ⟨rfl, rfl⟩
            go_wp2_with fail
            go_quiet (fail)
            go_wp2_with fail
            go_ret2
            exact ⟨_, _, _, rfl, HU3.out.below (pw_below_drewN (Below.refl _ _) _), HE3.out, pw_below_drewN HB3.out _⟩
          · have hat2 : ¬ ((a : Int) < (s.size : Int)) := by omega
            go_wp2_with fail
            go_quiet (fail)
            go_wp2_with fail
            go_ret2
            exact ⟨_, _, _, rfl, HU3.out.below (pw_below_drewN (Below.refl _ _) _), HE3.out, pw_below_drewN HB3.out _⟩
  · have G := dnum_bad _ w.heap.size s 0 hr0 (Nat.zero_le _) hs (by rw [List.drop_zero]; exact hbad)
    clear hr0 hbad
    go_enter Try.func7, Try.ntmps7
    go_wp2_with fail
    refine G.mono ?_
    rintro e w2 ⟨n, hn0, hn1, rfl, a, T, x, E, ha, hr2, hu2, hE, hk2⟩
    have HR2 := Aside0.mk hr2
    have HU2 := Aside0.mk hu2
    have HE3 := Aside0.mk hE
    have HB2 := Aside0.mk (HB0.out.trans (hk2.toBelow HB0.out.size (fun k hk => by subst hk; exact Nat.le_refl _)))
    have G2 := fails_old w2 w.heap.size s a 0 9 T x hr2
    clear hr2 hu2 hk2 G HB0 hE
    by_cases hbig : 20000 < n
    · go_wp2_with fail
      refine G2.mono ?_
      rintro e w2 ⟨rfl, rfl⟩
      go_wp2_with fail
      refine (dnew_any _).mono ?_
      rintro e w3 ⟨rfl, hd3, hb3⟩
      obtain ⟨d, hd⟩ : ∃ d, w2.heap.size + 1 = d := ⟨_, rfl⟩
      rw [hd]
      have HR3 := Aside0.mk (HR2.out.below hb3)
      have HU3 := Aside0.mk (HU2.out.below hb3)
      have HB3 := Aside0.mk (below_next HB2.out hb3)
      clear hd3 hb3 HR2 HU2 HB2 hd
      go_wp2_with fail
      go_loopw [7] (fun v7 w' => ∃ i : Nat, i ≤ 20000 ∧ v7 = .int .i64 (i : Int) ∧ Aside0 (RD w' w.heap.size s a (.iface T x)) ∧ Aside0 (IsE w' E (.iface T x)) ∧ Aside0 (Below w.heap.size w w')) (fun _ _ => 0)
      case atStart => exact ⟨0, by omega, rfl, HR3, HU3, HB3⟩
      case round =>
        clear HR3 HU3 HB3
        obtain ⟨i, hi, rfl, HR3, HU3, HB3⟩ := hrel
        have q1 := HR3.out.c1
        have q2 := HR3.out.c2
        by_cases hat : a < s.size
        · have hat2 : (a : Int) < (s.size : Int) := by omega
          go_wp2_with fail
          refine (fails_old _ _ _ _ _ _ _ _ HR3.out).mono ?_
          rintro e w4 ⟨rfl, rfl⟩
          go_wp2_with fail
          go_quiet (fail)
          go_wp2_with fail
          go_ret2
          exact ⟨_, _, _, rfl, HU3.out.below (pw_below_drewN (Below.refl _ _) _), HE3.out, pw_below_drewN HB3.out _⟩
        · have hat2 : ¬ ((a : Int) < (s.size : Int)) := by omega
          go_wp2_with fail
          go_quiet (fail)
          go_wp2_with fail
          go_ret2
          exact ⟨_, _, _, rfl, HU3.out.below (pw_below_drewN (Below.refl _ _) _), HE3.out, pw_below_drewN HB3.out _⟩
    · have hbig2 : n ≤ 20000 := by omega
      go_wp2_with fail
      refine (dnew_any _).mono ?_
      rintro e w3 ⟨rfl, hd3, hb3⟩
      obtain ⟨d, hd⟩ : ∃ d, w2.heap.size + 1 = d := ⟨_, rfl⟩
      rw [hd]
      have HR3 := Aside0.mk (HR2.out.below hb3)
      have HU3 := Aside0.mk (HU2.out.below hb3)
      have HB3 := Aside0.mk (below_next HB2.out hb3)
      clear hd3 hb3 HR2 HU2 HB2 hd
      go_wp2_with fail
      go_loopw [7] (fun v7 w' => ∃ i : Nat, i ≤ 20000 ∧ v7 = .int .i64 (i : Int) ∧ Aside0 (RD w' w.heap.size s a (.iface T x)) ∧ Aside0 (IsE w' E (.iface T x)) ∧ Aside0 (Below w.heap.size w w')) (fun _ _ => 0)
      case atStart => exact ⟨0, by omega, rfl, HR3, HU3, HB3⟩
      case round =>
        clear HR3 HU3 HB3
        obtain ⟨i, hi, rfl, HR3, HU3, HB3⟩ := hrel
        have q1 := HR3.out.c1
        have q2 := HR3.out.c2
        by_cases hat : a < s.size
        · have hat2 : (a : Int) < (s.size : Int) := by omega
          go_wp2_with fail
          refine (fails_old _ _ _ _ _ _ _ _ HR3.out).mono ?_
          rintro e w4 ⟨rfl, rfl⟩
          go_wp2_with fail
          go_quiet (fail)
          go_wp2_with fail
          go_ret2
          exact ⟨_, _, _, rfl, HU3.out.below (pw_below_drewN (Below.refl _ _) _), HE3.out, pw_below_drewN HB3.out _⟩
        · have hat2 : ¬ ((a : Int) < (s.size : Int)) := by omega
          go_wp2_with fail
          go_quiet (fail)
          go_wp2_with fail
          go_ret2
          exact ⟨_, _, _, rfl, HU3.out.below (pw_below_drewN (Below.refl _ _) _), HE3.out, pw_below_drewN HB3.out _⟩
end Go.Proofs.Ytehfgemoccjomaa
