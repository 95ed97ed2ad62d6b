import Derived.Test.YtehfgemoccjomaaDoorMpwhyjyth
import Derived.Test.YtehfgemoccjomaaDoorWLast
import Derived.Test.YtehfgemoccjomaaDoorWMore
import Derived.Maps.OwnSet
import Derived.StringKeys
import Derived.Test.YtehfgemoccjomaaDoorProg
import Derived.WalkKit
import Derived.Below
import Derived.OwnWalk
import Derived.BigQuiet
import Derived.Deep.QuietTactic
import Derived.Outline
import Derived.Test.YtehfgemoccjomaaDoorCDictAddsx
namespace Go.Proofs.YtehfgemoccjomaaDoor
open Go.RowKit Go.WideMaps Go.Maps Go.Proofs.YtehfgemoccjomaaDoorW.PrintWords Go.Proofs.YtehfgemoccjomaaDoorW.PrintLast Go.Proofs.YtehfgemoccjomaaDoorW.PrintMore Hy

theorem dlaw : Keyed Tryd.prog 9 := string_keyed Tryd.underlying9
theorem dzero (w : World) : (zeroValue 3).run Tryd.prog w = .ok (.int .i64 0) w := by kernel_rfl
theorem str_info : (Tryd.prog.info? 9).map (fun i => (i.zero, i.size, i.bytes)) = some (some (.string ByteArray.empty), 1, 16) := by kernel_rfl

/-! ### a map's datum: each text's number -/
def MD (D : DataW Unit) (L : List ByteArray) : Prop := IsMap D ∧ ∀ s : ByteArray, (s ∈ L → Maps.has D (.string s.data.toList) = true) ∧ (s ∉ L → Maps.has D (.string s.data.toList) = false) ∧ ∀ j : Nat, L[j]? = some s → D.atKey (.string s.data.toList) (.lit (.int .i64 0)) = .lit (.int .i64 (j : Int))
theorem str_lit_inj {s t : ByteArray} (h : (Lit.string s.data.toList) = .string t.data.toList) : s = t := by
  injection h with h
  cases s; cases t
  simpa using h
theorem str_key (s : ByteArray) : WideAt.IsKeyLit (.string s.data.toList) := trivial
theorem MD.nil : MD (.map []) [] := ⟨isMap_empty, fun s => ⟨fun h => by simp at h, fun _ => rfl, fun j h => by simp at h⟩⟩
theorem MD.add {D : DataW Unit} {L : List ByteArray} (h : MD D L) (s : ByteArray) (hs : s ∉ L) : MD (D.put (.string s.data.toList) (.lit (.int .i64 (L.length : Int)))) (L ++ [s]) := by
  refine ⟨h.1.put _ _, fun t => ?_⟩
  by_cases e : t = s
  · subst e
    refine ⟨fun _ => has_put_same h.1 (str_key t) _, fun hn => absurd (by simp) hn, fun j hj => ?_⟩
    have hjl : j = L.length := by
      rcases Nat.lt_or_ge j L.length with hl | hl
      · rw [List.getElem?_append_left hl] at hj
        exact absurd (List.mem_of_getElem? hj) hs
      · have := (List.getElem?_eq_some_iff.1 hj).1
        simp at this; omega
    rw [atKey_put_same h.1 (str_key t), hjl]
  · have hne : (Lit.string t.data.toList) ≠ .string s.data.toList := fun e2 => e (str_lit_inj e2)
    refine ⟨fun hm => ?_, fun hm => ?_, fun j hj => ?_⟩
    · rw [has_put_other hne]
      refine (h.2 t).1 ?_
      rcases List.mem_append.1 hm with hm | hm
      · exact hm
      · exact absurd (List.mem_singleton.1 hm) e
    · rw [has_put_other hne]
      exact (h.2 t).2.1 (fun h2 => hm (List.mem_append_left _ h2))
    rw [atKey_put_other hne]
    refine (h.2 t).2.2 j ?_
    rcases Nat.lt_or_ge j L.length with hl | hl
    · rwa [List.getElem?_append_left hl] at hj
    · rw [List.getElem?_append_right hl] at hj
      have h0 : j - L.length = 0 := by
        have := (List.getElem?_eq_some_iff.1 hj).1
        simp at this; omega
      rw [h0] at hj
      simp at hj
      exact absurd hj.symm e

/-! ### the program's dictionary: its block d, its row v, its map bm -/
structure Dct (w : World) (base d : Nat) (v : Value) (bm : Nat) (L : List ByteArray) : Prop where
  hd : base ≤ d
  hm : base ≤ bm
  blk : w.heap[d]? = some (.cells #[v, .map (some bm)] 47 (0, 0))
  row : Kd.R Kd.string 9 w base (fun _ => True) v L
  mp : ∃ (D : DataW Unit) (n : Nat), w.ownsMap Tryd.prog 9 (plainElem Tryd.prog 3) bm n D ∧ n ≤ L.length ∧ MD D L
  nod : L.Nodup
def GD (d bm : Nat) (v : Value) (k : Nat) : Prop := k = d ∨ k = bm ∨ v.ownBlock = some k
section
variable {w w' : World} {base d : Nat} {v : Value} {bm : Nat} {L : List ByteArray}
theorem Dct.c0 (h : Dct w base d v bm L) : w.cell? ⟨d, 0, none⟩ = some v := by rw [blk_cell h.blk]; rfl
theorem Dct.c1 (h : Dct w base d v bm L) : w.cell? ⟨d, 1, none⟩ = some (.map (some bm)) := by rw [blk_cell h.blk]; rfl
theorem Dct.ne (h : Dct w base d v bm L) : d ≠ bm := by
  obtain ⟨D, n, ⟨es, clock, hb, _⟩, _⟩ := h.mp
  rintro rfl
  have := h.blk
  rw [hb] at this
  simp at this
theorem Dct.rowd (h : Dct w base d v bm L) : v.ownBlock ≠ some d := fun e => own_ne (Kd.own_of_R h.row) h.blk (by decide) e.symm
theorem Dct.rowm (h : Dct w base d v bm L) : v.ownBlock ≠ some bm := by
  intro e
  obtain ⟨D, n, ⟨es, clock, hb, _⟩, _⟩ := h.mp
  obtain ⟨cells, hc⟩ := own_typed (Kd.own_of_R h.row) bm e
  rw [hb] at hc
  simp at hc
theorem Dct.below (h : Dct w base d v bm L) (hb : Below w.heap.size w w') : Dct w' base d v bm L := by
  obtain ⟨D, n, ho, hn, hD⟩ := h.mp
  exact ⟨h.hd, h.hm, blk_below h.blk hb, Kd.R_below h.row hb, ⟨D, n, ho.kept (grown_of_below hb none) (by simp), hn, hD⟩, h.nod⟩
theorem Dct.kp {M : Nat → Prop} (h : Dct w base d v bm L) (hk : Kp M w w') (hM : ∀ k, GD d bm v k → ¬ M k) : Dct w' base d v bm L := by
  obtain ⟨D, n, ⟨es, clock, hb, r⟩, hn, hD⟩ := h.mp
  refine ⟨h.hd, h.hm, hk.obj h.blk (hM d (.inl rfl)), Kd.R_of_own (hk.own (Kd.own_of_R h.row) (fun k e => hM k (.inr (.inr e)))) (fun _ _ => trivial), ⟨D, n, ⟨es, clock, hk.obj hb (hM bm (.inr (.inl rfl))), r⟩, hn, hD⟩, h.nod⟩
theorem Dct.ge (h : Dct w base d v bm L) (k : Nat) (hk : GD d bm v k) : base ≤ k := by
  rcases hk with rfl | rfl | hk
  · exact h.hd
  · exact h.hm
  · exact own_base (Kd.own_of_R h.row) k hk
theorem Dct.lt (h : Dct w base d v bm L) (k : Nat) (hk : GD d bm v k) : k < w.heap.size := by
  rcases hk with rfl | rfl | hk
  · exact blk_lt h.blk
  · obtain ⟨D, n, ho, _⟩ := h.mp; exact ho.lt
  · exact own_lt (Kd.own_of_R h.row) k hk
theorem Dct.lower {base' : Nat} (h : Dct w base d v bm L) (hb : base' ≤ base) : Dct w base' d v bm L := ⟨Nat.le_trans hb h.hd, Nat.le_trans hb h.hm, h.blk, Kd.R_lower h.row hb, h.mp, h.nod⟩
end

/-- One text more: what the store of the map and the append leave. -/
theorem Dct.more {w w1 w2 : World} {base d bm n : Nat} {v v1 : Value} {L : List ByteArray} {D : DataW Unit} (s : ByteArray) (hs : s ∉ L) (h : Dct w base d v bm L) (hM : MD D L) (hn : n ≤ L.length)
    (ho1 : w1.ownsMap Tryd.prog 9 (plainElem Tryd.prog 3) bm (n + 1) (D.put (.string s.data.toList) (.lit (.int .i64 (L.length : Int))))) (hg1 : w.grownBy w1 (some bm))
    (ho2 : Kd.R Kd.string 9 w2 base (fun _ => True) v1 (L ++ [s])) (hg2 : w1.grownBy w2 v.ownBlock) (hat : v1.ownBlock = v.ownBlock ∨ ∃ b, v1.ownBlock = some b ∧ w1.heap.size ≤ b) :
    w2.cell? ⟨d, 0, none⟩ = some v ∧ w2.frozen? ⟨d, 0, none⟩ = false ∧ Dct (w2.setCell ⟨d, 0, none⟩ v1) base d v1 bm (L ++ [s]) ∧ (∀ k, v1.ownBlock = some k → v.ownBlock = some k ∨ w.heap.size ≤ k) ∧ Kp (GD d bm v) w (w2.setCell ⟨d, 0, none⟩ v1) := by
  have hb1 : w1.heap[d]? = some (.cells #[v, .map (some bm)] 47 (0, 0)) := blk_grown h.blk hg1 (by have := h.ne; simpa using this)
  have hb2 : w2.heap[d]? = some (.cells #[v, .map (some bm)] 47 (0, 0)) := blk_grown hb1 hg2 (fun e => h.rowd e.symm)
  have hne : ∀ k, v1.ownBlock = some k → k ≠ d := fun k hk e => own_ne (Kd.own_of_R ho2) hb2 (by decide) (by rw [hk, e])
  have hkp : Kp (GD d bm v) w w2 := by
    have k1 : Kp (GD d bm v) w w1 := ⟨hg1.os, hg1.tape, hg1.output, hg1.size, fun k hk hm => hg1.block k hk (fun e => hm (.inr (.inl (by simpa using e))))⟩
    exact k1.trans ⟨hg2.os, hg2.tape, hg2.output, hg2.size, fun k hk hm => hg2.block k hk (fun e => hm (.inr (.inr e.symm)))⟩
  refine ⟨by rw [blk_cell hb2]; rfl, blk_frozen hb2 0, ⟨h.hd, h.hm, by rw [blk_set hb2]; rfl, ?_, ⟨_, n + 1, ?_, by rw [List.length_append, List.length_singleton]; omega, hM.add s hs⟩, ?_⟩, ?_, hkp.set (.inl rfl) _⟩
  · exact Kd.R_of_own (own_move (Kd.own_of_R ho2) (fun k hk => Below.heap_setCell w2 ⟨d, 0, none⟩ v1 k (hne k hk))) (fun _ _ => trivial)
  · exact (ho1.kept hg2 (fun e => h.rowm e.symm)).setCell (fun e => h.ne e.symm) _
  · rw [List.nodup_append]
    refine ⟨h.nod, by simp, fun a ha b hb => ?_⟩
    rw [List.mem_singleton.1 hb]
    rintro rfl
    exact hs ha
  · intro k hk
    rcases hat with e | ⟨b, e, hb⟩
    · rw [e] at hk; exact .inl hk
    · rw [e] at hk
      injection hk with hk
      exact .inr (by have := hg1.size; omega)

theorem dnew_any (w : World) : Calls Tryd.prog 5 #[] w fun e w' => e = .returned (.pointer (some ⟨w.heap.size + 1, 0, none⟩)) ∧ Dct w' w.heap.size (w.heap.size + 1) (.slice none 0 0) w.heap.size [] ∧ Below w.heap.size w w' := by
  have hmm := @run_makeMap Tryd.prog
  go_enter Tryd.func5, Tryd.ntmps5
  go_wp2
  go_ret
  have hb := ((Below.refl w.heap.size w).alloc (Nat.le_refl _) (.map #[] 0))
  refine ⟨by simp, ⟨by omega, Nat.le_refl _, ?_, Kd.R_nil _ _ _ _ _, ⟨.map [], 0, ?_, by simp, MD.nil⟩, List.nodup_nil⟩, below_alloc hb _⟩
  · have := blk_new (w.alloc (.map #[] 0)) (.cells #[.slice none 0 0, .map (some w.heap.size)] 47 (0, 0))
    rw [World.size_alloc] at this
    exact this
  · exact (World.ownsMap_made w _ _ _).alloc _
theorem dlen_any (w : World) (base d : Nat) (v : Value) (bm : Nat) (L : List ByteArray) (h : Dct w base d v bm L) :
    Calls Tryd.prog 9 #[.pointer (some ⟨d, 0, none⟩)] w fun e w' => e = .returned (.int .i64 (L.length : Int)) ∧ w = w' := by
  have c0 := h.c0
  obtain ⟨A, c, rfl⟩ := Kd.R_slice h.row
  clear h
  go_enter Tryd.func9, Tryd.ntmps9
  go_wp2
  go_ret
  exact ⟨rfl, rfl⟩
theorem dget_in (w : World) (base d : Nat) (v : Value) (bm : Nat) (L : List ByteArray) (i : Nat) (hi : i < L.length) (_hl : L.length ≤ 1000000000) (h : Dct w base d v bm L) :
    Calls Tryd.prog 12 #[.pointer (some ⟨d, 0, none⟩), .int .i64 (i : Int)] w fun e w' => e = .returned (.tuple #[.string L[i], .bool true]) ∧ Below w.heap.size w w' := by
  have c0 := h.c0
  obtain ⟨A, c, rfl, hc, hC⟩ := Kd.R_reads h.row
  obtain ⟨ad, rfl, hx⟩ := Kd.at_string hC (i : Int) (by omega) (by omega)
  obtain ⟨t, ht⟩ : ∃ t, L[i] = t := ⟨_, rfl⟩
  have hx2 : w.cell? (ad.add i) = some (.string t) := by
    rw [Int.toNat_natCast] at hx
    rw [hx, ← ht]; simp [rdOf, List.getD_eq_getElem?_getD, hi]
  rw [ht]
  have hi1 : ¬ ((i : Int) < 0) := by omega
  have hi2 : (i : Int) < (L.length : Int) := by omega
  have hd : decide ((i : Int) < 0) = false := decide_eq_false hi1
  clear h hC hx ht
  go_enter Tryd.func12, Tryd.ntmps12
  go_wp2
  go_ret2
  exact ⟨rfl, Below.refl _ _⟩
theorem dget_out (w : World) (base d : Nat) (v : Value) (bm : Nat) (L : List ByteArray) (i : Int) (hi : i < 0 ∨ (L.length : Int) ≤ i) (h : Dct w base d v bm L) :
    Calls Tryd.prog 12 #[.pointer (some ⟨d, 0, none⟩), .int .i64 i] w fun e w' => e = .returned (.tuple #[.string ByteArray.empty, .bool false]) ∧ Below w.heap.size w w' := by
  have c0 := h.c0
  obtain ⟨A, c, rfl⟩ := Kd.R_slice h.row
  clear h
  by_cases h0 : i < 0
  · have hd : decide (i < 0) = true := decide_eq_true h0
    clear hi
    go_enter Tryd.func12, Tryd.ntmps12
    go_wp2
    go_ret2
    exact ⟨rfl, Below.refl _ _⟩
  · have hd : decide (i < 0) = false := decide_eq_false h0
    have hi2 : (L.length : Int) ≤ i := by omega
    clear hi
    go_enter Tryd.func12, Tryd.ntmps12
    go_wp2
    go_ret2
    exact ⟨rfl, Below.refl _ _⟩
set_option maxHeartbeats 1000000 in
theorem dadd_old (w : World) (base d : Nat) (v : Value) (bm : Nat) (L : List ByteArray) (s : ByteArray) (j : Nat) (hj : L[j]? = some s) (_hl : L.length ≤ 1000000000) (hs : s.size ≤ 9223372036854775807) (h : Dct w base d v bm L) :
    Calls Tryd.prog 7 #[.pointer (some ⟨d, 0, none⟩), .string s] w fun e w' => e = .returned (.int .i64 (j : Int)) ∧ w = w' := by
  have c1 := h.c1
  obtain ⟨D, n, hown, hn, hM⟩ := h.mp
  have hhas : Maps.has D (.string s.data.toList) = true := (hM.2 s).1 (List.mem_of_getElem? hj)
  have hat := (hM.2 s).2.2 j hj
  have HH := Aside0.mk hhas
  have HA := Aside0.mk hat
  clear h hhas hat hj hM
  go_enter Tryd.func7, Tryd.ntmps7
  go_wp2_with (at_lookup; refine wpList_lookup_own_ok_int _ rfl _ _ 45 rfl 9 3 .i64 dlaw Tryd.underlying45 Tryd.underlying3 (dzero _) bm n D rfl hown _ _ rfl (keyOf_string_mk Tryd.underlying9 hs) ?_; intro c hat hwc; rw [HA.out] at hat; obtain rfl : (j : Int) = c := (by injection hat with hat; injection hat with _ hat); rw [HH.out]; clear hat hwc)
  go_ret
  exact ⟨rfl, rfl⟩
set_option maxHeartbeats 1000000 in
theorem dadd_new (w : World) (base d : Nat) (v : Value) (bm : Nat) (L : List ByteArray) (s : ByteArray) (hj : s ∉ L) (hl : L.length ≤ 1000000000) (hs : s.size ≤ 9223372036854775807) (hB : base ≤ w.heap.size) (h : Dct w base d v bm L) :
    Calls Tryd.prog 7 #[.pointer (some ⟨d, 0, none⟩), .string s] w fun e w' => e = .returned (.int .i64 (L.length : Int)) ∧ ∃ v1, Dct w' base d v1 bm (L ++ [s]) ∧ (∀ k, v1.ownBlock = some k → v.ownBlock = some k ∨ w.heap.size ≤ k) ∧ Kp (GD d bm v) w w' := by
  have c0 := h.c0
  have c1 := h.c1
  obtain ⟨D, n, hown, hn, hM⟩ := h.mp
  have hhas : Maps.has D (.string s.data.toList) = false := (hM.2 s).2.1 hj
  have HH := Aside0.mk hhas
  have HI := Aside0.mk h
  have HM := Aside0.mk hM
  have HJ := Aside0.mk hj
  obtain ⟨A0, k0, hv⟩ := Kd.R_slice h.row
  obtain ⟨N, hN⟩ : ∃ N, L.length = N := ⟨_, rfl⟩
  rw [hN] at hv
  subst hv
  have HN := Aside0.mk hN
  have hN2 : N ≤ 1000000000 := by omega
  have hn2 : n < maxLen := by unfold maxLen; omega
  have hwf : (Lit.int .i64 (N : Int)).wf = true := WalkArith.wf_i64 (by omega)
  clear h hhas hM hj hN
  go_enter Tryd.func7, Tryd.ntmps7
  go_wp2_with (first
    | (at_lookup; refine wpList_lookup_own_ok_int _ rfl _ _ 45 rfl 9 3 .i64 dlaw Tryd.underlying45 Tryd.underlying3 (dzero _) bm n D rfl hown _ _ rfl (keyOf_string_mk Tryd.underlying9 hs) ?_; intro c hat hwc; rw [HH.out]; clear hat hwc)
    | (at_mapUpdate; refine wpList_mapUpdate_own _ rfl _ _ _ 45 rfl 9 3 dlaw Tryd.underlying45 _ bm n D rfl hown hn2 _ _ _ rfl rfl (keyOf_string_mk Tryd.underlying9 hs) _ [] (plainElem_int Tryd.underlying3 hwf) ?_; intro w1 hown1 hgrow1; have HO1 := Aside0.mk hown1; have HG1 := Aside0.mk hgrow1; have hb1 := blk_grown HI.out.blk hgrow1 (by have := HI.out.ne; simpa using this); have d0 : w1.cell? ⟨d, 0, none⟩ = some (.slice A0 N k0) := (by rw [blk_cell hb1]; rfl); clear hb1 hown1 hgrow1 c0 c1 hown)
    | ((with_reducible refine gate_builtin (b := .append) (xs := #[.tmp 33, .tmp 35]) rfl ?_); at_builtin; refine Kd.R_append Kd.string (w0 := w1) base rfl (.tmp 33) (.tmp 35) 22 9 (.string ByteArray.empty) 16 rfl Tryd.underlying22 str_info rfl (by decide) (by omega) (.slice A0 N k0) L s [.string s] (fun _ => True) (fun _ => False) rfl rfl rfl (fun _ hk => hk.elim) (fun _ _ => trivial) ?aO (Below.refl _ _) (Nat.le_trans hB HG1.out.size) (by omega) ?_; (case aO => exact Kd.R_of_own (own_other (Kd.own_of_R HI.out.row) HG1.out (.inr HI.out.rowm)) (fun _ _ => trivial)); intro va wa ho hb hg hat; obtain ⟨A', c', hva⟩ := Kd.R_slice ho; obtain ⟨N2, hN2⟩ : ∃ N2, (L ++ [s]).length = N2 := ⟨_, rfl⟩; rw [hN2] at hva; subst hva; obtain ⟨q0, q1, q2, q3, q4⟩ := HI.out.more s HJ.out HM.out (by omega) (by rw [HN.out]; exact HO1.out) HG1.out ho hg hat; have H2 := Aside0.mk q2; have H3 := Aside0.mk q3; have H4 := Aside0.mk q4; clear q2 q3 q4 ho hb hg hat d0 hN2))
  go_ret
  exact ⟨congrArg (fun m : Nat => Ending.returned (.int .i64 (m : Int))) HN.out.symm, _, H2.out, H3.out, H4.out⟩
end Go.Proofs.YtehfgemoccjomaaDoor
namespace Go.Proofs.YtehfgemoccjomaaDoor
open Go.RowKit Go.Proofs.YtehfgemoccjomaaDoorW.PrintWords Go.Proofs.YtehfgemoccjomaaDoorW.PrintLast Go.Proofs.YtehfgemoccjomaaDoorW.PrintMore
open CDictAdds (hygref_Texts.l0 hygref_Texts.f hygref_Texts.calls)

theorem str_toList {t s : ByteArray} (h : t.toList = s.toList) : t = s := by
  rw [ByteArray.toList_eq, ByteArray.toList_eq] at h
  exact ByteArray.ext (Array.toList_inj.mp h)
theorem str_ne {t s : ByteArray} (h : ¬ t = s) : ¬ t.toList = s.toList := fun e => h (str_toList e)
theorem rdOf_at {l : List ByteArray} {i : Nat} (h : i < l.length) : rdOf ByteArray.empty l (i : Int) = l[i] := by simp [rdOf, List.getD_eq_getElem?_getD, h]
theorem texts_l0 (a b : List ByteArray) (h : a.length = b.length) (hb : a.length ≤ 140737488355328) : ∀ (d i k : Nat), i + d = a.length → d < k → ∃ r, hygref_Texts.l0 k a b (i : Int) = some r ∧ (r = true ↔ a.drop i = b.drop i) := by
  intro d
  induction d with
  | zero =>
    intro i k hi hk
    obtain ⟨k, rfl⟩ : ∃ m, k = m + 1 := ⟨k - 1, by omega⟩
    refine ⟨true, ?_, ?_⟩
    · rw [hygref_Texts.l0, if_neg (by omega)]
    · rw [List.drop_of_length_le (by omega), List.drop_of_length_le (by omega)]; simp
  | succ d ih =>
    intro i k hi hk
    obtain ⟨k, rfl⟩ : ∃ m, k = m + 1 := ⟨k - 1, by omega⟩
    have hi1 : i < a.length := by omega
    have hi2 : i < b.length := by omega
    have hd : (a.drop i = b.drop i) ↔ (a[i] = b[i] ∧ a.drop (i + 1) = b.drop (i + 1)) := by
      rw [List.drop_eq_getElem_cons hi1, List.drop_eq_getElem_cons hi2, List.cons.injEq]
    rw [hygref_Texts.l0, if_pos (by omega), if_pos (by omega), if_pos (by omega), rdOf_at hi1, rdOf_at hi2]
    by_cases he : a[i] = b[i]
    · obtain ⟨r, e1, e2⟩ := ih (i + 1) k (by omega) (by omega)
      refine ⟨r, ?_, ?_⟩
      · rw [if_pos (by rw [he]), show wrap64 ((i : Int) + 1) = ((i + 1 : Nat) : Int) by unfold wrap64; omega, e1]
      · rw [e2, hd]; exact ⟨fun h => ⟨he, h⟩, fun h => h.2⟩
    · refine ⟨false, by rw [if_neg (str_ne he)], ?_⟩
      rw [hd]; exact ⟨fun h => (by cases h), fun h => absurd h.1 he⟩
theorem texts_f (a b : List ByteArray) (hb : a.length ≤ 140737488355328) : ∃ r, hygref_Texts.f (a.length + 1) a b = some r ∧ (r = true ↔ a = b) := by
  unfold hygref_Texts.f
  by_cases h : a.length = b.length
  · rw [if_pos (by omega)]
    have := texts_l0 a b h hb a.length 0 (a.length + 1) (by omega) (by omega)
    simpa using this
  · rw [if_neg (by omega)]
    refine ⟨false, rfl, ?_⟩
    exact ⟨fun h => (by cases h), fun e => absurd (by rw [e]) h⟩
theorem texts_same (A : Option Addr) (c : Nat) (l : List ByteArray) (A' : Option Addr) (c' : Nat) (w : World) (hr : Kd.C Kd.string w A l.length l) (hc : l.length ≤ c) (hr' : Kd.C Kd.string w A' l.length l) (hc' : l.length ≤ c') (hl : l.length ≤ 140737488355328) :
    Calls Tryd.prog 13 #[.slice A l.length c, .slice A' l.length c'] w fun e w' => e = .returned (.bool true) ∧ Drawn0 w w' := by
  obtain ⟨r, h1, h2⟩ := texts_f l l hl
  obtain rfl := h2.2 rfl
  exact hygref_Texts.calls (l.length + 1) A c l A' c' l _ w hr hc hr' hc' h1
theorem texts_other (A : Option Addr) (c : Nat) (l : List ByteArray) (A' : Option Addr) (c' : Nat) (l' : List ByteArray) (w : World) (hr : Kd.C Kd.string w A l.length l) (hc : l.length ≤ c) (hr' : Kd.C Kd.string w A' l'.length l') (hc' : l'.length ≤ c') (hl : l.length ≤ 140737488355328) (hne : l ≠ l') :
    Calls Tryd.prog 13 #[.slice A l.length c, .slice A' l'.length c'] w fun e w' => e = .returned (.bool false) ∧ Drawn0 w w' := by
  obtain ⟨r, h1, h2⟩ := texts_f l l' hl
  have : r = false := by
    cases r with
    | false => rfl
    | true => exact absurd (h2.1 rfl) hne
  subst this
  exact hygref_Texts.calls (l.length + 1) A c l A' c' l' _ w hr hc hr' hc' h1
end Go.Proofs.YtehfgemoccjomaaDoor
namespace Go.Proofs.YtehfgemoccjomaaDoor
open Go.RowKit Go.Proofs.YtehfgemoccjomaaDoorW.PrintWords Go.Proofs.YtehfgemoccjomaaDoorW.PrintLast Go.Proofs.YtehfgemoccjomaaDoorW.PrintMore Hy
open CDictAdds (hyglaw23_few.l0 hyglaw23_few.f hyglaw23_few.calls)

/-! ### few and short texts -/
def sumZ (l : List ByteArray) : Nat := (l.map ByteArray.size).sum
def minZ (l : List ByteArray) : Nat := (l.map fun x => min x.size 20001).sum
theorem minZ_le (l : List ByteArray) : minZ l ≤ 20001 * l.length := by
  induction l with
  | nil => simp [minZ]
  | cons x l ih => unfold minZ at *; rw [List.map_cons, List.sum_cons, List.length_cons]; omega
theorem minZ_snoc (l : List ByteArray) (x : ByteArray) : minZ (l ++ [x]) = minZ l + min x.size 20001 := by unfold minZ; simp
theorem sumZ_of (l : List ByteArray) (h : minZ l ≤ 20000) : sumZ l ≤ 20000 := by
  have : sumZ l = minZ l := by
    induction l with
    | nil => rfl
    | cons x l ih =>
      unfold sumZ minZ at *
      rw [List.map_cons, List.sum_cons] at h
      rw [List.map_cons, List.sum_cons, List.map_cons, List.sum_cons, ih (by omega)]
      omega
  omega
theorem joinL_sumZ (l : List ByteArray) (h : ∀ x ∈ l, x.size < 18446744073709551616) : (joinL (bsL l)).length ≤ sumZ l + 10 * l.length := by
  induction l with
  | nil => simp [bsL, joinL, sumZ]
  | cons x l ih =>
    have h1 := ih (fun y hy => h y (by simp [hy]))
    have h2 := textL_le (bs x) (by rw [bs_length]; exact h x (by simp))
    rw [bs_length] at h2
    unfold sumZ at *
    rw [bsL_cons, joinL_cons, List.length_append, List.map_cons, List.sum_cons, List.length_cons]
    omega
theorem sumZ_mem {l : List ByteArray} {x : ByteArray} (h : x ∈ l) : x.size ≤ sumZ l := by
  induction l with
  | nil => simp at h
  | cons y l ih =>
    unfold sumZ at *
    rw [List.map_cons, List.sum_cons]
    rcases List.mem_cons.1 h with rfl | h
    · omega
    · have := ih h; omega
theorem few_end (k : Nat) (l : List ByteArray) (acc i : Int) (hi : ¬ i < (l.length : Int) ∨ ¬ i < 300) : hyglaw23_few.l0 (k + 1) l acc i = if (l.length : Int) ≤ 300 then some (decide (acc ≤ 20000)) else some false := by
  rw [hyglaw23_few.l0]
  rcases hi with hi | hi
  · rw [if_neg hi]
  · by_cases h : i < (l.length : Int)
    · rw [if_pos h, if_neg hi]
    · rw [if_neg h]
theorem few_step (k : Nat) (l : List ByteArray) (i : Nat) (hi : i < l.length) (h3 : i < 300) : hyglaw23_few.l0 (k + 1) l ((minZ (l.take i) : Nat) : Int) (i : Int) = hyglaw23_few.l0 k l ((minZ (l.take (i + 1)) : Nat) : Int) ((i + 1 : Nat) : Int) := by
  have hm := minZ_le (l.take i)
  have hl : (l.take i).length ≤ i := List.length_take_le _ _
  have e1 : mn ((l[i].size : Nat) : Int) 20001 = ((min l[i].size 20001 : Nat) : Int) := by unfold mn; split <;> omega
  have e2 : wrap64 ((minZ (l.take i) : Nat) + ((min l[i].size 20001 : Nat) : Int)) = ((minZ (l.take (i + 1)) : Nat) : Int) := by
    rw [List.take_succ_eq_append_getElem hi, minZ_snoc]
    generalize minZ (l.take i) = a at *
    unfold wrap64; omega
  have e3 : wrap64 ((i : Int) + 1) = ((i + 1 : Nat) : Int) := by unfold wrap64; omega
  have c1 : (i : Int) < (l.length : Int) := by omega
  have c2 : (i : Int) < 300 := by omega
  have c3 : (0 : Int) ≤ (i : Int) := by omega
  rw [hyglaw23_few.l0, if_pos c1, if_pos c2, if_pos c3, rdOf_at hi, e1, e2, e3]
theorem few_l0 (l : List ByteArray) : ∀ (d i k : Nat), i + d = min l.length 300 → d < k → hyglaw23_few.l0 k l ((minZ (l.take i) : Nat) : Int) (i : Int) = if (l.length : Int) ≤ 300 then some (decide (((minZ (l.take (min l.length 300)) : Nat) : Int) ≤ 20000)) else some false := by
  intro d
  induction d with
  | zero =>
    intro i k hi hk
    obtain ⟨k, rfl⟩ : ∃ m, k = m + 1 := ⟨k - 1, by omega⟩
    rw [few_end k l _ _ (by omega), ← hi, Nat.add_zero]
  | succ d ih =>
    intro i k hi hk
    obtain ⟨k, rfl⟩ : ∃ m, k = m + 1 := ⟨k - 1, by omega⟩
    rw [few_step k l i (by omega) (by omega)]
    exact ih (i + 1) k (by omega) (by omega)
theorem few_any (l : List ByteArray) :
    ∃ r, (∀ (A : Option Addr) (c : Nat) (w : World), Kd.C Kd.string w A l.length l → l.length ≤ c → Calls Tryd.prog 6 #[.slice A l.length c] w fun e w' => e = .returned (.bool r) ∧ Below w.heap.size w w') ∧ (r = true → l.length ≤ 300 ∧ sumZ l ≤ 20000) := by
  have h := few_l0 l (min l.length 300) 0 (min l.length 300 + 1) (by omega) (by omega)
  by_cases hl : l.length ≤ 300
  · rw [if_pos (by omega), Nat.min_eq_left hl, List.take_length] at h
    exact ⟨decide (((minZ l : Nat) : Int) ≤ 20000), fun A c w hr hc => hyglaw23_few.calls _ A c l _ w hr hc h, fun e => ⟨hl, sumZ_of l (by have := of_decide_eq_true e; omega)⟩⟩
  · rw [if_neg (by omega)] at h
    exact ⟨false, fun A c w hr hc => hyglaw23_few.calls _ A c l _ w hr hc h, fun e => by cases e⟩
end Go.Proofs.YtehfgemoccjomaaDoor
namespace Go.Proofs.YtehfgemoccjomaaDoor
open Go.RowKit Go.Proofs.YtehfgemoccjomaaDoorW.PrintWords Go.Proofs.YtehfgemoccjomaaDoorW.PrintLast Go.Proofs.YtehfgemoccjomaaDoorW.PrintMore Hy

theorem dictL_ok (L : List ByteArray) : okB (dictL (bsL L)) := by
  intro x hx
  unfold dictL at hx
  rcases List.mem_append.1 hx with h | h
  · exact putL_ok _ x h
  · unfold joinL at h
    obtain ⟨t, ht, h⟩ := List.mem_flatMap.1 h
    unfold textL at h
    obtain ⟨u, _, rfl⟩ := List.mem_map.1 ht
    rcases List.mem_append.1 h with h | h
    · exact putL_ok _ x h
    · exact bs_ok u x h
theorem isDictB_put (L : List ByteArray) (hn : L.Nodup) (hl : L.length ≤ 20000) : isDictB (st (dictL (bsL L))) L := ⟨bs_st _ (dictL_ok L), bsL_nodup.2 hn, by rw [bsL_length]; exact hl⟩
theorem sumZ_snoc (l : List ByteArray) (x : ByteArray) : sumZ (l ++ [x]) = sumZ l + x.size := by unfold sumZ; simp
theorem sumZ_take (l : List ByteArray) (i : Nat) : sumZ (l.take i) ≤ sumZ l := by
  conv => rhs; rw [← List.take_append_drop i l]
  unfold sumZ
  rw [List.map_append, List.sum_append]; omega
theorem dictL_small (L : List ByteArray) (hl : L.length ≤ 20000) (hs : sumZ L ≤ 1000000) : (dictL (bsL L)).length ≤ 2000000 := by
  have h1 := joinL_sumZ L (fun x hx => by have := sumZ_mem hx; omega)
  have h2 := putL_len10 L.length (by omega)
  unfold dictL
  rw [List.length_append, bsL_length]; omega
/-- The texts that were told so far. -/
structure Told (l : List ByteArray) (i : Nat) (L : List ByteArray) : Prop where
  all : ∀ k, k < i → ∀ t, l[k]? = some t → t ∈ L
  len : L.length ≤ i
  sum : sumZ L ≤ sumZ (l.take i)
theorem Told.zero (l : List ByteArray) : Told l 0 [] := ⟨fun k hk => by omega, by simp, by simp [sumZ]⟩
theorem Told.old {l : List ByteArray} {i : Nat} {L : List ByteArray} {t : ByteArray} (h : Told l i L) (ht : l[i]? = some t) (hm : t ∈ L) : Told l (i + 1) L := by
  refine ⟨fun k hk u hu => ?_, by have := h.len; omega, ?_⟩
  · by_cases e : k = i
    · subst e
      rw [ht] at hu
      injection hu with hu
      rw [← hu]; exact hm
    · exact h.all k (by omega) u hu
  · have hi := (List.getElem?_eq_some_iff.1 ht).1
    rw [List.take_succ_eq_append_getElem hi, sumZ_snoc]
    have := h.sum; omega
theorem Told.new {l : List ByteArray} {i : Nat} {L : List ByteArray} {t : ByteArray} (h : Told l i L) (ht : l[i]? = some t) : Told l (i + 1) (L ++ [t]) := by
  refine ⟨fun k hk u hu => ?_, by rw [List.length_append, List.length_singleton]; have := h.len; omega, ?_⟩
  · by_cases e : k = i
    · subst e
      rw [ht] at hu
      injection hu with hu
      rw [← hu]; simp
    · exact List.mem_append_left _ (h.all k (by omega) u hu)
  · obtain ⟨hi, he⟩ := List.getElem?_eq_some_iff.1 ht
    rw [List.take_succ_eq_append_getElem hi, sumZ_snoc, sumZ_snoc, he]
    have := h.sum; omega
theorem arg_cell {w : World} {A : Option Addr} {l : List ByteArray} (h : Kd.C Kd.string w A l.length l) (i : Nat) (hi : i < l.length) : ∃ ad, A = some ad ∧ ∀ t, l[i]? = some t → w.cell? (ad.add i) = some (.string t) := by
  obtain ⟨ad, e, hx⟩ := Kd.at_string h (i : Int) (by omega) (by omega)
  refine ⟨ad, e, fun t ht => ?_⟩
  rw [Int.toNat_natCast] at hx
  rw [hx]
  have := (List.getElem?_eq_some_iff.1 ht).2
  simp [rdOf, List.getD_eq_getElem?_getD, hi, this]
end Go.Proofs.YtehfgemoccjomaaDoor
