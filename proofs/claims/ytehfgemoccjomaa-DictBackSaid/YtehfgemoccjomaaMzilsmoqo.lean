import Derived.Test.YtehfgemoccjomaaMyomvuqnc
import Derived.Test.YtehfgemoccjomaaMmpsebjlr
import Derived.Test.YtehfgemoccjomaaPDictBackx
import Derived.Test.YtehfgemoccjomaaMuimqbosy
import Derived.Outline
namespace Go.Proofs.Ytehfgemoccjomaa
open Go.RowKit Go.Proofs.YtehfgemoccjomaaW.PrintWords Go.Proofs.YtehfgemoccjomaaW.PrintLast Go.Proofs.YtehfgemoccjomaaW.PrintMore Hy
open PDictBack (hyglaw23_few.l0 hyglaw23_few.f hyglaw23_few.calls)

/-! ### few and short texts -/
def sumZ (l : List ByteArray) : Nat := (l.map ByteArray.size).sum
def minZ (l : List ByteArray) : Nat := (l.map fun x => min x.size 20001).sum
theorem minZ_le (l : List ByteArray) : minZ l ≤ 20001 * l.length := by
  induction l with
  | nil => simp [minZ]
  | cons x l ih => unfold minZ at *; rw [List.map_cons, List.sum_cons, List.length_cons]; omega
theorem minZ_snoc (l : List ByteArray) (x : ByteArray) : minZ (l ++ [x]) = minZ l + min x.size 20001 := by unfold minZ; simp
theorem sumZ_of (l : List ByteArray) (h : minZ l ≤ 20000) : sumZ l ≤ 20000 := by
  have : sumZ l = minZ l := by
    induction l with
    | nil => rfl
    | cons x l ih =>
      unfold sumZ minZ at *
      rw [List.map_cons, List.sum_cons] at h
      rw [List.map_cons, List.sum_cons, List.map_cons, List.sum_cons, ih (by omega)]
      omega
  omega
theorem joinL_sumZ (l : List ByteArray) (h : ∀ x ∈ l, x.size < 18446744073709551616) : (joinL (bsL l)).length ≤ sumZ l + 10 * l.length := by
  induction l with
  | nil => simp [bsL, joinL, sumZ]
  | cons x l ih =>
    have h1 := ih (fun y hy => h y (by simp [hy]))
    have h2 := textL_le (bs x) (by rw [bs_length]; exact h x (by simp))
    rw [bs_length] at h2
    unfold sumZ at *
    rw [bsL_cons, joinL_cons, List.length_append, List.map_cons, List.sum_cons, List.length_cons]
    omega
theorem sumZ_mem {l : List ByteArray} {x : ByteArray} (h : x ∈ l) : x.size ≤ sumZ l := by
  induction l with
  | nil => simp at h
  | cons y l ih =>
    unfold sumZ at *
    rw [List.map_cons, List.sum_cons]
    rcases List.mem_cons.1 h with rfl | h
    · omega
    · have := ih h; omega
theorem few_end (k : Nat) (l : List ByteArray) (acc i : Int) (hi : ¬ i < (l.length : Int) ∨ ¬ i < 300) : hyglaw23_few.l0 (k + 1) l acc i = if (l.length : Int) ≤ 300 then some (decide (acc ≤ 20000)) else some false := by
  rw [hyglaw23_few.l0]
  rcases hi with hi | hi
  · rw [if_neg hi]
  · by_cases h : i < (l.length : Int)
    · rw [if_pos h, if_neg hi]
    · rw [if_neg h]
theorem few_step (k : Nat) (l : List ByteArray) (i : Nat) (hi : i < l.length) (h3 : i < 300) : hyglaw23_few.l0 (k + 1) l ((minZ (l.take i) : Nat) : Int) (i : Int) = hyglaw23_few.l0 k l ((minZ (l.take (i + 1)) : Nat) : Int) ((i + 1 : Nat) : Int) := by
  have hm := minZ_le (l.take i)
  have hl : (l.take i).length ≤ i := List.length_take_le _ _
  have e1 : mn ((l[i].size : Nat) : Int) 20001 = ((min l[i].size 20001 : Nat) : Int) := by unfold mn; split <;> omega
  have e2 : wrap64 ((minZ (l.take i) : Nat) + ((min l[i].size 20001 : Nat) : Int)) = ((minZ (l.take (i + 1)) : Nat) : Int) := by
    rw [List.take_succ_eq_append_getElem hi, minZ_snoc]
    generalize minZ (l.take i) = a at *
    unfold wrap64; omega
  have e3 : wrap64 ((i : Int) + 1) = ((i + 1 : Nat) : Int) := by unfold wrap64; omega
  have c1 : (i : Int) < (l.length : Int) := by omega
  have c2 : (i : Int) < 300 := by omega
  have c3 : (0 : Int) ≤ (i : Int) := by omega
  rw [hyglaw23_few.l0, if_pos c1, if_pos c2, if_pos c3, rdOf_at hi, e1, e2, e3]
theorem few_l0 (l : List ByteArray) : ∀ (d i k : Nat), i + d = min l.length 300 → d < k → hyglaw23_few.l0 k l ((minZ (l.take i) : Nat) : Int) (i : Int) = if (l.length : Int) ≤ 300 then some (decide (((minZ (l.take (min l.length 300)) : Nat) : Int) ≤ 20000)) else some false := by
  intro d
  induction d with
  | zero =>
    intro i k hi hk
    obtain ⟨k, rfl⟩ : ∃ m, k = m + 1 := ⟨k - 1, by omega⟩
    rw [few_end k l _ _ (by omega), ← hi, Nat.add_zero]
  | succ d ih =>
    intro i k hi hk
    obtain ⟨k, rfl⟩ : ∃ m, k = m + 1 := ⟨k - 1, by omega⟩
    rw [few_step k l i (by omega) (by omega)]
    exact ih (i + 1) k (by omega) (by omega)
theorem few_any (l : List ByteArray) :
    ∃ r, (∀ (A : Option Addr) (c : Nat) (w : World), Kd.C Kd.string w A l.length l → l.length ≤ c → Calls Try.prog 12 #[.slice A l.length c] w fun e w' => e = .returned (.bool r) ∧ Below w.heap.size w w') ∧ (r = true → l.length ≤ 300 ∧ sumZ l ≤ 20000) := by
  have h := few_l0 l (min l.length 300) 0 (min l.length 300 + 1) (by omega) (by omega)
  by_cases hl : l.length ≤ 300
  · rw [if_pos (by omega), Nat.min_eq_left hl, List.take_length] at h
    exact ⟨decide (((minZ l : Nat) : Int) ≤ 20000), fun A c w hr hc => hyglaw23_few.calls _ A c l _ w hr hc h, fun e => ⟨hl, sumZ_of l (by have := of_decide_eq_true e; omega)⟩⟩
  · rw [if_neg (by omega)] at h
    exact ⟨false, fun A c w hr hc => hyglaw23_few.calls _ A c l _ w hr hc h, fun e => by cases e⟩
end Go.Proofs.Ytehfgemoccjomaa
namespace Go.Proofs.Ytehfgemoccjomaa
open Go.RowKit Go.Proofs.YtehfgemoccjomaaW.PrintWords Go.Proofs.YtehfgemoccjomaaW.PrintLast Go.Proofs.YtehfgemoccjomaaW.PrintMore Hy

theorem dictL_ok (L : List ByteArray) : okB (dictL (bsL L)) := by
  intro x hx
  unfold dictL at hx
  rcases List.mem_append.1 hx with h | h
  · exact putL_ok _ x h
  · unfold joinL at h
    obtain ⟨t, ht, h⟩ := List.mem_flatMap.1 h
    unfold textL at h
    obtain ⟨u, _, rfl⟩ := List.mem_map.1 ht
    rcases List.mem_append.1 h with h | h
    · exact putL_ok _ x h
    · exact bs_ok u x h
theorem isDictB_put (L : List ByteArray) (hn : L.Nodup) (hl : L.length ≤ 20000) : isDictB (st (dictL (bsL L))) L := ⟨bs_st _ (dictL_ok L), bsL_nodup.2 hn, by rw [bsL_length]; exact hl⟩
theorem sumZ_snoc (l : List ByteArray) (x : ByteArray) : sumZ (l ++ [x]) = sumZ l + x.size := by unfold sumZ; simp
theorem sumZ_take (l : List ByteArray) (i : Nat) : sumZ (l.take i) ≤ sumZ l := by
  conv => rhs; rw [← List.take_append_drop i l]
  unfold sumZ
  rw [List.map_append, List.sum_append]; omega
theorem dictL_small (L : List ByteArray) (hl : L.length ≤ 20000) (hs : sumZ L ≤ 1000000) : (dictL (bsL L)).length ≤ 2000000 := by
  have h1 := joinL_sumZ L (fun x hx => by have := sumZ_mem hx; omega)
  have h2 := putL_len10 L.length (by omega)
  unfold dictL
  rw [List.length_append, bsL_length]; omega
/-- The texts that were told so far. -/
structure Told (l : List ByteArray) (i : Nat) (L : List ByteArray) : Prop where
  all : ∀ k, k < i → ∀ t, l[k]? = some t → t ∈ L
  len : L.length ≤ i
  sum : sumZ L ≤ sumZ (l.take i)
theorem Told.zero (l : List ByteArray) : Told l 0 [] := ⟨fun k hk => by omega, by simp, by simp [sumZ]⟩
theorem Told.old {l : List ByteArray} {i : Nat} {L : List ByteArray} {t : ByteArray} (h : Told l i L) (ht : l[i]? = some t) (hm : t ∈ L) : Told l (i + 1) L := by
  refine ⟨fun k hk u hu => ?_, by have := h.len; omega, ?_⟩
  · by_cases e : k = i
    · subst e
      rw [ht] at hu
      injection hu with hu
      rw [← hu]; exact hm
    · exact h.all k (by omega) u hu
  · have hi := (List.getElem?_eq_some_iff.1 ht).1
    rw [List.take_succ_eq_append_getElem hi, sumZ_snoc]
    have := h.sum; omega
theorem Told.new {l : List ByteArray} {i : Nat} {L : List ByteArray} {t : ByteArray} (h : Told l i L) (ht : l[i]? = some t) : Told l (i + 1) (L ++ [t]) := by
  refine ⟨fun k hk u hu => ?_, by rw [List.length_append, List.length_singleton]; have := h.len; omega, ?_⟩
  · by_cases e : k = i
    · subst e
      rw [ht] at hu
      injection hu with hu
      rw [← hu]; simp
    · exact List.mem_append_left _ (h.all k (by omega) u hu)
  · obtain ⟨hi, he⟩ := List.getElem?_eq_some_iff.1 ht
    rw [List.take_succ_eq_append_getElem hi, sumZ_snoc, sumZ_snoc, he]
    have := h.sum; omega
theorem arg_cell {w : World} {A : Option Addr} {l : List ByteArray} (h : Kd.C Kd.string w A l.length l) (i : Nat) (hi : i < l.length) : ∃ ad, A = some ad ∧ ∀ t, l[i]? = some t → w.cell? (ad.add i) = some (.string t) := by
  obtain ⟨ad, e, hx⟩ := Kd.at_string h (i : Int) (by omega) (by omega)
  refine ⟨ad, e, fun t ht => ?_⟩
  rw [Int.toNat_natCast] at hx
  rw [hx]
  have := (List.getElem?_eq_some_iff.1 ht).2
  simp [rdOf, List.getD_eq_getElem?_getD, hi, this]
set_option maxHeartbeats 8000000 in
set_option maxRecDepth 100000 in
theorem dictBack_walk (A : Option Addr) (cp : Nat) (l : List ByteArray) (more : ByteArray) (w : World) (hr : Kd.C Kd.string w A l.length l) (hc : l.length ≤ cp) (_hl : l.length * 16 ≤ 140737488351232) (_hs : ∀ x ∈ l, x.size ≤ 9223372036854775807) (hm : more.size ≤ 140737488351232) :
    Calls Try.prog 4 #[.slice A l.length cp, .string more] w fun e w' => e = .returned (.bool true) ∧ Below w.heap.size w w' := by
  clear _hl _hs
  have HB := Aside0.mk (Below.refl w.heap.size w)
  have HR := Aside0.mk hr
  have HC := Aside0.mk hc
  obtain ⟨r, hfew, hfew2⟩ := few_any l
  clear hr hc
  by_cases hgo : r = true ∧ more.size ≤ 1000
  · obtain ⟨rfl, hm1⟩ := hgo
    obtain ⟨hl3, hl4⟩ := hfew2 rfl
    clear hfew2 hm
    go_enter Try.func4, Try.ntmps4
    go_wp2_with (first
      | (go_at_call 6; refine (dict_first _).mono ?_; rintro e wb ⟨rfl, hb⟩; have HBn : Aside0 (Below w.heap.size w wb) := ⟨below_next (by repeat (first | (with_reducible exact HB.out) | apply below_alloc | apply pw_below_drewN | apply below_drew1)) hb⟩; clear HB hb; have HB := HBn; clear HBn))
    refine (dnew_any _).mono ?_
    rintro e w2 ⟨rfl, hd2, hb2⟩
    obtain ⟨d, hd⟩ : ∃ d, wb.heap.size + 1 = d := ⟨_, rfl⟩
    obtain ⟨bm, hbm⟩ : ∃ bm, wb.heap.size = bm := ⟨_, rfl⟩
    have hd3 := hd2.lower HB.out.size
    have HB2 := Aside0.mk (below_next HB.out hb2)
    rw [hd] at hd3 ⊢
    rw [hbm] at hd3
    have HD2 := Aside0.mk hd3
    clear hd2 hb2 hd3 hd hbm HB
    go_wp2_with fail
    refine (hfew A cp _ (Kd.C_below HR.out HB2.out) HC.out).mono ?_
    rintro e w3 ⟨rfl, hb3⟩
    have HB3 := Aside0.mk (below_next HB2.out hb3)
    have HD3 := Aside0.mk (HD2.out.below hb3)
    clear hb3 HB2 HD2 hfew
    go_wp2_with fail
    go_loopw [6] (fun v6 w' => ∃ (i : Nat) (v : Value) (L : List ByteArray), i ≤ l.length ∧ v6 = .int .i64 (i : Int) ∧ Aside0 (Dct w' w.heap.size d v bm L) ∧ Aside0 (Told l i L) ∧ Aside0 (Below w.heap.size w w')) (fun v6 _ => l.length - (intOf v6).toNat)
    case atStart => exact ⟨0, _, [], Nat.zero_le _, rfl, HD3, ⟨Told.zero l⟩, HB3⟩
    case round =>
      clear HD3 HB3
      obtain ⟨i, v, L, hi, rfl, HD, HT, HB⟩ := hrel
      by_cases hlt : i < l.length
      · have hlt2 : (i : Int) < (l.length : Int) := by omega
        obtain ⟨ad, rfl, hx⟩ := arg_cell HR.out i hlt
        obtain ⟨t, ht⟩ : ∃ t, l[i]? = some t := ⟨_, List.getElem?_eq_getElem hlt⟩
        have hx1 := hx t ht
        have hx2 := pw_cell_below HB.out hx1
        have hLi : L.length ≤ i := HT.out.len
        have hts : (t.toList == t.toList) = true := beq_self_eq_true _
        have hts2 : (t.toList != t.toList) = false := bne_self_eq_false _
        have htz : t.size ≤ 20000 := by have := sumZ_mem (List.mem_of_getElem? ht); omega
        by_cases hmem : t ∈ L
        · obtain ⟨j, hj⟩ := List.mem_iff_getElem?.1 hmem
          obtain ⟨hj1, hj2⟩ := List.getElem?_eq_some_iff.1 hj
          have G1 := dadd_old wr w.heap.size d v bm L t j hj (by omega) (by omega) HD.out
          have G2 := dget_in wr w.heap.size d v bm L j hj1 (by omega) HD.out
          rw [hj2] at G2
          have hji : ¬ (i : Int) < (j : Int) := by omega
          have HN := Aside0.mk (HT.out.old ht hmem)
          clear hx ht hmem hj hj2
          go_wp2_with fail
          refine G1.mono ?_
          rintro e w4 ⟨rfl, rfl⟩
          go_wp2_with fail
          refine G2.mono ?_
          rintro e w5 ⟨rfl, hb5⟩
          have HB5 := Aside0.mk (below_next HB.out hb5)
          have HD5 := Aside0.mk (HD.out.below hb5)
          have hx3 := pw_cell_below hb5 hx2
          clear hb5 HB HD hx2 hx1 G1 G2 HT
          go_wp2_with fail
          go_roundw
          case rel => exact ⟨i + 1, v, L, by omega, by go_num, HD5, HN, HB5⟩
          case measure => simp [intOf]; omega
        · have G1 := dadd_new wr w.heap.size d v bm L t hmem (by omega) (by omega) HB.out.size HD.out
          have hji : ¬ (i : Int) < (L.length : Int) := by omega
          have HN := Aside0.mk (HT.out.new ht)
          clear hx ht hmem
          go_wp2_with fail
          refine G1.mono ?_
          rintro e w4 ⟨rfl, v4, hd4, _, hk4⟩
          have HB4 := Aside0.mk (HB.out.trans (hk4.toBelow HB.out.size (fun k hk => HD.out.ge k hk)))
          have G2 := dget_in w4 w.heap.size d v4 bm (L ++ [t]) L.length (by simp) (by simp; omega) hd4
          rw [show (L ++ [t])[L.length]'(by simp) = t by simp] at G2
          have HD4 := Aside0.mk hd4
          have hx3 := pw_cell_below HB4.out hx1
          clear hk4 hd4 HB HD hx2 G1
          go_wp2_with fail
          refine G2.mono ?_
          rintro e w5 ⟨rfl, hb5⟩
          have HB5 := Aside0.mk (below_next HB4.out hb5)
          have HD5 := Aside0.mk (HD4.out.below hb5)
          have hx4 := pw_cell_below hb5 hx3
          clear hb5 HB4 HD4 hx3 hx1 G2 HT
          go_wp2_with fail
          go_roundw
          case rel => exact ⟨i + 1, v4, L ++ [t], by omega, by go_num, HD5, HN, HB5⟩
          case measure => simp [intOf]; omega
      · obtain rfl : i = l.length := by omega
        have hlt2 : ¬ ((l.length : Int) < (l.length : Int)) := by omega
        have hLl : L.length ≤ 300 := by have := HT.out.len; omega
        have hLs : sumZ L ≤ 20000 := by have := HT.out.sum; rw [List.take_length] at this; omega
        have hall : ∀ k t, l[k]? = some t → ∃ j, L[j]? = some t := fun k t hk => List.mem_iff_getElem?.1 (HT.out.all k (List.getElem?_eq_some_iff.1 hk).1 t hk)
        have HALL := Aside0.mk hall
        have G1 := dput_ok wr w.heap.size d v bm L (by omega) (by have := dictL_small L (by omega) (by omega); omega) HD.out
        obtain ⟨S, hS⟩ : ∃ S, st (dictL (bsL L)) = S := ⟨_, rfl⟩
        rw [hS] at G1
        have hSz : S.size ≤ 2000000 := by rw [← hS, st_size]; exact dictL_small L (by omega) (by omega)
        have HSD : Aside0 (isDictB S L) := ⟨by rw [← hS]; exact isDictB_put L HD.out.nod (by omega)⟩
        have HS := Aside0.mk hS
        have G2 := fun w' => dread_ok S L w' (by omega) HSD.out
        clear hlt hi hall hS HT
        go_wp2_with fail
        refine G1.mono ?_
        rintro e w4 ⟨rfl, hb4⟩
        have HB4 := Aside0.mk (below_next HB.out hb4)
        have HD4 := Aside0.mk (HD.out.below hb4)
        clear hb4 HB HD G1
        go_wp2_with fail
        refine (G2 _).mono ?_
        rintro e w5 ⟨x, vx, bx, rfl, hx5, hb5⟩
        have HB5 := Aside0.mk (below_next HB4.out hb5)
        have HD5 := Aside0.mk (HD4.out.below hb5)
        have HX5 := Aside0.mk (hx5.lower HB4.out.size)
        clear hb5 HB4 HD4 G2 hx5
        go_wp2_with fail
        refine (dall_any _ _ _ _ _ _ (by omega) HX5.out).mono ?_
        rintro e w6 ⟨A6, c6, rfl, hC6, hc6, hb6⟩
        have HB6 := Aside0.mk (below_next HB5.out hb6)
        have HD6 := Aside0.mk (HD5.out.below hb6)
        have HX6 := Aside0.mk (HX5.out.below hb6)
        have HC6 := Aside0.mk hC6
        have Hc6 := Aside0.mk hc6
        clear hb6 HB5 HD5 HX5 hC6 hc6
        go_wp2_with fail
        refine (dall_any _ _ _ _ _ _ (by omega) HD6.out).mono ?_
        rintro e w7 ⟨A7, c7, rfl, hC7, hc7, hb7⟩
        have HB7 := Aside0.mk (below_next HB6.out hb7)
        have HD7 := Aside0.mk (HD6.out.below hb7)
        have HX7 := Aside0.mk (HX6.out.below hb7)
        have G3 := texts_same A6 c6 L A7 c7 w7 (Kd.C_below HC6.out hb7) Hc6.out hC7 hc7 (by omega)
        clear hb7 HB6 HD6 HX6 hC7 hc7 HC6 Hc6
        go_wp2_with fail
        refine G3.mono ?_
        rintro e w8 ⟨rfl, ⟨n8, rfl⟩⟩
        have HB8 : Aside0 (Below w.heap.size w (w7.drewN n8)) := ⟨pw_below_drewN HB7.out _⟩
        have HD8 : Aside0 (Dct (w7.drewN n8) w.heap.size d v bm L) := ⟨HD7.out.below (pw_below_drewN (Below.refl _ _) _)⟩
        have HX8 : Aside0 (Dct (w7.drewN n8) w.heap.size x vx bx L) := ⟨HX7.out.below (pw_below_drewN (Below.refl _ _) _)⟩
        obtain ⟨w8, hw8⟩ : ∃ w8, w7.drewN n8 = w8 := ⟨_, rfl⟩
        rw [hw8] at HB8 HD8 HX8 ⊢
        clear G3 HB7 HD7 HX7 hw8
        go_wp2_with fail
        go_loopw [14] (fun v14 w' => ∃ i : Nat, i ≤ l.length ∧ v14 = .int .i64 (i : Int) ∧ Aside0 (Drawn0 w8 w')) (fun v14 _ => l.length - (intOf v14).toNat)
        case atStart => exact ⟨0, Nat.zero_le _, rfl, ⟨Drawn0.refl _⟩⟩
        case round =>
          obtain ⟨i, hi, rfl, HDW⟩ := hrel
          have HBr := Aside0.mk (below_next HB8.out HDW.out.below)
          have HXr := Aside0.mk (HX8.out.below HDW.out.below)
          have HDr := Aside0.mk (HD8.out.below HDW.out.below)
          by_cases hlt : i < l.length
          · have hlt2 : (i : Int) < (l.length : Int) := by omega
            obtain ⟨ad, rfl, hx⟩ := arg_cell HR.out i hlt
            obtain ⟨t, ht⟩ : ∃ t, l[i]? = some t := ⟨_, List.getElem?_eq_getElem hlt⟩
            obtain ⟨j, hj⟩ := HALL.out i t ht
            have hx1 := hx t ht
            have hx2 := pw_cell_below HBr.out hx1
            have htz : t.size ≤ 20000 := by have := sumZ_mem (List.mem_of_getElem? ht); omega
            have QX : ∀ n, Calls Try.prog 13 #[.pointer (some ⟨x, 0, none⟩), .string t] (wr.drewN n) fun e w' => e = .returned (.int .i64 (j : Int)) ∧ w' = wr.drewN n := fun n => (dadd_old _ w.heap.size x vx bx L t j hj (by omega) (by omega) (HXr.out.below (pw_below_drewN (Below.refl _ _) _))).mono (fun _ _ h => ⟨h.1, h.2.symm⟩)
            have QD : ∀ n, Calls Try.prog 13 #[.pointer (some ⟨d, 0, none⟩), .string t] (wr.drewN n) fun e w' => e = .returned (.int .i64 (j : Int)) ∧ w' = wr.drewN n := fun n => (dadd_old _ w.heap.size d v bm L t j hj (by omega) (by omega) (HDr.out.below (pw_below_drewN (Below.refl _ _) _))).mono (fun _ _ h => ⟨h.1, h.2.symm⟩)
            have hne : ((j : Int) != (j : Int)) = false := by simp
            have hi0 : (0 : Int) ≤ (i : Int) := by omega
            clear hx ht hj hx1
            go_wp2_with fail
            go_quiet ((go_at_call 13; (first | with_reducible exact Calls.quiet_of_same (QX _) | with_reducible exact Calls.quiet_of_same (QD _))))
            go_wp2_with fail
            go_roundw
            case rel => exact ⟨i + 1, by omega, by go_num, ⟨HDW.out.step _⟩⟩
            case measure => simp [intOf]; omega
          · obtain rfl : i = l.length := by omega
            have hlt2 : ¬ ((l.length : Int) < (l.length : Int)) := by omega
            have HB9 := HBr
            have HX9 := HXr
            obtain ⟨w9, hw9⟩ : ∃ w9, wr = w9 := ⟨_, rfl⟩
            rw [hw9] at HB9 HX9 ⊢
            have G1 := dlen_any w9 w.heap.size x vx bx L HX9.out
            clear hlt hi hw9 HB8 HX8 HD8 HBr HXr HDr HDW
            by_cases hmem : more ∈ L
            · obtain ⟨j, hj⟩ := List.mem_iff_getElem?.1 hmem
              have hj1 := (List.getElem?_eq_some_iff.1 hj).1
              have G2 := dadd_old w9 w.heap.size x vx bx L more j hj (by omega) (by omega) HX9.out
              have G3 : Calls Try.prog 15 #[.pointer (some ⟨x, 0, none⟩)] w9 fun e w' => e = .returned (.tuple #[.string S, .nilIface]) ∧ Below w9.heap.size w9 w' := by
                have := dput_ok w9 w.heap.size x vx bx L (by omega) (by have := dictL_small L (by omega) (by omega); omega) HX9.out
                rwa [HS.out] at this
              have h1 : (j : Int) ≤ (L.length : Int) := by omega
              have h2 : ((j : Int) == (L.length : Int)) = false := by simp; omega
              have h3 : ((L.length : Int) == (L.length : Int) + 1) = false := by rw [beq_eq_false_iff_ne]; omega
              have h4 : decide ((j : Int) < (L.length : Int)) = true := decide_eq_true (by omega)
              have h4n : decide (j < L.length) = true := decide_eq_true hj1
              have h1n : decide (j ≤ L.length) = true := decide_eq_true (by omega)
              have h5 : (S.toList == S.toList) = true := beq_self_eq_true _
              clear hj hj1 hmem
              go_wp2_with fail
              refine G1.mono ?_
              rintro e wq ⟨rfl, rfl⟩
              go_wp2_with fail
              refine G2.mono ?_
              rintro e wq ⟨rfl, rfl⟩
              go_wp2_with fail
              refine G3.mono ?_
              rintro e wa ⟨rfl, hba⟩
              have HBa := Aside0.mk (below_next HB9.out hba)
              have HXa := Aside0.mk (HX9.out.below hba)
              clear hba HB9 HX9 G1 G2 G3
              go_wp2_with fail
              refine (dict_first _).mono ?_
              rintro e wc ⟨rfl, hbc⟩
              have HBc := Aside0.mk (below_next HBa.out hbc)
              have G4 := dlen_any wc w.heap.size x vx bx L (HXa.out.below hbc)
              clear hbc HBa HXa
              go_wp2_with fail
              refine G4.mono ?_
              rintro e wq ⟨rfl, rfl⟩
              go_wp2_with fail
              go_ret
              exact ⟨rfl, HBc.out⟩
            · have G2 := dadd_new w9 w.heap.size x vx bx L more hmem (by omega) (by omega) HB9.out.size HX9.out
              have HNN : Aside0 ((L ++ [more]).Nodup) := ⟨by
                rw [List.nodup_append]
                refine ⟨HX9.out.nod, by simp, fun a ha b hb => ?_⟩
                rw [List.mem_singleton.1 hb]
                rintro rfl
                exact hmem ha⟩
              have hL1 : (L ++ [more]).length = L.length + 1 := by simp
              have hs1 : sumZ (L ++ [more]) ≤ 21000 := by rw [sumZ_snoc]; omega
              obtain ⟨S', hS'⟩ : ∃ S', st (dictL (bsL (L ++ [more]))) = S' := ⟨_, rfl⟩
              have hS'z : S'.size ≤ 2000000 := by rw [← hS', st_size]; exact dictL_small _ (by omega) (by omega)
              have hSne : ¬ S' = S := fun e => by
                have h1 : isDictB S' (L ++ [more]) := by rw [← hS']; exact isDictB_put _ HNN.out (by omega)
                rw [e] at h1
                have := isDictB_uniq (by omega) h1 HSD.out
                rw [this] at hL1; omega
              have hSn1 := str_ne hSne
              have h5 : (S'.toList == S.toList) = false := by rw [beq_eq_false_iff_ne]; exact hSn1
              have G3 : ∀ w' v', Dct w' w.heap.size x v' bx (L ++ [more]) → Calls Try.prog 15 #[.pointer (some ⟨x, 0, none⟩)] w' fun e w'' => e = .returned (.tuple #[.string S', .nilIface]) ∧ Below w'.heap.size w' w'' := fun w' v' hd' => by
                have := dput_ok w' w.heap.size x v' bx (L ++ [more]) (by omega) (by have := dictL_small (L ++ [more]) (by omega) (by omega); omega) hd'
                rwa [hS'] at this
              have h2 : ((L.length : Int) == (L.length : Int)) = true := beq_self_eq_true _
              have h3 : ((L.length : Int) + 1 == (L.length : Int) + 1) = true := beq_self_eq_true _
              have h4 : decide ((L.length : Int) < (L.length : Int)) = false := decide_eq_false (by omega)
              have h6 : decide ((L.length : Int) ≤ (L.length : Int)) = true := decide_eq_true (by omega)
              have HL1 := Aside0.mk hL1
              clear hmem hL1 hS' hSne
              go_wp2_with fail
              refine G1.mono ?_
              rintro e wq ⟨rfl, rfl⟩
              go_wp2_with fail
              refine G2.mono ?_
              rintro e wa ⟨rfl, va, hxa, _, hka⟩
              have HBa := Aside0.mk (HB9.out.trans (hka.toBelow HB9.out.size (fun k hk => HX9.out.ge k hk)))
              have HXa := Aside0.mk hxa
              clear hxa hka HB9 HX9 G1 G2
              go_wp2_with fail
              refine (G3 _ _ HXa.out).mono ?_
              rintro e wb ⟨rfl, hbb⟩
              have HBb := Aside0.mk (below_next HBa.out hbb)
              have HXb := Aside0.mk (HXa.out.below hbb)
              clear hbb HBa HXa G3
              go_wp2_with fail
              refine (dict_first _).mono ?_
              rintro e wc ⟨rfl, hbc⟩
              have HBc := Aside0.mk (below_next HBb.out hbc)
              have G4 := dlen_any wc w.heap.size x va bx (L ++ [more]) (HXb.out.below hbc)
              rw [HL1.out, show ((L.length + 1 : Nat) : Int) = (L.length : Int) + 1 by omega] at G4
              clear hbc HBb HXb
              go_wp2_with fail
              refine G4.mono ?_
              rintro e wq ⟨rfl, rfl⟩
              go_wp2_with fail
              go_ret
              exact ⟨rfl, HBc.out⟩
  · by_cases hrr : r = true
    · have hm1 : 1000 < more.size := by
        rcases Nat.lt_or_ge 1000 more.size with h | h
        · exact h
        · exact absurd ⟨hrr, h⟩ hgo
      subst hrr
      clear hgo hfew2
      go_enter Try.func4, Try.ntmps4
      go_wp2_with (first
        | (go_at_call 6; refine (dict_first _).mono ?_; rintro e wb ⟨rfl, hb⟩; have HBn : Aside0 (Below w.heap.size w wb) := ⟨below_next (by repeat (first | (with_reducible exact HB.out) | apply below_alloc | apply pw_below_drewN | apply below_drew1)) hb⟩; clear HB hb; have HB := HBn; clear HBn))
      refine (dnew_any _).mono ?_
      rintro e w2 ⟨rfl, _, hb2⟩
      obtain ⟨d, hd⟩ : ∃ d, wb.heap.size + 1 = d := ⟨_, rfl⟩
      rw [hd]
      have HB2 := Aside0.mk (below_next HB.out hb2)
      clear hb2 hd HB
      have HB := HB2
      clear HB2
      go_wp2_with fail
      refine (hfew A cp _ (Kd.C_below HR.out HB.out) HC.out).mono ?_
      rintro e w3 ⟨rfl, hb3⟩
      have HB3 := Aside0.mk (below_next HB.out hb3)
      clear hb3 HB
      have HB := HB3
      clear HB3
      go_wp2_with (first
        | (go_at_call 6; refine (dict_first _).mono ?_; rintro e wb ⟨rfl, hb⟩; have HBn : Aside0 (Below w.heap.size w wb) := ⟨below_next (by repeat (first | (with_reducible exact HB.out) | apply below_alloc | apply pw_below_drewN | apply below_drew1)) hb⟩; clear HB hb; have HB := HBn; clear HBn))
      go_ret
      exact ⟨rfl, (by repeat (first | (with_reducible exact HB.out) | apply below_alloc | apply pw_below_drewN | apply below_drew1))⟩
    · have hrf : r = false := by cases r with | true => exact absurd rfl hrr | false => rfl
      subst hrf
      clear hgo hfew2 hrr
      go_enter Try.func4, Try.ntmps4
      go_wp2_with (first
        | (go_at_call 6; refine (dict_first _).mono ?_; rintro e wb ⟨rfl, hb⟩; have HBn : Aside0 (Below w.heap.size w wb) := ⟨below_next (by repeat (first | (with_reducible exact HB.out) | apply below_alloc | apply pw_below_drewN | apply below_drew1)) hb⟩; clear HB hb; have HB := HBn; clear HBn))
      refine (dnew_any _).mono ?_
      rintro e w2 ⟨rfl, _, hb2⟩
      obtain ⟨d, hd⟩ : ∃ d, wb.heap.size + 1 = d := ⟨_, rfl⟩
      rw [hd]
      have HB2 := Aside0.mk (below_next HB.out hb2)
      clear hb2 hd HB
      have HB := HB2
      clear HB2
      go_wp2_with fail
      refine (hfew A cp _ (Kd.C_below HR.out HB.out) HC.out).mono ?_
      rintro e w3 ⟨rfl, hb3⟩
      have HB3 := Aside0.mk (below_next HB.out hb3)
      clear hb3 HB
      have HB := HB3
      clear HB3
      go_wp2_with (first
        | (go_at_call 6; refine (dict_first _).mono ?_; rintro e wb ⟨rfl, hb⟩; have HBn : Aside0 (Below w.heap.size w wb) := ⟨below_next (by repeat (first | (with_reducible exact HB.out) | apply below_alloc | apply pw_below_drewN | apply below_drew1)) hb⟩; clear HB hb; have HB := HBn; clear HBn))
      go_ret
      exact ⟨rfl, (by repeat (first | (with_reducible exact HB.out) | apply below_alloc | apply pw_below_drewN | apply below_drew1))⟩
end Go.Proofs.Ytehfgemoccjomaa
