import Derived.Test.YtbgpkfdfkmmfcaaDoorMyyqateca
import Derived.Test.YtbgpkfdfkmmfcaaDoorMvxdlsjdq
import Derived.Test.YtbgpkfdfkmmfcaaDoorPIdentPartsx1
namespace Go.Proofs.YtbgpkfdfkmmfcaaDoor
open Go.RowKit Go.Proofs.YtbgpkfdfkmmfcaaDoorW.PrintWords Go.Proofs.YtbgpkfdfkmmfcaaDoorW.PrintLast Go.Proofs.YtbgpkfdfkmmfcaaDoorW.PrintMore Hy
open PIdentParts (hyglaw19_few.l0 hyglaw19_few.f hyglaw19_few.calls)

/-! ### few and short texts -/
def sumZ (l : List ByteArray) : Nat := (l.map ByteArray.size).sum
def minZ (l : List ByteArray) : Nat := (l.map fun x => min x.size 20001).sum
theorem minZ_le (l : List ByteArray) : minZ l ≤ 20001 * l.length := by
  induction l with
  | nil => simp [minZ]
  | cons x l ih => unfold minZ at *; rw [List.map_cons, List.sum_cons, List.length_cons]; omega
theorem minZ_snoc (l : List ByteArray) (x : ByteArray) : minZ (l ++ [x]) = minZ l + min x.size 20001 := by unfold minZ; simp
theorem sumZ_of (l : List ByteArray) (h : minZ l ≤ 20000) : sumZ l ≤ 20000 := by
  have : sumZ l = minZ l := by
    induction l with
    | nil => rfl
    | cons x l ih =>
      unfold sumZ minZ at *
      rw [List.map_cons, List.sum_cons] at h
      rw [List.map_cons, List.sum_cons, List.map_cons, List.sum_cons, ih (by omega)]
      omega
  omega
theorem joinL_sumZ (l : List ByteArray) (h : ∀ x ∈ l, x.size < 18446744073709551616) : (joinL (bsL l)).length ≤ sumZ l + 10 * l.length := by
  induction l with
  | nil => simp [bsL, joinL, sumZ]
  | cons x l ih =>
    have h1 := ih (fun y hy => h y (by simp [hy]))
    have h2 := textL_le (bs x) (by rw [bs_length]; exact h x (by simp))
    rw [bs_length] at h2
    unfold sumZ at *
    rw [bsL_cons, joinL_cons, List.length_append, List.map_cons, List.sum_cons, List.length_cons]
    omega
theorem sumZ_mem {l : List ByteArray} {x : ByteArray} (h : x ∈ l) : x.size ≤ sumZ l := by
  induction l with
  | nil => simp at h
  | cons y l ih =>
    unfold sumZ at *
    rw [List.map_cons, List.sum_cons]
    rcases List.mem_cons.1 h with rfl | h
    · omega
    · have := ih h; omega
theorem few_end (k : Nat) (l : List ByteArray) (acc i : Int) (hi : ¬ i < (l.length : Int) ∨ ¬ i < 200) : hyglaw19_few.l0 (k + 1) l acc i = if (l.length : Int) ≤ 200 then some (decide (acc ≤ 20000)) else some false := by
  rw [hyglaw19_few.l0]
  rcases hi with hi | hi
  · rw [if_neg hi]
  · by_cases h : i < (l.length : Int)
    · rw [if_pos h, if_neg hi]
    · rw [if_neg h]
theorem few_step (k : Nat) (l : List ByteArray) (i : Nat) (hi : i < l.length) (h3 : i < 200) : hyglaw19_few.l0 (k + 1) l ((minZ (l.take i) : Nat) : Int) (i : Int) = hyglaw19_few.l0 k l ((minZ (l.take (i + 1)) : Nat) : Int) ((i + 1 : Nat) : Int) := by
  have hm := minZ_le (l.take i)
  have hl : (l.take i).length ≤ i := List.length_take_le _ _
  have e1 : mn ((l[i].size : Nat) : Int) 20001 = ((min l[i].size 20001 : Nat) : Int) := by unfold mn; split <;> omega
  have e2 : wrap64 ((minZ (l.take i) : Nat) + ((min l[i].size 20001 : Nat) : Int)) = ((minZ (l.take (i + 1)) : Nat) : Int) := by
    rw [List.take_succ_eq_append_getElem hi, minZ_snoc]
    generalize minZ (l.take i) = a at *
    unfold wrap64; omega
  have e3 : wrap64 ((i : Int) + 1) = ((i + 1 : Nat) : Int) := by unfold wrap64; omega
  have c1 : (i : Int) < (l.length : Int) := by omega
  have c2 : (i : Int) < 200 := by omega
  have c3 : (0 : Int) ≤ (i : Int) := by omega
  rw [hyglaw19_few.l0, if_pos c1, if_pos c2, if_pos c3, rdOf_at hi, e1, e2, e3]
theorem few_l0 (l : List ByteArray) : ∀ (d i k : Nat), i + d = min l.length 200 → d < k → hyglaw19_few.l0 k l ((minZ (l.take i) : Nat) : Int) (i : Int) = if (l.length : Int) ≤ 200 then some (decide (((minZ (l.take (min l.length 200)) : Nat) : Int) ≤ 20000)) else some false := by
  intro d
  induction d with
  | zero =>
    intro i k hi hk
    obtain ⟨k, rfl⟩ : ∃ m, k = m + 1 := ⟨k - 1, by omega⟩
    rw [few_end k l _ _ (by omega), ← hi, Nat.add_zero]
  | succ d ih =>
    intro i k hi hk
    obtain ⟨k, rfl⟩ : ∃ m, k = m + 1 := ⟨k - 1, by omega⟩
    rw [few_step k l i (by omega) (by omega)]
    exact ih (i + 1) k (by omega) (by omega)
theorem few_any (l : List ByteArray) :
    ∃ r, (∀ (A : Option Addr) (c : Nat) (w : World), Kd.C Kd.string w A l.length l → l.length ≤ c → Calls Tryd.prog 6 #[.slice A l.length c] w fun e w' => e = .returned (.bool r) ∧ Below w.heap.size w w') ∧ (r = true → l.length ≤ 200 ∧ sumZ l ≤ 20000) := by
  have h := few_l0 l (min l.length 200) 0 (min l.length 200 + 1) (by omega) (by omega)
  by_cases hl : l.length ≤ 200
  · rw [if_pos (by omega), Nat.min_eq_left hl, List.take_length] at h
    exact ⟨decide (((minZ l : Nat) : Int) ≤ 20000), fun A c w hr hc => hyglaw19_few.calls _ A c l _ w hr hc h, fun e => ⟨hl, sumZ_of l (by have := of_decide_eq_true e; omega)⟩⟩
  · rw [if_neg (by omega)] at h
    exact ⟨false, fun A c w hr hc => hyglaw19_few.calls _ A c l _ w hr hc h, fun e => by cases e⟩
end Go.Proofs.YtbgpkfdfkmmfcaaDoor
namespace Go.Proofs.YtbgpkfdfkmmfcaaDoor
open Go.RowKit Go.Proofs.YtbgpkfdfkmmfcaaDoorW.PrintWords Go.Proofs.YtbgpkfdfkmmfcaaDoorW.PrintLast Go.Proofs.YtbgpkfdfkmmfcaaDoorW.PrintMore Hy

theorem dictL_ok (L : List ByteArray) : okB (dictL (bsL L)) := by
  intro x hx
  unfold dictL at hx
  rcases List.mem_append.1 hx with h | h
  · exact putL_ok _ x h
  · unfold joinL at h
    obtain ⟨t, ht, h⟩ := List.mem_flatMap.1 h
    unfold textL at h
    obtain ⟨u, _, rfl⟩ := List.mem_map.1 ht
    rcases List.mem_append.1 h with h | h
    · exact putL_ok _ x h
    · exact bs_ok u x h
theorem isDictB_put (L : List ByteArray) (hn : L.Nodup) (hl : L.length ≤ 20000) : isDictB (st (dictL (bsL L))) L := ⟨bs_st _ (dictL_ok L), bsL_nodup.2 hn, by rw [bsL_length]; exact hl⟩
theorem sumZ_snoc (l : List ByteArray) (x : ByteArray) : sumZ (l ++ [x]) = sumZ l + x.size := by unfold sumZ; simp
theorem sumZ_take (l : List ByteArray) (i : Nat) : sumZ (l.take i) ≤ sumZ l := by
  conv => rhs; rw [← List.take_append_drop i l]
  unfold sumZ
  rw [List.map_append, List.sum_append]; omega
theorem dictL_small (L : List ByteArray) (hl : L.length ≤ 20000) (hs : sumZ L ≤ 1000000) : (dictL (bsL L)).length ≤ 2000000 := by
  have h1 := joinL_sumZ L (fun x hx => by have := sumZ_mem hx; omega)
  have h2 := putL_len10 L.length (by omega)
  unfold dictL
  rw [List.length_append, bsL_length]; omega
/-- The texts that were told so far. -/
structure Told (l : List ByteArray) (i : Nat) (L : List ByteArray) : Prop where
  all : ∀ k, k < i → ∀ t, l[k]? = some t → t ∈ L
  len : L.length ≤ i
  sum : sumZ L ≤ sumZ (l.take i)
theorem Told.zero (l : List ByteArray) : Told l 0 [] := ⟨fun k hk => by omega, by simp, by simp [sumZ]⟩
theorem Told.old {l : List ByteArray} {i : Nat} {L : List ByteArray} {t : ByteArray} (h : Told l i L) (ht : l[i]? = some t) (hm : t ∈ L) : Told l (i + 1) L := by
  refine ⟨fun k hk u hu => ?_, by have := h.len; omega, ?_⟩
  · by_cases e : k = i
    · subst e
      rw [ht] at hu
      injection hu with hu
      rw [← hu]; exact hm
    · exact h.all k (by omega) u hu
  · have hi := (List.getElem?_eq_some_iff.1 ht).1
    rw [List.take_succ_eq_append_getElem hi, sumZ_snoc]
    have := h.sum; omega
theorem Told.new {l : List ByteArray} {i : Nat} {L : List ByteArray} {t : ByteArray} (h : Told l i L) (ht : l[i]? = some t) : Told l (i + 1) (L ++ [t]) := by
  refine ⟨fun k hk u hu => ?_, by rw [List.length_append, List.length_singleton]; have := h.len; omega, ?_⟩
  · by_cases e : k = i
    · subst e
      rw [ht] at hu
      injection hu with hu
      rw [← hu]; simp
    · exact List.mem_append_left _ (h.all k (by omega) u hu)
  · obtain ⟨hi, he⟩ := List.getElem?_eq_some_iff.1 ht
    rw [List.take_succ_eq_append_getElem hi, sumZ_snoc, sumZ_snoc, he]
    have := h.sum; omega
theorem arg_cell {w : World} {A : Option Addr} {l : List ByteArray} (h : Kd.C Kd.string w A l.length l) (i : Nat) (hi : i < l.length) : ∃ ad, A = some ad ∧ ∀ t, l[i]? = some t → w.cell? (ad.add i) = some (.string t) := by
  obtain ⟨ad, e, hx⟩ := Kd.at_string h (i : Int) (by omega) (by omega)
  refine ⟨ad, e, fun t ht => ?_⟩
  rw [Int.toNat_natCast] at hx
  rw [hx]
  have := (List.getElem?_eq_some_iff.1 ht).2
  simp [rdOf, List.getD_eq_getElem?_getD, hi, this]
end Go.Proofs.YtbgpkfdfkmmfcaaDoor
