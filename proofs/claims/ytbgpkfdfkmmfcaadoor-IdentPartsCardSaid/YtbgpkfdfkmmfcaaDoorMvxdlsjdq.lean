import Derived.Test.YtbgpkfdfkmmfcaaDoorWLast
import Derived.Test.YtbgpkfdfkmmfcaaDoorWMore
import Derived.WalkKit
import Derived.Below
import Derived.Test.YtbgpkfdfkmmfcaaDoorPIdentPartsx1
import Derived.Test.YtbgpkfdfkmmfcaaDoorMiuvcdyll
import Derived.Test.YtbgpkfdfkmmfcaaDoorPIdentPartsx2
import Derived.Test.YtbgpkfdfkmmfcaaDoorMyyqateca
import Derived.Test.YtbgpkfdfkmmfcaaDoorPIdentPartsx3
namespace Go.Proofs.YtbgpkfdfkmmfcaaDoor
open Go.RowKit Go.Proofs.YtbgpkfdfkmmfcaaDoorW.PrintWords Go.Proofs.YtbgpkfdfkmmfcaaDoorW.PrintLast Go.Proofs.YtbgpkfdfkmmfcaaDoorW.PrintMore
open PIdentParts (hygref_Texts.l0 hygref_Texts.f hygref_Texts.calls)

theorem str_toList {t s : ByteArray} (h : t.toList = s.toList) : t = s := by
  rw [ByteArray.toList_eq, ByteArray.toList_eq] at h
  exact ByteArray.ext (Array.toList_inj.mp h)
theorem str_ne {t s : ByteArray} (h : ¬ t = s) : ¬ t.toList = s.toList := fun e => h (str_toList e)
theorem rdOf_at {l : List ByteArray} {i : Nat} (h : i < l.length) : rdOf ByteArray.empty l (i : Int) = l[i] := by simp [rdOf, List.getD_eq_getElem?_getD, h]
theorem texts_l0 (a b : List ByteArray) (h : a.length = b.length) (hb : a.length ≤ 140737488355328) : ∀ (d i k : Nat), i + d = a.length → d < k → ∃ r, hygref_Texts.l0 k a b (i : Int) = some r ∧ (r = true ↔ a.drop i = b.drop i) := by
  intro d
  induction d with
  | zero =>
    intro i k hi hk
    obtain ⟨k, rfl⟩ : ∃ m, k = m + 1 := ⟨k - 1, by omega⟩
    refine ⟨true, ?_, ?_⟩
    · rw [hygref_Texts.l0, if_neg (by omega)]
    · rw [List.drop_of_length_le (by omega), List.drop_of_length_le (by omega)]; simp
  | succ d ih =>
    intro i k hi hk
    obtain ⟨k, rfl⟩ : ∃ m, k = m + 1 := ⟨k - 1, by omega⟩
    have hi1 : i < a.length := by omega
    have hi2 : i < b.length := by omega
    have hd : (a.drop i = b.drop i) ↔ (a[i] = b[i] ∧ a.drop (i + 1) = b.drop (i + 1)) := by
      rw [List.drop_eq_getElem_cons hi1, List.drop_eq_getElem_cons hi2, List.cons.injEq]
    rw [hygref_Texts.l0, if_pos (by omega), if_pos (by omega), if_pos (by omega), rdOf_at hi1, rdOf_at hi2]
    by_cases he : a[i] = b[i]
    · obtain ⟨r, e1, e2⟩ := ih (i + 1) k (by omega) (by omega)
      refine ⟨r, ?_, ?_⟩
      · rw [if_pos (by rw [he]), show wrap64 ((i : Int) + 1) = ((i + 1 : Nat) : Int) by unfold wrap64; omega, e1]
      · rw [e2, hd]; exact ⟨fun h => ⟨he, h⟩, fun h => h.2⟩
    · refine ⟨false, by rw [if_neg (str_ne he)], ?_⟩
      rw [hd]; exact ⟨fun h => (by cases h), fun h => absurd h.1 he⟩
theorem texts_f (a b : List ByteArray) (hb : a.length ≤ 140737488355328) : ∃ r, hygref_Texts.f (a.length + 1) a b = some r ∧ (r = true ↔ a = b) := by
  unfold hygref_Texts.f
  by_cases h : a.length = b.length
  · rw [if_pos (by omega)]
    have := texts_l0 a b h hb a.length 0 (a.length + 1) (by omega) (by omega)
    simpa using this
  · rw [if_neg (by omega)]
    refine ⟨false, rfl, ?_⟩
    exact ⟨fun h => (by cases h), fun e => absurd (by rw [e]) h⟩
theorem texts_same (A : Option Addr) (c : Nat) (l : List ByteArray) (A' : Option Addr) (c' : Nat) (w : World) (hr : Kd.C Kd.string w A l.length l) (hc : l.length ≤ c) (hr' : Kd.C Kd.string w A' l.length l) (hc' : l.length ≤ c') (hl : l.length ≤ 140737488355328) :
    Calls Tryd.prog 11 #[.slice A l.length c, .slice A' l.length c'] w fun e w' => e = .returned (.bool true) ∧ Drawn0 w w' := by
  obtain ⟨r, h1, h2⟩ := texts_f l l hl
  obtain rfl := h2.2 rfl
  exact hygref_Texts.calls (l.length + 1) A c l A' c' l _ w hr hc hr' hc' h1
theorem texts_other (A : Option Addr) (c : Nat) (l : List ByteArray) (A' : Option Addr) (c' : Nat) (l' : List ByteArray) (w : World) (hr : Kd.C Kd.string w A l.length l) (hc : l.length ≤ c) (hr' : Kd.C Kd.string w A' l'.length l') (hc' : l'.length ≤ c') (hl : l.length ≤ 140737488355328) (hne : l ≠ l') :
    Calls Tryd.prog 11 #[.slice A l.length c, .slice A' l'.length c'] w fun e w' => e = .returned (.bool false) ∧ Drawn0 w w' := by
  obtain ⟨r, h1, h2⟩ := texts_f l l' hl
  have : r = false := by
    cases r with
    | false => rfl
    | true => exact absurd (h2.1 rfl) hne
  subst this
  exact hygref_Texts.calls (l.length + 1) A c l A' c' l' _ w hr hc hr' hc' h1
end Go.Proofs.YtbgpkfdfkmmfcaaDoor
namespace Go.Proofs.YtbgpkfdfkmmfcaaDoor
open Go.RowKit Go.Proofs.YtbgpkfdfkmmfcaaDoorW.PrintWords Go.Proofs.YtbgpkfdfkmmfcaaDoorW.PrintLast Go.Proofs.YtbgpkfdfkmmfcaaDoorW.PrintMore Hy
open PIdentParts (hygref2_GetVarint.l0 hygref2_GetVarint.j2 hygref2_GetVarint.j0 hygref2_GetVarint.f hygref2_GetVarint.calls)

/-! ### the document's own reading of a number -/
theorem and_u8_127 (x : Int) (h0 : 0 ≤ x) (h1 : x < 256) : Go.bits .and .u8 x 127 = x % 128 :=
  bits_mask .u8 8 (by decide) wraps_u8 7 (by decide) x h0 (by simpa using h1)
theorem rstep7 (c i acc : Nat) (hi : i ≤ 9) (hc : c < 256) (h9 : i = 9 → c ≤ 1) (ha : acc < 2 ^ (7 * i)) :
    Go.bits .or .u64 (acc : Int) (shl .u64 (IntKind.u64.wrap (Go.bits .and .u8 (c : Int) 127)) (IntKind.u64.wrap (wrap64 (7 * (i : Int))))) = ((acc + c % 128 * 2 ^ (7 * i) : Nat) : Int) := by
  have h := (step7 c i acc hi hc h9 ha).1
  rw [and_u8_127 _ (by omega) (by omega), ← andNot_u8_128 _ (by omega) (by omega), show IntKind.u64.wrap (wrap64 (7 * (i : Int))) = wrap64 (7 * (i : Int)) by rw [w7 i hi, wrap_u64]; omega]
  exact h
theorem rg_end (s : ByteArray) (a i k : Nat) (acc : Int) (hs : s.size ≤ 140737488351232) (hi : i ≤ 9) (hle : a + i = s.size) : hygref2_GetVarint.l0 (k + 1) s (a : Int) acc (i : Int) = some (0, 0, 1) := by
  have e0 : wrap64 ((a : Int) + (i : Int)) = ((a + i : Nat) : Int) := by unfold wrap64; omega
  have hx : (i : Int) < 10 := by omega
  have hA : ((a + i : Nat) : Int) ≥ (s.size : Int) := by omega
  rw [hygref2_GetVarint.l0, if_pos hx, e0, if_pos hA]
theorem rg_big (s : ByteArray) (a k : Nat) (acc : Int) (hs : s.size ≤ 140737488351232) (hlt : a + 9 < s.size) (c : Nat) (h2 : bt s ((a + 9 : Nat) : Int) = (c : Int)) (hc : 1 < c) : hygref2_GetVarint.l0 (k + 2) s (a : Int) acc ((9 : Nat) : Int) = some (0, 0, 4) := by
  have e0 : wrap64 ((a : Int) + ((9 : Nat) : Int)) = ((a + 9 : Nat) : Int) := by unfold wrap64; omega
  have hx : ((9 : Nat) : Int) < 10 := by omega
  have hA : ¬ ((a + 9 : Nat) : Int) ≥ (s.size : Int) := by omega
  have hB : 0 ≤ ((a + 9 : Nat) : Int) := by omega
  have hC : ((a + 9 : Nat) : Int) < (s.size : Int) := by omega
  have hD : ((9 : Nat) : Int) = 9 := rfl
  have hT : decide ((c : Int) > 1) = true := by simp; omega
  rw [hygref2_GetVarint.l0, if_pos hx, e0, if_neg hA, if_pos hB, if_pos hC, if_pos hD, h2, hygref2_GetVarint.j2, if_pos hT]
theorem rg_j2 (s : ByteArray) (a i acc k c : Nat) (x : Bool) (hx : x = false) (hs : s.size ≤ 140737488351232) (hi : i ≤ 9) (hlt : a + i < s.size) (ha : acc < 2 ^ (7 * i)) (h3 : c < 256) (h9 : i = 9 → c ≤ 1) :
    hygref2_GetVarint.j2 (k + 1) s (a : Int) (acc : Int) (i : Int) (c : Int) x = if c < 128 then some (((acc + c % 128 * 2 ^ (7 * i) : Nat) : Int), ((a + i + 1 : Nat) : Int), 0) else hygref2_GetVarint.l0 k s (a : Int) ((acc + c % 128 * 2 ^ (7 * i) : Nat) : Int) ((i + 1 : Nat) : Int) := by
  have hE : 0 ≤ IntKind.u64.wrap (wrap64 (7 * (i : Int))) := by rw [w7 i hi, wrap_u64]; omega
  have hT : ¬ (false = true) := by simp
  have e0 : wrap64 ((a : Int) + (i : Int)) = ((a + i : Nat) : Int) := by unfold wrap64; omega
  have e1 : wrap64 (((a + i : Nat) : Int) + 1) = ((a + i + 1 : Nat) : Int) := by unfold wrap64; omega
  have e2 : wrap64 ((i : Int) + 1) = ((i + 1 : Nat) : Int) := by unfold wrap64; omega
  have h7 := rstep7 c i acc hi h3 h9 ha
  subst hx
  rw [hygref2_GetVarint.j2, if_neg hT, if_pos hE, h7, e0, e1, e2]
  by_cases hc : c < 128
  · rw [if_pos hc, if_pos (by omega)]
  · rw [if_neg hc, if_neg (by omega)]
theorem rg_step (s : ByteArray) (a i acc k c : Nat) (hs : s.size ≤ 140737488351232) (hi : i ≤ 9) (hlt : a + i < s.size) (ha : acc < 2 ^ (7 * i)) (h2 : bt s ((a + i : Nat) : Int) = (c : Int)) (h3 : c < 256) (h9 : i = 9 → c ≤ 1) :
    hygref2_GetVarint.l0 (k + 2) s (a : Int) (acc : Int) (i : Int) = if c < 128 then some (((acc + c % 128 * 2 ^ (7 * i) : Nat) : Int), ((a + i + 1 : Nat) : Int), 0) else hygref2_GetVarint.l0 k s (a : Int) ((acc + c % 128 * 2 ^ (7 * i) : Nat) : Int) ((i + 1 : Nat) : Int) := by
  have e0 : wrap64 ((a : Int) + (i : Int)) = ((a + i : Nat) : Int) := by unfold wrap64; omega
  have hx : (i : Int) < 10 := by omega
  have hA : ¬ ((a + i : Nat) : Int) ≥ (s.size : Int) := by omega
  have hB : 0 ≤ ((a + i : Nat) : Int) := by omega
  have hC : ((a + i : Nat) : Int) < (s.size : Int) := by omega
  rw [hygref2_GetVarint.l0, if_pos hx, e0, if_neg hA, if_pos hB, if_pos hC, h2]
  by_cases hD : (i : Int) = 9
  · rw [if_pos hD, rg_j2 s a i acc k c _ (by have := h9 (by omega); simp; omega) hs hi hlt ha h3 h9]
  · rw [if_neg hD, rg_j2 s a i acc k c _ rfl hs hi hlt ha h3 h9]
/-- What the reading gives, as the document's function tells it. -/
def rgv (a : Nat) (x : Sum Nat (Nat × Nat)) : Option (Int × Int × Int) := match x with
  | .inl c => some (0, 0, (c : Int))
  | .inr (v, m) => some ((v : Int), ((a + m : Nat) : Int), 0)
def addv (n k : Nat) : Sum Nat (Nat × Nat) → Sum Nat (Nat × Nat)
  | .inl c => .inl c
  | .inr (v, m) => .inr (n + v, k + m)
theorem rgetv_l0 : ∀ (d : Nat) (s : ByteArray) (a i acc k : Nat), s.size ≤ 140737488351232 → i + d = 9 → a + i ≤ s.size → acc < 2 ^ (7 * i) → 2 * d + 2 ≤ k →
    hygref2_GetVarint.l0 k s (a : Int) (acc : Int) (i : Int) = rgv a (addv acc i (dec i ((bs s).drop (a + i)))) := by
  intro d
  induction d with
  | zero =>
    intro s a i acc k hs hi hle ha hk
    obtain rfl : i = 9 := by omega
    obtain ⟨k, rfl⟩ : ∃ m, k = m + 2 := ⟨k - 2, by omega⟩
    by_cases hlt : a + 9 < s.size
    · obtain ⟨c, r, h1, h2, h3, h4⟩ := bt_bs s (a + 9) hlt
      by_cases hc : 1 < c
      · rw [h1, dec_big c r hc, rg_big s a k acc hs hlt c h2 hc]; rfl
      · rw [h1, dec_end 9 c r (by omega) (by omega), rg_step s a 9 acc k c hs (by omega) hlt ha h2 h3 (fun _ => by omega), if_pos (by omega), Nat.mod_eq_of_lt (show c < 128 by omega)]
        rfl
    · rw [List.drop_of_length_le (by rw [bs_length]; omega), dec_nil, rg_end s a 9 (k + 1) acc hs (by omega) (by omega)]
      rfl
  | succ d ih =>
    intro s a i acc k hs hi hle ha hk
    obtain ⟨k, rfl⟩ : ∃ m, k = m + 2 := ⟨k - 2, by omega⟩
    by_cases hlt : a + i < s.size
    · obtain ⟨c, r, h1, h2, h3, h4⟩ := bt_bs s (a + i) hlt
      have hN : ¬ (i = 9 ∧ 1 < c) := by omega
      have hs8 := (step7 c i acc (by omega) h3 (fun h => by omega) ha).2.2 (by omega)
      rw [rg_step s a i acc k c hs (by omega) hlt ha h2 h3 (fun h => by omega)]
      by_cases hc : c < 128
      · rw [h1, dec_end i c r hN hc, if_pos hc, Nat.mod_eq_of_lt hc]; rfl
      · have IH := ih s a (i + 1) _ k hs (by omega) (by omega) hs8 (by omega)
        rw [show a + (i + 1) = a + i + 1 by omega, h4] at IH
        rw [if_neg hc, IH, h1, dec_on i c r hN hc, show c % 128 = c - 128 by omega]
        cases dec (i + 1) r with
        | inl x => rfl
        | inr x =>
          obtain ⟨v, m⟩ := x
          show some (((acc + (c - 128) * 2 ^ (7 * i) + v : Nat) : Int), ((a + (i + 1 + m) : Nat) : Int), (0 : Int)) = some (((acc + ((c - 128) * 2 ^ (7 * i) + v) : Nat) : Int), ((a + (i + (m + 1)) : Nat) : Int), 0)
          rw [Nat.add_assoc acc, Nat.add_assoc i, Nat.add_comm 1 m]
    · rw [List.drop_of_length_le (by rw [bs_length]; omega), dec_nil, rg_end s a i (k + 1) acc hs (by omega) (by omega)]
      rfl
theorem rgetv_k (s : ByteArray) (a k : Nat) (hk : 21 ≤ k) (hs : s.size ≤ 140737488351232) (ha : a ≤ s.size) : hygref2_GetVarint.f k s (a : Int) = rgv a (dec 0 ((bs s).drop a)) := by
  obtain ⟨k, rfl⟩ : ∃ m, k = m + 1 := ⟨k - 1, by omega⟩
  have := rgetv_l0 9 s a 0 0 k hs rfl (by omega) (by simp) (by omega)
  unfold hygref2_GetVarint.f
  rw [if_neg (by omega), hygref2_GetVarint.j0, if_neg (by simp; omega)]
  rw [Nat.add_zero] at this
  refine this.trans ?_
  cases dec 0 ((bs s).drop a) with
  | inl c => rfl
  | inr x => obtain ⟨v, m⟩ := x; simp [addv]
theorem rgetv_f (s : ByteArray) (a : Nat) (hs : s.size ≤ 140737488351232) (ha : a ≤ s.size) : hygref2_GetVarint.f 30 s (a : Int) = rgv a (dec 0 ((bs s).drop a)) := rgetv_k s a 30 (by omega) hs ha
theorem rgetv_range (s : ByteArray) (a : Int) (h : a < 0 ∨ s.size < a) : hygref2_GetVarint.f 30 s a = some (0, 0, 9) := by
  unfold hygref2_GetVarint.f
  by_cases h0 : a < 0
  · rw [if_pos h0, hygref2_GetVarint.j0, if_pos rfl]
  · rw [if_neg h0, hygref2_GetVarint.j0, if_pos (by simp; omega)]
end Go.Proofs.YtbgpkfdfkmmfcaaDoor
namespace Go.Proofs.YtbgpkfdfkmmfcaaDoor
open Go.RowKit Go.Proofs.YtbgpkfdfkmmfcaaDoorW.PrintWords Go.Proofs.YtbgpkfdfkmmfcaaDoorW.PrintLast Go.Proofs.YtbgpkfdfkmmfcaaDoorW.PrintMore Hy
open PIdentParts (hygref2_GetVarint.f hygref2_Varint.f hygref18_Parts.l0 hygref18_Parts.f hygref18_Parts.calls)

/-! ### the document's own: texts taken apart -/
theorem dec_c0 : ∀ (l : List Nat) (i : Nat), dec i l = .inl 0 → False := by
  intro l
  induction l with
  | nil => intro i h; rw [dec_nil] at h; injection h with h; omega
  | cons x r ih =>
    intro i h
    by_cases h9 : i = 9 ∧ 1 < x
    · obtain ⟨rfl, hx⟩ := h9
      rw [dec_big x r hx] at h; injection h with h; omega
    · by_cases hx : x < 128
      · rw [dec_end i x r h9 hx] at h; cases h
      · rw [dec_on i x r h9 hx] at h
        cases hd : dec (i + 1) r with
        | inl y => rw [hd] at h; injection h with h; subst h; exact ih _ hd
        | inr y => rw [hd] at h; cases h
theorem pw1 (x y : Nat) (h : y ≤ x) (hx : x ≤ 4000000000) : IntKind.u64.wrap (wrap64 ((x : Int) - (y : Int))) = ((x - y : Nat) : Int) := by rw [wrap_u64]; unfold wrap64; omega
theorem pw2 (x y : Nat) (h : x + y ≤ 4000000000) : wrap64 ((x : Int) + wrap64 (y : Int)) = ((x + y : Nat) : Int) := by
  rw [show wrap64 (y : Int) = (y : Int) by unfold wrap64; omega]
  unfold wrap64; omega
/-- The texts of bytes. -/
def isParts (s : ByteArray) (L : List ByteArray) : Prop := bs s = joinL (bsL L)
theorem isParts_uniq {s : ByteArray} {L M : List ByteArray} (hs : s.size < 18446744073709551616) (h : isParts s L) (h' : isParts s M) : L = M := by
  have e := h.symm.trans h'
  have s1 := small_of (bsL L) (bs s) [] (by rw [bs_length]; exact hs) (by rw [List.append_nil]; exact h)
  have s2 := small_of (bsL M) (bs s) [] (by rw [bs_length]; exact hs) (by rw [List.append_nil]; exact h')
  obtain ⟨L', e1, e2⟩ := joinL_front (bsL M) (bsL L) [] s2 s1 (by rw [List.append_nil]; exact e)
  have : L' = [] := by
    cases L' with
    | nil => rfl
    | cons t L' => rw [joinL_cons] at e2; exact absurd e2 (textL_ne _ _)
  rw [this, List.append_nil] at e1
  exact bsL_inj e1
theorem parts_stuck {s : ByteArray} {D : List ByteArray} {r : List Nat} (hs : s.size < 18446744073709551616) (h : bs s = joinL (bsL D) ++ r) (hr : r ≠ []) (hn : ∀ t q, r ≠ textL t ++ q) (M : List ByteArray) : ¬ isParts s M := by
  intro h'
  have s1 := small_of (bsL D) (bs s) r (by rw [bs_length]; exact hs) h
  have s2 := small_of (bsL M) (bs s) [] (by rw [bs_length]; exact hs) (by rw [List.append_nil]; exact h')
  obtain ⟨L', e1, e2⟩ := joinL_front (bsL D) (bsL M) r s1 s2 (h'.symm.trans h)
  cases L' with
  | nil => exact hr e2.symm
  | cons t L' => rw [joinL_cons] at e2; exact hn t _ e2.symm
theorem parts_go (s : ByteArray) (D : List ByteArray) (K a m n : Nat) (t P : ByteArray) (hs : s.size ≤ 4000000000) (hle : a + m + n ≤ s.size) (hlt : a < s.size) (hD : D.length ≤ a)
    (hg : hygref2_GetVarint.f K s (a : Int) = some ((n : Int), ((a + m : Nat) : Int), 0)) (hv : hygref2_Varint.f K (n : Int) = some P) (x1 : s.extract a (a + m) = P) (x2 : s.extract (a + m) (a + m + n) = t) :
    hygref18_Parts.l0 (K + 1) s D (a : Int) = hygref18_Parts.l0 K s (D ++ [t]) ((a + m + n : Nat) : Int) := by
  have c0 : (a : Int) < (s.size : Int) := by omega
  have c1 : ¬ ((n : Int) > ((s.size - (a + m) : Nat) : Int)) := by omega
  have c2 : (0 : Int) ≤ (a : Int) := by omega
  have c3 : (a : Int) ≤ ((a + m : Nat) : Int) := by omega
  have c4 : ((a + m : Nat) : Int) ≤ (s.size : Int) := by omega
  have c5 : (0 : Int) ≤ ((a + m : Nat) : Int) := by omega
  have c6 : ((a + m : Nat) : Int) ≤ ((a + m + n : Nat) : Int) := by omega
  have c7 : ((a + m + n : Nat) : Int) ≤ (s.size : Int) := by omega
  have c8 : D.length < 8796093022208 := by omega
  have e1 := pw1 s.size (a + m) (by omega) hs
  have e2 := pw2 (a + m) n (by omega)
  rw [hygref18_Parts.l0, if_pos c0, hg, Option.bind_some, if_pos rfl]
  simp only
  rw [e1, if_neg c1, hv, Option.bind_some, if_pos c2, if_pos c3, if_pos c4]
  simp only [Int.toNat_natCast]
  rw [x1, if_pos rfl, if_pos c5, e2, if_pos c6, if_pos c7, if_pos c8]
  simp only [Int.toNat_natCast]
  rw [x2]
theorem parts_no1 (s : ByteArray) (D : List ByteArray) (K a c : Nat) (hlt : a < s.size) (hg : hygref2_GetVarint.f K s (a : Int) = some (0, 0, (c : Int))) (hc : ¬ (c : Int) = 0) : hygref18_Parts.l0 (K + 1) s D (a : Int) = some ([], false) := by
  have c0 : (a : Int) < (s.size : Int) := by omega
  rw [hygref18_Parts.l0, if_pos c0, hg, Option.bind_some, if_neg hc]
theorem parts_no2 (s : ByteArray) (D : List ByteArray) (K a m n : Nat) (hs : s.size ≤ 4000000000) (hlt : a < s.size) (hle : a + m ≤ s.size) (hg : hygref2_GetVarint.f K s (a : Int) = some ((n : Int), ((a + m : Nat) : Int), 0)) (hb : s.size - (a + m) < n) : hygref18_Parts.l0 (K + 1) s D (a : Int) = some ([], false) := by
  have c0 : (a : Int) < (s.size : Int) := by omega
  have c1 : (n : Int) > ((s.size - (a + m) : Nat) : Int) := by omega
  have e1 := pw1 s.size (a + m) (by omega) hs
  rw [hygref18_Parts.l0, if_pos c0, hg, Option.bind_some, if_pos rfl]
  simp only
  rw [e1, if_pos c1]
theorem parts_no3 (s : ByteArray) (D : List ByteArray) (K a m n : Nat) (P : ByteArray) (hs : s.size ≤ 4000000000) (hlt : a < s.size) (hle : a + m ≤ s.size) (hg : hygref2_GetVarint.f K s (a : Int) = some ((n : Int), ((a + m : Nat) : Int), 0)) (hb : ¬ s.size - (a + m) < n) (hv : hygref2_Varint.f K (n : Int) = some P) (hne : ¬ P.toList = (s.extract a (a + m)).toList) : hygref18_Parts.l0 (K + 1) s D (a : Int) = some ([], false) := by
  have c0 : (a : Int) < (s.size : Int) := by omega
  have c1 : ¬ ((n : Int) > ((s.size - (a + m) : Nat) : Int)) := by omega
  have c2 : (0 : Int) ≤ (a : Int) := by omega
  have c3 : (a : Int) ≤ ((a + m : Nat) : Int) := by omega
  have c4 : ((a + m : Nat) : Int) ≤ (s.size : Int) := by omega
  have e1 := pw1 s.size (a + m) (by omega) hs
  rw [hygref18_Parts.l0, if_pos c0, hg, Option.bind_some, if_pos rfl]
  simp only
  rw [e1, if_neg c1, hv, Option.bind_some, if_pos c2, if_pos c3, if_pos c4]
  simp only [Int.toNat_natCast]
  rw [if_neg hne]
set_option maxHeartbeats 1000000 in
theorem parts_l0 (s : ByteArray) (hs : s.size ≤ 4000000000) : ∀ (d a : Nat) (D : List ByteArray) (K : Nat), a + d = s.size → bs s = joinL (bsL D) ++ (bs s).drop a → D.length ≤ a → d + 40 ≤ K →
    (∃ M, isParts s M ∧ hygref18_Parts.l0 K s D (a : Int) = some (M, true)) ∨ ((∀ M, ¬ isParts s M) ∧ hygref18_Parts.l0 K s D (a : Int) = some ([], false)) := by
  intro d
  induction d using Nat.strongRecOn with
  | ind d ih =>
    intro a D K ha he hD hK
    obtain ⟨K, rfl⟩ : ∃ m, K = m + 1 := ⟨K - 1, by omega⟩
    by_cases h0 : d = 0
    · refine .inl ⟨D, ?_, ?_⟩
      · rw [List.drop_of_length_le (by rw [bs_length]; omega), List.append_nil] at he; exact he
      · rw [hygref18_Parts.l0, if_neg (by omega)]
    · have hlt : (a : Int) < (s.size : Int) := by omega
      have hg := rgetv_k s a K (by omega) (by omega) (by omega)
      clear hlt
      have hdl : ((bs s).drop a).length = d := by rw [List.length_drop, bs_length]; omega
      have hr : (bs s).drop a ≠ [] := by intro e; rw [e] at hdl; simp at hdl; omega
      rcases text_or ((bs s).drop a) (okB_drop (bs_ok s) a) (by omega) with ⟨t, q, ht, e⟩ | hbad
      · have hl := congrArg List.length e
        rw [hdl, List.length_append, List.length_append, bs_length] at hl
        have hpos := putL_pos t.size
        rw [e, dec_put t.size ht] at hg
        have hg2 : hygref2_GetVarint.f K s (a : Int) = some ((t.size : Int), ((a + (putL t.size).length : Nat) : Int), 0) := hg
        have hv := vput_k t.size K ht (by omega)
        obtain ⟨m, hm⟩ : ∃ m, (putL t.size).length = m := ⟨_, rfl⟩
        rw [hm] at hg2 hl hpos
        have x1 : s.extract a (a + m) = st (putL t.size) := by
          apply bs_inj
          rw [bs_extract, List.drop_take, show a + m - a = m by omega, e, ← hm, List.take_left, bs_st _ (putL_ok _)]
        have x2 : s.extract (a + m) (a + m + t.size) = t := by
          apply bs_inj
          rw [bs_extract, List.drop_take, show a + m + t.size - (a + m) = t.size by omega, ← List.drop_drop, e, ← hm, List.drop_left, ← bs_length, List.take_left]
        have hnx : bs s = joinL (bsL (D ++ [t])) ++ (bs s).drop (a + m + t.size) := by
          have h3 : (bs s).drop (a + m + t.size) = q := by rw [Nat.add_assoc, ← List.drop_drop, e, ← List.append_assoc, ← hm, ← bs_length t, ← List.length_append, List.drop_left]
          rw [h3, bsL_snoc, joinL_snoc, textL_size, List.append_assoc, List.append_assoc, ← e]; exact he
        have := ih (d - (m + t.size)) (by omega) (a + m + t.size) (D ++ [t]) K (by omega) hnx (by simp; omega) (by omega)
        have hstep := parts_go s D K a m t.size t _ hs (by omega) (by omega) hD hg2 hv x1 x2
        rw [hstep]; exact this
      · refine .inr ⟨parts_stuck (by omega) he hr (text_no hbad (by omega)), ?_⟩
        cases hd : dec 0 ((bs s).drop a) with
        | inl c =>
          rw [hd] at hg
          have hg2 : hygref2_GetVarint.f K s (a : Int) = some (0, 0, (c : Int)) := hg
          have hc : ¬ (c : Int) = 0 := fun e => dec_c0 _ 0 (by rw [hd, show c = 0 by omega])
          exact parts_no1 s D K a c (by omega) hg2 hc
        | inr x =>
          obtain ⟨v, k⟩ := x
          rw [hd] at hg
          have hg2 : hygref2_GetVarint.f K s (a : Int) = some ((v : Int), ((a + k : Nat) : Int), 0) := hg
          obtain ⟨h1, h2, _, _, h5⟩ := dec_some _ 0 v k (okB_drop (bs_ok s) a) (by omega) hd
          rw [hdl] at h2
          by_cases hbig : s.size - (a + k) < v
          · exact parts_no2 s D K a k v hs (by omega) (by omega) hg2 hbig
          · have hv := vput_k v K h5 (by omega)
            have hne : ¬ (st (putL v)).toList = (s.extract a (a + k)).toList := by
              refine str_ne (fun e => ?_)
              have hlen := congrArg ByteArray.size e
              rw [st_size, ByteArray.size_extract] at hlen
              have hk : k = (putL v).length := by omega
              rcases hbad with ⟨v', q, hv', e', hq⟩ | hb
              · rw [e', dec_put v' hv'] at hd
                simp only [Sum.inr.injEq, Prod.mk.injEq] at hd
                obtain ⟨rfl, hk'⟩ := hd
                have := congrArg List.length e'
                rw [hdl, List.length_append] at this
                omega
              · exact hb v k hd hk
            exact parts_no3 s D K a k v _ hs (by omega) (by omega) hg2 hbig hv hne
theorem rparts_any (s : ByteArray) (w : World) (hs : s.size ≤ 4000000000) :
    Calls Tryd.prog 8 #[.string s] w fun e w' => ∃ (v : Value) (M : List ByteArray) (r : Bool), e = .returned (.tuple #[v, .bool r]) ∧ Kd.R Kd.string 9 w' w.heap.size (fun _ => True) v M ∧ Below w.heap.size w w' ∧ ((r = true ∧ isParts s M) ∨ (r = false ∧ M = [] ∧ ∀ M, ¬ isParts s M)) := by
  rcases parts_l0 s hs s.size 0 [] (s.size + 40) (by omega) rfl (by simp) (Nat.le_refl _) with ⟨M, h1, h2⟩ | ⟨h1, h2⟩
  · refine (hygref18_Parts.calls (s.size + 40) s M true w h2).mono ?_
    rintro e w' ⟨v, rfl, hr, hb⟩
    exact ⟨v, M, true, rfl, hr, hb, .inl ⟨rfl, h1⟩⟩
  · refine (hygref18_Parts.calls (s.size + 40) s [] false w h2).mono ?_
    rintro e w' ⟨v, rfl, hr, hb⟩
    exact ⟨v, [], false, rfl, hr, hb, .inr ⟨rfl, rfl, h1⟩⟩
end Go.Proofs.YtbgpkfdfkmmfcaaDoor
