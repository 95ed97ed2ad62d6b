import Derived.Test.YtipgdjjmmfkfiaaDoorMpbbfkqni
import Derived.Test.YtipgdjjmmfkfiaaDoorProg
import Derived.Test.YtipgdjjmmfkfiaaDoorWWords
import Derived.WalkKit
import Derived.Deep.QuietTactic
import Derived.BigQuiet
import Derived.LoopTactic
import Derived.IntWalk
namespace Go.Proofs.YtipgdjjmmfkfiaaDoor.Hy
open Go.RowKit

/-! ### signs of UTF-8 -/
def szc (c : Nat) : Nat := if c > 244 then 0 else if 128 ≤ c ∧ c < 194 then 0 else if c ≥ 240 then 4 else if c ≥ 224 then 3 else if c ≥ 194 then 2 else 1
def fol (c : Nat) : Bool := decide (128 ≤ c) && decide (c ≤ 191)
def sec (f c : Nat) : Bool := if f = 224 then decide (160 ≤ c) && fol c else if f = 237 then decide (c ≤ 159) && fol c else if f = 240 then decide (144 ≤ c) && fol c else if f = 244 then decide (c ≤ 143) && fol c else fol c
def sgn : List Nat → Nat
  | [] => 0
  | c :: r => if szc c = 0 then 0 else if r.length + 1 < szc c then 0 else if szc c = 1 then 1 else
      if sec c (r.getD 0 0) && ((r.take (szc c - 1)).drop 1).all fol then szc c else 0
theorem szc_le (c : Nat) : szc c ≤ 4 := by unfold szc; (repeat' split) <;> omega
theorem sgn_cons (c : Nat) (r : List Nat) (h : sgn (c :: r) ≠ 0) : sgn (c :: r) = szc c ∧ szc c ≤ r.length + 1 ∧ 1 ≤ szc c := by
  simp only [sgn] at h ⊢
  by_cases h0 : szc c = 0
  · rw [if_pos h0] at h; exact absurd rfl h
  · rw [if_neg h0] at h ⊢
    by_cases h1 : r.length + 1 < szc c
    · rw [if_pos h1] at h; exact absurd rfl h
    · rw [if_neg h1] at h ⊢
      by_cases h2 : szc c = 1
      · rw [if_pos h2] at h ⊢; omega
      · rw [if_neg h2] at h ⊢
        split at h
        · rename_i h3; rw [if_pos h3]; omega
        · exact absurd rfl h
theorem sgn_le (s : List Nat) : sgn s ≤ s.length ∧ sgn s ≤ 4 := by
  cases s with
  | nil => simp [sgn]
  | cons c r =>
    by_cases h : sgn (c :: r) = 0
    · rw [h]; omega
    · have := sgn_cons c r h
      have := szc_le c
      simp only [List.length_cons]; omega
theorem sgn_append (p q : List Nat) (h : sgn p ≠ 0) : sgn (p ++ q) = sgn p := by
  cases p with
  | nil => exact absurd rfl h
  | cons c r =>
    obtain ⟨h1, h2, h3⟩ := sgn_cons c r h
    rw [List.cons_append]
    have e1 : (r ++ q).take (szc c - 1) = r.take (szc c - 1) := List.take_append_of_le_length (by omega)
    simp only [sgn]
    rw [e1, if_neg (by omega), if_neg (by rw [List.length_append]; omega), if_neg (show ¬ szc c = 0 by omega), if_neg (show ¬ r.length + 1 < szc c by omega)]
    by_cases h4 : szc c = 1
    · rw [if_pos h4, if_pos h4]
    · have e2 : (r ++ q).getD 0 0 = r.getD 0 0 := by
        cases r with
        | nil => simp at h2; omega
        | cons a t => rfl
      rw [if_neg h4, if_neg h4, e2]
theorem sgn_take (s : List Nat) (m : Nat) (h : sgn s ≠ 0) (hm : sgn s ≤ m) : sgn (s.take m) = sgn s := by
  cases s with
  | nil => exact absurd rfl h
  | cons c r =>
    obtain ⟨h1, h2, h3⟩ := sgn_cons c r h
    rw [h1] at hm
    obtain ⟨m, rfl⟩ : ∃ n, m = n + 1 := ⟨m - 1, by omega⟩
    rw [List.take_succ_cons]
    have e1 : (r.take m).take (szc c - 1) = r.take (szc c - 1) := by rw [List.take_take, Nat.min_eq_left (by omega)]
    simp only [sgn]
    rw [e1, if_neg (show ¬ szc c = 0 by omega), if_neg (by rw [List.length_take]; omega), if_neg (show ¬ szc c = 0 by omega), if_neg (show ¬ r.length + 1 < szc c by omega)]
    by_cases h4 : szc c = 1
    · rw [if_pos h4, if_pos h4]
    · have e2 : (r.take m).getD 0 0 = r.getD 0 0 := by
        cases r with
        | nil => simp
        | cons a t =>
          obtain ⟨m, rfl⟩ : ∃ n, m = n + 1 := ⟨m - 1, by omega⟩
          rfl
      rw [if_neg h4, if_neg h4, e2]
theorem sgn_of_take (s : List Nat) (m : Nat) (h : sgn (s.take m) ≠ 0) : sgn s = sgn (s.take m) := by
  have := sgn_append (s.take m) (s.drop m) h
  rwa [List.take_append_drop] at this

/-- How many bytes the whole signs in front have that have so many at most. -/
def whl (s : List Nat) (m : Int) : Nat := if _h : sgn s = 0 ∨ m < sgn s then 0 else sgn s + whl (s.drop (sgn s)) (m - sgn s)
termination_by s.length
decreasing_by
  have := (sgn_le s).1
  rw [List.length_drop]; omega
theorem whl_stop (s : List Nat) (m : Int) (h : sgn s = 0 ∨ m < sgn s) : whl s m = 0 := by rw [whl]; simp [h]
theorem whl_go (s : List Nat) (m : Int) (h0 : sgn s ≠ 0) (h1 : (sgn s : Int) ≤ m) : whl s m = sgn s + whl (s.drop (sgn s)) (m - sgn s) := by
  rw [whl, dif_neg (by omega)]
/-- All that is to be told of whole signs: how far, why no further. -/
theorem whl_says : ∀ (n : Nat) (s : List Nat) (m : Int), s.length ≤ n → 0 ≤ m → (whl s m : Int) ≤ m ∧ whl s m ≤ s.length ∧ (sgn (s.drop (whl s m)) = 0 ∨ m - whl s m < sgn (s.drop (whl s m))) ∧ (∀ m' : Int, (whl s m : Int) ≤ m' → whl (s.take (whl s m)) m' = whl s m) := by
  intro n
  induction n with
  | zero =>
    intro s m hn hm
    obtain rfl : s = [] := List.eq_nil_of_length_eq_zero (by omega)
    have e : ∀ x, whl [] x = 0 := fun x => whl_stop _ _ (.inl rfl)
    rw [e]
    exact ⟨hm, by simp, .inl rfl, fun m' _ => by rw [List.take_nil]; exact e m'⟩
  | succ n ih =>
    intro s m hn hm
    by_cases hs : sgn s = 0 ∨ m < sgn s
    · rw [whl_stop s m hs]
      refine ⟨hm, by omega, by simpa using hs, fun m' _ => ?_⟩
      rw [List.take_zero]; exact whl_stop _ _ (.inl rfl)
    · have h0 : sgn s ≠ 0 := fun e => hs (.inl e)
      have h1 : (sgn s : Int) ≤ m := by
        rcases Int.lt_or_le m (sgn s) with h | h
        · exact absurd (.inr h) hs
        · exact h
      have hle := sgn_le s
      obtain ⟨i1, i2, i3, i4⟩ := ih (s.drop (sgn s)) (m - sgn s) (by rw [List.length_drop]; omega) (by omega)
      rw [whl_go s m h0 h1]
      rw [List.drop_drop] at i3
      rw [List.length_drop] at i2
      refine ⟨by omega, by omega, ?_, fun m' hm' => ?_⟩
      · rcases i3 with i3 | i3
        · exact .inl i3
        · exact .inr (by omega)
      · have e := sgn_take s (sgn s + whl (s.drop (sgn s)) (m - sgn s)) h0 (by omega)
        rw [whl_go _ m' (by rw [e]; exact h0) (by rw [e]; omega), e, List.drop_take]
        rw [show sgn s + whl (s.drop (sgn s)) (m - sgn s) - sgn s = whl (s.drop (sgn s)) (m - sgn s) by omega, i4 (m' - sgn s) (by omega)]
/-- Are all signs right? -/
def vld (s : List Nat) : Bool := decide (whl s s.length = s.length)
theorem vld_nil : vld [] = true := by unfold vld; rw [whl_stop _ _ (.inl rfl)]; rfl
theorem vld_clip (s : List Nat) (m : Int) (hm : 0 ≤ m) : vld (s.take (whl s m)) = true ∧ (∀ m' : Int, (whl s m : Int) ≤ m' → whl (s.take (whl s m)) m' = whl s m) := by
  obtain ⟨h1, h2, h3, h4⟩ := whl_says s.length s m (Nat.le_refl _) hm
  refine ⟨?_, h4⟩
  unfold vld
  have hl : (s.take (whl s m)).length = whl s m := by rw [List.length_take]; omega
  rw [hl, h4 _ (Int.le_refl _)]
  simp
/-- A text begins with a sign. -/
theorem vld_sgn (s : List Nat) (h : vld s = true) (hs : s ≠ []) : sgn s ≠ 0 ∧ sgn s ≤ s.length := by
  refine ⟨fun e => ?_, (sgn_le s).1⟩
  unfold vld at h
  rw [whl_stop s _ (.inl e)] at h
  have := of_decide_eq_true h
  exact hs (List.eq_nil_of_length_eq_zero this.symm)
/-- Behind what was clipped no sign begins that would have been in bounds. -/
theorem clip_end (s : List Nat) (m : Int) (hm : 0 ≤ m) (k : Nat) (h1 : whl s m < k) (h2 : k ≤ s.length) (h3 : (k : Int) ≤ m) : vld ((s.take k).drop (whl s m)) = false := by
  obtain ⟨_, _, h4, _⟩ := whl_says s.length s m (Nat.le_refl _) hm
  cases e : vld ((s.take k).drop (whl s m)) with
  | false => rfl
  | true =>
    have hl : ((s.take k).drop (whl s m)).length = k - whl s m := by rw [List.length_drop, List.length_take]; omega
    obtain ⟨i1, i2⟩ := vld_sgn _ e (by intro e2; rw [e2] at hl; simp at hl; omega)
    rw [List.drop_take] at i1 i2
    have := sgn_of_take _ _ i1
    rw [← this] at i1 i2
    rw [List.length_take, List.length_drop] at i2
    omega
theorem get_bs (s : ByteArray) (i : Nat) (h : i < s.size) : s[i].toNat = (bs s).getD i 0 := by
  have hl : i < (bs s).length := by rw [bs_length]; exact h
  rw [List.getD_eq_getElem?_getD, List.getElem?_eq_getElem hl]
  simp [bs]
  rfl
theorem sgn_small (l : List Nat) (hl : 0 < l.length) (h : szc (l.getD 0 0) ≤ 1) : sgn l = szc (l.getD 0 0) := by
  cases l with
  | nil => simp at hl
  | cons c r =>
    simp only [List.getD_cons_zero] at h ⊢
    simp only [sgn]
    by_cases h0 : szc c = 0
    · rw [if_pos h0, h0]
    · rw [if_neg h0, if_neg (by omega), if_pos (by omega)]; omega
theorem sgn_short (l : List Nat) (h : l.length < szc (l.getD 0 0)) : sgn l = 0 := by
  cases l with
  | nil => rfl
  | cons c r =>
    simp only [List.getD_cons_zero, List.length_cons] at h ⊢
    simp only [sgn]
    rw [if_neg (by omega), if_pos h]
theorem sgn_sec (l : List Nat) (h2 : 2 ≤ szc (l.getD 0 0)) (h : sec (l.getD 0 0) (l.getD 1 0) = false) : sgn l = 0 := by
  cases l with
  | nil => rfl
  | cons c r =>
    simp only [List.getD_cons_zero, List.getD_cons_succ] at h h2 ⊢
    simp only [sgn]
    split
    · rfl
    · split
      · rfl
      · rw [if_neg (by omega), if_neg (by rw [h]; simp)]
theorem sgn_fol (l : List Nat) (j : Nat) (h2 : 2 ≤ j) (hj : j < szc (l.getD 0 0)) (h : fol (l.getD j 0) = false) : sgn l = 0 := by
  cases l with
  | nil => rfl
  | cons c r =>
    simp only [List.getD_cons_zero] at hj
    simp only [sgn]
    rw [if_neg (by omega)]
    by_cases h1 : r.length + 1 < szc c
    · rw [if_pos h1]
    · rw [if_neg h1, if_neg (by omega), if_neg]
      obtain ⟨k, rfl⟩ : ∃ k, j = k + 2 := ⟨j - 2, by omega⟩
      intro hc
      rw [Bool.and_eq_true, List.all_eq_true] at hc
      have hk : k + 1 < r.length := by omega
      have hm : r[k + 1] ∈ (r.take (szc c - 1)).drop 1 := by
        rw [List.mem_drop_iff_getElem]
        exact ⟨k, by rw [List.length_take]; omega, by rw [List.getElem_take]; congr 1; omega⟩
      have := hc.2 _ hm
      rw [List.getD_cons_succ, List.getD_eq_getElem?_getD, List.getElem?_eq_getElem hk] at h
      simp at h
      rw [h] at this
      exact Bool.noConfusion this
theorem sgn_all (l : List Nat) (h2 : 2 ≤ szc (l.getD 0 0)) (hl : szc (l.getD 0 0) ≤ l.length) (h : sec (l.getD 0 0) (l.getD 1 0) = true) (hf : ∀ j, 2 ≤ j → j < szc (l.getD 0 0) → fol (l.getD j 0) = true) : sgn l = szc (l.getD 0 0) := by
  cases l with
  | nil => rw [List.length_nil] at hl; omega
  | cons c r =>
    simp only [List.getD_cons_zero, List.length_cons] at h2 hl hf ⊢
    rw [List.getD_cons_zero, List.getD_cons_succ] at h
    simp only [sgn]
    rw [if_neg (by omega), if_neg (by omega), if_neg (by omega), if_pos]
    rw [h, Bool.true_and, List.all_eq_true]
    intro x hx
    rw [List.mem_drop_iff_getElem] at hx
    obtain ⟨i, hi, rfl⟩ := hx
    rw [List.length_take] at hi
    have := hf (i + 2) (by omega) (by omega)
    rw [List.getD_cons_succ, List.getD_eq_getElem?_getD, List.getElem?_eq_getElem (by omega)] at this
    rw [List.getElem_take]
    simpa [Nat.add_comm] using this
end Go.Proofs.YtipgdjjmmfkfiaaDoor.Hy
namespace Go.Proofs.YtipgdjjmmfkfiaaDoor
open Go.RowKit Go.Proofs.YtipgdjjmmfkfiaaDoorW.PrintWords Hy

/-! ### the document's own sign -/
def rsV (s : ByteArray) (a : Nat) (w : World) (e : Ending) (w' : World) : Prop := e = .returned (.int .i64 ((sgn ((bs s).drop a) : Nat) : Int)) ∧ w' = w
theorem dr_len (s : ByteArray) (a : Nat) : ((bs s).drop a).length = s.size - a := by rw [List.length_drop, bs_length]
theorem dr_get (s : ByteArray) (a j : Nat) (h : a + j < s.size) : ((bs s).drop a).getD j 0 = s[a + j].toNat := by
  rw [List.getD_eq_getElem?_getD, List.getElem?_drop, ← List.getD_eq_getElem?_getD, ← get_bs s (a + j) h]
/-- What has been looked at. -/
def Seen (s : ByteArray) (a f i : Nat) : Prop := ∀ j, 1 ≤ j → j < i → a + j < s.size ∧ (j = 1 → sec f (((bs s).drop a).getD 1 0) = true) ∧ (2 ≤ j → fol (((bs s).drop a).getD j 0) = true)
theorem Seen.next {s : ByteArray} {a f i : Nat} (h : Seen s a f i) (hl : a + i < s.size) (h1 : i = 1 → sec f (((bs s).drop a).getD 1 0) = true) (h2 : 2 ≤ i → fol (((bs s).drop a).getD i 0) = true) : Seen s a f (i + 1) := by
  intro j hj1 hj2
  rcases Nat.lt_or_ge j i with hji | hji
  · exact h j hj1 hji
  · obtain rfl : j = i := by omega
    exact ⟨hl, h1, h2⟩
theorem fol_iff (c : Nat) : fol c = true ↔ 128 ≤ c ∧ c ≤ 191 := by unfold fol; simp
theorem fol_no (c : Nat) (h : ¬ (128 ≤ c ∧ c ≤ 191)) : fol c = false := by cases hf : fol c with | false => rfl | true => exact absurd ((fol_iff c).1 hf) h

set_option maxHeartbeats 4000000 in
set_option maxRecDepth 100000 in
theorem rsign_a (s : ByteArray) (a c : Nat) (w : World) (_hs : s.size ≤ 100000) (ha : a < s.size) (hc : ((bs s).drop a).getD 0 0 = c) (h : c < 128) :
    Calls Tryd.prog 33 #[.string s, .int .i64 (a : Int)] w (rsV s a w) := by
  have hb0 := dr_get s a 0 (by omega)
  have hbyte : ((s[a].toNat : Nat) : Int) = (c : Int) := by rw [hc] at hb0; simp only [Nat.add_zero] at hb0; rw [← hb0]
  have hlp : 0 < ((bs s).drop a).length := by rw [dr_len]; omega
  have hai : (a : Int) < (s.size : Int) := by omega

  have hz : szc (((bs s).drop a).getD 0 0) = 1 := by rw [hc]; unfold szc; (repeat' split) <;> omega
  have HZ : Aside0 (sgn ((bs s).drop a) = 1) := ⟨by rw [sgn_small _ hlp (by rw [hz]; omega), hz]⟩
  have q0 : (c : Int) < 128 := by omega
  clear hz hb0 hc hlp
  go_enter Tryd.func33, Tryd.ntmps33
  go_wp2_with fail
  go_ret
  exact ⟨by rw [HZ.out]; rfl, rfl⟩
set_option maxHeartbeats 4000000 in
set_option maxRecDepth 100000 in
theorem rsign_b (s : ByteArray) (a c : Nat) (w : World) (_hs : s.size ≤ 100000) (ha : a < s.size) (hc : ((bs s).drop a).getD 0 0 = c) (h : 128 ≤ c) (h' : c < 194) :
    Calls Tryd.prog 33 #[.string s, .int .i64 (a : Int)] w (rsV s a w) := by
  have hb0 := dr_get s a 0 (by omega)
  have hbyte : ((s[a].toNat : Nat) : Int) = (c : Int) := by rw [hc] at hb0; simp only [Nat.add_zero] at hb0; rw [← hb0]
  have hlp : 0 < ((bs s).drop a).length := by rw [dr_len]; omega
  have hai : (a : Int) < (s.size : Int) := by omega

  have hz : szc (((bs s).drop a).getD 0 0) = 0 := by rw [hc]; unfold szc; (repeat' split) <;> omega
  have HZ : Aside0 (sgn ((bs s).drop a) = 0) := ⟨by rw [sgn_small _ hlp (by rw [hz]; omega), hz]⟩
  have q0 : ¬ (c : Int) < 128 := by omega
  have q1 : ¬ (194 : Int) ≤ (c : Int) := by omega
  have q2 : ¬ (224 : Int) ≤ (c : Int) := by omega
  have q3 : ¬ (240 : Int) ≤ (c : Int) := by omega
  clear hz hb0 hc hlp
  go_enter Tryd.func33, Tryd.ntmps33
  go_wp2_with fail
  go_ret
  exact ⟨by rw [HZ.out]; rfl, rfl⟩
set_option maxHeartbeats 4000000 in
set_option maxRecDepth 100000 in
theorem rsign_z (s : ByteArray) (a c : Nat) (w : World) (_hs : s.size ≤ 100000) (ha : a < s.size) (hc : ((bs s).drop a).getD 0 0 = c) (h : 244 < c) :
    Calls Tryd.prog 33 #[.string s, .int .i64 (a : Int)] w (rsV s a w) := by
  have hb0 := dr_get s a 0 (by omega)
  have hbyte : ((s[a].toNat : Nat) : Int) = (c : Int) := by rw [hc] at hb0; simp only [Nat.add_zero] at hb0; rw [← hb0]
  have hlp : 0 < ((bs s).drop a).length := by rw [dr_len]; omega
  have hai : (a : Int) < (s.size : Int) := by omega

  have hz : szc (((bs s).drop a).getD 0 0) = 0 := by rw [hc]; unfold szc; (repeat' split) <;> omega
  have HZ : Aside0 (sgn ((bs s).drop a) = 0) := ⟨by rw [sgn_small _ hlp (by rw [hz]; omega), hz]⟩
  have q0 : ¬ (c : Int) < 128 := by omega
  have q1 : (194 : Int) ≤ (c : Int) := by omega
  have q2 : ¬ (c : Int) ≤ 223 := by omega
  have q3 : (224 : Int) ≤ (c : Int) := by omega
  have q4 : ¬ (c : Int) ≤ 239 := by omega
  have q5 : (240 : Int) ≤ (c : Int) := by omega
  have q6 : ¬ (c : Int) ≤ 244 := by omega
  clear hz hb0 hc hlp
  go_enter Tryd.func33, Tryd.ntmps33
  go_wp2_with fail
  go_ret
  exact ⟨by rw [HZ.out]; rfl, rfl⟩
set_option maxHeartbeats 4000000 in
set_option maxRecDepth 100000 in
theorem rsign_c (s : ByteArray) (a c : Nat) (w : World) (hs : s.size ≤ 100000) (ha : a < s.size) (hc : ((bs s).drop a).getD 0 0 = c) (h : 194 ≤ c) (h' : c ≤ 223) :
    Calls Tryd.prog 33 #[.string s, .int .i64 (a : Int)] w (rsV s a w) := by
  have hb0 := dr_get s a 0 (by omega)
  have hbyte : ((s[a].toNat : Nat) : Int) = (c : Int) := by rw [hc] at hb0; simp only [Nat.add_zero] at hb0; rw [← hb0]
  have hlp : 0 < ((bs s).drop a).length := by rw [dr_len]; omega
  have hai : (a : Int) < (s.size : Int) := by omega

  have hz : szc (((bs s).drop a).getD 0 0) = 2 := by rw [hc]; unfold szc; (repeat' split) <;> omega
  have hsec : ∀ x, sec c x = true ↔ 128 ≤ x ∧ x ≤ 191 := by intro x; unfold sec fol; (repeat' split) <;> (try omega) <;> simp <;> omega
  have hsecN : ∀ x, ¬ (128 ≤ x ∧ x ≤ 191) → sec c x = false := fun x h => by cases hf : sec c x with | false => rfl | true => exact absurd ((hsec x).1 hf) h
  have HZ := Aside0.mk hz
  have HC := Aside0.mk hc
  have HS := Aside0.mk hsec
  have HSN := Aside0.mk hsecN
  have q0 : ¬ (c : Int) < 128 := by omega
  have q1 : (194 : Int) ≤ (c : Int) := by omega
  have q2 : (c : Int) ≤ 223 := by omega
  have n224 : ((c : Int) == 224) = false := by rw [beq_eq_false_iff_ne]; omega
  have n237 : ((c : Int) == 237) = false := by rw [beq_eq_false_iff_ne]; omega
  have n240 : ((c : Int) == 240) = false := by rw [beq_eq_false_iff_ne]; omega
  have n244 : ((c : Int) == 244) = false := by rw [beq_eq_false_iff_ne]; omega
  clear hz hb0 hc hlp hsec hsecN
  go_enter Tryd.func33, Tryd.ntmps33
  go_wp2_with fail
  go_loop [7, 8, 9] (fun v7 v8 v9 => ∃ i : Nat, 1 ≤ i ∧ i ≤ 2 ∧ v9 = .int .i64 (i : Int) ∧ ((i = 1 ∧ v7 = .int .u8 128 ∧ v8 = .int .u8 191) ∨ (2 ≤ i ∧ v7 = .int .u8 128 ∧ v8 = .int .u8 191)) ∧ Aside0 (Seen s a c i)) (fun _ _ v9 => 2 - (intOf v9).toNat)
  case atStart => exact ⟨1, by omega, by omega, rfl, .inl ⟨rfl, rfl, rfl⟩, ⟨fun j h1 h2 => absurd h2 (by omega)⟩⟩
  case round =>
    obtain ⟨i, hi1, hi2, rfl, hv, HE⟩ := hrel
    by_cases hd : i = 2
    · subst hd
      have hf := HE.out
      have HR : Aside0 (sgn ((bs s).drop a) = 2) := ⟨by
        have hl1 := (hf (2 - 1) (by omega) (by omega)).1
        rw [← HZ.out]
        exact sgn_all _ (by rw [HZ.out]; omega) (by rw [HZ.out, dr_len]; omega) (by rw [HC.out]; exact (hf 1 (by omega) (by omega)).2.1 rfl) (fun j h1 h2 => by rw [HZ.out] at h2; exact (hf j (by omega) h2).2.2 h1)⟩
      clear hf
      rcases hv with ⟨h1, rfl, rfl⟩ | ⟨h1, rfl, rfl⟩
      · exact absurd h1 (by omega)
      · clear h1
        go_wp2_with fail
        go_ret
        exact ⟨by rw [HR.out]; rfl, rfl⟩
    · by_cases hl : a + i < s.size
      · have hg := dr_get s a i hl
        obtain ⟨x, hx⟩ : ∃ x, ((bs s).drop a).getD i 0 = x := ⟨_, rfl⟩
        obtain ⟨q, hq⟩ : ∃ q, a + i = q := ⟨_, rfl⟩
        have hql : q < s.size := by omega
        have hxb : ((s[q].toNat : Nat) : Int) = (x : Int) := by subst hq; rw [← hx, hg]
        have hq2 : (a : Int) + (i : Int) = (q : Int) := by omega
        have hqi : (q : Int) < (s.size : Int) := by omega
        have HX := Aside0.mk hx
        have HQ := Aside0.mk hq
        have hil : (i : Int) < 2 := by omega
        clear hg hx hq
        rcases hv with ⟨h1, rfl, rfl⟩ | ⟨h1, rfl, rfl⟩
        · by_cases hlo : x < 128
          · have HR : Aside0 (sgn ((bs s).drop a) = 0) := ⟨sgn_sec _ (by rw [HZ.out]; omega) (by rw [HC.out]; have := HX.out; rw [h1] at this; rw [this]; exact HSN.out x (by omega))⟩
            have g1 : (x : Int) < 128 := by omega
            clear hlo h1
            go_wp2_with fail
            go_ret
            exact ⟨by rw [HR.out]; rfl, rfl⟩
          · by_cases hhi : 191 < x
            · have HR : Aside0 (sgn ((bs s).drop a) = 0) := ⟨sgn_sec _ (by rw [HZ.out]; omega) (by rw [HC.out]; have := HX.out; rw [h1] at this; rw [this]; exact HSN.out x (by omega))⟩
              have g1 : ¬ (x : Int) < 128 := by omega
              have g2 : (191 : Int) < (x : Int) := by omega
              clear hlo hhi h1
              go_wp2_with fail
              go_ret
              exact ⟨by rw [HR.out]; rfl, rfl⟩
            · have HN := Aside0.mk (HE.out.next (by have := HQ.out; omega) (fun _ => by have := HX.out; rw [h1] at this; rw [this]; exact (HS.out x).2 ⟨by omega, by omega⟩) (fun h => absurd h (by omega)))
              have g1 : ¬ (x : Int) < 128 := by omega
              have g2 : ¬ (191 : Int) < (x : Int) := by omega
              have H1 := Aside0.mk h1
              clear hlo hhi h1
              go_wp2_with fail
              go_round
              case rel => exact ⟨i + 1, by omega, by have := H1.out; omega, by go_num, .inr ⟨by omega, rfl, rfl⟩, HN⟩
              case measure => simp [intOf]; omega
        · exact absurd h1 (by omega)
      · have HR : Aside0 (sgn ((bs s).drop a) = 0) := ⟨sgn_short _ (by rw [HZ.out, dr_len]; omega)⟩
        have hil : (i : Int) < 2 := by omega
        have hge : (s.size : Int) ≤ (a : Int) + (i : Int) := by omega
        rcases hv with ⟨h1, rfl, rfl⟩ | ⟨h1, rfl, rfl⟩
        all_goals
          clear h1
          go_wp2_with fail
          go_ret
          exact ⟨by rw [HR.out]; rfl, rfl⟩
set_option maxHeartbeats 4000000 in
set_option maxRecDepth 100000 in
theorem rsign_d (s : ByteArray) (a c : Nat) (w : World) (hs : s.size ≤ 100000) (ha : a < s.size) (hc : ((bs s).drop a).getD 0 0 = c) (h : c = 224) :
    Calls Tryd.prog 33 #[.string s, .int .i64 (a : Int)] w (rsV s a w) := by
  have hb0 := dr_get s a 0 (by omega)
  have hbyte : ((s[a].toNat : Nat) : Int) = (c : Int) := by rw [hc] at hb0; simp only [Nat.add_zero] at hb0; rw [← hb0]
  have hlp : 0 < ((bs s).drop a).length := by rw [dr_len]; omega
  have hai : (a : Int) < (s.size : Int) := by omega

  have hz : szc (((bs s).drop a).getD 0 0) = 3 := by rw [hc]; unfold szc; (repeat' split) <;> omega
  have hsec : ∀ x, sec c x = true ↔ 160 ≤ x ∧ x ≤ 191 := by intro x; unfold sec fol; (repeat' split) <;> (try omega) <;> simp <;> omega
  have hsecN : ∀ x, ¬ (160 ≤ x ∧ x ≤ 191) → sec c x = false := fun x h => by cases hf : sec c x with | false => rfl | true => exact absurd ((hsec x).1 hf) h
  have HZ := Aside0.mk hz
  have HC := Aside0.mk hc
  have HS := Aside0.mk hsec
  have HSN := Aside0.mk hsecN
  have q0 : ¬ (c : Int) < 128 := by omega
  have q1 : (194 : Int) ≤ (c : Int) := by omega
  have q2 : ¬ (c : Int) ≤ 223 := by omega
  have q3 : (224 : Int) ≤ (c : Int) := by omega
  have q4 : (c : Int) ≤ 239 := by omega
  have e224 : ((c : Int) == 224) = true := by rw [beq_iff_eq]; omega
  clear hz hb0 hc hlp hsec hsecN
  go_enter Tryd.func33, Tryd.ntmps33
  go_wp2_with fail
  go_loop [7, 8, 9] (fun v7 v8 v9 => ∃ i : Nat, 1 ≤ i ∧ i ≤ 3 ∧ v9 = .int .i64 (i : Int) ∧ ((i = 1 ∧ v7 = .int .u8 160 ∧ v8 = .int .u8 191) ∨ (2 ≤ i ∧ v7 = .int .u8 128 ∧ v8 = .int .u8 191)) ∧ Aside0 (Seen s a c i)) (fun _ _ v9 => 3 - (intOf v9).toNat)
  case atStart => exact ⟨1, by omega, by omega, rfl, .inl ⟨rfl, rfl, rfl⟩, ⟨fun j h1 h2 => absurd h2 (by omega)⟩⟩
  case round =>
    obtain ⟨i, hi1, hi2, rfl, hv, HE⟩ := hrel
    by_cases hd : i = 3
    · subst hd
      have hf := HE.out
      have HR : Aside0 (sgn ((bs s).drop a) = 3) := ⟨by
        have hl1 := (hf (3 - 1) (by omega) (by omega)).1
        rw [← HZ.out]
        exact sgn_all _ (by rw [HZ.out]; omega) (by rw [HZ.out, dr_len]; omega) (by rw [HC.out]; exact (hf 1 (by omega) (by omega)).2.1 rfl) (fun j h1 h2 => by rw [HZ.out] at h2; exact (hf j (by omega) h2).2.2 h1)⟩
      clear hf
      rcases hv with ⟨h1, rfl, rfl⟩ | ⟨h1, rfl, rfl⟩
      · exact absurd h1 (by omega)
      · clear h1
        go_wp2_with fail
        go_ret
        exact ⟨by rw [HR.out]; rfl, rfl⟩
    · by_cases hl : a + i < s.size
      · have hg := dr_get s a i hl
        obtain ⟨x, hx⟩ : ∃ x, ((bs s).drop a).getD i 0 = x := ⟨_, rfl⟩
        obtain ⟨q, hq⟩ : ∃ q, a + i = q := ⟨_, rfl⟩
        have hql : q < s.size := by omega
        have hxb : ((s[q].toNat : Nat) : Int) = (x : Int) := by subst hq; rw [← hx, hg]
        have hq2 : (a : Int) + (i : Int) = (q : Int) := by omega
        have hqi : (q : Int) < (s.size : Int) := by omega
        have HX := Aside0.mk hx
        have HQ := Aside0.mk hq
        have hil : (i : Int) < 3 := by omega
        clear hg hx hq
        rcases hv with ⟨h1, rfl, rfl⟩ | ⟨h1, rfl, rfl⟩
        · by_cases hlo : x < 160
          · have HR : Aside0 (sgn ((bs s).drop a) = 0) := ⟨sgn_sec _ (by rw [HZ.out]; omega) (by rw [HC.out]; have := HX.out; rw [h1] at this; rw [this]; exact HSN.out x (by omega))⟩
            have g1 : (x : Int) < 160 := by omega
            clear hlo h1
            go_wp2_with fail
            go_ret
            exact ⟨by rw [HR.out]; rfl, rfl⟩
          · by_cases hhi : 191 < x
            · have HR : Aside0 (sgn ((bs s).drop a) = 0) := ⟨sgn_sec _ (by rw [HZ.out]; omega) (by rw [HC.out]; have := HX.out; rw [h1] at this; rw [this]; exact HSN.out x (by omega))⟩
              have g1 : ¬ (x : Int) < 160 := by omega
              have g2 : (191 : Int) < (x : Int) := by omega
              clear hlo hhi h1
              go_wp2_with fail
              go_ret
              exact ⟨by rw [HR.out]; rfl, rfl⟩
            · have HN := Aside0.mk (HE.out.next (by have := HQ.out; omega) (fun _ => by have := HX.out; rw [h1] at this; rw [this]; exact (HS.out x).2 ⟨by omega, by omega⟩) (fun h => absurd h (by omega)))
              have g1 : ¬ (x : Int) < 160 := by omega
              have g2 : ¬ (191 : Int) < (x : Int) := by omega
              have H1 := Aside0.mk h1
              clear hlo hhi h1
              go_wp2_with fail
              go_round
              case rel => exact ⟨i + 1, by omega, by have := H1.out; omega, by go_num, .inr ⟨by omega, rfl, rfl⟩, HN⟩
              case measure => simp [intOf]; omega
        · by_cases hlo : x < 128
          · have HR : Aside0 (sgn ((bs s).drop a) = 0) := ⟨sgn_fol _ i h1 (by rw [HZ.out]; omega) (by rw [HX.out]; exact fol_no x (by omega))⟩
            have g1 : (x : Int) < 128 := by omega
            clear hlo
            go_wp2_with fail
            go_ret
            exact ⟨by rw [HR.out]; rfl, rfl⟩
          · by_cases hhi : 191 < x
            · have HR : Aside0 (sgn ((bs s).drop a) = 0) := ⟨sgn_fol _ i h1 (by rw [HZ.out]; omega) (by rw [HX.out]; exact fol_no x (by omega))⟩
              have g1 : ¬ (x : Int) < 128 := by omega
              have g2 : (191 : Int) < (x : Int) := by omega
              clear hlo hhi
              go_wp2_with fail
              go_ret
              exact ⟨by rw [HR.out]; rfl, rfl⟩
            · have HN := Aside0.mk (HE.out.next (by have := HQ.out; omega) (fun h => absurd h (by omega)) (fun _ => by rw [HX.out]; exact (fol_iff x).2 ⟨by omega, by omega⟩))
              have g1 : ¬ (x : Int) < 128 := by omega
              have g2 : ¬ (191 : Int) < (x : Int) := by omega
              clear hlo hhi
              go_wp2_with fail
              go_round
              case rel => exact ⟨i + 1, by omega, by omega, by go_num, .inr ⟨by omega, rfl, rfl⟩, HN⟩
              case measure => simp [intOf]; omega
      · have HR : Aside0 (sgn ((bs s).drop a) = 0) := ⟨sgn_short _ (by rw [HZ.out, dr_len]; omega)⟩
        have hil : (i : Int) < 3 := by omega
        have hge : (s.size : Int) ≤ (a : Int) + (i : Int) := by omega
        rcases hv with ⟨h1, rfl, rfl⟩ | ⟨h1, rfl, rfl⟩
        all_goals
          clear h1
          go_wp2_with fail
          go_ret
          exact ⟨by rw [HR.out]; rfl, rfl⟩
end Go.Proofs.YtipgdjjmmfkfiaaDoor
