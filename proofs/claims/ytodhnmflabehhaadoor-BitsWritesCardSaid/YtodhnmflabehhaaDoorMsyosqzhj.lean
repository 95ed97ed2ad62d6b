import Derived.Test.YtodhnmflabehhaaDoorMkvsfwfem
import Derived.Test.YtodhnmflabehhaaDoorMzfxtwfqr
import Derived.Test.YtodhnmflabehhaaDoorWLast
import Derived.Test.YtodhnmflabehhaaDoorWMore
import Derived.WalkKit
import Derived.Below
import Derived.Test.YtodhnmflabehhaaDoorPXorGetsx
namespace Go.Proofs.YtodhnmflabehhaaDoor
open Hy

/-! ### the column's bits -/
def encD (d : Nat) : List Bool := if d = 0 then [false] else true :: (bitsOf (lead d) 6 ++ (bitsOf (63 - lead d - trail d) 6 ++ bitsOf (d / 2 ^ trail d) (64 - lead d - trail d)))
def encT : Nat → List Nat → List Bool
  | _, [] => []
  | p, x :: r => encD (x ^^^ p) ++ encT x r
def encL : List Nat → List Bool
  | [] => []
  | x :: r => bitsOf x 64 ++ encT x r
def u64n (l : List Nat) : Prop := ∀ x ∈ l, x < 18446744073709551616
theorem xor_lt {a b : Nat} (ha : a < 18446744073709551616) (hb : b < 18446744073709551616) : a ^^^ b < 18446744073709551616 := Nat.xor_lt_two_pow (n := 64) ha hb
theorem ends_says (n : Nat) (hn : n ≠ 0) (h : n < 18446744073709551616) : lead n + trail n ≤ 63 ∧ n / 2 ^ trail n % 2 = 1 ∧ n / 2 ^ trail n / 2 ^ (63 - lead n - trail n) = 1 ∧ n / 2 ^ trail n * 2 ^ trail n = n := by
  obtain ⟨l1, l2⟩ := lead_says n hn h
  obtain ⟨i1, i2, i3, i4⟩ := tz_says 64 n hn h
  have ht : trail n = tz 64 n := by unfold trail; rw [if_neg hn]
  rw [ht]
  have hge : 2 ^ tz 64 n ≤ n := by
    rcases Nat.lt_or_ge n (2 ^ tz 64 n) with h | h
    · rw [Nat.div_eq_of_lt h] at i2; omega
    · exact h
  have hlt : n < 2 ^ (63 - lead n + 1) := by
    have := Nat.div_add_mod n (2 ^ (63 - lead n))
    have := Nat.mod_lt n (Nat.two_pow_pos (63 - lead n))
    rw [Nat.pow_succ]
    rw [l2] at *; omega
  have hle : tz 64 n < 63 - lead n + 1 := by
    rcases Nat.lt_or_ge (tz 64 n) (63 - lead n + 1) with h | h
    · exact h
    · have := Nat.pow_le_pow_right (show 0 < 2 by omega) h; omega
  refine ⟨by omega, i2, ?_, ?_⟩
  · rw [Nat.div_div_eq_div_mul, ← Nat.pow_add, show tz 64 n + (63 - lead n - tz 64 n) = 63 - lead n by omega, l2]
  · exact Nat.div_mul_cancel (Nat.dvd_of_mod_eq_zero i3)
theorem size_lt (n : Nat) (hn : n ≠ 0) (h : n < 18446744073709551616) : n / 2 ^ trail n < 2 ^ (64 - lead n - trail n) := by
  obtain ⟨h1, _, h3, _⟩ := ends_says n hn h
  generalize n / 2 ^ trail n = q at *
  have := Nat.div_add_mod q (2 ^ (63 - lead n - trail n))
  have h4 := Nat.mod_lt q (Nat.two_pow_pos (63 - lead n - trail n))
  rw [h3] at this
  rw [show 64 - lead n - trail n = 63 - lead n - trail n + 1 by omega, Nat.pow_succ]
  omega
theorem encD_pos (d : Nat) : 1 ≤ (encD d).length := by unfold encD; split <;> simp
theorem encD_le (d : Nat) : (encD d).length ≤ 77 := by
  unfold encD; split
  · simp
  · simp only [List.length_cons, List.length_append, bitsOf_length]; omega
theorem encD_inj {d d' : Nat} {A B : List Bool} (hd : d < 18446744073709551616) (hd' : d' < 18446744073709551616) (h : encD d ++ A = encD d' ++ B) : d = d' ∧ A = B := by
  unfold encD at h
  by_cases h0 : d = 0
  · rw [if_pos h0] at h
    by_cases h1 : d' = 0
    · rw [if_pos h1] at h
      simp at h
      exact ⟨by omega, h⟩
    · rw [if_neg h1] at h
      simp at h
  · rw [if_neg h0] at h
    by_cases h1 : d' = 0
    · rw [if_pos h1] at h
      simp at h
    · rw [if_neg h1] at h
      simp only [List.cons_append, List.append_assoc, List.cons.injEq, true_and] at h
      obtain ⟨s1, s2, s3, s4⟩ := ends_says d h0 hd
      obtain ⟨t1, t2, t3, t4⟩ := ends_says d' h1 hd'
      have z1 := size_lt d h0 hd
      have z2 := size_lt d' h1 hd'
      obtain ⟨e1, e2⟩ := List.append_inj h (by rw [bitsOf_length, bitsOf_length])
      obtain ⟨e3, e4⟩ := List.append_inj e2 (by rw [bitsOf_length, bitsOf_length])
      have f1 := congrArg val e1
      have f2 := congrArg val e3
      rw [val_small _ _ (by omega), val_small _ _ (by omega)] at f1 f2
      have ht : trail d = trail d' := by omega
      rw [f1, ht] at e4
      obtain ⟨e5, e6⟩ := List.append_inj e4 (by rw [bitsOf_length, bitsOf_length])
      have f3 := congrArg val e5
      rw [f1, ht] at z1
      rw [ht] at s4
      rw [val_small _ _ z1, val_small _ _ z2] at f3
      exact ⟨by rw [← s4, f3, t4], e6⟩
theorem xor_cancel {a b p : Nat} (h : a ^^^ p = b ^^^ p) : a = b := by
  have := congrArg (· ^^^ p) h
  simpa [Nat.xor_assoc, Nat.xor_self] using this
theorem encT_inj : ∀ (vs ws : List Nat) (p : Nat) (A B : List Bool), p < 18446744073709551616 → u64n vs → u64n ws → vs.length ≤ ws.length → encT p vs ++ A = encT p ws ++ B → ∃ t q, ws = vs ++ t ∧ q < 18446744073709551616 ∧ A = encT q t ++ B := by
  intro vs
  induction vs with
  | nil => intro ws p A B hp _ _ _ h; exact ⟨ws, p, rfl, hp, by simpa [encT] using h⟩
  | cons x vs ih =>
    intro ws p A B hp hv hw hl h
    cases ws with
    | nil => simp at hl
    | cons y ws =>
      simp only [encT, List.append_assoc] at h
      have hx := hv x (by simp)
      have hy := hw y (by simp)
      obtain ⟨e1, e2⟩ := encD_inj (xor_lt hx hp) (xor_lt hy hp) h
      obtain rfl := xor_cancel e1
      obtain ⟨t, q, rfl, hq, e⟩ := ih ws x A B hx (fun z hz => hv z (by simp [hz])) (fun z hz => hw z (by simp [hz])) (by simpa using hl) e2
      exact ⟨t, q, rfl, hq, e⟩
/-- Two readings of one text: the shorter one begins the longer. -/
theorem encL_inj (vs ws : List Nat) (A B : List Bool) (hv : u64n vs) (hw : u64n ws) (hl : vs.length ≤ ws.length) (h : encL vs ++ A = encL ws ++ B) : ∃ t, ws = vs ++ t ∧ t.length + B.length ≤ A.length ∧ (t = [] → A = B) := by
  have hT : ∀ (t : List Nat) q, t.length ≤ (encT q t).length := by
    intro t
    induction t with
    | nil => intro q; simp
    | cons a t ih => intro q; simp only [encT, List.length_append, List.length_cons]; have := encD_pos (a ^^^ q); have := ih a; omega
  cases vs with
  | nil =>
    refine ⟨ws, rfl, ?_, by rintro rfl; simpa [encL] using h⟩
    have := congrArg List.length h
    cases ws with
    | nil => simp [encL] at this; simp; omega
    | cons y ws => simp only [encL, List.nil_append, List.length_append, bitsOf_length, List.length_cons] at this ⊢; have := hT ws y; omega
  | cons x vs =>
    cases ws with
    | nil => simp at hl
    | cons y ws =>
      simp only [encL, List.append_assoc] at h
      obtain ⟨e1, e2⟩ := List.append_inj h (by rw [bitsOf_length, bitsOf_length])
      have hx := hv x (by simp)
      have hy := hw y (by simp)
      have f1 := congrArg val e1
      rw [val_small _ _ (by simpa using hx), val_small _ _ (by simpa using hy)] at f1
      subst f1
      obtain ⟨t, q, rfl, _, e⟩ := encT_inj vs ws x A B hx (fun z hz => hv z (by simp [hz])) (fun z hz => hw z (by simp [hz])) (by simpa using hl) e2
      refine ⟨t, rfl, ?_, by rintro rfl; simpa [encT] using e⟩
      have := congrArg List.length e
      rw [List.length_append] at this
      have := hT t q
      omega
/-- What comes next is a difference. -/
theorem encL_step (vs ws : List Nat) (A B : List Bool) (hv : u64n vs) (hw : u64n ws) (h0 : vs ≠ []) (hl : vs.length < ws.length) (h : encL vs ++ A = encL ws ++ B) : ∃ x R, x < 18446744073709551616 ∧ A = encD x ++ R := by
  cases vs with
  | nil => exact absurd rfl h0
  | cons x vs =>
    cases ws with
    | nil => simp at hl
    | cons y ws =>
      simp only [encL, List.append_assoc] at h
      obtain ⟨e1, e2⟩ := List.append_inj h (by rw [bitsOf_length, bitsOf_length])
      have hx := hv x (by simp)
      have hy := hw y (by simp)
      have f1 := congrArg val e1
      rw [val_small _ _ (by simpa using hx), val_small _ _ (by simpa using hy)] at f1
      subst f1
      have hw' := hw
      obtain ⟨t, q, rfl, hq, e⟩ := encT_inj vs ws x A B hx (fun z hz => hv z (by simp [hz])) (fun z hz => hw z (by simp [hz])) (by simp at hl; omega) e2
      cases t with
      | nil => simp at hl
      | cons z t =>
        simp only [encT, List.append_assoc] at e
        exact ⟨_, _, xor_lt (hw z (by simp)) hq, e⟩
/-- A number more. -/
theorem encT_snoc : ∀ (vs : List Nat) (p x : Nat), encT p (vs ++ [x]) = encT p vs ++ encD (x ^^^ (vs.getLast?.getD p)) := by
  intro vs
  induction vs with
  | nil => intro p x; simp [encT]
  | cons a vs ih =>
    intro p x
    simp only [List.cons_append, encT, ih, List.append_assoc]
    rw [List.getLast?_cons]
    cases vs.getLast? <;> rfl
theorem encL_snoc (vs : List Nat) (x : Nat) (h : vs ≠ []) : encL (vs ++ [x]) = encL vs ++ encD (x ^^^ (vs.getLast?.getD 0)) := by
  cases vs with
  | nil => exact absurd rfl h
  | cons a vs =>
    simp only [List.cons_append, encL, encT_snoc, List.append_assoc]
    rw [List.getLast?_cons]
    cases vs.getLast? <;> rfl
theorem encL_one (x : Nat) : encL [x] = bitsOf x 64 := by simp [encL, encT]
theorem encT_len : ∀ (t : List Nat) q, (encT q t).length ≤ 77 * t.length := by
  intro t
  induction t with
  | nil => intro q; simp [encT]
  | cons a t ih => intro q; simp only [encT, List.length_append, List.length_cons]; have := encD_le (a ^^^ q); have := ih a; omega
theorem encL_len (l : List Nat) : (encL l).length ≤ 77 * l.length := by
  cases l with
  | nil => simp [encL]
  | cons a t => simp only [encL, List.length_append, List.length_cons, bitsOf_length]; have := encT_len t a; omega
theorem encL_pos (l : List Nat) (h : l ≠ []) : 64 ≤ (encL l).length := by
  cases l with
  | nil => exact absurd rfl h
  | cons a t => simp only [encL, List.length_append, bitsOf_length]; omega

/-! ### a text as a column -/
def zeros (k : Nat) : List Bool := List.replicate k false
/-- A text is a column of these numbers. -/
def ColX (s : ByteArray) (n : Nat) (l : List Nat) : Prop := l.length = n ∧ u64n l ∧ ∃ k, k < 8 ∧ unp (bs s) = encL l ++ zeros k
def colT (l : List Nat) : ByteArray := st (pk (encL l))
theorem col_back (l : List Nat) (h : u64n l) : ColX (colT l) l.length l := by
  refine ⟨rfl, h, _, ?_, by unfold colT; rw [bs_st _ (pk_okB _)]; exact unp_pk _ _ (Nat.le_refl _)⟩
  omega
theorem col_text (s : ByteArray) (n : Nat) (l : List Nat) (h : ColX s n l) : colT l = s := by
  obtain ⟨_, _, k, hk, e⟩ := h
  unfold colT
  rw [pk_zeros (bs s) (bs_ok s) _ k hk e, st_bs]
theorem col_more (l : List Nat) (h : u64n l) (x : Nat) (l' : List Nat) : ¬ ColX (colT l ++ st [x]) l.length l' := by
  rintro ⟨h1, h2, k', hk', e⟩
  obtain ⟨_, _, k, hk, e0⟩ := col_back l h
  rw [bs_append, unp_append, e0] at e
  rw [List.append_assoc] at e
  obtain ⟨t, rfl, ht, _⟩ := encL_inj l l' _ _ h h2 (by omega) e
  have h8 := unp_length (bs (st [x]))
  rw [bs_length, st_size] at h8
  obtain rfl : t = [] := List.eq_nil_of_length_eq_zero (by rw [List.length_append] at h1; omega)
  rw [List.append_nil] at e
  have := congrArg List.length e
  simp only [List.length_append, zeros, List.length_replicate, h8, List.length_cons, List.length_nil] at this
  omega
theorem col_count (l : List Nat) (h : u64n l) (n : Nat) (hn : l.length + 8 ≤ n) (l' : List Nat) : ¬ ColX (colT l) n l' := by
  rintro ⟨h1, h2, k', hk', e⟩
  obtain ⟨_, _, k, hk, e0⟩ := col_back l h
  rw [e0] at e
  obtain ⟨t, rfl, ht, _⟩ := encL_inj l l' _ _ h h2 (by omega) e
  simp only [zeros, List.length_replicate, List.length_append] at ht h1
  omega
theorem colT_size (l : List Nat) : (colT l).size = ((encL l).length + 7) / 8 := by unfold colT; rw [st_size, pk_length]
theorem col_cut (l : List Nat) (h : u64n l) (hl : l ≠ []) (l' : List Nat) : ¬ ColX ((colT l).extract 0 ((colT l).size - 1)) l.length l' := by
  rintro ⟨h1, h2, k', hk', e⟩
  obtain ⟨_, _, k, hk, e0⟩ := col_back l h
  have hz := colT_size l
  have hp := encL_pos l hl
  rw [bs_extract, List.drop_zero] at e
  have e1 : unp (bs (colT l)) = unp ((bs (colT l)).take ((colT l).size - 1)) ++ unp ((bs (colT l)).drop ((colT l).size - 1)) := by rw [← unp_append, List.take_append_drop]
  rw [e0, e] at e1
  have el := congrArg List.length e
  rw [unp_length, List.length_take, bs_length, List.length_append, zeros, List.length_replicate] at el
  rw [List.append_assoc] at e1
  obtain ⟨t, rfl, ht, _⟩ := encL_inj l l' _ _ h h2 (by omega) e1
  obtain rfl : t = [] := List.eq_nil_of_length_eq_zero (by rw [List.length_append] at h1; omega)
  rw [List.append_nil] at el
  omega
end Go.Proofs.YtodhnmflabehhaaDoor
namespace Go.Proofs.YtodhnmflabehhaaDoor
open Go.RowKit Go.Proofs.YtodhnmflabehhaaDoorW.PrintWords Go.Proofs.YtodhnmflabehhaaDoorW.PrintLast Go.Proofs.YtodhnmflabehhaaDoorW.PrintMore Hy

theorem puts_any (B g : Nat) (l : List Bool) (n c : Int) (w : World) (h0 : 0 ≤ n) (hc0 : 0 ≤ c) (hn : n.toNat < 2 ^ c.toNat) (hc : c ≤ 64) (hl : l.length ≤ 1000000000) (hB : B ≤ w.heap.size) (h : IsW 84 B g l w) :
    Calls Tryd.prog 37 #[.pointer (some ⟨g, 0, none⟩), .int .u64 n, .int .i64 c] w fun e w' => e = .returned (.tuple #[]) ∧ IsW 84 B g (l ++ bitsOf n.toNat c.toNat) w' ∧ Below B w w' := by
  obtain ⟨n, rfl⟩ := Int.eq_ofNat_of_zero_le h0
  obtain ⟨c, rfl⟩ := Int.eq_ofNat_of_zero_le hc0
  rw [Int.toNat_natCast, Int.toNat_natCast] at *
  have H := wput_ok 84 (by decide) B g l n c w hn (by omega) hl hB h
  clear hn h
  go_enter Tryd.func37, Tryd.ntmps37
  go_wp2_with (go_at_call 10; refine H.mono ?_; rintro e w1 ⟨rfl, h1, h2⟩; have H1 := Aside0.mk h1; have H2 := Aside0.mk h2; clear h1 h2)
  go_end0
  exact ⟨rfl, H1.out, H2.out⟩

theorem wdiff_zero (B g : Nat) (l : List Bool) (w : World) (hl : l.length ≤ 1000000000) (hB : B ≤ w.heap.size) (h : IsW 84 B g l w) :
    Calls Tryd.prog 38 #[.pointer (some ⟨g, 0, none⟩), .int .u64 0] w fun e w' => e = .returned (.tuple #[]) ∧ IsW 84 B g (l ++ encD 0) w' ∧ Below B w w' := by
  have H := puts_any B g l 0 1 w (by decide) (by decide) (by decide) (by decide) hl hB h
  rw [show bitsOf (Int.toNat 0) (Int.toNat 1) = encD 0 from rfl] at H
  clear h
  go_enter Tryd.func38, Tryd.ntmps38
  go_wp2_with (go_at_call 37; refine H.mono ?_; rintro e w1 ⟨rfl, h1, h2⟩; have H1 := Aside0.mk h1; have H2 := Aside0.mk h2; clear h1 h2)
  (try simp only [Exit.inBlock, Exit.then])
  refine bodyPost_ret (results_none rfl _ _ _) rfl ?_
  exact ⟨rfl, H1.out, H2.out⟩
set_option maxHeartbeats 1000000 in
theorem wdiff_some (B g : Nat) (l : List Bool) (x : Nat) (w : World) (hx0 : x ≠ 0) (hx : x < 18446744073709551616) (hl : l.length ≤ 900000000) (hB : B ≤ w.heap.size) (h : IsW 84 B g l w) :
    Calls Tryd.prog 38 #[.pointer (some ⟨g, 0, none⟩), .int .u64 (x : Int)] w fun e w' => e = .returned (.tuple #[]) ∧ IsW 84 B g (l ++ encD x) w' ∧ Below B w w' := by
  obtain ⟨s1, _, _, _⟩ := ends_says x hx0 hx
  have z := size_lt x hx0 hx
  have A1 := fun w => lead_any x w hx
  have A2 := fun w => trail_any x w hx
  have HE : Aside0 (encD x = true :: (bitsOf (lead x) 6 ++ (bitsOf (63 - lead x - trail x) 6 ++ bitsOf (x / 2 ^ trail x) (64 - lead x - trail x)))) := ⟨by unfold encD; rw [if_neg hx0]⟩
  have HI := Aside0.mk h
  have f6 : ((x : Int) == 0) = false := by rw [beq_eq_false_iff_ne]; omega
  generalize lead x = L at *
  generalize trail x = t at *
  obtain ⟨q, hq⟩ : ∃ q, x / 2 ^ t = q := ⟨_, rfl⟩
  obtain ⟨S, hS⟩ : ∃ S, 64 - L - t = S := ⟨_, rfl⟩
  obtain ⟨S1, hS1⟩ : ∃ S1, 63 - L - t = S1 := ⟨_, rfl⟩
  rw [hq, hS, hS1] at HE
  rw [hq, hS] at z
  have f1 : (x : Int) / 2 ^ t = (q : Int) := by rw [cast_div, hq]
  have f3 : (64 : Int) - (L : Int) - (t : Int) = (S : Int) := by omega
  have f4 : (S : Int) - 1 = (S1 : Int) := by omega
  have hL2 : (L : Int) ≤ 63 := by omega
  have ht2 : (t : Int) ≤ 63 := by omega
  have hS2 : (S : Int) ≤ 64 := by omega
  have hS3 : (S1 : Int) ≤ 63 := by omega
  have hS4 : (1 : Int) ≤ (S : Int) := by omega
  have hLn : L < 64 := by omega
  have hSn : S1 < 64 := by omega
  have Z := Aside0.mk z
  clear z hq hS hS1 hx h s1 hx0
  go_enter Tryd.func38, Tryd.ntmps38
  go_wp2_with (first
      | (go_at_call 14; refine (A1 _).mono ?_; rintro e wd ⟨rfl, ⟨nd, rfl⟩⟩)
      | (go_at_call 16; refine (A2 _).mono ?_; rintro e wd ⟨rfl, ⟨nd, rfl⟩⟩))
  refine (puts_any B g l 1 1 _ (by decide) (by decide) (by decide) (by decide) (by omega) (by exact hB) (by exact HI.out)).mono ?_
  rintro e w1 ⟨rfl, h1, b1⟩
  have H1 := Aside0.mk h1
  have B1 : Aside0 (Below B w w1) := ⟨(drewN_below (Below.refl B w) _).trans b1⟩
  clear h1 b1
  go_wp2_with fail
  refine (puts_any B g _ (L : Int) 6 _ (by omega) (by decide) (by rw [Int.toNat_natCast]; exact hLn) (by decide) (by simp [bitsOf_length]; omega) (Nat.le_trans hB B1.out.size) H1.out).mono ?_
  rintro e w2 ⟨rfl, h1, b1⟩
  have H2 := Aside0.mk h1
  have B2 := Aside0.mk (B1.out.trans b1)
  clear h1 b1 H1 B1
  go_wp2_with fail
  refine (puts_any B g _ (S1 : Int) 6 _ (by omega) (by decide) (by rw [Int.toNat_natCast]; exact hSn) (by decide) (by simp [bitsOf_length]; omega) (Nat.le_trans hB B2.out.size) H2.out).mono ?_
  rintro e w3 ⟨rfl, h1, b1⟩
  have H3 := Aside0.mk h1
  have B3 := Aside0.mk (B2.out.trans b1)
  clear h1 b1 H2 B2
  go_wp2_with fail
  refine (puts_any B g _ (q : Int) (S : Int) _ (by omega) (by omega) (by rw [Int.toNat_natCast, Int.toNat_natCast]; exact Z.out) (by omega) (by simp [bitsOf_length]; omega) (Nat.le_trans hB B3.out.size) H3.out).mono ?_
  rintro e w4 ⟨rfl, h1, b1⟩
  have H4 := Aside0.mk h1
  have B4 := Aside0.mk (B3.out.trans b1)
  clear h1 b1 H3 B3
  go_wp2_with fail
  go_end0
  refine ⟨rfl, ?_, B4.out⟩
  have := H4.out
  rw [Int.toNat_natCast, Int.toNat_natCast, Int.toNat_natCast, Int.toNat_natCast] at this
  rw [HE.out]
  simpa [List.append_assoc, bitsOf] using this
theorem wdiff_any (B g : Nat) (l : List Bool) (x : Int) (w : World) (h0 : 0 ≤ x) (hx : x < 18446744073709551616) (hl : l.length ≤ 900000000) (hB : B ≤ w.heap.size) (h : IsW 84 B g l w) :
    Calls Tryd.prog 38 #[.pointer (some ⟨g, 0, none⟩), .int .u64 x] w fun e w' => e = .returned (.tuple #[]) ∧ IsW 84 B g (l ++ encD x.toNat) w' ∧ Below B w w' := by
  obtain ⟨x, rfl⟩ := Int.eq_ofNat_of_zero_le h0
  by_cases hx0 : x = 0
  · subst hx0; exact wdiff_zero B g l w (by omega) hB h
  · exact wdiff_some B g l x w hx0 (by omega) hl hB h
end Go.Proofs.YtodhnmflabehhaaDoor
namespace Go.Proofs.YtodhnmflabehhaaDoor
open Go.RowKit Go.Proofs.YtodhnmflabehhaaDoorW.PrintWords Go.Proofs.YtodhnmflabehhaaDoorW.PrintLast Go.Proofs.YtodhnmflabehhaaDoorW.PrintMore Hy

theorem cellAt {w : World} {A : Option Addr} {l : List Int} {ik : IntKind} (h : Kd.C (Kd.int ik) w A l.length l) (k : Nat) (hk : k < l.length) : ∃ ad, A = some ad ∧ w.cell? (ad.add k) = some (.int ik (l[k])) := by
  obtain ⟨ad, e, hx⟩ := Kd.at_int h (k : Int) (by omega) (by omega)
  refine ⟨ad, e, ?_⟩
  simpa [rd, List.getD_eq_getElem?_getD, hk] using hx

theorem R_C {α : Type} {d : Kd α} {e : Nat} {w : World} {base : Nat} {ok : Nat → Prop} {A : Option Addr} {n c : Nat} {xs : List α} (h : d.R e w base ok (.slice A n c) xs) : d.C w A xs.length xs ∧ n = xs.length ∧ xs.length ≤ c := by
  obtain ⟨A', c', e, hl, hc⟩ := Kd.R_reads h
  injection e with e1 e2 e3
  subst e1; subst e3
  exact ⟨hc, e2, hl⟩
theorem info_u64 : (Tryd.prog.info? 34).map (fun i => (i.zero, i.size, i.bytes)) = some (some (.int .u64 0), 1, 8) := by kernel_rfl

theorem C_lit (W : World) (k : IntKind) (xs : List Int) (e : TypeId) (hm : xs.length ≤ 9223372036854775807) : Kd.C (Kd.int k) (W.alloc (.cells (nums k xs).toArray e)) (some ⟨W.heap.size, 0, none⟩) xs.length xs := by
  have h := own_lit W 0 e k xs (by omega) hm
  obtain ⟨A, c, e1, h2⟩ := own_reads h
  injection e1 with e1 e2 e3
  subst e1
  exact Kd.C_of_reads (d := (0 : Int)) (h1 := fun _ => rfl) h2

/-- string([]byte{x}) -/
theorem conv_byte (x : Int) (W : World) (n : Nat) : (convert 25 9 (.slice (some ⟨W.heap.size, 0, none⟩) 1 1)).run Tryd.prog ((W.drewN n).alloc (.cells #[.int .u8 x] 5)) = .ok (.string (st [x.toNat])) ((W.drewN n).alloc (.cells #[.int .u8 x] 5)) := by
  have h := own_lit (W.drewN n) 0 5 .u8 [x] (by omega) (by simp)
  have h2 := own_string (P := Tryd.prog) Tryd.underlying25 Tryd.underlying5 Tryd.underlying9 h
  exact h2
theorem nums_l0 (a b : List Int) (h : a.length = b.length) (hb : a.length ≤ 140737488355328) : ∀ (d i k : Nat), i + d = a.length → d < k → PXorGets.hygref_Nums.l0 k a b (i : Int) = some (decide (a.drop i = b.drop i)) := by
  intro d
  induction d with
  | zero =>
    intro i k hi hk
    obtain ⟨k, rfl⟩ : ∃ m, k = m + 1 := ⟨k - 1, by omega⟩
    simp only [PXorGets.hygref_Nums.l0]
    rw [if_neg (by omega), List.drop_of_length_le (by omega), List.drop_of_length_le (by omega)]
    simp
  | succ d ih =>
    intro i k hi hk
    obtain ⟨k, rfl⟩ : ∃ m, k = m + 1 := ⟨k - 1, by omega⟩
    have hi1 : i < a.length := by omega
    have hi2 : i < b.length := by omega
    have ra : rd a (i : Int) = a[i] := by simp [rd, List.getD_eq_getElem?_getD, hi1]
    have rb : rd b (i : Int) = b[i] := by simp [rd, List.getD_eq_getElem?_getD, hi2]
    simp only [PXorGets.hygref_Nums.l0]
    rw [if_pos (by omega), if_pos (by omega), if_pos (by omega), ra, rb]
    have hd : (a.drop i = b.drop i) ↔ (a[i] = b[i] ∧ a.drop (i + 1) = b.drop (i + 1)) := by
      rw [List.drop_eq_getElem_cons hi1, List.drop_eq_getElem_cons hi2, List.cons.injEq]
    by_cases he : a[i] = b[i]
    · rw [if_pos he, show wrap64 ((i : Int) + 1) = ((i + 1 : Nat) : Int) by unfold wrap64; omega, ih (i + 1) k (by omega) (by omega)]
      rw [show decide (a.drop i = b.drop i) = decide (a.drop (i + 1) = b.drop (i + 1)) from decide_eq_decide.2 (hd.trans ⟨fun h => h.2, fun h => ⟨he, h⟩⟩)]
    · rw [if_neg he, decide_eq_false (fun e => he (hd.1 e).1)]
theorem nums_f (a b : List Int) (hb : a.length ≤ 140737488355328) : PXorGets.hygref_Nums.f (a.length + 1) a b = some (decide (a = b)) := by
  unfold PXorGets.hygref_Nums.f
  by_cases h : a.length = b.length
  · rw [if_pos (by omega)]
    have := nums_l0 a b h hb a.length 0 (a.length + 1) (by omega) (by omega)
    simpa using this
  · rw [if_neg (by omega)]
    simp
    intro e; exact h (by rw [e])
theorem nums_any (A : Option Addr) (c : Nat) (l : List Int) (A' : Option Addr) (c' : Nat) (l' : List Int) (w : World) (hr : Kd.C (Kd.int .u64) w A l.length l) (hc : l.length ≤ c) (hr' : Kd.C (Kd.int .u64) w A' l'.length l') (hc' : l'.length ≤ c') (hl : l.length ≤ 140737488355328) :
    Calls Tryd.prog 31 #[.slice A l.length c, .slice A' l'.length c'] w fun e w' => e = .returned (.bool (decide (l = l'))) ∧ Drawn0 w w' :=
  PXorGets.hygref_Nums.calls (l.length + 1) A c l A' c' l' _ w hr hc hr' hc' (nums_f l l' hl)
end Go.Proofs.YtodhnmflabehhaaDoor
namespace Go.Proofs.YtodhnmflabehhaaDoor
open Go.RowKit Go.Proofs.YtodhnmflabehhaaDoorW.PrintWords Go.Proofs.YtodhnmflabehhaaDoorW.PrintLast Go.Proofs.YtodhnmflabehhaaDoorW.PrintMore Hy

def nat (l : List Int) : List Nat := l.map Int.toNat
theorem nat_length (l : List Int) : (nat l).length = l.length := by simp [nat]
theorem nat_u64 (l : List Int) (h : ∀ x ∈ l, 0 ≤ x ∧ x < 18446744073709551616) : u64n (nat l) := by
  intro x hx
  obtain ⟨y, hy, rfl⟩ := List.mem_map.1 hx
  have := h y hy; omega
theorem xor_nat (a b : Int) (ha : 0 ≤ a ∧ a < 18446744073709551616) (hb : 0 ≤ b ∧ b < 18446744073709551616) : 0 ≤ Go.bits .xor .u64 a b ∧ Go.bits .xor .u64 a b < 18446744073709551616 ∧ (Go.bits .xor .u64 a b).toNat = a.toNat ^^^ b.toNat := by
  obtain ⟨a, rfl⟩ := Int.eq_ofNat_of_zero_le ha.1
  obtain ⟨b, rfl⟩ := Int.eq_ofNat_of_zero_le hb.1
  have hx := xor_lt (show a < 18446744073709551616 by omega) (show b < 18446744073709551616 by omega)
  rw [bits_xor_nat .u64 a b (by simp [IntKind.bits]; omega) (by simp [IntKind.bits]; omega), wrap_u64, Int.toNat_natCast, Int.toNat_natCast]
  omega
/-- The bits at a round's end. -/
theorem encL_take (l : List Int) (k : Nat) (hk : k + 1 < l.length) : encL (nat (l.take (k + 2))) = encL (nat (l.take (k + 1))) ++ encD ((l[k + 1]).toNat ^^^ (l[k]).toNat) := by
  have h1 : l.take (k + 2) = l.take (k + 1) ++ [l[k + 1]] := by rw [List.take_succ_eq_append_getElem hk]
  have h0 : l.take (k + 1) = l.take k ++ [l[k]] := by rw [List.take_succ_eq_append_getElem (by omega)]
  have h2 : (nat (l.take (k + 1))).getLast? = some (l[k]).toNat := by
    rw [h0, show nat (l.take k ++ [l[k]]) = nat (l.take k) ++ [(l[k]).toNat] from List.map_append]
    exact List.getLast?_concat
  have h3 : nat (l.take (k + 2)) = nat (l.take (k + 1)) ++ [(l[k + 1]).toNat] := by rw [h1]; unfold nat; rw [List.map_append]; rfl
  rw [h3, encL_snoc _ _ (by intro e; rw [e] at h2; simp at h2), h2]
  rfl
set_option maxHeartbeats 2000000 in
theorem xorPut_ok (A : Option Addr) (c : Nat) (l : List Int) (w : World) (hr : Kd.C (Kd.int .u64) w A l.length l) (hc : l.length ≤ c) (hl : l.length ≤ 20000) (hx : ∀ x ∈ l, 0 ≤ x ∧ x < 18446744073709551616) :
    Calls Tryd.prog 29 #[.slice A l.length c] w fun e w' => e = .returned (.tuple #[.string (colT (nat l)), .nilIface]) ∧ Below w.heap.size w w' := by
  have HB := Aside0.mk (Below.refl w.heap.size w)
  have HR := Aside0.mk hr
  have HC := Aside0.mk hc
  have HX := Aside0.mk hx
  clear hr hc hx
  go_enter Tryd.func29, Tryd.ntmps29
  go_wp2_with fail
  go_loopw [13] (fun v13 w' => ∃ k : Nat, k ≤ l.length ∧ v13 = .int .i64 (k : Int) ∧ Aside0 (IsW 84 w.heap.size w.heap.size (encL (nat (l.take k))) w') ∧ Aside0 (Below w.heap.size w w')) (fun v13 _ => l.length - (intOf v13).toNat)
  case atStart => exact ⟨0, by omega, rfl, ⟨IsW.new _ w⟩, ⟨(by repeat (first | (with_reducible exact HB.out) | apply below_alloc | apply pw_below_drewN | apply below_drew1))⟩⟩
  case round =>
    clear HB
    obtain ⟨k, hk, rfl, HI, HB⟩ := hrel
    by_cases hlt : k < l.length
    · obtain ⟨ad, rfl, hcell⟩ := cellAt (Kd.C_below HR.out HB.out) k hlt
      have hxk := Aside0.mk (HX.out _ (List.getElem_mem hlt))
      have HC' := HC.out
      have hbl : (encL (nat (l.take k))).length ≤ 1600000 := by have := encL_len (nat (l.take k)); rw [nat_length, List.length_take] at this; omega
      have hsz := HB.out.size
      by_cases h0 : k = 0
      · have HE : Aside0 (encL (nat (l.take (k + 1))) = encL (nat (l.take k)) ++ bitsOf (l[k]).toNat 64) := ⟨by
          subst h0; rw [List.take_succ_eq_append_getElem hlt]; simp [nat, encL, encT]⟩
        have hk0 : ((k : Int) == 0) = true := by simp; omega
        have hn64 : Aside0 ((l[k]).toNat < 2 ^ (64 : Int).toNat) := ⟨by rw [show (64 : Int).toNat = 64 from rfl]; have := hxk.out; omega⟩
        clear h0
        go_wp2_with (first
          | (go_at_call 37; refine (puts_any w.heap.size w.heap.size _ _ 64 _ hxk.out.1 (by decide) hn64.out (by decide) (by omega) hsz HI.out).mono ?_; rintro e w1 ⟨rfl, h1, b1⟩; have HI1 := Aside0.mk h1; have HB1 := Aside0.mk (HB.out.trans b1); clear h1 b1 HB HI))
        go_roundw
        case rel => exact ⟨k + 1, by omega, by go_num, ⟨by rw [HE.out]; exact HI1.out⟩, HB1⟩
        case measure => simp [intOf]; omega
      · obtain ⟨m, hm⟩ : ∃ m, k = m + 1 := ⟨k - 1, by omega⟩
        have hml : m < l.length := by omega
        obtain ⟨ad', e', hcell2⟩ := cellAt (Kd.C_below HR.out HB.out) m hml
        injection e' with e'
        subst e'
        have hm2 : (k : Int) - 1 = (m : Int) := by omega
        have hk0 : ((k : Int) == 0) = false := by simp; omega
        have hxj := HX.out _ (List.getElem_mem hml)
        obtain ⟨q1, q2, q3⟩ := xor_nat _ _ hxk.out hxj
        have HE : Aside0 (encL (nat (l.take (k + 1))) = encL (nat (l.take k)) ++ encD (Go.bits .xor .u64 l[k] l[m]).toNat) := ⟨by
          subst hm; rw [q3]; exact encL_take l m hlt⟩
        have Q2 := Aside0.mk q2
        clear q3 q2 hxj hm h0
        go_wp2_with (first
          | (go_at_call 38; refine (wdiff_any w.heap.size w.heap.size _ _ _ q1 Q2.out (by omega) hsz HI.out).mono ?_; rintro e w1 ⟨rfl, h1, b1⟩; have HI1 := Aside0.mk h1; have HB1 := Aside0.mk (HB.out.trans b1); clear h1 b1 HB HI))
        go_roundw
        case rel => exact ⟨k + 1, by omega, by go_num, ⟨by rw [HE.out]; exact HI1.out⟩, HB1⟩
        case measure => simp [intOf]; omega
    · obtain rfl : k = l.length := by omega
      rw [List.take_length] at HI
      have hS := fun w' (h : IsW 84 w.heap.size w.heap.size (encL (nat l)) w') => wstring_any _ _ _ _ w' h
      go_wp2_with (go_at_call 18; refine (hS _ HI.out).mono ?_; rintro e w1 ⟨rfl, hw1⟩; subst w1)
      go_ret2
      exact ⟨rfl, HB.out⟩
end Go.Proofs.YtodhnmflabehhaaDoor
namespace Go.Proofs.YtodhnmflabehhaaDoor
open Go.RowKit Go.Proofs.YtodhnmflabehhaaDoorW.PrintWords Go.Proofs.YtodhnmflabehhaaDoorW.PrintLast Go.Proofs.YtodhnmflabehhaaDoorW.PrintMore Hy

/-- A column's reader of the call's own: where it stands, and its error. -/
def XAt (B g r : Nat) (s : ByteArray) (a : Nat) (ev : Value) (w : World) : Prop := RAt B g s a w ∧ B ≤ r ∧ r ≠ g ∧ w.heap[r]? = some (.cells #[.pointer (some ⟨g, 0, none⟩), ev] 89 (0, 0))
theorem XAt.k0 {B g r s a ev w} (h : XAt B g r s a ev w) : w.cell? ⟨r, 0, none⟩ = some (.pointer (some ⟨g, 0, none⟩)) := by rw [blk_cell h.2.2.2]; rfl
theorem XAt.k1 {B g r s a ev w} (h : XAt B g r s a ev w) : w.cell? ⟨r, 1, none⟩ = some ev := by rw [blk_cell h.2.2.2]; rfl
theorem XAt.f1 {B g r s a ev w} (h : XAt B g r s a ev w) : w.frozen? ⟨r, 1, none⟩ = false := blk_frozen h.2.2.2 1
theorem XAt.put {B g r s a ev w} (h : XAt B g r s a ev w) (ev' : Value) : XAt B g r s a ev' (w.setCell ⟨r, 1, none⟩ ev') :=
  ⟨⟨h.1.1, by rw [blk_far h.1.2 (by exact Ne.symm h.2.2.1)]⟩, h.2.1, h.2.2.1, by rw [blk_set h.2.2.2]; rfl⟩
theorem XAt.below {B g r s a ev} {w w' : World} (h : XAt B g r s a ev w) (hb : Below w.heap.size w w') : XAt B g r s a ev w' := ⟨h.1.below hb, h.2.1, h.2.2.1, blk_below h.2.2.2 hb⟩
theorem XAt.drew {B g r s a ev} {w : World} (h : XAt B g r s a ev w) : XAt B g r s a ev w.drew := h
theorem XAt.drewN {B g r s a ev} {w : World} (h : XAt B g r s a ev w) (m : Nat) : XAt B g r s a ev (w.drewN m) := h
def GR (g r : Nat) (k : Nat) : Prop := k = g ∨ k = r
theorem XAt.get {B g r s a a' ev} {w w1 : World} (h : XAt B g r s a ev w) (hr : RAt B g s a' w1) (hk : Kp (· = g) w w1) : XAt B g r s a' ev w1 := ⟨hr, h.2.1, h.2.2.1, hk.obj h.2.2.2 h.2.2.1⟩
theorem XAt.B {B g r s a ev} {w : World} (h : XAt B g r s a ev w) : B ≤ w.heap.size := Nat.le_trans h.1.1 (Nat.le_of_lt (blk_lt h.1.2))
theorem XAt.grown {B g r s a ev} {w w1 : World} {row : Option Nat} (h : XAt B g r s a ev w) (hg : w.grownBy w1 row) (hn : ∀ k, row = some k → ¬ GR g r k) : XAt B g r s a ev w1 :=
  ⟨⟨h.1.1, blk_grown h.1.2 hg (fun e => hn g e.symm (.inl rfl))⟩, h.2.1, h.2.2.1, blk_grown h.2.2.2 hg (fun e => hn r e.symm (.inr rfl))⟩
theorem gets_ok (B g r : Nat) (s : ByteArray) (a : Nat) (c : Int) (w : World) (hs : s.size ≤ 140737488351232) (hc0 : 0 ≤ c) (hc : c ≤ 64) (ha : a + c.toNat ≤ 8 * s.size) (h : XAt B g r s a .nilIface w) :
    Calls Tryd.prog 39 #[.pointer (some ⟨r, 0, none⟩), .int .i64 c] w fun e w' => e = .returned (.int .u64 ((val (((unp (bs s)).drop a).take c.toNat) : Nat) : Int)) ∧ XAt B g r s (a + c.toNat) .nilIface w' ∧ Kp (GR g r) w w' := by
  obtain ⟨c, rfl⟩ := Int.eq_ofNat_of_zero_le hc0
  rw [Int.toNat_natCast] at *
  have H := rget_ok B g s a c w hs (by omega) ha h.B h.1
  obtain ⟨v, hv⟩ : ∃ v, val (((unp (bs s)).drop a).take c) = v := ⟨_, rfl⟩
  rw [hv] at H ⊢
  have HI := Aside0.mk h
  have k0 := h.k0
  have k1 := h.k1
  clear h hv ha
  go_enter Tryd.func39, Tryd.ntmps39
  go_wp2_with (first
    | (go_at_call 21; refine H.mono ?_; rintro e w1 ⟨rfl, h1, h2⟩; have HI1 := Aside0.mk (HI.out.get h1 h2); have HK := Aside0.mk h2; have f1 := HI1.out.f1; have q1 := HI1.out.k1; clear h1 h2 k0 k1))
  go_ret
  exact ⟨rfl, HI1.out.put _, (HK.out.mono (fun k hk => .inl hk)).set (.inr rfl) _⟩
theorem gets_short (B g r : Nat) (s : ByteArray) (a f : Nat) (c : Int) (w : World) (hs : s.size ≤ 140737488351232) (hc0 : 0 ≤ c) (hc : c ≤ 64) (hf : a + f = 8 * s.size) (hfc : (f : Int) < c) (h : XAt B g r s a .nilIface w) :
    Calls Tryd.prog 39 #[.pointer (some ⟨r, 0, none⟩), .int .i64 c] w fun e w' => ∃ T x, e = .returned (.int .u64 0) ∧ XAt B g r s a (.iface T x) w' ∧ Kp (GR g r) w w' := by
  have H := rget_short B g s a f c w hs hc0 hc hf hfc h.1
  have HI := Aside0.mk h
  have k0 := h.k0
  have k1 := h.k1
  clear h hf
  go_enter Tryd.func39, Tryd.ntmps39
  go_wp2_with (first
    | (go_at_call 21; refine H.mono ?_; rintro e w1 ⟨u, E, rfl, hu, hE, h1, h2⟩; obtain ⟨uT, ux, rfl⟩ := hu.iface (by rw [hE]; simp); have HI1 := Aside0.mk (HI.out.below h2); have HK := Aside0.mk h2; have f1 := HI1.out.f1; have q1 := HI1.out.k1; clear h1 h2 k0 k1 hu hE))
  go_ret
  exact ⟨_, _, rfl, HI1.out.put _, (Kp.ofBelow HK.out).set (.inr rfl) _⟩
theorem gets_err (B g r : Nat) (s : ByteArray) (a : Nat) (c : Int) (T : TypeId) (x : Value) (w : World) (h : XAt B g r s a (.iface T x) w) :
    Calls Tryd.prog 39 #[.pointer (some ⟨r, 0, none⟩), .int .i64 c] w fun e w' => e = .returned (.int .u64 0) ∧ w' = w := by
  have k1 := h.k1
  clear h
  go_enter Tryd.func39, Tryd.ntmps39
  go_wp2_with fail
  go_ret
  exact ⟨rfl, rfl⟩
end Go.Proofs.YtodhnmflabehhaaDoor
namespace Go.Proofs.YtodhnmflabehhaaDoor
open Go.RowKit Go.Proofs.YtodhnmflabehhaaDoorW.PrintWords Go.Proofs.YtodhnmflabehhaaDoorW.PrintLast Go.Proofs.YtodhnmflabehhaaDoorW.PrintMore Hy

theorem gets_is (B g r : Nat) (s : ByteArray) (a a' : Nat) (c v : Int) (w : World) (hs : s.size ≤ 140737488351232) (hc0 : 0 ≤ c) (hc : c ≤ 64) (ha : a + c.toNat = a') (ha' : a' ≤ 8 * s.size) (hv : ((val (((unp (bs s)).drop a).take c.toNat) : Nat) : Int) = v) (h : XAt B g r s a .nilIface w) :
    Calls Tryd.prog 39 #[.pointer (some ⟨r, 0, none⟩), .int .i64 c] w fun e w' => e = .returned (.int .u64 v) ∧ XAt B g r s a' .nilIface w' ∧ Kp (GR g r) w w' := by
  have := gets_ok B g r s a c w hs hc0 hc (by omega) h
  rw [hv, ha] at this
  exact this
theorem xdiff_zero (B g r : Nat) (s : ByteArray) (a : Nat) (R : List Bool) (w : World) (hs : s.size ≤ 140737488351232) (hd : (unp (bs s)).drop a = false :: R) (h : XAt B g r s a .nilIface w) :
    Calls Tryd.prog 40 #[.pointer (some ⟨r, 0, none⟩)] w fun e w' => e = .returned (.int .u64 0) ∧ XAt B g r s (a + 1) .nilIface w' ∧ Kp (GR g r) w w' := by
  have hl := congrArg List.length hd
  rw [List.length_drop, unp_length, bs_length, List.length_cons] at hl
  have G1 := gets_is B g r s a (a + 1) 1 0 w hs (by decide) (by decide) rfl (by omega) (by rw [hd]; rfl) h
  clear hd hl h
  go_enter Tryd.func40, Tryd.ntmps40
  go_wp2_with (go_at_call 39; refine G1.mono ?_; rintro e w1 ⟨rfl, h1, h2⟩; have H1 := Aside0.mk h1; have H2 := Aside0.mk h2; clear h1 h2)
  go_ret
  exact ⟨rfl, H1.out, H2.out⟩
set_option maxHeartbeats 2000000 in
theorem xdiff_some (B g r : Nat) (s : ByteArray) (a x : Nat) (R : List Bool) (w : World) (hs : s.size ≤ 140737488351232) (hx0 : x ≠ 0) (hx : x < 18446744073709551616) (hd : (unp (bs s)).drop a = encD x ++ R) (h : XAt B g r s a .nilIface w) :
    Calls Tryd.prog 40 #[.pointer (some ⟨r, 0, none⟩)] w fun e w' => e = .returned (.int .u64 (x : Int)) ∧ XAt B g r s (a + (encD x).length) .nilIface w' ∧ Kp (GR g r) w w' := by
  have hl := congrArg List.length hd
  rw [List.length_drop, unp_length, bs_length, List.length_append] at hl
  obtain ⟨s1, _, _, s4⟩ := ends_says x hx0 hx
  have z := size_lt x hx0 hx
  have A1 := fun w => lead_any x w hx
  have A2 := fun w => trail_any x w hx
  have he : encD x = true :: (bitsOf (lead x) 6 ++ (bitsOf (63 - lead x - trail x) 6 ++ bitsOf (x / 2 ^ trail x) (64 - lead x - trail x))) := by unfold encD; rw [if_neg hx0]
  have hel : (encD x).length = 13 + (64 - lead x - trail x) := by rw [he]; simp only [List.length_cons, List.length_append, bitsOf_length]; omega
  rw [he] at hd
  have HI := Aside0.mk h
  rw [hel] at hl ⊢
  clear he hel
  generalize lead x = L at *
  generalize trail x = t at *
  obtain ⟨q, hq⟩ : ∃ q, x / 2 ^ t = q := ⟨_, rfl⟩
  obtain ⟨S, hS⟩ : ∃ S, 64 - L - t = S := ⟨_, rfl⟩
  obtain ⟨S1, hS1⟩ : ∃ S1, 63 - L - t = S1 := ⟨_, rfl⟩
  rw [hq] at z hd s4
  rw [hS] at z hd hl ⊢
  rw [hS1] at hd
  simp only [List.cons_append, List.append_assoc] at hd
  have d1 : (unp (bs s)).drop (a + 1) = bitsOf L 6 ++ (bitsOf S1 6 ++ (bitsOf q S ++ R)) := by rw [← List.drop_drop, hd]; rfl
  have d2 : (unp (bs s)).drop (a + 1 + 6) = bitsOf S1 6 ++ (bitsOf q S ++ R) := by rw [← List.drop_drop, d1, List.drop_left' (bitsOf_length _ _)]
  have d3 : (unp (bs s)).drop (a + 1 + 6 + 6) = bitsOf q S ++ R := by rw [← List.drop_drop, d2, List.drop_left' (bitsOf_length _ _)]
  have G1 := gets_is B g r s a (a + 1) 1 1 w hs (by decide) (by decide) rfl (by omega) (by rw [hd]; rfl) h
  have G2 := fun w => gets_is B g r s (a + 1) (a + 1 + 6) 6 (L : Int) w hs (by decide) (by decide) rfl (by omega) (by rw [d1, show Int.toNat 6 = 6 from rfl, List.take_left' (bitsOf_length _ _), val_small _ _ (by omega)])
  have G3 := fun w => gets_is B g r s (a + 1 + 6) (a + 1 + 6 + 6) 6 (S1 : Int) w hs (by decide) (by decide) rfl (by omega) (by rw [d2, show Int.toNat 6 = 6 from rfl, List.take_left' (bitsOf_length _ _), val_small _ _ (by omega)])
  have G4 := fun w => gets_is B g r s (a + 1 + 6 + 6) (a + (13 + S)) (S : Int) (q : Int) w hs (by omega) (by omega) (by omega) (by omega) (by rw [d3, Int.toNat_natCast, List.take_left' (bitsOf_length _ _), val_small _ _ z])
  have AT := fun w h => rat_any B g s (a + 1) w h
  have f3 : (64 : Int) - (L : Int) - (S : Int) = (t : Int) := by omega
  have f4 : (S1 : Int) + 1 = (S : Int) := by omega
  have f5 : IntKind.u64.wrap ((q : Int) * 2 ^ t) = (x : Int) := by rw [cast_shl, s4, wrap_u64]; omega
  have f6 : ((L : Int) != (L : Int)) = false := by simp
  have f7 : ((t : Int) != (t : Int)) = false := by simp
  have hL2 : (L : Int) ≤ 63 := by omega
  have ht2 : (t : Int) ≤ 63 := by omega
  have ht3 : max (t : Int) 0 = (t : Int) := by omega
  have ht4 : ¬ (t : Int) < 0 := by omega
  have hS2 : (S : Int) ≤ 64 := by omega
  have hS3 : (S1 : Int) ≤ 63 := by omega
  clear z hq hS hS1 hx s1 hx0 hd d1 d2 d3 hl s4 h
  go_enter Tryd.func40, Tryd.ntmps40
  go_wp2_with fail
  refine G1.mono ?_
  rintro e w1 ⟨rfl, h1, b1⟩
  have H1 := Aside0.mk h1
  have B1 := Aside0.mk b1
  have k0 := h1.k0
  clear h1 b1 G1
  go_wp2_with (go_at_call 22; refine (AT _ H1.out.1).mono ?_; rintro e w' ⟨rfl, hw⟩; subst w')
  refine (G2 _ H1.out).mono ?_
  rintro e w2 ⟨rfl, h1, b1⟩
  have H2 := Aside0.mk h1
  have B2 := Aside0.mk (B1.out.trans b1)
  clear h1 b1 H1 B1 G2 k0
  go_wp2_with fail
  refine (G3 _ H2.out).mono ?_
  rintro e w3 ⟨rfl, h1, b1⟩
  have H3 := Aside0.mk h1
  have B3 := Aside0.mk (B2.out.trans b1)
  have k1 := h1.k1
  clear h1 b1 H2 B2 G3
  go_wp2_with fail
  refine (G4 _ H3.out).mono ?_
  rintro e w4 ⟨rfl, h1, b1⟩
  have H4 := Aside0.mk h1
  have B4 := Aside0.mk (B3.out.trans b1)
  have q1 := h1.k1
  clear h1 b1 H3 B3 G4 k1
  go_wp2_with (first
      | (go_at_call 14; refine (A1 _).mono ?_; rintro e wd ⟨rfl, ⟨nd, rfl⟩⟩)
      | (go_at_call 16; refine (A2 _).mono ?_; rintro e wd ⟨rfl, ⟨nd, rfl⟩⟩))
  go_ret
  exact ⟨rfl, H4.out, B4.out.drewN _⟩

/-- What a reader that is stuck leaves. -/
def XBad (B g r : Nat) (s : ByteArray) (w : World) (e : Ending) (w' : World) : Prop := ∃ (v : Int) (a' : Nat) (T : TypeId) (x : Value), e = .returned (.int .u64 v) ∧ 0 ≤ v ∧ v < 18446744073709551616 ∧ XAt B g r s a' (.iface T x) w' ∧ Kp (GR g r) w w'
theorem xdiff_bad0 (B g r : Nat) (s : ByteArray) (a : Nat) (w : World) (hs : s.size ≤ 140737488351232) (hf : a = 8 * s.size) (h : XAt B g r s a .nilIface w) :
    Calls Tryd.prog 40 #[.pointer (some ⟨r, 0, none⟩)] w (XBad B g r s w) := by
  have G1 := gets_short B g r s a 0 1 w hs (by decide) (by decide) (by omega) (by decide) h
  clear h hf
  go_enter Tryd.func40, Tryd.ntmps40
  go_wp2_with (go_at_call 39; refine G1.mono ?_; rintro e w1 ⟨T, x, rfl, h1, h2⟩; have H1 := Aside0.mk h1; have H2 := Aside0.mk h2; clear h1 h2)
  go_ret
  exact ⟨_, _, _, _, rfl, by decide, by decide, H1.out, H2.out⟩
/-- The counts' bits lack. -/
theorem xdiff_bad1 (B g r : Nat) (s : ByteArray) (a f : Nat) (w : World) (hs : s.size ≤ 140737488351232) (hf : a + f = 8 * s.size) (hf1 : 1 ≤ f) (hf6 : f ≤ 6) (hd : ∃ R, (unp (bs s)).drop a = true :: R) (h : XAt B g r s a .nilIface w) :
    Calls Tryd.prog 40 #[.pointer (some ⟨r, 0, none⟩)] w (XBad B g r s w) := by
  obtain ⟨R, hd⟩ := hd
  have G1 := gets_is B g r s a (a + 1) 1 1 w hs (by decide) (by decide) rfl (by omega) (by rw [hd]; rfl) h
  have G2 := fun w => gets_short B g r s (a + 1) (f - 1) 6 w hs (by decide) (by decide) (by omega) (by omega)
  have G3 := fun T x w => gets_err B g r s (a + 1) 6 T x w
  have G4 := fun T x w => gets_err B g r s (a + 1) 1 T x w
  have AT := fun w h => rat_any B g s (a + 1) w h
  have ms : max (63 : Int) 0 = 63 := by decide
  clear h hf hd
  go_enter Tryd.func40, Tryd.ntmps40
  go_wp2_with fail
  refine G1.mono ?_
  rintro e w1 ⟨rfl, h1, b1⟩
  have H1 := Aside0.mk h1
  have B1 := Aside0.mk b1
  have k0 := h1.k0
  clear h1 b1 G1
  go_wp2_with (go_at_call 22; refine (AT _ H1.out.1).mono ?_; rintro e w' ⟨rfl, hw⟩; subst w')
  refine (G2 _ H1.out).mono ?_
  rintro e w2 ⟨T, x, rfl, h1, b1⟩
  have H2 := Aside0.mk h1
  have B2 := Aside0.mk (B1.out.trans b1)
  have k1 := h1.k1
  clear h1 b1 H1 B1 G2 k0
  go_wp2_with fail
  refine (G3 _ _ _ H2.out).mono ?_
  rintro e w' ⟨rfl, hw⟩
  subst w'
  go_wp2_with fail
  refine (G4 _ _ _ H2.out).mono ?_
  rintro e w' ⟨rfl, hw⟩
  subst w'
  go_wp2_with fail
  go_ret
  exact ⟨_, _, _, _, rfl, by decide, by decide, H2.out, B2.out⟩
/-- The second count's bits lack. -/
theorem xdiff_bad2 (B g r : Nat) (s : ByteArray) (a f L : Nat) (w : World) (hs : s.size ≤ 140737488351232) (hf : a + f = 8 * s.size) (hf1 : 7 ≤ f) (hf6 : f ≤ 12) (hd : ∃ R, (unp (bs s)).drop a = true :: R) (hL : val (((unp (bs s)).drop (a + 1)).take 6) = L) (hL6 : L < 64) (h : XAt B g r s a .nilIface w) :
    Calls Tryd.prog 40 #[.pointer (some ⟨r, 0, none⟩)] w (XBad B g r s w) := by
  obtain ⟨R, hd⟩ := hd
  have G1 := gets_is B g r s a (a + 1) 1 1 w hs (by decide) (by decide) rfl (by omega) (by rw [hd]; rfl) h
  have G2 := fun w => gets_is B g r s (a + 1) (a + 1 + 6) 6 (L : Int) w hs (by decide) (by decide) rfl (by omega) (by rw [show Int.toNat 6 = 6 from rfl, hL])
  have G3 := fun w => gets_short B g r s (a + 1 + 6) (f - 7) 6 w hs (by decide) (by decide) (by omega) (by omega)
  have G4 := fun T x w => gets_err B g r s (a + 1 + 6) 1 T x w
  have AT := fun w h => rat_any B g s (a + 1) w h
  obtain ⟨t, ht⟩ : ∃ t, 63 - L = t := ⟨_, rfl⟩
  have f3 : (64 : Int) - (L : Int) - 1 = (t : Int) := by omega
  have hL2 : (L : Int) ≤ 63 := by omega
  have ht2 : (t : Int) ≤ 63 := by omega
  have ms : max (t : Int) 0 = (t : Int) := by omega
  clear h hf hd hL ht
  go_enter Tryd.func40, Tryd.ntmps40
  go_wp2_with fail
  refine G1.mono ?_
  rintro e w1 ⟨rfl, h1, b1⟩
  have H1 := Aside0.mk h1
  have B1 := Aside0.mk b1
  have k0 := h1.k0
  clear h1 b1 G1
  go_wp2_with (go_at_call 22; refine (AT _ H1.out.1).mono ?_; rintro e w' ⟨rfl, hw⟩; subst w')
  refine (G2 _ H1.out).mono ?_
  rintro e w2 ⟨rfl, h1, b1⟩
  have H2 := Aside0.mk h1
  have B2 := Aside0.mk (B1.out.trans b1)
  clear h1 b1 H1 B1 G2 k0
  go_wp2_with fail
  refine (G3 _ H2.out).mono ?_
  rintro e w3 ⟨T, x, rfl, h1, b1⟩
  have H3 := Aside0.mk h1
  have B3 := Aside0.mk (B2.out.trans b1)
  have k1 := h1.k1
  clear h1 b1 H2 B2 G3
  go_wp2_with fail
  refine (G4 _ _ _ H3.out).mono ?_
  rintro e w' ⟨rfl, hw⟩
  subst w'
  go_wp2_with fail
  go_ret
  exact ⟨_, _, _, _, rfl, by decide, by decide, H3.out, B3.out⟩
end Go.Proofs.YtodhnmflabehhaaDoor
namespace Go.Proofs.YtodhnmflabehhaaDoor
open Go.RowKit Go.Proofs.YtodhnmflabehhaaDoorW.PrintWords Go.Proofs.YtodhnmflabehhaaDoorW.PrintLast Go.Proofs.YtodhnmflabehhaaDoorW.PrintMore Hy

theorem at_some (n : Int) (T : TypeId) (x : Value) (w : World) :
    Calls Tryd.prog 34 #[.int .i64 n, .iface T x] w fun e w' => ∃ y : Nat, e = .returned (.iface 79 (.pointer (some ⟨y, 0, none⟩))) ∧ Below w.heap.size w w' :=
  (at_any n _ w ⟨_, _, rfl⟩).mono fun _ _ ⟨h1, h2⟩ => ⟨_, h1, by rw [h2]; exact (Below.refl _ _).alloc (Nat.le_refl _) _⟩
set_option maxHeartbeats 1000000 in
theorem xdiff_bad3 (B g r : Nat) (s : ByteArray) (a L S1 : Nat) (w : World) (hs : s.size ≤ 140737488351232) (hf : a + 13 ≤ 8 * s.size) (hd : ∃ R, (unp (bs s)).drop a = true :: R) (hL : val (((unp (bs s)).drop (a + 1)).take 6) = L) (hL6 : L < 64) (hS : val (((unp (bs s)).drop (a + 1 + 6)).take 6) = S1) (hS6 : S1 < 64) (hn : 64 < L + S1 + 1) (h : XAt B g r s a .nilIface w) :
    Calls Tryd.prog 40 #[.pointer (some ⟨r, 0, none⟩)] w (XBad B g r s w) := by
  obtain ⟨R, hd⟩ := hd
  have G1 := gets_is B g r s a (a + 1) 1 1 w hs (by decide) (by decide) rfl (by omega) (by rw [hd]; rfl) h
  have G2 := fun w => gets_is B g r s (a + 1) (a + 1 + 6) 6 (L : Int) w hs (by decide) (by decide) rfl (by omega) (by rw [show Int.toNat 6 = 6 from rfl, hL])
  have G3 := fun w => gets_is B g r s (a + 1 + 6) (a + 1 + 6 + 6) 6 (S1 : Int) w hs (by decide) (by decide) rfl (by omega) (by rw [show Int.toNat 6 = 6 from rfl, hS])
  have G4 := fun T x w => gets_err B g r s (a + 1 + 6 + 6) ((S1 : Int) + 1) T x w
  have AT := fun w h => rat_any B g s (a + 1) w h
  have hL2 : (L : Int) ≤ 63 := by omega
  have hS3 : (S1 : Int) ≤ 63 := by omega
  have ht4 : (64 : Int) - (L : Int) - ((S1 : Int) + 1) < 0 := by omega
  have ms : max ((64 : Int) - (L : Int) - ((S1 : Int) + 1)) 0 = 0 := by omega
  clear h hf hd hL hS
  go_enter Tryd.func40, Tryd.ntmps40
  go_wp2_with fail
  refine G1.mono ?_
  rintro e w1 ⟨rfl, h1, b1⟩
  have H1 := Aside0.mk h1
  have B1 := Aside0.mk b1
  have k0 := h1.k0
  clear h1 b1 G1
  go_wp2_with (go_at_call 22; refine (AT _ H1.out.1).mono ?_; rintro e w' ⟨rfl, hw⟩; subst w')
  refine (G2 _ H1.out).mono ?_
  rintro e w2 ⟨rfl, h1, b1⟩
  have H2 := Aside0.mk h1
  have B2 := Aside0.mk (B1.out.trans b1)
  clear h1 b1 H1 B1 G2 k0
  go_wp2_with fail
  refine (G3 _ H2.out).mono ?_
  rintro e w3 ⟨rfl, h1, b1⟩
  have H3 := Aside0.mk h1
  have B3 := Aside0.mk (B2.out.trans b1)
  have k1 := h1.k1
  clear h1 b1 H2 B2 G3
  go_wp2_with (go_at_call 34; refine (at_some _ _ _ _).mono ?_; rintro e wx ⟨y, rfl, hb⟩; have H4 := Aside0.mk (H3.out.below hb); have B4 := Aside0.mk (B3.out.next hb); have f1 := H4.out.f1; have q2 := H4.out.k1; clear hb k1 H3 B3)
  have H5 := Aside0.mk (H4.out.put (.iface 79 (.pointer (some ⟨y, 0, none⟩))))
  have B5 := Aside0.mk (B4.out.set (p := ⟨r, 1, none⟩) (.inr rfl) (.iface 79 (.pointer (some ⟨y, 0, none⟩))))
  clear H4 B4 f1 q2
  refine (G4 _ _ _ H5.out).mono ?_
  rintro e w' ⟨rfl, hw⟩
  subst w'
  have q1 := H5.out.k1
  go_wp2_with fail
  go_ret
  exact ⟨_, _, _, _, rfl, by decide, by decide, H5.out, B5.out⟩
set_option maxHeartbeats 1000000 in
theorem xdiff_bad4 (B g r : Nat) (s : ByteArray) (a f L S1 : Nat) (w : World) (hs : s.size ≤ 140737488351232) (hf : a + f = 8 * s.size) (hf13 : 13 ≤ f) (hd : ∃ R, (unp (bs s)).drop a = true :: R) (hL : val (((unp (bs s)).drop (a + 1)).take 6) = L) (hL6 : L < 64) (hS : val (((unp (bs s)).drop (a + 1 + 6)).take 6) = S1) (hS6 : S1 < 64) (hn : L + S1 + 1 ≤ 64) (hf2 : f < 13 + (S1 + 1)) (h : XAt B g r s a .nilIface w) :
    Calls Tryd.prog 40 #[.pointer (some ⟨r, 0, none⟩)] w (XBad B g r s w) := by
  obtain ⟨R, hd⟩ := hd
  obtain ⟨t, ht⟩ : ∃ t, 63 - L - S1 = t := ⟨_, rfl⟩
  have G1 := gets_is B g r s a (a + 1) 1 1 w hs (by decide) (by decide) rfl (by omega) (by rw [hd]; rfl) h
  have G2 := fun w => gets_is B g r s (a + 1) (a + 1 + 6) 6 (L : Int) w hs (by decide) (by decide) rfl (by omega) (by rw [show Int.toNat 6 = 6 from rfl, hL])
  have G3 := fun w => gets_is B g r s (a + 1 + 6) (a + 1 + 6 + 6) 6 (S1 : Int) w hs (by decide) (by decide) rfl (by omega) (by rw [show Int.toNat 6 = 6 from rfl, hS])
  have G4 := fun w => gets_short B g r s (a + 1 + 6 + 6) (f - 13) ((S1 : Int) + 1) w hs (by omega) (by omega) (by omega) (by omega)
  have AT := fun w h => rat_any B g s (a + 1) w h
  have hL2 : (L : Int) ≤ 63 := by omega
  have hS3 : (S1 : Int) ≤ 63 := by omega
  have ht4 : (64 : Int) - (L : Int) - ((S1 : Int) + 1) = (t : Int) := by omega
  have ht2 : (t : Int) ≤ 63 := by omega
  have ht3 : ¬ (t : Int) < 0 := by omega
  have ms : max (t : Int) 0 = (t : Int) := by omega
  clear h hf hd hL hS ht hf2
  go_enter Tryd.func40, Tryd.ntmps40
  go_wp2_with fail
  refine G1.mono ?_
  rintro e w1 ⟨rfl, h1, b1⟩
  have H1 := Aside0.mk h1
  have B1 := Aside0.mk b1
  have k0 := h1.k0
  clear h1 b1 G1
  go_wp2_with (go_at_call 22; refine (AT _ H1.out.1).mono ?_; rintro e w' ⟨rfl, hw⟩; subst w')
  refine (G2 _ H1.out).mono ?_
  rintro e w2 ⟨rfl, h1, b1⟩
  have H2 := Aside0.mk h1
  have B2 := Aside0.mk (B1.out.trans b1)
  clear h1 b1 H1 B1 G2 k0
  go_wp2_with fail
  refine (G3 _ H2.out).mono ?_
  rintro e w3 ⟨rfl, h1, b1⟩
  have H3 := Aside0.mk h1
  have B3 := Aside0.mk (B2.out.trans b1)
  have k1 := h1.k1
  clear h1 b1 H2 B2 G3
  go_wp2_with fail
  refine (G4 _ H3.out).mono ?_
  rintro e w4 ⟨T, x, rfl, h1, b1⟩
  have H4 := Aside0.mk h1
  have B4 := Aside0.mk (B3.out.trans b1)
  have q1 := h1.k1
  clear h1 b1 H3 B3 G4 k1
  go_wp2_with fail
  go_ret
  exact ⟨_, _, _, _, rfl, by decide, by decide, H4.out, B4.out⟩
/-- A count does not fit. -/
theorem xdiff_bad5 (B g r : Nat) (s : ByteArray) (a L S1 v x : Nat) (w : World) (hs : s.size ≤ 140737488351232) (hf13 : a + 13 + (S1 + 1) ≤ 8 * s.size) (hd : ∃ R, (unp (bs s)).drop a = true :: R) (hL : val (((unp (bs s)).drop (a + 1)).take 6) = L) (hL6 : L < 64) (hS : val (((unp (bs s)).drop (a + 1 + 6)).take 6) = S1) (hS6 : S1 < 64) (hn : L + S1 + 1 ≤ 64)
    (hv : val (((unp (bs s)).drop (a + 1 + 6 + 6)).take (S1 + 1)) = v) (hx : v * 2 ^ (63 - L - S1) = x) (hx64 : x < 18446744073709551616) (hne : lead x ≠ L ∨ trail x ≠ 63 - L - S1) (h : XAt B g r s a .nilIface w) :
    Calls Tryd.prog 40 #[.pointer (some ⟨r, 0, none⟩)] w (XBad B g r s w) := by
  obtain ⟨R, hd⟩ := hd
  obtain ⟨t, ht⟩ : ∃ t, 63 - L - S1 = t := ⟨_, rfl⟩
  rw [ht] at hx hne
  have A1 := fun w => lead_any x w hx64
  have A2 := fun w => trail_any x w hx64
  have G1 := gets_is B g r s a (a + 1) 1 1 w hs (by decide) (by decide) rfl (by omega) (by rw [hd]; rfl) h
  have G2 := fun w => gets_is B g r s (a + 1) (a + 1 + 6) 6 (L : Int) w hs (by decide) (by decide) rfl (by omega) (by rw [show Int.toNat 6 = 6 from rfl, hL])
  have G3 := fun w => gets_is B g r s (a + 1 + 6) (a + 1 + 6 + 6) 6 (S1 : Int) w hs (by decide) (by decide) rfl (by omega) (by rw [show Int.toNat 6 = 6 from rfl, hS])
  have G4 := fun w => gets_is B g r s (a + 1 + 6 + 6) (a + 13 + (S1 + 1)) ((S1 : Int) + 1) (v : Int) w hs (by omega) (by omega) (by omega) (by omega) (by rw [show ((S1 : Int) + 1).toNat = S1 + 1 by omega, hv])
  have AT := fun w h => rat_any B g s (a + 1) w h
  have f5 : IntKind.u64.wrap ((v : Int) * 2 ^ t) = (x : Int) := by rw [cast_shl, hx, wrap_u64]; omega
  have hL2 : (L : Int) ≤ 63 := by omega
  have hS3 : (S1 : Int) ≤ 63 := by omega
  have ht4 : (64 : Int) - (L : Int) - ((S1 : Int) + 1) = (t : Int) := by omega
  have ht2 : (t : Int) ≤ 63 := by omega
  have ht3 : ¬ (t : Int) < 0 := by omega
  have ms : max (t : Int) 0 = (t : Int) := by omega
  have X64 := Aside0.mk hx64
  generalize lead x = L' at *
  generalize trail x = t' at *
  by_cases hl : L' = L
  · have f6 : ((L' : Int) != (L : Int)) = false := by rw [bne_eq_false_iff_eq]; omega
    have f7 : ((t' : Int) != (t : Int)) = true := by rw [bne_iff_ne]; omega
    clear h hd hL hS ht hv hx hx64 hne hl
    go_enter Tryd.func40, Tryd.ntmps40
    go_wp2_with fail
    refine G1.mono ?_
    rintro e w1 ⟨rfl, h1, b1⟩
    have H1 := Aside0.mk h1
    have B1 := Aside0.mk b1
    have k0 := h1.k0
    clear h1 b1 G1
    go_wp2_with (go_at_call 22; refine (AT _ H1.out.1).mono ?_; rintro e w' ⟨rfl, hw⟩; subst w')
    refine (G2 _ H1.out).mono ?_
    rintro e w2 ⟨rfl, h1, b1⟩
    have H2 := Aside0.mk h1
    have B2 := Aside0.mk (B1.out.trans b1)
    clear h1 b1 H1 B1 G2 k0
    go_wp2_with fail
    refine (G3 _ H2.out).mono ?_
    rintro e w3 ⟨rfl, h1, b1⟩
    have H3 := Aside0.mk h1
    have B3 := Aside0.mk (B2.out.trans b1)
    have k1 := h1.k1
    clear h1 b1 H2 B2 G3
    go_wp2_with fail
    refine (G4 _ H3.out).mono ?_
    rintro e w4 ⟨rfl, h1, b1⟩
    have H4 := Aside0.mk h1
    have B4 := Aside0.mk (B3.out.trans b1)
    have q1 := h1.k1
    clear h1 b1 H3 B3 G4 k1
    go_wp2_with (first
      | (go_at_call 14; refine (A1 _).mono ?_; rintro e wd ⟨rfl, ⟨nd, rfl⟩⟩)
      | (go_at_call 16; refine (A2 _).mono ?_; rintro e wd ⟨rfl, ⟨nd, rfl⟩⟩)
      | (go_at_call 34; refine (at_some _ _ _ _).mono ?_; rintro e wx ⟨y, rfl, hb⟩; have H5 := Aside0.mk ((H4.out.drewN _).below hb); have B5 := Aside0.mk ((B4.out.drewN _).next hb); have f1 := H5.out.f1; have q2 := H5.out.k1; clear hb q1 H4 B4))
    go_ret
    exact ⟨_, _, _, _, rfl, by omega, by have := X64.out; omega, H5.out.put _, B5.out.set (.inr rfl) _⟩
  · have f6 : ((L' : Int) != (L : Int)) = true := by rw [bne_iff_ne]; omega
    clear h hd hL hS ht hv hx hx64 hne hl
    go_enter Tryd.func40, Tryd.ntmps40
    go_wp2_with fail
    refine G1.mono ?_
    rintro e w1 ⟨rfl, h1, b1⟩
    have H1 := Aside0.mk h1
    have B1 := Aside0.mk b1
    have k0 := h1.k0
    clear h1 b1 G1
    go_wp2_with (go_at_call 22; refine (AT _ H1.out.1).mono ?_; rintro e w' ⟨rfl, hw⟩; subst w')
    refine (G2 _ H1.out).mono ?_
    rintro e w2 ⟨rfl, h1, b1⟩
    have H2 := Aside0.mk h1
    have B2 := Aside0.mk (B1.out.trans b1)
    clear h1 b1 H1 B1 G2 k0
    go_wp2_with fail
    refine (G3 _ H2.out).mono ?_
    rintro e w3 ⟨rfl, h1, b1⟩
    have H3 := Aside0.mk h1
    have B3 := Aside0.mk (B2.out.trans b1)
    have k1 := h1.k1
    clear h1 b1 H2 B2 G3
    go_wp2_with fail
    refine (G4 _ H3.out).mono ?_
    rintro e w4 ⟨rfl, h1, b1⟩
    have H4 := Aside0.mk h1
    have B4 := Aside0.mk (B3.out.trans b1)
    have q1 := h1.k1
    clear h1 b1 H3 B3 G4 k1
    go_wp2_with (first
      | (go_at_call 14; refine (A1 _).mono ?_; rintro e wd ⟨rfl, ⟨nd, rfl⟩⟩)
      | (go_at_call 16; refine (A2 _).mono ?_; rintro e wd ⟨rfl, ⟨nd, rfl⟩⟩)
      | (go_at_call 34; refine (at_some _ _ _ _).mono ?_; rintro e wx ⟨y, rfl, hb⟩; have H5 := Aside0.mk ((H4.out.drewN _).below hb); have B5 := Aside0.mk ((B4.out.drewN _).next hb); have f1 := H5.out.f1; have q2 := H5.out.k1; clear hb q1 H4 B4))
    go_ret
    exact ⟨_, _, _, _, rfl, by omega, by have := X64.out; omega, H5.out.put _, B5.out.set (.inr rfl) _⟩
end Go.Proofs.YtodhnmflabehhaaDoor
