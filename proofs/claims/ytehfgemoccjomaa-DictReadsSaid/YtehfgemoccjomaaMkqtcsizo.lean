import Derived.Test.YtehfgemoccjomaaMyomvuqnc
import Derived.Test.YtehfgemoccjomaaMmpsebjlr
import Derived.Test.YtehfgemoccjomaaPDictReadsx
import Derived.Test.YtehfgemoccjomaaMuimqbosy
import Derived.Outline
namespace Go.Proofs.Ytehfgemoccjomaa
open Go.RowKit Go.Proofs.YtehfgemoccjomaaW.PrintWords Go.Proofs.YtehfgemoccjomaaW.PrintLast Go.Proofs.YtehfgemoccjomaaW.PrintMore Hy
open PDictReads (hygref2_GetVarint.f hygref2_Varint.l0 hygref2_Varint.f hygref18_Parts.l0 hygref18_Parts.f hygref18_Parts.calls)

/-! ### the document's own: a number written; texts taken apart -/
theorem vput_l0 : ∀ (j n : Nat) (k : Nat) (acc : List Nat), n < 2 ^ (7 * (j + 1)) → n < 18446744073709551616 → acc.length + j < 1000 → j < k →
    hygref2_Varint.l0 k (n : Int) (acc.map fun (x : Nat) => (x : Int)) = some (st (acc ++ putL n)) := by
  intro j
  induction j with
  | zero =>
    intro n k acc h h64 hl hk
    obtain ⟨k, rfl⟩ : ∃ m, k = m + 1 := ⟨k - 1, by omega⟩
    have hn : n < 128 := by simpa using h
    simp only [hygref2_Varint.l0]
    rw [if_neg (by omega), if_pos (by simp; omega), putL_lo n hn, ← strOfNums_eq, show (n : Int) % 256 = n by omega]
    simp
  | succ j ih =>
    intro n k acc h h64 hl hk
    obtain ⟨k, rfl⟩ : ∃ m, k = m + 1 := ⟨k - 1, by omega⟩
    simp only [hygref2_Varint.l0]
    by_cases hn : n < 128
    · rw [if_neg (by omega), if_pos (by simp; omega), putL_lo n hn, ← strOfNums_eq, show (n : Int) % 256 = n by omega]
      simp
    · have h' : n / 128 < 2 ^ (7 * (j + 1)) := by
        rw [Nat.div_lt_iff_lt_mul (by omega)]
        calc n < _ := h
          _ = _ := by rw [show 7 * (j + 1 + 1) = 7 * (j + 1) + 7 by omega, Nat.pow_add]
      have := ih (n / 128) k (acc ++ [n % 128 + 128]) h' (by omega) (by simp; omega) (by omega)
      rw [if_pos (by omega), if_pos (by simp; omega), putL_hi n hn, and_u64_127 _ (by omega) (by omega), or_u64_128 _ (by omega) (by omega)]
      rw [List.append_assoc] at this
      simp only [List.cons_append, List.nil_append] at this
      rw [← this]
      have e : ((n : Int) / 128) = ((n / 128 : Nat) : Int) := by omega
      have e2 : ((n : Int) % 128 + 128) % 256 = ((n % 128 + 128 : Nat) : Int) := by omega
      rw [e, e2]
      simp
theorem vput_k (n : Nat) (k : Nat) (h1 : n < 18446744073709551616) (hk : 10 ≤ k) : hygref2_Varint.f k (n : Int) = some (st (putL n)) := by
  have := vput_l0 9 n k [] (by omega) (by omega) (by simp) (by omega)
  simpa [hygref2_Varint.f] using this
theorem vput_any (n : Nat) (w : World) (h1 : n < 18446744073709551616) :
    Calls Try.prog 21 #[.int .u64 (n : Int)] w fun e w' => e = .returned (.string (st (putL n))) ∧ Below w.heap.size w w' :=
  PDictReads.hygref2_Varint.calls 10 (n : Int) _ w (vput_k n 10 h1 (Nat.le_refl _))
theorem dec_c0 : ∀ (l : List Nat) (i : Nat), dec i l = .inl 0 → False := by
  intro l
  induction l with
  | nil => intro i h; rw [dec_nil] at h; injection h with h; omega
  | cons x r ih =>
    intro i h
    by_cases h9 : i = 9 ∧ 1 < x
    · obtain ⟨rfl, hx⟩ := h9
      rw [dec_big x r hx] at h; injection h with h; omega
    · by_cases hx : x < 128
      · rw [dec_end i x r h9 hx] at h; cases h
      · rw [dec_on i x r h9 hx] at h
        cases hd : dec (i + 1) r with
        | inl y => rw [hd] at h; injection h with h; subst h; exact ih _ hd
        | inr y => rw [hd] at h; cases h
theorem pw1 (x y : Nat) (h : y ≤ x) (hx : x ≤ 4000000000) : IntKind.u64.wrap (wrap64 ((x : Int) - (y : Int))) = ((x - y : Nat) : Int) := by rw [wrap_u64]; unfold wrap64; omega
theorem pw2 (x y : Nat) (h : x + y ≤ 4000000000) : wrap64 ((x : Int) + wrap64 (y : Int)) = ((x + y : Nat) : Int) := by
  rw [show wrap64 (y : Int) = (y : Int) by unfold wrap64; omega]
  unfold wrap64; omega
/-- The texts of bytes. -/
def isParts (s : ByteArray) (L : List ByteArray) : Prop := bs s = joinL (bsL L)
theorem isParts_uniq {s : ByteArray} {L M : List ByteArray} (hs : s.size < 18446744073709551616) (h : isParts s L) (h' : isParts s M) : L = M := by
  have e := h.symm.trans h'
  have s1 := small_of (bsL L) (bs s) [] (by rw [bs_length]; exact hs) (by rw [List.append_nil]; exact h)
  have s2 := small_of (bsL M) (bs s) [] (by rw [bs_length]; exact hs) (by rw [List.append_nil]; exact h')
  obtain ⟨L', e1, e2⟩ := joinL_front (bsL M) (bsL L) [] s2 s1 (by rw [List.append_nil]; exact e)
  have : L' = [] := by
    cases L' with
    | nil => rfl
    | cons t L' => rw [joinL_cons] at e2; exact absurd e2 (textL_ne _ _)
  rw [this, List.append_nil] at e1
  exact bsL_inj e1
theorem parts_stuck {s : ByteArray} {D : List ByteArray} {r : List Nat} (hs : s.size < 18446744073709551616) (h : bs s = joinL (bsL D) ++ r) (hr : r ≠ []) (hn : ∀ t q, r ≠ textL t ++ q) (M : List ByteArray) : ¬ isParts s M := by
  intro h'
  have s1 := small_of (bsL D) (bs s) r (by rw [bs_length]; exact hs) h
  have s2 := small_of (bsL M) (bs s) [] (by rw [bs_length]; exact hs) (by rw [List.append_nil]; exact h')
  obtain ⟨L', e1, e2⟩ := joinL_front (bsL D) (bsL M) r s1 s2 (h'.symm.trans h)
  cases L' with
  | nil => exact hr e2.symm
  | cons t L' => rw [joinL_cons] at e2; exact hn t _ e2.symm
theorem parts_go (s : ByteArray) (D : List ByteArray) (K a m n : Nat) (t P : ByteArray) (hs : s.size ≤ 4000000000) (hle : a + m + n ≤ s.size) (hlt : a < s.size) (hD : D.length ≤ a)
    (hg : hygref2_GetVarint.f K s (a : Int) = some ((n : Int), ((a + m : Nat) : Int), 0)) (hv : hygref2_Varint.f K (n : Int) = some P) (x1 : s.extract a (a + m) = P) (x2 : s.extract (a + m) (a + m + n) = t) :
    hygref18_Parts.l0 (K + 1) s D (a : Int) = hygref18_Parts.l0 K s (D ++ [t]) ((a + m + n : Nat) : Int) := by
  have c0 : (a : Int) < (s.size : Int) := by omega
  have c1 : ¬ ((n : Int) > ((s.size - (a + m) : Nat) : Int)) := by omega
  have c2 : (0 : Int) ≤ (a : Int) := by omega
  have c3 : (a : Int) ≤ ((a + m : Nat) : Int) := by omega
  have c4 : ((a + m : Nat) : Int) ≤ (s.size : Int) := by omega
  have c5 : (0 : Int) ≤ ((a + m : Nat) : Int) := by omega
  have c6 : ((a + m : Nat) : Int) ≤ ((a + m + n : Nat) : Int) := by omega
  have c7 : ((a + m + n : Nat) : Int) ≤ (s.size : Int) := by omega
  have c8 : D.length < 8796093022208 := by omega
  have e1 := pw1 s.size (a + m) (by omega) hs
  have e2 := pw2 (a + m) n (by omega)
  rw [hygref18_Parts.l0, if_pos c0, hg, Option.bind_some, if_pos rfl]
  simp only
  rw [e1, if_neg c1, hv, Option.bind_some, if_pos c2, if_pos c3, if_pos c4]
  simp only [Int.toNat_natCast]
  rw [x1, if_pos rfl, if_pos c5, e2, if_pos c6, if_pos c7, if_pos c8]
  simp only [Int.toNat_natCast]
  rw [x2]
theorem parts_no1 (s : ByteArray) (D : List ByteArray) (K a c : Nat) (hlt : a < s.size) (hg : hygref2_GetVarint.f K s (a : Int) = some (0, 0, (c : Int))) (hc : ¬ (c : Int) = 0) : hygref18_Parts.l0 (K + 1) s D (a : Int) = some ([], false) := by
  have c0 : (a : Int) < (s.size : Int) := by omega
  rw [hygref18_Parts.l0, if_pos c0, hg, Option.bind_some, if_neg hc]
theorem parts_no2 (s : ByteArray) (D : List ByteArray) (K a m n : Nat) (hs : s.size ≤ 4000000000) (hlt : a < s.size) (hle : a + m ≤ s.size) (hg : hygref2_GetVarint.f K s (a : Int) = some ((n : Int), ((a + m : Nat) : Int), 0)) (hb : s.size - (a + m) < n) : hygref18_Parts.l0 (K + 1) s D (a : Int) = some ([], false) := by
  have c0 : (a : Int) < (s.size : Int) := by omega
  have c1 : (n : Int) > ((s.size - (a + m) : Nat) : Int) := by omega
  have e1 := pw1 s.size (a + m) (by omega) hs
  rw [hygref18_Parts.l0, if_pos c0, hg, Option.bind_some, if_pos rfl]
  simp only
  rw [e1, if_pos c1]
theorem parts_no3 (s : ByteArray) (D : List ByteArray) (K a m n : Nat) (P : ByteArray) (hs : s.size ≤ 4000000000) (hlt : a < s.size) (hle : a + m ≤ s.size) (hg : hygref2_GetVarint.f K s (a : Int) = some ((n : Int), ((a + m : Nat) : Int), 0)) (hb : ¬ s.size - (a + m) < n) (hv : hygref2_Varint.f K (n : Int) = some P) (hne : ¬ P.toList = (s.extract a (a + m)).toList) : hygref18_Parts.l0 (K + 1) s D (a : Int) = some ([], false) := by
  have c0 : (a : Int) < (s.size : Int) := by omega
  have c1 : ¬ ((n : Int) > ((s.size - (a + m) : Nat) : Int)) := by omega
  have c2 : (0 : Int) ≤ (a : Int) := by omega
  have c3 : (a : Int) ≤ ((a + m : Nat) : Int) := by omega
  have c4 : ((a + m : Nat) : Int) ≤ (s.size : Int) := by omega
  have e1 := pw1 s.size (a + m) (by omega) hs
  rw [hygref18_Parts.l0, if_pos c0, hg, Option.bind_some, if_pos rfl]
  simp only
  rw [e1, if_neg c1, hv, Option.bind_some, if_pos c2, if_pos c3, if_pos c4]
  simp only [Int.toNat_natCast]
  rw [if_neg hne]
set_option maxHeartbeats 1000000 in
theorem parts_l0 (s : ByteArray) (hs : s.size ≤ 4000000000) : ∀ (d a : Nat) (D : List ByteArray) (K : Nat), a + d = s.size → bs s = joinL (bsL D) ++ (bs s).drop a → D.length ≤ a → d + 40 ≤ K →
    (∃ M, isParts s M ∧ hygref18_Parts.l0 K s D (a : Int) = some (M, true)) ∨ ((∀ M, ¬ isParts s M) ∧ hygref18_Parts.l0 K s D (a : Int) = some ([], false)) := by
  intro d
  induction d using Nat.strongRecOn with
  | ind d ih =>
    intro a D K ha he hD hK
    obtain ⟨K, rfl⟩ : ∃ m, K = m + 1 := ⟨K - 1, by omega⟩
    by_cases h0 : d = 0
    · refine .inl ⟨D, ?_, ?_⟩
      · rw [List.drop_of_length_le (by rw [bs_length]; omega), List.append_nil] at he; exact he
      · rw [hygref18_Parts.l0, if_neg (by omega)]
    · have hlt : (a : Int) < (s.size : Int) := by omega
      have hg := rgetv_k s a K (by omega) (by omega) (by omega)
      clear hlt
      have hdl : ((bs s).drop a).length = d := by rw [List.length_drop, bs_length]; omega
      have hr : (bs s).drop a ≠ [] := by intro e; rw [e] at hdl; simp at hdl; omega
      rcases text_or ((bs s).drop a) (okB_drop (bs_ok s) a) (by omega) with ⟨t, q, ht, e⟩ | hbad
      · have hl := congrArg List.length e
        rw [hdl, List.length_append, List.length_append, bs_length] at hl
        have hpos := putL_pos t.size
        rw [e, dec_put t.size ht] at hg
        have hg2 : hygref2_GetVarint.f K s (a : Int) = some ((t.size : Int), ((a + (putL t.size).length : Nat) : Int), 0) := hg
        have hv := vput_k t.size K ht (by omega)
        obtain ⟨m, hm⟩ : ∃ m, (putL t.size).length = m := ⟨_, rfl⟩
        rw [hm] at hg2 hl hpos
        have x1 : s.extract a (a + m) = st (putL t.size) := by
          apply bs_inj
          rw [bs_extract, List.drop_take, show a + m - a = m by omega, e, ← hm, List.take_left, bs_st _ (putL_ok _)]
        have x2 : s.extract (a + m) (a + m + t.size) = t := by
          apply bs_inj
          rw [bs_extract, List.drop_take, show a + m + t.size - (a + m) = t.size by omega, ← List.drop_drop, e, ← hm, List.drop_left, ← bs_length, List.take_left]
        have hnx : bs s = joinL (bsL (D ++ [t])) ++ (bs s).drop (a + m + t.size) := by
          have h3 : (bs s).drop (a + m + t.size) = q := by rw [Nat.add_assoc, ← List.drop_drop, e, ← List.append_assoc, ← hm, ← bs_length t, ← List.length_append, List.drop_left]
          rw [h3, bsL_snoc, joinL_snoc, textL_size, List.append_assoc, List.append_assoc, ← e]; exact he
        have := ih (d - (m + t.size)) (by omega) (a + m + t.size) (D ++ [t]) K (by omega) hnx (by simp; omega) (by omega)
        have hstep := parts_go s D K a m t.size t _ hs (by omega) (by omega) hD hg2 hv x1 x2
        rw [hstep]; exact this
      · refine .inr ⟨parts_stuck (by omega) he hr (text_no hbad (by omega)), ?_⟩
        cases hd : dec 0 ((bs s).drop a) with
        | inl c =>
          rw [hd] at hg
          have hg2 : hygref2_GetVarint.f K s (a : Int) = some (0, 0, (c : Int)) := hg
          have hc : ¬ (c : Int) = 0 := fun e => dec_c0 _ 0 (by rw [hd, show c = 0 by omega])
          exact parts_no1 s D K a c (by omega) hg2 hc
        | inr x =>
          obtain ⟨v, k⟩ := x
          rw [hd] at hg
          have hg2 : hygref2_GetVarint.f K s (a : Int) = some ((v : Int), ((a + k : Nat) : Int), 0) := hg
          obtain ⟨h1, h2, _, _, h5⟩ := dec_some _ 0 v k (okB_drop (bs_ok s) a) (by omega) hd
          rw [hdl] at h2
          by_cases hbig : s.size - (a + k) < v
          · exact parts_no2 s D K a k v hs (by omega) (by omega) hg2 hbig
          · have hv := vput_k v K h5 (by omega)
            have hne : ¬ (st (putL v)).toList = (s.extract a (a + k)).toList := by
              refine str_ne (fun e => ?_)
              have hlen := congrArg ByteArray.size e
              rw [st_size, ByteArray.size_extract] at hlen
              have hk : k = (putL v).length := by omega
              rcases hbad with ⟨v', q, hv', e', hq⟩ | hb
              · rw [e', dec_put v' hv'] at hd
                simp only [Sum.inr.injEq, Prod.mk.injEq] at hd
                obtain ⟨rfl, hk'⟩ := hd
                have := congrArg List.length e'
                rw [hdl, List.length_append] at this
                omega
              · exact hb v k hd hk
            exact parts_no3 s D K a k v _ hs (by omega) (by omega) hg2 hbig hv hne
theorem rparts_any (s : ByteArray) (w : World) (hs : s.size ≤ 4000000000) :
    Calls Try.prog 22 #[.string s] w fun e w' => ∃ (v : Value) (M : List ByteArray) (r : Bool), e = .returned (.tuple #[v, .bool r]) ∧ Kd.R Kd.string 9 w' w.heap.size (fun _ => True) v M ∧ Below w.heap.size w w' ∧ ((r = true ∧ isParts s M) ∨ (r = false ∧ M = [] ∧ ∀ M, ¬ isParts s M)) := by
  rcases parts_l0 s hs s.size 0 [] (s.size + 40) (by omega) rfl (by simp) (Nat.le_refl _) with ⟨M, h1, h2⟩ | ⟨h1, h2⟩
  · refine (hygref18_Parts.calls (s.size + 40) s M true w h2).mono ?_
    rintro e w' ⟨v, rfl, hr, hb⟩
    exact ⟨v, M, true, rfl, hr, hb, .inl ⟨rfl, h1⟩⟩
  · refine (hygref18_Parts.calls (s.size + 40) s [] false w h2).mono ?_
    rintro e w' ⟨v, rfl, hr, hb⟩
    exact ⟨v, [], false, rfl, hr, hb, .inr ⟨rfl, rfl, h1⟩⟩
end Go.Proofs.Ytehfgemoccjomaa
namespace Go.Proofs.Ytehfgemoccjomaa
open Go.RowKit Go.Proofs.YtehfgemoccjomaaW.PrintWords Go.Proofs.YtehfgemoccjomaaW.PrintLast Go.Proofs.YtehfgemoccjomaaW.PrintMore Hy

/-! ### the document's own dictionary: its block x, its row v -/
structure RDc (w : World) (base x : Nat) (v : Value) (L : List ByteArray) : Prop where
  hx : base ≤ x
  blk : w.heap[x]? = some (.cells #[v] 35 (0, 0))
  row : Kd.R Kd.string 9 w base (fun _ => True) v L
def GR (x : Nat) (v : Value) (k : Nat) : Prop := k = x ∨ v.ownBlock = some k
section
variable {w w' : World} {base x : Nat} {v : Value} {L : List ByteArray}
theorem RDc.c0 (h : RDc w base x v L) : w.cell? ⟨x, 0, none⟩ = some v := by rw [blk_cell h.blk]; rfl
theorem RDc.rowx (h : RDc w base x v L) : v.ownBlock ≠ some x := fun e => own_ne (Kd.own_of_R h.row) h.blk (by decide) e.symm
theorem RDc.below (h : RDc w base x v L) (hb : Below w.heap.size w w') : RDc w' base x v L := ⟨h.hx, blk_below h.blk hb, Kd.R_below h.row hb⟩
theorem RDc.kp {M : Nat → Prop} (h : RDc w base x v L) (hk : Kp M w w') (hM : ∀ k, GR x v k → ¬ M k) : RDc w' base x v L :=
  ⟨h.hx, hk.obj h.blk (hM x (.inl rfl)), Kd.R_of_own (hk.own (Kd.own_of_R h.row) (fun k e => hM k (.inr e))) (fun _ _ => trivial)⟩
theorem RDc.ge (h : RDc w base x v L) (k : Nat) (hk : GR x v k) : base ≤ k := by
  rcases hk with rfl | hk
  · exact h.hx
  · exact own_base (Kd.own_of_R h.row) k hk
theorem RDc.lt (h : RDc w base x v L) (k : Nat) (hk : GR x v k) : k < w.heap.size := by
  rcases hk with rfl | hk
  · exact blk_lt h.blk
  · exact own_lt (Kd.own_of_R h.row) k hk
theorem RDc.lower {base' : Nat} (h : RDc w base x v L) (hb : base' ≤ base) : RDc w base' x v L := ⟨Nat.le_trans hb h.hx, h.blk, Kd.R_lower h.row hb⟩
theorem RDc.more {w1 : World} {v1 : Value} {s : ByteArray} (h : RDc w base x v L) (ho : Kd.R Kd.string 9 w1 base (fun _ => True) v1 (L ++ [s])) (hg : w.grownBy w1 v.ownBlock) (hat : v1.ownBlock = v.ownBlock ∨ ∃ b, v1.ownBlock = some b ∧ w.heap.size ≤ b) :
    w1.cell? ⟨x, 0, none⟩ = some v ∧ w1.frozen? ⟨x, 0, none⟩ = false ∧ RDc (w1.setCell ⟨x, 0, none⟩ v1) base x v1 (L ++ [s]) ∧ (∀ k, v1.ownBlock = some k → v.ownBlock = some k ∨ w.heap.size ≤ k) ∧ Kp (GR x v) w (w1.setCell ⟨x, 0, none⟩ v1) := by
  have hb1 : w1.heap[x]? = some (.cells #[v] 35 (0, 0)) := blk_grown h.blk hg (fun e => h.rowx e.symm)
  have hne : ∀ k, v1.ownBlock = some k → k ≠ x := fun k hk e => own_ne (Kd.own_of_R ho) hb1 (by decide) (by rw [hk, e])
  have hkp : Kp (GR x v) w w1 := ⟨hg.os, hg.tape, hg.output, hg.size, fun k hk hm => hg.block k hk (fun e => hm (.inr e.symm))⟩
  refine ⟨by rw [blk_cell hb1]; rfl, blk_frozen hb1 0, ⟨h.hx, by rw [blk_set hb1]; rfl, ?_⟩, ?_, hkp.set (.inl rfl) _⟩
  · exact Kd.R_of_own (own_move (Kd.own_of_R ho) (fun k hk => Below.heap_setCell w1 ⟨x, 0, none⟩ v1 k (hne k hk))) (fun _ _ => trivial)
  · intro k hk
    rcases hat with e | ⟨b, e, hb⟩
    · rw [e] at hk; exact .inl hk
    · rw [e] at hk
      injection hk with hk
      exact .inr (by omega)
end
set_option maxHeartbeats 1000000 in
theorem radd_old (w : World) (base x : Nat) (v : Value) (L : List ByteArray) (s : ByteArray) (j : Nat) (hj : L[j]? = some s) (hn : L.Nodup) (hl : L.length ≤ 1000000000) (h : RDc w base x v L) :
    Calls Try.prog 23 #[.pointer (some ⟨x, 0, none⟩), .string s] w fun e w' => e = .returned (.int .i64 (j : Int)) ∧ w = w' := by
  have c0 := h.c0
  obtain ⟨A, c, rfl, hc, hC⟩ := Kd.R_reads h.row
  have hjl := (List.getElem?_eq_some_iff.1 hj).1
  have HC := Aside0.mk hC
  have HN := Aside0.mk hn
  have HJ := Aside0.mk hj
  clear h hC hn hj
  obtain ⟨N, hN⟩ : ∃ N, L.length = N := ⟨_, rfl⟩
  rw [hN] at c0 hc hjl hl HC
  have HNN := Aside0.mk hN
  clear hN
  go_enter Try.func23, Try.ntmps23
  go_wp2
  go_loop [5] (fun v5 => ∃ i : Nat, i ≤ j ∧ v5 = .int .i64 (i : Int)) (fun v5 => j - (intOf v5).toNat)
  case atStart => exact ⟨0, Nat.zero_le _, rfl⟩
  case round =>
    obtain ⟨i, hi, rfl⟩ := hrel
    obtain ⟨ad, rfl, hx⟩ := Kd.at_string HC.out (i : Int) (by omega) (by omega)
    have hiN : (i : Int) < (N : Int) := by omega
    have hi2 : i < L.length := by rw [HNN.out]; omega
    have hj2 : j < L.length := by rw [HNN.out]; omega
    have hLj : L[j] = s := (List.getElem?_eq_some_iff.1 HJ.out).2
    obtain ⟨t, ht⟩ : ∃ t, L[i] = t := ⟨_, rfl⟩
    have hx2 : w.cell? (ad.add i) = some (.string t) := by
      rw [Int.toNat_natCast] at hx
      rw [hx, ← ht]; simp [rdOf, List.getD_eq_getElem?_getD, hi2]
    by_cases hij : i = j
    · subst hij
      have hts : t = s := by rw [← ht, hLj]
      subst hts
      clear hx ht hi2 hj2 hLj
      go_wp2
      go_ret
      exact ⟨rfl, rfl⟩
    · have hts : ¬ t = s := by
        intro e
        rw [← ht, ← hLj] at e
        exact hij ((List.getElem_inj HN.out).1 e)
      have hts2 := str_ne hts
      have hts3 : (t.toList == s.toList) = false := by rw [beq_eq_false_iff_ne]; exact hts2
      have hij2 : i < j := by omega
      clear hx ht hi2 hj2 hLj hts hij
      go_wp2
      go_round
      case rel => exact ⟨i + 1, by omega, by go_num⟩
      case measure => simp [intOf]; omega
set_option maxHeartbeats 1000000 in
theorem radd_new (w : World) (base x : Nat) (v : Value) (L : List ByteArray) (s : ByteArray) (hj : s ∉ L) (hl : L.length ≤ 1000000000) (hB : base ≤ w.heap.size) (h : RDc w base x v L) :
    Calls Try.prog 23 #[.pointer (some ⟨x, 0, none⟩), .string s] w fun e w' => e = .returned (.int .i64 (L.length : Int)) ∧ ∃ v1, RDc w' base x v1 (L ++ [s]) ∧ (∀ k, v1.ownBlock = some k → v.ownBlock = some k ∨ w.heap.size ≤ k) ∧ Kp (GR x v) w w' := by
  have c0 := h.c0
  obtain ⟨A, c, rfl, hc, hC⟩ := Kd.R_reads h.row
  have HC := Aside0.mk hC
  have HJ := Aside0.mk hj
  obtain ⟨N, hN⟩ : ∃ N, L.length = N := ⟨_, rfl⟩
  rw [hN] at c0 hc hl HC h
  have HI := Aside0.mk h
  have HNN := Aside0.mk hN
  clear h hC hj hN
  go_enter Try.func23, Try.ntmps23
  go_wp2
  go_loop [5] (fun v5 => ∃ i : Nat, i ≤ N ∧ v5 = .int .i64 (i : Int)) (fun v5 => N - (intOf v5).toNat)
  case atStart => exact ⟨0, Nat.zero_le _, rfl⟩
  case round =>
    obtain ⟨i, hi, rfl⟩ := hrel
    by_cases hiN : i < N
    · obtain ⟨ad, rfl, hx⟩ := Kd.at_string HC.out (i : Int) (by omega) (by omega)
      have hiN2 : (i : Int) < (N : Int) := by omega
      have hi2 : i < L.length := by rw [HNN.out]; omega
      obtain ⟨t, ht⟩ : ∃ t, L[i] = t := ⟨_, rfl⟩
      have hx2 : w.cell? (ad.add i) = some (.string t) := by
        rw [Int.toNat_natCast] at hx
        rw [hx, ← ht]; simp [rdOf, List.getD_eq_getElem?_getD, hi2]
      have hts : ¬ t = s := by
        intro e
        exact HJ.out (e ▸ ht ▸ List.getElem_mem hi2)
      have hts2 := str_ne hts
      have hts3 : (t.toList == s.toList) = false := by rw [beq_eq_false_iff_ne]; exact hts2
      clear hx ht hi2 hts
      go_wp2
      go_round
      case rel => exact ⟨i + 1, by omega, by go_num⟩
      case measure => simp [intOf]; omega
    · obtain rfl : i = N := by omega
      have hN2 : ¬ ((i : Int) < (i : Int)) := by omega
      clear hiN hi
      go_wp2_with ((with_reducible refine gate_builtin (b := .append) (xs := #[.tmp 29, .tmp 31]) rfl ?_); at_builtin; refine Kd.R_append Kd.string (w0 := w) base rfl (.tmp 29) (.tmp 31) 32 9 (.string ByteArray.empty) 16 rfl Try.underlying32 str_info rfl (by decide) (by omega) (.slice A i c) L s [.string s] (fun _ => True) (fun _ => False) rfl rfl rfl (fun _ hk => hk.elim) (fun _ _ => trivial) HI.out.row (Below.refl _ _) hB (by have := HNN.out; omega) ?_; intro va wa ho hb hg hat; obtain ⟨A', c', hva⟩ := Kd.R_slice ho; obtain ⟨N2, hN2⟩ : ∃ N2, (L ++ [s]).length = N2 := ⟨_, rfl⟩; rw [hN2] at hva; subst hva; obtain ⟨q0, q1, q2, q3, q4⟩ := HI.out.more ho hg hat; have HN2 := Aside0.mk hN2; have q5 : N2 = i + 1 := (by have := HNN.out; simp at hN2; omega); subst q5; have H2 := Aside0.mk q2; have H3 := Aside0.mk q3; have H4 := Aside0.mk q4; clear q2 q3 q4 ho hb hg hat hN2)
      go_ret
      exact ⟨congrArg (fun m : Nat => Ending.returned (.int .i64 (m : Int))) HNN.out.symm, _, H2.out, by rw [HNN.out]; exact H3.out, by rw [HNN.out]; exact H4.out⟩
end Go.Proofs.Ytehfgemoccjomaa
namespace Go.Proofs.Ytehfgemoccjomaa
open Go.RowKit Go.Proofs.YtehfgemoccjomaaW.PrintWords Go.Proofs.YtehfgemoccjomaaW.PrintLast Go.Proofs.YtehfgemoccjomaaW.PrintMore Hy

def RGood (w : World) (L : List ByteArray) (e : Ending) (w' : World) : Prop := ∃ x v, e = .returned (.tuple #[.pointer (some ⟨x, 0, none⟩), .bool true]) ∧ RDc w' w.heap.size x v L ∧ Below w.heap.size w w'
def RNo (w : World) (e : Ending) (w' : World) : Prop := e = .returned (.tuple #[.pointer none, .bool false]) ∧ Below w.heap.size w w'
theorem rgetv_any (s : ByteArray) (w : World) (hs : s.size ≤ 140737488351232) (r1 r2 r3 : Int) (h : rgv 0 (dec 0 (bs s)) = some (r1, r2, r3)) :
    Calls Try.prog 20 #[.string s, .int .i64 0] w fun e w' => e = .returned (.tuple #[.int .u64 r1, .int .i64 r2, .int .i64 r3]) ∧ Drawn0 w w' := by
  have := rgetv_f s 0 hs (Nat.zero_le _)
  rw [List.drop_zero, h] at this
  exact PDictReads.hygref2_GetVarint.calls 30 s 0 r1 r2 r3 w this
set_option maxHeartbeats 4000000 in
theorem rread_any (s : ByteArray) (w : World) (hs : s.size ≤ 4000000000) :
    Calls Try.prog 8 #[.string s] w fun e w' => (∃ L, isDictB s L ∧ RGood w L e w') ∨ ((∀ L, ¬ isDictB s L) ∧ RNo w e w') := by
  have HB := Aside0.mk (Below.refl w.heap.size w)
  cases hd : dec 0 (bs s) with
  | inl c =>
    have G := rgetv_any s w (by omega) 0 0 (c : Int) (by rw [hd]; rfl)
    have hc : ((c : Int) != 0) = true := by
      have : c ≠ 0 := fun e => dec_c0 _ 0 (by rw [hd, e])
      simp; omega
    have HN : Aside0 (∀ L, ¬ isDictB s L) := ⟨fun L h => by
      have h1 := h.1
      unfold dictL at h1
      rw [h1, dec_put _ (by have := h.2.2; omega)] at hd
      cases hd⟩
    clear hd
    go_enter Try.func8, Try.ntmps8
    go_wp2_with fail
    refine G.mono ?_
    rintro e w1 ⟨rfl, ⟨n1, rfl⟩⟩
    go_wp2_with fail
    refine start_ (n := 14) (S := fun w' => True) (ds := []) #[false, false, false, false, false, false, false, false, false, false, false, false, false, false] (by kernel_rfl) rfl rfl trivial (fun hHeld => ?_)
    refine pure_ (i := 0) (N := some 17) (v := ?_) (a' := ?_) #[true, false, false, false, false, false, false, false, false, false, false, false, false, false] rfl rfl (by kernel_rfl) (fun _ _ _ h => h) (Or.inl ⟨by rfl, ?_⟩) ?_ ?_
    rotate_left
    · intro w'
      go_simp
      with_reducible rfl
    rotate_left
    · simp only [Act.put, List.setIfInBounds_toArray, List.set_cons_zero, List.set_cons_succ]
      rfl
    refine pure_ (i := 1) (N := some 18) (v := ?_) (a' := ?_) #[true, true, false, false, false, false, false, false, false, false, false, false, false, false] rfl rfl (by kernel_rfl) (fun _ _ _ h => h) (Or.inl ⟨by rfl, ?_⟩) ?_ ?_
    rotate_left
    · intro w'
      go_simp
      with_reducible rfl
    rotate_left
    · simp only [Act.put, List.setIfInBounds_toArray, List.set_cons_zero, List.set_cons_succ]
      rfl
    refine pure_ (i := 2) (N := some 19) (v := ?_) (a' := ?_) #[true, true, true, false, false, false, false, false, false, false, false, false, false, false] rfl rfl (by kernel_rfl) (fun _ _ _ h => h) (Or.inl ⟨by rfl, ?_⟩) ?_ ?_
    rotate_left
    · intro w'
      go_simp
      with_reducible rfl
    rotate_left
    · simp only [Act.put, List.setIfInBounds_toArray, List.set_cons_zero, List.set_cons_succ]
      rfl
    refine pure_ (i := 3) (N := some 20) (v := undef) (a' := ?_) #[true, true, true, true, false, false, false, false, false, false, false, false, false, false] rfl rfl (by kernel_rfl) (fun _ _ _ h => h) (Or.inr ⟨by rfl, rfl⟩) ?_ ?_
    rotate_left
    · simp only [Act.put, List.setIfInBounds_toArray, List.set_cons_zero, List.set_cons_succ]
      rfl
    refine pure_ (i := 4) (N := some 21) (v := undef) (a' := ?_) #[true, true, true, true, true, false, false, false, false, false, false, false, false, false] rfl rfl (by kernel_rfl) (fun _ _ _ h => h) (Or.inr ⟨by rfl, rfl⟩) ?_ ?_
    rotate_left
    · simp only [Act.put, List.setIfInBounds_toArray, List.set_cons_zero, List.set_cons_succ]
      rfl
    refine pure_ (i := 5) (N := some 22) (v := ?_) (a' := ?_) #[true, true, true, true, true, true, false, false, false, false, false, false, false, false] rfl rfl (by kernel_rfl) (fun _ _ _ h => h) (Or.inl ⟨by rfl, ?_⟩) ?_ ?_
    rotate_left
    · intro w'
      go_simp
      with_reducible rfl
    rotate_left
    · simp only [Act.put, List.setIfInBounds_toArray, List.set_cons_zero, List.set_cons_succ]
      rfl
    refine pure_ (i := 6) (N := some 23) (v := ?_) (a' := ?_) #[true, true, true, true, true, true, true, false, false, false, false, false, false, false] rfl rfl (by kernel_rfl) (fun _ _ _ h => h) (Or.inl ⟨by rfl, ?_⟩) ?_ ?_
    rotate_left
    · intro w'
      go_simp
      with_reducible rfl
    rotate_left
    · simp only [Act.put, List.setIfInBounds_toArray, List.set_cons_zero, List.set_cons_succ]
      rfl
    refine pure_ (i := 7) (N := some 24) (v := undef) (a' := ?_) #[true, true, true, true, true, true, true, true, false, false, false, false, false, false] rfl rfl (by kernel_rfl) (fun _ _ _ h => h) (Or.inr ⟨by rfl, rfl⟩) ?_ ?_
    rotate_left
    · simp only [Act.put, List.setIfInBounds_toArray, List.set_cons_zero, List.set_cons_succ]
      rfl
    refine pure_ (i := 8) (N := some 25) (v := undef) (a' := ?_) #[true, true, true, true, true, true, true, true, true, false, false, false, false, false] rfl rfl (by kernel_rfl) (fun _ _ _ h => h) (Or.inr ⟨by rfl, rfl⟩) ?_ ?_
    rotate_left
    · simp only [Act.put, List.setIfInBounds_toArray, List.set_cons_zero, List.set_cons_succ]
      rfl
    refine pure_ (i := 9) (N := some 26) (v := undef) (a' := ?_) #[true, true, true, true, true, true, true, true, true, true, false, false, false, false] rfl rfl (by kernel_rfl) (fun _ _ _ h => h) (Or.inr ⟨by rfl, rfl⟩) ?_ ?_
    rotate_left
    · simp only [Act.put, List.setIfInBounds_toArray, List.set_cons_zero, List.set_cons_succ]
      rfl
    refine pure_ (i := 10) (N := some 27) (v := undef) (a' := ?_) #[true, true, true, true, true, true, true, true, true, true, true, false, false, false] rfl rfl (by kernel_rfl) (fun _ _ _ h => h) (Or.inr ⟨by rfl, rfl⟩) ?_ ?_
    rotate_left
    · simp only [Act.put, List.setIfInBounds_toArray, List.set_cons_zero, List.set_cons_succ]
      rfl
    refine pure_ (i := 11) (N := some 28) (v := undef) (a' := ?_) #[true, true, true, true, true, true, true, true, true, true, true, true, false, false] rfl rfl (by kernel_rfl) (fun _ _ _ h => h) (Or.inr ⟨by rfl, rfl⟩) ?_ ?_
    rotate_left
    · simp only [Act.put, List.setIfInBounds_toArray, List.set_cons_zero, List.set_cons_succ]
      rfl
    refine pure_ (i := 12) (N := some 29) (v := undef) (a' := ?_) #[true, true, true, true, true, true, true, true, true, true, true, true, true, false] rfl rfl (by kernel_rfl) (fun _ _ _ h => h) (Or.inr ⟨by rfl, rfl⟩) ?_ ?_
    rotate_left
    · simp only [Act.put, List.setIfInBounds_toArray, List.set_cons_zero, List.set_cons_succ]
      rfl
    refine pure_ (i := 13) (N := some 30) (v := ?_) (a' := ?_) #[true, true, true, true, true, true, true, true, true, true, true, true, true, true] rfl rfl (by kernel_rfl) (fun _ _ _ h => h) (Or.inl ⟨by rfl, ?_⟩) ?_ ?_
    rotate_left
    · intro w'
      go_simp
      with_reducible rfl
    rotate_left
    · simp only [Act.put, List.setIfInBounds_toArray, List.set_cons_zero, List.set_cons_succ]
      rfl
    refine done_ (by kernel_rfl) ?_
    go_wp2_with fail
    go_ret2
    exact .inr ⟨HN.out, rfl, (by repeat (first | (with_reducible exact HB.out) | apply below_alloc | apply pw_below_drewN | apply below_drew1))⟩
  | inr x =>
    obtain ⟨v, k⟩ := x
    have G := rgetv_any s w (by omega) (v : Int) (k : Int) 0 (by rw [hd]; simp [rgv])
    have hds := dec_some _ 0 v k (bs_ok s) (by omega) hd
    have hks : k ≤ s.size := by have := hds.2.1; rwa [bs_length] at this
    have HU : Aside0 (∀ L, isDictB s L → v = L.length ∧ k = (putL v).length ∧ bs s = putL v ++ joinL (bsL L) ∧ L.Nodup) := ⟨fun L h => by
      have h1 := h.1
      have h3 := h.2.2
      unfold dictL at h1
      rw [bsL_length] at h1 h3
      rw [h1, dec_put _ (by omega)] at hd
      simp only [Sum.inr.injEq, Prod.mk.injEq] at hd
      obtain ⟨rfl, rfl⟩ := hd
      exact ⟨rfl, rfl, h1, bsL_nodup.1 h.2.1⟩⟩
    have hv64 : v < 18446744073709551616 := hds.2.2.2.2
    have HBD : Aside0 (bs s = (bs s).take k ++ (bs s).drop k) := ⟨(List.take_append_drop k _).symm⟩
    have HCN : Aside0 (k = (putL v).length → bs s = putL v ++ (bs s).drop k) := ⟨fun e => dec_canon0 (bs s) v k (bs_ok s) hd e⟩
    clear hd hds
    by_cases hbig : 20000 < v
    · have HN : Aside0 (∀ L, ¬ isDictB s L) := ⟨fun L h => by
        have h2 := (HU.out L h).1
        have h3 := h.2.2
        rw [bsL_length] at h3; omega⟩
      go_enter Try.func8, Try.ntmps8
      go_wp2_with fail
      refine G.mono ?_
      rintro e w1 ⟨rfl, ⟨n1, rfl⟩⟩
      have hbig2 : decide ((v : Int) > 20000) = true := decide_eq_true (by omega)
      go_wp2_with fail
      refine start_ (n := 14) (S := fun w' => True) (ds := []) #[false, false, false, false, false, false, false, false, false, false, false, false, false, false] (by kernel_rfl) rfl rfl trivial (fun hHeld => ?_)
      refine pure_ (i := 0) (N := some 17) (v := ?_) (a' := ?_) #[true, false, false, false, false, false, false, false, false, false, false, false, false, false] rfl rfl (by kernel_rfl) (fun _ _ _ h => h) (Or.inl ⟨by rfl, ?_⟩) ?_ ?_
      rotate_left
      · intro w'
        go_simp
        with_reducible rfl
      rotate_left
      · simp only [Act.put, List.setIfInBounds_toArray, List.set_cons_zero, List.set_cons_succ]
        rfl
      refine pure_ (i := 1) (N := some 18) (v := ?_) (a' := ?_) #[true, true, false, false, false, false, false, false, false, false, false, false, false, false] rfl rfl (by kernel_rfl) (fun _ _ _ h => h) (Or.inl ⟨by rfl, ?_⟩) ?_ ?_
      rotate_left
      · intro w'
        go_simp
        with_reducible rfl
      rotate_left
      · simp only [Act.put, List.setIfInBounds_toArray, List.set_cons_zero, List.set_cons_succ]
        rfl
      refine pure_ (i := 2) (N := some 19) (v := ?_) (a' := ?_) #[true, true, true, false, false, false, false, false, false, false, false, false, false, false] rfl rfl (by kernel_rfl) (fun _ _ _ h => h) (Or.inl ⟨by rfl, ?_⟩) ?_ ?_
      rotate_left
      · intro w'
        go_simp
        with_reducible rfl
      rotate_left
      · simp only [Act.put, List.setIfInBounds_toArray, List.set_cons_zero, List.set_cons_succ]
        rfl
      refine pure_ (i := 3) (N := some 20) (v := ?_) (a' := ?_) #[true, true, true, true, false, false, false, false, false, false, false, false, false, false] rfl rfl (by kernel_rfl) (fun _ _ _ h => h) (Or.inl ⟨by rfl, ?_⟩) ?_ ?_
      rotate_left
      · intro w'
        go_simp
        with_reducible rfl
      rotate_left
      · simp only [Act.put, List.setIfInBounds_toArray, List.set_cons_zero, List.set_cons_succ]
        rfl
      refine pure_ (i := 4) (N := some 21) (v := ?_) (a' := ?_) #[true, true, true, true, true, false, false, false, false, false, false, false, false, false] rfl rfl (by kernel_rfl) (fun _ _ _ h => h) (Or.inl ⟨by rfl, ?_⟩) ?_ ?_
      rotate_left
      · intro w'
        go_simp
        with_reducible rfl
      rotate_left
      · simp only [Act.put, List.setIfInBounds_toArray, List.set_cons_zero, List.set_cons_succ]
        rfl
      refine pure_ (i := 5) (N := some 22) (v := ?_) (a' := ?_) #[true, true, true, true, true, true, false, false, false, false, false, false, false, false] rfl rfl (by kernel_rfl) (fun _ _ _ h => h) (Or.inl ⟨by rfl, ?_⟩) ?_ ?_
      rotate_left
      · intro w'
        go_simp
        with_reducible rfl
      rotate_left
      · simp only [Act.put, List.setIfInBounds_toArray, List.set_cons_zero, List.set_cons_succ]
        rfl
      refine pure_ (i := 6) (N := some 23) (v := ?_) (a' := ?_) #[true, true, true, true, true, true, true, false, false, false, false, false, false, false] rfl rfl (by kernel_rfl) (fun _ _ _ h => h) (Or.inl ⟨by rfl, ?_⟩) ?_ ?_
      rotate_left
      · intro w'
        go_simp
        with_reducible rfl
      rotate_left
      · simp only [Act.put, List.setIfInBounds_toArray, List.set_cons_zero, List.set_cons_succ]
        rfl
      refine pure_ (i := 7) (N := some 24) (v := undef) (a' := ?_) #[true, true, true, true, true, true, true, true, false, false, false, false, false, false] rfl rfl (by kernel_rfl) (fun _ _ _ h => h) (Or.inr ⟨by rfl, rfl⟩) ?_ ?_
      rotate_left
      · simp only [Act.put, List.setIfInBounds_toArray, List.set_cons_zero, List.set_cons_succ]
        rfl
      refine pure_ (i := 8) (N := some 25) (v := undef) (a' := ?_) #[true, true, true, true, true, true, true, true, true, false, false, false, false, false] rfl rfl (by kernel_rfl) (fun _ _ _ h => h) (Or.inr ⟨by rfl, rfl⟩) ?_ ?_
      rotate_left
      · simp only [Act.put, List.setIfInBounds_toArray, List.set_cons_zero, List.set_cons_succ]
        rfl
      refine pure_ (i := 9) (N := some 26) (v := undef) (a' := ?_) #[true, true, true, true, true, true, true, true, true, true, false, false, false, false] rfl rfl (by kernel_rfl) (fun _ _ _ h => h) (Or.inr ⟨by rfl, rfl⟩) ?_ ?_
      rotate_left
      · simp only [Act.put, List.setIfInBounds_toArray, List.set_cons_zero, List.set_cons_succ]
        rfl
      refine pure_ (i := 10) (N := some 27) (v := undef) (a' := ?_) #[true, true, true, true, true, true, true, true, true, true, true, false, false, false] rfl rfl (by kernel_rfl) (fun _ _ _ h => h) (Or.inr ⟨by rfl, rfl⟩) ?_ ?_
      rotate_left
      · simp only [Act.put, List.setIfInBounds_toArray, List.set_cons_zero, List.set_cons_succ]
        rfl
      refine pure_ (i := 11) (N := some 28) (v := undef) (a' := ?_) #[true, true, true, true, true, true, true, true, true, true, true, true, false, false] rfl rfl (by kernel_rfl) (fun _ _ _ h => h) (Or.inr ⟨by rfl, rfl⟩) ?_ ?_
      rotate_left
      · simp only [Act.put, List.setIfInBounds_toArray, List.set_cons_zero, List.set_cons_succ]
        rfl
      refine pure_ (i := 12) (N := some 29) (v := undef) (a' := ?_) #[true, true, true, true, true, true, true, true, true, true, true, true, true, false] rfl rfl (by kernel_rfl) (fun _ _ _ h => h) (Or.inr ⟨by rfl, rfl⟩) ?_ ?_
      rotate_left
      · simp only [Act.put, List.setIfInBounds_toArray, List.set_cons_zero, List.set_cons_succ]
        rfl
      refine pure_ (i := 13) (N := some 30) (v := ?_) (a' := ?_) #[true, true, true, true, true, true, true, true, true, true, true, true, true, true] rfl rfl (by kernel_rfl) (fun _ _ _ h => h) (Or.inl ⟨by rfl, ?_⟩) ?_ ?_
      rotate_left
      · intro w'
        go_simp
        with_reducible rfl
      rotate_left
      · simp only [Act.put, List.setIfInBounds_toArray, List.set_cons_zero, List.set_cons_succ]
        rfl
      refine done_ (by kernel_rfl) ?_
      go_wp2_with fail
      go_ret2
      exact .inr ⟨HN.out, rfl, (by repeat (first | (with_reducible exact HB.out) | apply below_alloc | apply pw_below_drewN | apply below_drew1))⟩
    · have hbig2 : decide ((20000 : Int) < (v : Int)) = false := decide_eq_false (by omega)
      have GV := fun w => vput_any v w hv64
      by_cases hk : k = (putL v).length
      · have he := HCN.out hk
        obtain ⟨P, hP⟩ : ∃ P, st (putL v) = P := ⟨_, rfl⟩
        have hx : s.extract 0 k = P := by
          apply bs_inj
          rw [← hP, bs_extract, List.drop_zero, bs_st _ (putL_ok _), hk]
          conv => lhs; rw [he, hk]
          rw [List.take_left]
        rw [hP] at GV
        have HX := Aside0.mk hx
        obtain ⟨q, hq⟩ : ∃ q, s.extract k s.size = q := ⟨_, rfl⟩
        have hbq : bs q = (bs s).drop k := by rw [← hq, bs_extract, List.take_of_length_le (by rw [bs_length]; omega)]
        have hqs : q.size ≤ s.size := by rw [← bs_length, hbq, List.length_drop, bs_length]; omega
        have HE : Aside0 (bs s = putL v ++ bs q) := ⟨by rw [hbq]; exact he⟩
        have HQ := Aside0.mk hq
        clear he hP hbq hq hx hk HCN HBD
        go_enter Try.func8, Try.ntmps8
        go_wp2_with fail
        refine G.mono ?_
        rintro e w1 ⟨rfl, ⟨n1, rfl⟩⟩
        have HB1 : Aside0 (Below w.heap.size w (w.drewN n1)) := ⟨(by repeat (first | (with_reducible exact HB.out) | apply below_alloc | apply pw_below_drewN | apply below_drew1))⟩
        have hx := HX.out
        go_wp2_with fail
        refine start_ (n := 14) (S := fun w' => True) (ds := []) #[false, false, false, false, false, false, false, false, false, false, false, false, false, false] (by kernel_rfl) rfl rfl trivial (fun hHeld => ?_)
        refine pure_ (i := 0) (N := some 17) (v := ?_) (a' := ?_) #[true, false, false, false, false, false, false, false, false, false, false, false, false, false] rfl rfl (by kernel_rfl) (fun _ _ _ h => h) (Or.inl ⟨by rfl, ?_⟩) ?_ ?_
        rotate_left
        · intro w'
          go_simp
          with_reducible rfl
        rotate_left
        · simp only [Act.put, List.setIfInBounds_toArray, List.set_cons_zero, List.set_cons_succ]
          rfl
        refine pure_ (i := 1) (N := some 18) (v := ?_) (a' := ?_) #[true, true, false, false, false, false, false, false, false, false, false, false, false, false] rfl rfl (by kernel_rfl) (fun _ _ _ h => h) (Or.inl ⟨by rfl, ?_⟩) ?_ ?_
        rotate_left
        · intro w'
          go_simp
          with_reducible rfl
        rotate_left
        · simp only [Act.put, List.setIfInBounds_toArray, List.set_cons_zero, List.set_cons_succ]
          rfl
        refine pure_ (i := 2) (N := some 19) (v := ?_) (a' := ?_) #[true, true, true, false, false, false, false, false, false, false, false, false, false, false] rfl rfl (by kernel_rfl) (fun _ _ _ h => h) (Or.inl ⟨by rfl, ?_⟩) ?_ ?_
        rotate_left
        · intro w'
          go_simp
          with_reducible rfl
        rotate_left
        · simp only [Act.put, List.setIfInBounds_toArray, List.set_cons_zero, List.set_cons_succ]
          rfl
        refine pure_ (i := 3) (N := some 20) (v := ?_) (a' := ?_) #[true, true, true, true, false, false, false, false, false, false, false, false, false, false] rfl rfl (by kernel_rfl) (fun _ _ _ h => h) (Or.inl ⟨by rfl, ?_⟩) ?_ ?_
        rotate_left
        · intro w'
          go_simp
          with_reducible rfl
        rotate_left
        · simp only [Act.put, List.setIfInBounds_toArray, List.set_cons_zero, List.set_cons_succ]
          rfl
        refine pure_ (i := 4) (N := some 21) (v := ?_) (a' := ?_) #[true, true, true, true, true, false, false, false, false, false, false, false, false, false] rfl rfl (by kernel_rfl) (fun _ _ _ h => h) (Or.inl ⟨by rfl, ?_⟩) ?_ ?_
        rotate_left
        · intro w'
          go_simp
          with_reducible rfl
        rotate_left
        · simp only [Act.put, List.setIfInBounds_toArray, List.set_cons_zero, List.set_cons_succ]
          rfl
        refine pure_ (i := 5) (N := some 22) (v := ?_) (a' := ?_) #[true, true, true, true, true, true, false, false, false, false, false, false, false, false] rfl rfl (by kernel_rfl) (fun _ _ _ h => h) (Or.inl ⟨by rfl, ?_⟩) ?_ ?_
        rotate_left
        · intro w'
          go_simp
          with_reducible rfl
        rotate_left
        · simp only [Act.put, List.setIfInBounds_toArray, List.set_cons_zero, List.set_cons_succ]
          rfl
        refine pure_ (i := 6) (N := some 23) (v := ?_) (a' := ?_) #[true, true, true, true, true, true, true, false, false, false, false, false, false, false] rfl rfl (by kernel_rfl) (fun _ _ _ h => h) (Or.inl ⟨by rfl, ?_⟩) ?_ ?_
        rotate_left
        · intro w'
          go_simp
          with_reducible rfl
        rotate_left
        · simp only [Act.put, List.setIfInBounds_toArray, List.set_cons_zero, List.set_cons_succ]
          rfl
        refine pure_ (i := 7) (N := some 24) (v := ?_) (a' := ?_) #[true, true, true, true, true, true, true, true, false, false, false, false, false, false] rfl rfl (by kernel_rfl) (fun _ _ _ h => h) (Or.inl ⟨by rfl, ?_⟩) ?_ ?_
        rotate_left
        · intro w'
          go_simp
          with_reducible rfl
        rotate_left
        · simp only [Act.put, List.setIfInBounds_toArray, List.set_cons_zero, List.set_cons_succ]
          rfl
        refine pure_ (i := 9) (N := some 26) (v := ?_) (a' := ?_) #[true, true, true, true, true, true, true, true, false, true, false, false, false, false] rfl rfl (by kernel_rfl) (fun _ _ _ h => h) (Or.inl ⟨by rfl, ?_⟩) ?_ ?_
        rotate_left
        · intro w'
          go_simp
          with_reducible rfl
        rotate_left
        · simp only [Act.put, List.setIfInBounds_toArray, List.set_cons_zero, List.set_cons_succ]
          rfl
        refine pure_ (i := 10) (N := some 27) (v := ?_) (a' := ?_) #[true, true, true, true, true, true, true, true, false, true, true, false, false, false] rfl rfl (by kernel_rfl) (fun _ _ _ h => h) (Or.inl ⟨by rfl, ?_⟩) ?_ ?_
        rotate_left
        · intro w'
          go_simp
          with_reducible rfl
        rotate_left
        · simp only [Act.put, List.setIfInBounds_toArray, List.set_cons_zero, List.set_cons_succ]
          rfl
        refine pure_ (i := 11) (N := some 28) (v := ?_) (a' := ?_) #[true, true, true, true, true, true, true, true, false, true, true, true, false, false] rfl rfl (by kernel_rfl) (fun _ _ _ h => h) (Or.inl ⟨by rfl, ?_⟩) ?_ ?_
        rotate_left
        · intro w'
          go_simp
          with_reducible rfl
        rotate_left
        · simp only [Act.put, List.setIfInBounds_toArray, List.set_cons_zero, List.set_cons_succ]
          rfl
        refine one_ (i := 8) (N := some 25) #[true, true, true, true, true, true, true, true, true, true, true, true, false, false] rfl rfl (by kernel_rfl) (by decide) (fun K hK => ?_)
        refine goes_ Try.func21 (by kernel_rfl) rfl #[.int .u64 (v : Int)] (by rfl) rfl rfl (by simp only [List.map_toArray, List.map_cons, List.map_nil]; rfl) ?_
        with_reducible refine (GV _).mono ?_
        rintro e w2 ⟨rfl, hb2⟩
        refine ⟨_, rfl, ?_⟩
        have HB2 := Aside0.mk (below_next (below_drew1 HB1.out) hb2)
        clear hb2
        refine hK.out _ _ trivial (fun hHeld => ?_)
        clear hK K
        refine norm_ (a' := ?_) ?_ ?_
        rotate_left
        · show Act.put _ (some 25) _ = _
          simp only [Act.put, List.setIfInBounds_toArray, List.set_cons_zero, List.set_cons_succ]
          rfl
        refine pure_ (i := 12) (N := some 29) (v := ?_) (a' := ?_) #[true, true, true, true, true, true, true, true, true, true, true, true, true, false] rfl rfl (by kernel_rfl) (fun _ _ _ h => h) (Or.inl ⟨by rfl, ?_⟩) ?_ ?_
        rotate_left
        · intro w'
          go_simp
          with_reducible rfl
        rotate_left
        · simp only [Act.put, List.setIfInBounds_toArray, List.set_cons_zero, List.set_cons_succ]
          rfl
        refine pure_ (i := 13) (N := some 30) (v := ?_) (a' := ?_) #[true, true, true, true, true, true, true, true, true, true, true, true, true, true] rfl rfl (by kernel_rfl) (fun _ _ _ h => h) (Or.inl ⟨by rfl, ?_⟩) ?_ ?_
        rotate_left
        · intro w'
          go_simp
          with_reducible rfl
        rotate_left
        · simp only [Act.put, List.setIfInBounds_toArray, List.set_cons_zero, List.set_cons_succ]
          rfl
        refine done_ (by kernel_rfl) ?_
        clear hx
        have hq := HQ.out
        go_wp2_with fail
        refine (rparts_any q _ (by omega)).mono ?_
        rintro e w3 ⟨v0, M, b, rfl, hM, hb3, hor⟩
        clear hq
        have HB3 := Aside0.mk (below_next HB2.out hb3)
        obtain ⟨A, c, rfl, hc, hC⟩ := Kd.R_reads hM
        clear hM hb3 GV
        rcases hor with ⟨rfl, hP⟩ | ⟨rfl, rfl, hno⟩
        · have HP := Aside0.mk hP
          have hqM : ∀ L, isDictB s L → L = M := fun L h => by
            have h3 := (HU.out L h).2.2.1
            rw [HE.out] at h3
            exact isParts_uniq (s := q) (by omega) (List.append_cancel_left h3) hP
          have HQM := Aside0.mk hqM
          clear hP hqM
          by_cases hlen : M.length = v
          · have HC := Aside0.mk hC
            have hcv : IntKind.u64.wrap (v : Int) = (v : Int) := by rw [wrap_u64]; omega
            have hne : ((v : Int) != (v : Int)) = false := by simp
            have HL := Aside0.mk hlen
            rw [hlen] at HC hc
            have HD : Aside0 (M.Nodup → isDictB s M) := ⟨fun hn => ⟨by unfold dictL; rw [bsL_length, hlen, HE.out, HP.out], bsL_nodup.2 hn, by rw [bsL_length]; omega⟩⟩
            have hRB : RDc (w3.alloc (.cells #[.slice none 0 0] 35 (0, 0))) w3.heap.size w3.heap.size (.slice none 0 0) [] := ⟨Nat.le_refl _, blk_new w3 _, Kd.R_nil _ _ _ _ _⟩
            have HRB := Aside0.mk hRB
            rw [hlen]
            clear hlen hC hRB
            go_wp2_with fail
            go_loopw [10] (fun v10 w' => ∃ (i : Nat) (vx : Value), i ≤ v ∧ v10 = .int .i64 (i : Int) ∧ Aside0 (RDc w' w3.heap.size w3.heap.size vx (M.take i)) ∧ Aside0 ((M.take i).Nodup) ∧ Aside0 (Below w3.heap.size w3 w')) (fun v10 _ => v - (intOf v10).toNat)
            case atStart => exact ⟨0, _, Nat.zero_le _, rfl, by rw [List.take_zero]; exact HRB, ⟨by simp⟩, ⟨(Below.refl _ _).alloc (Nat.le_refl _) _⟩⟩
            case round =>
              clear HRB
              obtain ⟨i, vx, hi, rfl, HR, HN, HBr⟩ := hrel
              by_cases hlt : i < v
              · have hlt2 : (i : Int) < (v : Int) := by omega
                obtain ⟨ad, rfl, hx⟩ := Kd.at_string HC.out (i : Int) (by omega) (by omega)
                have hi2 : i < M.length := by rw [HL.out]; omega
                obtain ⟨t, ht⟩ : ∃ t, M[i] = t := ⟨_, rfl⟩
                have hx2 : wr.cell? (ad.add i) = some (.string t) := by
                  rw [Int.toNat_natCast] at hx
                  refine pw_cell_below HBr.out ?_
                  rw [hx, ← ht]; simp [rdOf, List.getD_eq_getElem?_getD, hi2]
                have htl : (M.take i).length = i := by rw [List.length_take]; omega
                have HT : Aside0 (M.take i ++ [t] = M.take (i + 1)) := ⟨by rw [← ht, List.take_succ_eq_append_getElem hi2]⟩
                by_cases hm : t ∈ M.take i
                · obtain ⟨j, hj⟩ := List.mem_iff_getElem?.1 hm
                  have hji : j < i := by have := (List.getElem?_eq_some_iff.1 hj).1; omega
                  have G2 := radd_old wr w3.heap.size w3.heap.size vx (M.take i) t j hj HN.out (by omega) HR.out
                  have hne2 : ((j : Int) != (i : Int)) = true := by simp; omega
                  have HF : Aside0 (∀ L, ¬ isDictB s L) := ⟨fun L h => by
                    have e := HQM.out L h
                    have hn := (HU.out L h).2.2.2
                    rw [e] at hn
                    have h5 : M[j]? = some t := by rw [List.getElem?_take_of_lt hji] at hj; exact hj
                    have h6 : M[j]'(by omega) = M[i] := by rw [ht]; exact (List.getElem?_eq_some_iff.1 h5).2
                    have := (List.getElem_inj hn).1 h6
                    omega⟩
                  clear hj hm hx ht hi2 htl
                  go_wp2_with fail
                  refine G2.mono ?_
                  rintro e w5 ⟨rfl, rfl⟩
                  go_wp2_with fail
                  go_ret2
                  exact .inr ⟨HF.out, rfl, HB3.out.trans (HBr.out.mono HB3.out.size)⟩
                · have G2 := radd_new wr w3.heap.size w3.heap.size vx (M.take i) t hm (by omega) HBr.out.size HR.out
                  rw [htl] at G2
                  have hne2 : ((i : Int) != (i : Int)) = false := by simp
                  have HM := Aside0.mk hm
                  clear hx ht hi2 htl hm
                  go_wp2_with fail
                  refine G2.mono ?_
                  rintro e w5 ⟨rfl, v1, hr5, _, hk5⟩
                  rw [HT.out] at hr5
                  have HR5 := Aside0.mk hr5
                  have HB5 := Aside0.mk (HBr.out.trans (hk5.toBelow HBr.out.size (fun k hk => HR.out.ge k hk)))
                  have HN5 : Aside0 ((M.take (i + 1)).Nodup) := ⟨by
                    rw [← HT.out, List.nodup_append]
                    refine ⟨HN.out, by simp, fun a ha b hb => ?_⟩
                    rw [List.mem_singleton.1 hb]
                    rintro rfl
                    exact HM.out ha⟩
                  clear hr5 hk5 G2
                  go_wp2_with fail
                  go_roundw
                  case rel => exact ⟨i + 1, v1, by omega, by go_num, HR5, HN5, HB5⟩
                  case measure => simp [intOf]; omega
              · obtain rfl : i = v := by omega
                have hlt2 : ¬ ((i : Int) < (i : Int)) := by omega
                have hR := HR.out
                have hN := HN.out
                rw [← HL.out, List.take_length] at hR hN
                have HR2 := Aside0.mk hR
                have HN2 := Aside0.mk hN
                clear hR hN hlt hi
                go_wp2_with fail
                go_ret2
                exact .inl ⟨M, HD.out HN2.out, _, _, rfl, HR2.out.lower HB3.out.size, HB3.out.trans (HBr.out.mono HB3.out.size)⟩
          · have hcv : IntKind.u64.wrap (M.length : Int) = (M.length : Int) := by
              have h1 := hC.2.1
              rw [wrap_u64]; omega
            have hne : ((M.length : Int) != (v : Int)) = true := by simp; omega
            have HF : Aside0 (∀ L, ¬ isDictB s L) := ⟨fun L h => hlen (by rw [← HQM.out L h]; exact (HU.out L h).1.symm)⟩
            clear hlen hC
            go_wp2_with fail
            go_ret2
            exact .inr ⟨HF.out, rfl, HB3.out⟩
        · have HF : Aside0 (∀ L, ¬ isDictB s L) := ⟨fun L h => by
            have h3 := (HU.out L h).2.2.1
            rw [HE.out] at h3
            exact hno L (List.append_cancel_left h3)⟩
          clear hno hC
          go_wp2_with fail
          go_ret2
          exact .inr ⟨HF.out, rfl, HB3.out⟩
      · have HF : Aside0 (∀ L, ¬ isDictB s L) := ⟨fun L h => hk (HU.out L h).2.1⟩
        obtain ⟨P, hP⟩ : ∃ P, st (putL v) = P := ⟨_, rfl⟩
        have hx : ¬ P = s.extract 0 k := fun e => by
          have h1 := congrArg ByteArray.size e
          rw [← hP, st_size, ByteArray.size_extract] at h1
          exact hk (by omega)
        rw [hP] at GV
        obtain ⟨q, hq⟩ : ∃ q, s.extract 0 k = q := ⟨_, rfl⟩
        rw [hq] at hx
        have hx1 := str_ne hx
        have hx2 : (P.toList == q.toList) = false := by rw [beq_eq_false_iff_ne]; exact hx1
        have hx3 : (P.toList != q.toList) = true := by rw [bne, hx2]; rfl
        have HQ := Aside0.mk hq
        clear hP hq hx HCN HBD hk
        go_enter Try.func8, Try.ntmps8
        go_wp2_with fail
        refine G.mono ?_
        rintro e w1 ⟨rfl, ⟨n1, rfl⟩⟩
        have HB1 : Aside0 (Below w.heap.size w (w.drewN n1)) := ⟨(by repeat (first | (with_reducible exact HB.out) | apply below_alloc | apply pw_below_drewN | apply below_drew1))⟩
        have hq := HQ.out
        go_wp2_with fail
        refine start_ (n := 14) (S := fun w' => True) (ds := []) #[false, false, false, false, false, false, false, false, false, false, false, false, false, false] (by kernel_rfl) rfl rfl trivial (fun hHeld => ?_)
        refine pure_ (i := 0) (N := some 17) (v := ?_) (a' := ?_) #[true, false, false, false, false, false, false, false, false, false, false, false, false, false] rfl rfl (by kernel_rfl) (fun _ _ _ h => h) (Or.inl ⟨by rfl, ?_⟩) ?_ ?_
        rotate_left
        · intro w'
          go_simp
          with_reducible rfl
        rotate_left
        · simp only [Act.put, List.setIfInBounds_toArray, List.set_cons_zero, List.set_cons_succ]
          rfl
        refine pure_ (i := 1) (N := some 18) (v := ?_) (a' := ?_) #[true, true, false, false, false, false, false, false, false, false, false, false, false, false] rfl rfl (by kernel_rfl) (fun _ _ _ h => h) (Or.inl ⟨by rfl, ?_⟩) ?_ ?_
        rotate_left
        · intro w'
          go_simp
          with_reducible rfl
        rotate_left
        · simp only [Act.put, List.setIfInBounds_toArray, List.set_cons_zero, List.set_cons_succ]
          rfl
        refine pure_ (i := 2) (N := some 19) (v := ?_) (a' := ?_) #[true, true, true, false, false, false, false, false, false, false, false, false, false, false] rfl rfl (by kernel_rfl) (fun _ _ _ h => h) (Or.inl ⟨by rfl, ?_⟩) ?_ ?_
        rotate_left
        · intro w'
          go_simp
          with_reducible rfl
        rotate_left
        · simp only [Act.put, List.setIfInBounds_toArray, List.set_cons_zero, List.set_cons_succ]
          rfl
        refine pure_ (i := 3) (N := some 20) (v := ?_) (a' := ?_) #[true, true, true, true, false, false, false, false, false, false, false, false, false, false] rfl rfl (by kernel_rfl) (fun _ _ _ h => h) (Or.inl ⟨by rfl, ?_⟩) ?_ ?_
        rotate_left
        · intro w'
          go_simp
          with_reducible rfl
        rotate_left
        · simp only [Act.put, List.setIfInBounds_toArray, List.set_cons_zero, List.set_cons_succ]
          rfl
        refine pure_ (i := 4) (N := some 21) (v := ?_) (a' := ?_) #[true, true, true, true, true, false, false, false, false, false, false, false, false, false] rfl rfl (by kernel_rfl) (fun _ _ _ h => h) (Or.inl ⟨by rfl, ?_⟩) ?_ ?_
        rotate_left
        · intro w'
          go_simp
          with_reducible rfl
        rotate_left
        · simp only [Act.put, List.setIfInBounds_toArray, List.set_cons_zero, List.set_cons_succ]
          rfl
        refine pure_ (i := 5) (N := some 22) (v := ?_) (a' := ?_) #[true, true, true, true, true, true, false, false, false, false, false, false, false, false] rfl rfl (by kernel_rfl) (fun _ _ _ h => h) (Or.inl ⟨by rfl, ?_⟩) ?_ ?_
        rotate_left
        · intro w'
          go_simp
          with_reducible rfl
        rotate_left
        · simp only [Act.put, List.setIfInBounds_toArray, List.set_cons_zero, List.set_cons_succ]
          rfl
        refine pure_ (i := 6) (N := some 23) (v := ?_) (a' := ?_) #[true, true, true, true, true, true, true, false, false, false, false, false, false, false] rfl rfl (by kernel_rfl) (fun _ _ _ h => h) (Or.inl ⟨by rfl, ?_⟩) ?_ ?_
        rotate_left
        · intro w'
          go_simp
          with_reducible rfl
        rotate_left
        · simp only [Act.put, List.setIfInBounds_toArray, List.set_cons_zero, List.set_cons_succ]
          rfl
        refine pure_ (i := 7) (N := some 24) (v := ?_) (a' := ?_) #[true, true, true, true, true, true, true, true, false, false, false, false, false, false] rfl rfl (by kernel_rfl) (fun _ _ _ h => h) (Or.inl ⟨by rfl, ?_⟩) ?_ ?_
        rotate_left
        · intro w'
          go_simp
          with_reducible rfl
        rotate_left
        · simp only [Act.put, List.setIfInBounds_toArray, List.set_cons_zero, List.set_cons_succ]
          rfl
        refine pure_ (i := 9) (N := some 26) (v := ?_) (a' := ?_) #[true, true, true, true, true, true, true, true, false, true, false, false, false, false] rfl rfl (by kernel_rfl) (fun _ _ _ h => h) (Or.inl ⟨by rfl, ?_⟩) ?_ ?_
        rotate_left
        · intro w'
          go_simp
          with_reducible rfl
        rotate_left
        · simp only [Act.put, List.setIfInBounds_toArray, List.set_cons_zero, List.set_cons_succ]
          rfl
        refine pure_ (i := 10) (N := some 27) (v := ?_) (a' := ?_) #[true, true, true, true, true, true, true, true, false, true, true, false, false, false] rfl rfl (by kernel_rfl) (fun _ _ _ h => h) (Or.inl ⟨by rfl, ?_⟩) ?_ ?_
        rotate_left
        · intro w'
          go_simp
          with_reducible rfl
        rotate_left
        · simp only [Act.put, List.setIfInBounds_toArray, List.set_cons_zero, List.set_cons_succ]
          rfl
        refine pure_ (i := 11) (N := some 28) (v := ?_) (a' := ?_) #[true, true, true, true, true, true, true, true, false, true, true, true, false, false] rfl rfl (by kernel_rfl) (fun _ _ _ h => h) (Or.inl ⟨by rfl, ?_⟩) ?_ ?_
        rotate_left
        · intro w'
          go_simp
          with_reducible rfl
        rotate_left
        · simp only [Act.put, List.setIfInBounds_toArray, List.set_cons_zero, List.set_cons_succ]
          rfl
        refine one_ (i := 8) (N := some 25) #[true, true, true, true, true, true, true, true, true, true, true, true, false, false] rfl rfl (by kernel_rfl) (by decide) (fun K hK => ?_)
        refine goes_ Try.func21 (by kernel_rfl) rfl #[.int .u64 (v : Int)] (by rfl) rfl rfl (by simp only [List.map_toArray, List.map_cons, List.map_nil]; rfl) ?_
        with_reducible refine (GV _).mono ?_
        rintro e w2 ⟨rfl, hb2⟩
        refine ⟨_, rfl, ?_⟩
        have HB2 := Aside0.mk (below_next (below_drew1 HB1.out) hb2)
        clear hb2
        refine hK.out _ _ trivial (fun hHeld => ?_)
        clear hK K
        refine norm_ (a' := ?_) ?_ ?_
        rotate_left
        · show Act.put _ (some 25) _ = _
          simp only [Act.put, List.setIfInBounds_toArray, List.set_cons_zero, List.set_cons_succ]
          rfl
        refine pure_ (i := 12) (N := some 29) (v := ?_) (a' := ?_) #[true, true, true, true, true, true, true, true, true, true, true, true, true, false] rfl rfl (by kernel_rfl) (fun _ _ _ h => h) (Or.inl ⟨by rfl, ?_⟩) ?_ ?_
        rotate_left
        · intro w'
          go_simp
          with_reducible rfl
        rotate_left
        · simp only [Act.put, List.setIfInBounds_toArray, List.set_cons_zero, List.set_cons_succ]
          rfl
        refine pure_ (i := 13) (N := some 30) (v := ?_) (a' := ?_) #[true, true, true, true, true, true, true, true, true, true, true, true, true, true] rfl rfl (by kernel_rfl) (fun _ _ _ h => h) (Or.inl ⟨by rfl, ?_⟩) ?_ ?_
        rotate_left
        · intro w'
          go_simp
          with_reducible rfl
        rotate_left
        · simp only [Act.put, List.setIfInBounds_toArray, List.set_cons_zero, List.set_cons_succ]
          rfl
        refine done_ (by kernel_rfl) ?_
        clear hq
        go_wp2_with fail
        go_ret2
        exact .inr ⟨HF.out, rfl, HB2.out⟩
end Go.Proofs.Ytehfgemoccjomaa
