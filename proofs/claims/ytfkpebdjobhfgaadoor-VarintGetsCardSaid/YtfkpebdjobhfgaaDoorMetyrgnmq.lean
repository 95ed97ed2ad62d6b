import Derived.Test.YtfkpebdjobhfgaaDoorMsrebcxpn
import Derived.Test.YtfkpebdjobhfgaaDoorPVarintGetsx
import Derived.Test.YtfkpebdjobhfgaaDoorMuwvugjht
namespace Go.Proofs.YtfkpebdjobhfgaaDoor
open Go.RowKit Go.Proofs.YtfkpebdjobhfgaaDoorW.PrintWords Go.Proofs.YtfkpebdjobhfgaaDoorW.PrintLast Go.Proofs.YtfkpebdjobhfgaaDoorW.PrintMore Hy

theorem put300 : put 300 = ⟨#[172, 2]⟩ := by
  unfold put
  rw [show (300 : Int).toNat = 300 from rfl, putL_hi 300 (by omega), putL_lo (300 / 128) (by omega)]
  rfl
theorem var_first (w : World) : Calls Tryd.prog 8 #[] w fun e w' => e = .returned (.bool true) ∧ Below w.heap.size w w' := by
  have HB := Aside0.mk (Below.refl w.heap.size w)
  go_enter Tryd.func8, Tryd.ntmps8
  go_wp2_with (first
    | (go_at_call 10; refine (get_ok _ 0 300 2 _ (by omega) (by simp) (by decide) (by rfl)).mono ?_; rintro e wb ⟨rfl, hb⟩; have HBn : Aside0 (Below w.heap.size w wb) := ⟨below_next (by repeat (first | (with_reducible exact HB.out) | apply below_alloc | apply pw_below_drewN | apply below_drew1)) hb⟩; clear HB hb; have HB := HBn; clear HBn)
    | (go_at_call 9; refine (put_any 300 _ (by omega) (by omega)).mono ?_; rintro e wb ⟨rfl, hb⟩; have HBn : Aside0 (Below w.heap.size w wb) := ⟨below_next (by repeat (first | (with_reducible exact HB.out) | apply below_alloc | apply pw_below_drewN | apply below_drew1)) hb⟩; clear HB hb; have HB := HBn; clear HBn; rw [put300])
    | (go_at_call 21; refine (size_any 300 _ (by omega) (by omega)).mono ?_; rintro e wd ⟨rfl, ⟨nd, rfl⟩⟩; rw [put300])
    | (go_at_call 22; refine (zig_any (-2) _ (by omega) (by omega)).mono ?_; rintro e wd ⟨rfl, ⟨nd, rfl⟩⟩; rw [show zig (-2) = 3 from rfl])
    | (go_at_call 23; refine (zag_any 3 _ (by omega) (by omega)).mono ?_; rintro e wd ⟨rfl, ⟨nd, rfl⟩⟩; rw [show zag 3 = -2 from rfl]))
  go_ret
  exact ⟨rfl, (by repeat (first | (with_reducible exact HB.out) | apply below_alloc | apply pw_below_drewN | apply below_drew1))⟩
end Go.Proofs.YtfkpebdjobhfgaaDoor
namespace Go.Proofs.YtfkpebdjobhfgaaDoor
open Go.RowKit Go.Proofs.YtfkpebdjobhfgaaDoorW.PrintWords Go.Proofs.YtfkpebdjobhfgaaDoorW.PrintLast Go.Proofs.YtfkpebdjobhfgaaDoorW.PrintMore Hy
open PVarintGets (hygref2_GetVarint.l0 hygref2_GetVarint.j2 hygref2_GetVarint.j0 hygref2_GetVarint.f hygref2_GetVarint.calls)

/-! ### the document's own reading of a number -/
theorem and_u8_127 (x : Int) (h0 : 0 ≤ x) (h1 : x < 256) : Go.bits .and .u8 x 127 = x % 128 :=
  bits_mask .u8 8 (by decide) wraps_u8 7 (by decide) x h0 (by simpa using h1)
theorem rstep7 (c i acc : Nat) (hi : i ≤ 9) (hc : c < 256) (h9 : i = 9 → c ≤ 1) (ha : acc < 2 ^ (7 * i)) :
    Go.bits .or .u64 (acc : Int) (shl .u64 (IntKind.u64.wrap (Go.bits .and .u8 (c : Int) 127)) (IntKind.u64.wrap (wrap64 (7 * (i : Int))))) = ((acc + c % 128 * 2 ^ (7 * i) : Nat) : Int) := by
  have h := (step7 c i acc hi hc h9 ha).1
  rw [and_u8_127 _ (by omega) (by omega), ← andNot_u8_128 _ (by omega) (by omega), show IntKind.u64.wrap (wrap64 (7 * (i : Int))) = wrap64 (7 * (i : Int)) by rw [w7 i hi, wrap_u64]; omega]
  exact h
theorem rg_end (s : ByteArray) (a i k : Nat) (acc : Int) (hs : s.size ≤ 140737488351232) (hi : i ≤ 9) (hle : a + i = s.size) : hygref2_GetVarint.l0 (k + 1) s (a : Int) acc (i : Int) = some (0, 0, 1) := by
  have e0 : wrap64 ((a : Int) + (i : Int)) = ((a + i : Nat) : Int) := by unfold wrap64; omega
  have hx : (i : Int) < 10 := by omega
  have hA : ((a + i : Nat) : Int) ≥ (s.size : Int) := by omega
  rw [hygref2_GetVarint.l0, if_pos hx, e0, if_pos hA]
theorem rg_big (s : ByteArray) (a k : Nat) (acc : Int) (hs : s.size ≤ 140737488351232) (hlt : a + 9 < s.size) (c : Nat) (h2 : bt s ((a + 9 : Nat) : Int) = (c : Int)) (hc : 1 < c) : hygref2_GetVarint.l0 (k + 2) s (a : Int) acc ((9 : Nat) : Int) = some (0, 0, 4) := by
  have e0 : wrap64 ((a : Int) + ((9 : Nat) : Int)) = ((a + 9 : Nat) : Int) := by unfold wrap64; omega
  have hx : ((9 : Nat) : Int) < 10 := by omega
  have hA : ¬ ((a + 9 : Nat) : Int) ≥ (s.size : Int) := by omega
  have hB : 0 ≤ ((a + 9 : Nat) : Int) := by omega
  have hC : ((a + 9 : Nat) : Int) < (s.size : Int) := by omega
  have hD : ((9 : Nat) : Int) = 9 := rfl
  have hT : decide ((c : Int) > 1) = true := by simp; omega
  rw [hygref2_GetVarint.l0, if_pos hx, e0, if_neg hA, if_pos hB, if_pos hC, if_pos hD, h2, hygref2_GetVarint.j2, if_pos hT]
theorem rg_j2 (s : ByteArray) (a i acc k c : Nat) (x : Bool) (hx : x = false) (hs : s.size ≤ 140737488351232) (hi : i ≤ 9) (hlt : a + i < s.size) (ha : acc < 2 ^ (7 * i)) (h3 : c < 256) (h9 : i = 9 → c ≤ 1) :
    hygref2_GetVarint.j2 (k + 1) s (a : Int) (acc : Int) (i : Int) (c : Int) x = if c < 128 then some (((acc + c % 128 * 2 ^ (7 * i) : Nat) : Int), ((a + i + 1 : Nat) : Int), 0) else hygref2_GetVarint.l0 k s (a : Int) ((acc + c % 128 * 2 ^ (7 * i) : Nat) : Int) ((i + 1 : Nat) : Int) := by
  have hE : 0 ≤ IntKind.u64.wrap (wrap64 (7 * (i : Int))) := by rw [w7 i hi, wrap_u64]; omega
  have hT : ¬ (false = true) := by simp
  have e0 : wrap64 ((a : Int) + (i : Int)) = ((a + i : Nat) : Int) := by unfold wrap64; omega
  have e1 : wrap64 (((a + i : Nat) : Int) + 1) = ((a + i + 1 : Nat) : Int) := by unfold wrap64; omega
  have e2 : wrap64 ((i : Int) + 1) = ((i + 1 : Nat) : Int) := by unfold wrap64; omega
  have h7 := rstep7 c i acc hi h3 h9 ha
  subst hx
  rw [hygref2_GetVarint.j2, if_neg hT, if_pos hE, h7, e0, e1, e2]
  by_cases hc : c < 128
  · rw [if_pos hc, if_pos (by omega)]
  · rw [if_neg hc, if_neg (by omega)]
theorem rg_step (s : ByteArray) (a i acc k c : Nat) (hs : s.size ≤ 140737488351232) (hi : i ≤ 9) (hlt : a + i < s.size) (ha : acc < 2 ^ (7 * i)) (h2 : bt s ((a + i : Nat) : Int) = (c : Int)) (h3 : c < 256) (h9 : i = 9 → c ≤ 1) :
    hygref2_GetVarint.l0 (k + 2) s (a : Int) (acc : Int) (i : Int) = if c < 128 then some (((acc + c % 128 * 2 ^ (7 * i) : Nat) : Int), ((a + i + 1 : Nat) : Int), 0) else hygref2_GetVarint.l0 k s (a : Int) ((acc + c % 128 * 2 ^ (7 * i) : Nat) : Int) ((i + 1 : Nat) : Int) := by
  have e0 : wrap64 ((a : Int) + (i : Int)) = ((a + i : Nat) : Int) := by unfold wrap64; omega
  have hx : (i : Int) < 10 := by omega
  have hA : ¬ ((a + i : Nat) : Int) ≥ (s.size : Int) := by omega
  have hB : 0 ≤ ((a + i : Nat) : Int) := by omega
  have hC : ((a + i : Nat) : Int) < (s.size : Int) := by omega
  rw [hygref2_GetVarint.l0, if_pos hx, e0, if_neg hA, if_pos hB, if_pos hC, h2]
  by_cases hD : (i : Int) = 9
  · rw [if_pos hD, rg_j2 s a i acc k c _ (by have := h9 (by omega); simp; omega) hs hi hlt ha h3 h9]
  · rw [if_neg hD, rg_j2 s a i acc k c _ rfl hs hi hlt ha h3 h9]
/-- What the reading gives, as the document's function tells it. -/
def rgv (a : Nat) (x : Sum Nat (Nat × Nat)) : Option (Int × Int × Int) := match x with
  | .inl c => some (0, 0, (c : Int))
  | .inr (v, m) => some ((v : Int), ((a + m : Nat) : Int), 0)
def addv (n k : Nat) : Sum Nat (Nat × Nat) → Sum Nat (Nat × Nat)
  | .inl c => .inl c
  | .inr (v, m) => .inr (n + v, k + m)
theorem rgetv_l0 : ∀ (d : Nat) (s : ByteArray) (a i acc k : Nat), s.size ≤ 140737488351232 → i + d = 9 → a + i ≤ s.size → acc < 2 ^ (7 * i) → 2 * d + 2 ≤ k →
    hygref2_GetVarint.l0 k s (a : Int) (acc : Int) (i : Int) = rgv a (addv acc i (dec i ((bs s).drop (a + i)))) := by
  intro d
  induction d with
  | zero =>
    intro s a i acc k hs hi hle ha hk
    obtain rfl : i = 9 := by omega
    obtain ⟨k, rfl⟩ : ∃ m, k = m + 2 := ⟨k - 2, by omega⟩
    by_cases hlt : a + 9 < s.size
    · obtain ⟨c, r, h1, h2, h3, h4⟩ := bt_bs s (a + 9) hlt
      by_cases hc : 1 < c
      · rw [h1, dec_big c r hc, rg_big s a k acc hs hlt c h2 hc]; rfl
      · rw [h1, dec_end 9 c r (by omega) (by omega), rg_step s a 9 acc k c hs (by omega) hlt ha h2 h3 (fun _ => by omega), if_pos (by omega), Nat.mod_eq_of_lt (show c < 128 by omega)]
        rfl
    · rw [List.drop_of_length_le (by rw [bs_length]; omega), dec_nil, rg_end s a 9 (k + 1) acc hs (by omega) (by omega)]
      rfl
  | succ d ih =>
    intro s a i acc k hs hi hle ha hk
    obtain ⟨k, rfl⟩ : ∃ m, k = m + 2 := ⟨k - 2, by omega⟩
    by_cases hlt : a + i < s.size
    · obtain ⟨c, r, h1, h2, h3, h4⟩ := bt_bs s (a + i) hlt
      have hN : ¬ (i = 9 ∧ 1 < c) := by omega
      have hs8 := (step7 c i acc (by omega) h3 (fun h => by omega) ha).2.2 (by omega)
      rw [rg_step s a i acc k c hs (by omega) hlt ha h2 h3 (fun h => by omega)]
      by_cases hc : c < 128
      · rw [h1, dec_end i c r hN hc, if_pos hc, Nat.mod_eq_of_lt hc]; rfl
      · have IH := ih s a (i + 1) _ k hs (by omega) (by omega) hs8 (by omega)
        rw [show a + (i + 1) = a + i + 1 by omega, h4] at IH
        rw [if_neg hc, IH, h1, dec_on i c r hN hc, show c % 128 = c - 128 by omega]
        cases dec (i + 1) r with
        | inl x => rfl
        | inr x =>
          obtain ⟨v, m⟩ := x
          show some (((acc + (c - 128) * 2 ^ (7 * i) + v : Nat) : Int), ((a + (i + 1 + m) : Nat) : Int), (0 : Int)) = some (((acc + ((c - 128) * 2 ^ (7 * i) + v) : Nat) : Int), ((a + (i + (m + 1)) : Nat) : Int), 0)
          rw [Nat.add_assoc acc, Nat.add_assoc i, Nat.add_comm 1 m]
    · rw [List.drop_of_length_le (by rw [bs_length]; omega), dec_nil, rg_end s a i (k + 1) acc hs (by omega) (by omega)]
      rfl
theorem rgetv_f (s : ByteArray) (a : Nat) (hs : s.size ≤ 140737488351232) (ha : a ≤ s.size) : hygref2_GetVarint.f 30 s (a : Int) = rgv a (dec 0 ((bs s).drop a)) := by
  have := rgetv_l0 9 s a 0 0 29 hs rfl (by omega) (by simp) (by omega)
  unfold hygref2_GetVarint.f
  rw [if_neg (by omega), hygref2_GetVarint.j0, if_neg (by simp; omega)]
  rw [Nat.add_zero] at this
  refine this.trans ?_
  cases dec 0 ((bs s).drop a) with
  | inl c => rfl
  | inr x => obtain ⟨v, m⟩ := x; simp [addv]
theorem rgetv_range (s : ByteArray) (a : Int) (h : a < 0 ∨ s.size < a) : hygref2_GetVarint.f 30 s a = some (0, 0, 9) := by
  unfold hygref2_GetVarint.f
  by_cases h0 : a < 0
  · rw [if_pos h0, hygref2_GetVarint.j0, if_pos rfl]
  · rw [if_neg h0, hygref2_GetVarint.j0, if_pos (by simp; omega)]
end Go.Proofs.YtfkpebdjobhfgaaDoor
namespace Go.Proofs.YtfkpebdjobhfgaaDoor
open Go.RowKit Go.Proofs.YtfkpebdjobhfgaaDoorW.PrintWords Go.Proofs.YtfkpebdjobhfgaaDoorW.PrintLast Go.Proofs.YtfkpebdjobhfgaaDoorW.PrintMore Hy
open PVarintGets (hygref2_GetVarint.f hygref2_GetVarint.calls)

theorem IsE.drewN {w : World} {e : Err} {v : Value} (h : IsE w e v) (m : Nat) : IsE (w.drewN m) e v := h.below (pw_below_drewN (Below.refl _ _) m)
theorem IsE.alloc {w : World} {e : Err} {v : Value} (h : IsE w e v) (o : Obj) : IsE (w.alloc o) e v := h.below (below_alloc (Below.refl _ _) o)
theorem dec_code : ∀ (l : List Nat) (i c : Nat), dec i l = .inl c → c = 1 ∨ c = 4 := by
  intro l
  induction l with
  | nil => intro i c h; rw [dec_nil] at h; injection h with h; exact .inl h.symm
  | cons x r ih =>
    intro i c h
    by_cases h9 : i = 9 ∧ 1 < x
    · obtain ⟨rfl, hx⟩ := h9
      rw [dec_big x r hx] at h; injection h with h; exact .inr h.symm
    · by_cases hx : x < 128
      · rw [dec_end i x r h9 hx] at h; cases h
      · rw [dec_on i x r h9 hx] at h
        cases hd : dec (i + 1) r with
        | inl y => rw [hd] at h; injection h with h; subst h; exact ih _ _ hd
        | inr y => rw [hd] at h; cases h
theorem rget_any (s : ByteArray) (a : Int) (n p c : Int) (w : World) (h : hygref2_GetVarint.f 30 s a = some (n, p, c)) : Calls Tryd.prog 12 #[.string s, .int .i64 a] w fun e w' => e = .returned (.tuple #[.int .u64 n, .int .i64 p, .int .i64 c]) ∧ Drawn0 w w' :=
  hygref2_GetVarint.calls 30 s a n p c w h
/-- What a code at a place tells. -/
theorem codeAt (a c : Int) (u : Value) (w : World) (hg : Laid w) (hu : IsE w (.at_ a (.code c)) u) : Calls Tryd.prog 11 #[u] w fun e w' => e = .returned (.int .i64 c) ∧ Below w.heap.size w w' := code_any _ u w hg hu
theorem placeAt (a c : Int) (u : Value) (w : World) (hg : Laid w) (hu : IsE w (.at_ a (.code c)) u) : Calls Tryd.prog 13 #[u] w fun e w' => e = .returned (.tuple #[.int .i64 a, .bool true]) ∧ Below w.heap.size w w' := place_any _ u w hg hu
theorem codeNil (w : World) (hg : Laid w) : Calls Tryd.prog 11 #[.nilIface] w fun e w' => e = .returned (.int .i64 0) ∧ Below w.heap.size w w' := code_any .nil _ w hg rfl
theorem placeNil (w : World) (hg : Laid w) : Calls Tryd.prog 13 #[.nilIface] w fun e w' => e = .returned (.tuple #[.int .i64 0, .bool false]) ∧ Below w.heap.size w w' := place_any .nil _ w hg rfl
set_option maxHeartbeats 2000000 in
theorem vgets_err (s : ByteArray) (at_ : Int) (c : Int) (w : World) (hs : s.size ≤ 2000) (hc : c = 1 ∨ c = 4 ∨ c = 9)
    (A1 : ∀ w, Calls Tryd.prog 10 #[.string s, .int .i64 at_] w fun e w' => ∃ u, e = .returned (.tuple #[.int .u64 0, .int .i64 0, u]) ∧ IsE w' (.at_ at_ (.code c)) u ∧ Below w.heap.size w w')
    (A2 : ∀ w, Calls Tryd.prog 12 #[.string s, .int .i64 at_] w fun e w' => e = .returned (.tuple #[.int .u64 0, .int .i64 0, .int .i64 c]) ∧ Drawn0 w w') (hg : Laid w) :
    Calls Tryd.prog 4 #[.string s, .int .i64 at_] w fun e w' => e = .returned (.bool true) ∧ Below w.heap.size w w' := by
  have HB := Aside0.mk (Below.refl w.heap.size w)
  have HG := Aside0.mk hg
  clear hg
  rcases hc with rfl | rfl | rfl
  all_goals
    go_enter Tryd.func4, Tryd.ntmps4
    go_wp2_with (first
      | (go_at_call 8; refine (var_first _).mono ?_; rintro e wb ⟨rfl, hb⟩; have HBn : Aside0 (Below w.heap.size w wb) := ⟨below_next (by repeat (first | (with_reducible exact HB.out) | apply below_alloc | apply pw_below_drewN | apply below_drew1)) hb⟩; clear HB hb; have HB := HBn; clear HBn)
      | (go_at_call 10; refine (A1 _).mono ?_; rintro e wb ⟨u, rfl, hu, hb⟩; obtain ⟨uT, ux, rfl⟩ := hu.iface (by simp); have HBn : Aside0 (Below w.heap.size w wb) := ⟨below_next HB.out hb⟩; clear HB hb; have HB := HBn; clear HBn; have HU := Aside0.mk hu; clear hu)
      | (go_at_call 12; refine (A2 _).mono ?_; rintro e wd ⟨rfl, ⟨nd, rfl⟩⟩)
      | (go_at_call 11; refine (codeAt _ _ _ _ (HG.out.below (by repeat (first | (with_reducible exact HB.out) | apply below_alloc | apply pw_below_drewN | apply below_drew1))) (by repeat (first | exact HU.out | apply IsE.drewN))).mono ?_; rintro e wb ⟨rfl, hb⟩; have HV := Aside0.mk ((show IsE _ _ _ from (by repeat (first | exact HU.out | apply IsE.drewN))).below hb); have HBn : Aside0 (Below w.heap.size w wb) := ⟨below_next (by repeat (first | (with_reducible exact HB.out) | apply below_alloc | apply pw_below_drewN | apply below_drew1)) hb⟩; clear HB hb; have HB := HBn; clear HBn)
      | (go_at_call 13; refine (placeAt _ _ _ _ (HG.out.below (by repeat (first | (with_reducible exact HB.out) | apply below_alloc | apply pw_below_drewN | apply below_drew1))) HV.out).mono ?_; rintro e wb ⟨rfl, hb⟩; have HBn : Aside0 (Below w.heap.size w wb) := ⟨below_next (by repeat (first | (with_reducible exact HB.out) | apply below_alloc | apply pw_below_drewN | apply below_drew1)) hb⟩; clear HB hb; have HB := HBn; clear HBn))
    go_ret
    exact ⟨rfl, (by repeat (first | (with_reducible exact HB.out) | apply below_alloc | apply pw_below_drewN | apply below_drew1))⟩
set_option maxHeartbeats 2000000 in
theorem varintGets_walk (s : ByteArray) (at_ : Int) (w : World) (hs : s.size ≤ 140737488351232) (hm0 : -9223372036854775808 ≤ at_) (hm1 : at_ < 9223372036854775808) (hg : Laid w) :
    Calls Tryd.prog 4 #[.string s, .int .i64 at_] w fun e w' => e = .returned (.bool true) ∧ Below w.heap.size w w' := by
  by_cases hz : 2000 < s.size
  · have HB := Aside0.mk (Below.refl w.heap.size w)
    clear hg
    go_enter Tryd.func4, Tryd.ntmps4
    go_wp2_with (first
      | (go_at_call 8; refine (var_first _).mono ?_; rintro e wb ⟨rfl, hb⟩; have HBn : Aside0 (Below w.heap.size w wb) := ⟨below_next (by repeat (first | (with_reducible exact HB.out) | apply below_alloc | apply pw_below_drewN | apply below_drew1)) hb⟩; clear HB hb; have HB := HBn; clear HBn))
    go_ret
    exact ⟨rfl, (by repeat (first | (with_reducible exact HB.out) | apply below_alloc | apply pw_below_drewN | apply below_drew1))⟩
  · by_cases hr : at_ < 0 ∨ s.size < at_
    · exact vgets_err s at_ 9 w (by omega) (by omega) (fun w => get_range s at_ w hr) (fun w => rget_any s at_ _ _ _ w (rgetv_range s at_ hr)) hg
    · obtain ⟨a, rfl⟩ := Int.eq_ofNat_of_zero_le (show 0 ≤ at_ by omega)
      cases hd : dec 0 ((bs s).drop a) with
      | inl c =>
        have hc := dec_code _ _ _ hd
        exact vgets_err s a c w (by omega) (by omega) (fun w => get_err s a c w (by omega) (by omega) hs (by rw [Int.toNat_natCast]; exact hd)) (fun w => rget_any s a _ _ _ w (by rw [rgetv_f s a hs (by omega), hd]; rfl)) hg
      | inr x =>
        obtain ⟨v, m⟩ := x
        have HB := Aside0.mk (Below.refl w.heap.size w)
        have HG := Aside0.mk hg
        have A1 := fun w => get_ok s a v m w (by omega) (by omega) hs (by rw [Int.toNat_natCast]; exact hd)
        have A2 := fun w => rget_any s a (v : Int) ((a + m : Nat) : Int) 0 w (by rw [rgetv_f s a hs (by omega), hd]; rfl)
        rw [show ((a + m : Nat) : Int) = (a : Int) + (m : Int) by omega] at A2
        clear hg hd hs hm1
        go_enter Tryd.func4, Tryd.ntmps4
        go_wp2_with (first
          | (go_at_call 8; refine (var_first _).mono ?_; rintro e wb ⟨rfl, hb⟩; have HBn : Aside0 (Below w.heap.size w wb) := ⟨below_next (by repeat (first | (with_reducible exact HB.out) | apply below_alloc | apply pw_below_drewN | apply below_drew1)) hb⟩; clear HB hb; have HB := HBn; clear HBn)
          | (go_at_call 10; refine (A1 _).mono ?_; rintro e wb ⟨rfl, hb⟩; have HBn : Aside0 (Below w.heap.size w wb) := ⟨below_next (by repeat (first | (with_reducible exact HB.out) | apply below_alloc | apply pw_below_drewN | apply below_drew1)) hb⟩; clear HB hb; have HB := HBn; clear HBn)
          | (go_at_call 12; refine (A2 _).mono ?_; rintro e wd ⟨rfl, ⟨nd, rfl⟩⟩)
          | (go_at_call 11; refine (codeNil _ (HG.out.below (by repeat (first | (with_reducible exact HB.out) | apply below_alloc | apply pw_below_drewN | apply below_drew1)))).mono ?_; rintro e wb ⟨rfl, hb⟩; have HBn : Aside0 (Below w.heap.size w wb) := ⟨below_next (by repeat (first | (with_reducible exact HB.out) | apply below_alloc | apply pw_below_drewN | apply below_drew1)) hb⟩; clear HB hb; have HB := HBn; clear HBn)
          | (go_at_call 13; refine (placeNil _ (HG.out.below (by repeat (first | (with_reducible exact HB.out) | apply below_alloc | apply pw_below_drewN | apply below_drew1)))).mono ?_; rintro e wb ⟨rfl, hb⟩; have HBn : Aside0 (Below w.heap.size w wb) := ⟨below_next (by repeat (first | (with_reducible exact HB.out) | apply below_alloc | apply pw_below_drewN | apply below_drew1)) hb⟩; clear HB hb; have HB := HBn; clear HBn))
        go_ret
        exact ⟨rfl, (by repeat (first | (with_reducible exact HB.out) | apply below_alloc | apply pw_below_drewN | apply below_drew1))⟩
end Go.Proofs.YtfkpebdjobhfgaaDoor
