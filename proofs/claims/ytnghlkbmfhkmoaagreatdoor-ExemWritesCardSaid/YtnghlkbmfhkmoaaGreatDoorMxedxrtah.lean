import Derived.Test.YtnghlkbmfhkmoaaGreatDoorMtpcniofv
import Derived.Test.YtnghlkbmfhkmoaaGreatDoorMoilufkjf
namespace Go.Proofs.YtnghlkbmfhkmoaaGreatDoor
open Go.RowKit Go.Proofs.YtnghlkbmfhkmoaaGreatDoorW.PrintWords Go.Proofs.YtnghlkbmfhkmoaaGreatDoorW.PrintLast Go.Proofs.YtnghlkbmfhkmoaaGreatDoorW.PrintMore Hy
open CExr (hygref2_GetVarint.l0 hygref2_GetVarint.j2 hygref2_GetVarint.j0 hygref2_GetVarint.f hygref2_GetVarint.calls)
/-! ### the document's own reading of a number -/
theorem and_u8_127 (x : Int) (h0 : 0 ≤ x) (h1 : x < 256) : Go.bits .and .u8 x 127 = x % 128 :=
  bits_mask .u8 8 (by decide) wraps_u8 7 (by decide) x h0 (by simpa using h1)
theorem rstep7 (c i acc : Nat) (hi : i ≤ 9) (hc : c < 256) (h9 : i = 9 → c ≤ 1) (ha : acc < 2 ^ (7 * i)) :
    Go.bits .or .u64 (acc : Int) (shl .u64 (IntKind.u64.wrap (Go.bits .and .u8 (c : Int) 127)) (IntKind.u64.wrap (wrap64 (7 * (i : Int))))) = ((acc + c % 128 * 2 ^ (7 * i) : Nat) : Int) := by
  have h := (step7 c i acc hi hc h9 ha).1
  rw [and_u8_127 _ (by omega) (by omega), ← andNot_u8_128 _ (by omega) (by omega), show IntKind.u64.wrap (wrap64 (7 * (i : Int))) = wrap64 (7 * (i : Int)) by rw [w7 i hi, wrap_u64]; omega]
  exact h
theorem rg_end (s : ByteArray) (a i k : Nat) (acc : Int) (hs : s.size ≤ 140737488351232) (hi : i ≤ 9) (hle : a + i = s.size) : hygref2_GetVarint.l0 (k + 1) s (a : Int) acc (i : Int) = some (0, 0, 1) := by
  have e0 : wrap64 ((a : Int) + (i : Int)) = ((a + i : Nat) : Int) := by unfold wrap64; omega
  have hx : (i : Int) < 10 := by omega
  have hA : ((a + i : Nat) : Int) ≥ (s.size : Int) := by omega
  rw [hygref2_GetVarint.l0, if_pos hx, e0, if_pos hA]
theorem rg_big (s : ByteArray) (a k : Nat) (acc : Int) (hs : s.size ≤ 140737488351232) (hlt : a + 9 < s.size) (c : Nat) (h2 : bt s ((a + 9 : Nat) : Int) = (c : Int)) (hc : 1 < c) : hygref2_GetVarint.l0 (k + 2) s (a : Int) acc ((9 : Nat) : Int) = some (0, 0, 4) := by
  have e0 : wrap64 ((a : Int) + ((9 : Nat) : Int)) = ((a + 9 : Nat) : Int) := by unfold wrap64; omega
  have hx : ((9 : Nat) : Int) < 10 := by omega
  have hA : ¬ ((a + 9 : Nat) : Int) ≥ (s.size : Int) := by omega
  have hB : 0 ≤ ((a + 9 : Nat) : Int) := by omega
  have hC : ((a + 9 : Nat) : Int) < (s.size : Int) := by omega
  have hD : ((9 : Nat) : Int) = 9 := rfl
  have hT : decide ((c : Int) > 1) = true := by simp; omega
  rw [hygref2_GetVarint.l0, if_pos hx, e0, if_neg hA, if_pos hB, if_pos hC, if_pos hD, h2, hygref2_GetVarint.j2, if_pos hT]
theorem rg_j2 (s : ByteArray) (a i acc k c : Nat) (x : Bool) (hx : x = false) (hs : s.size ≤ 140737488351232) (hi : i ≤ 9) (hlt : a + i < s.size) (ha : acc < 2 ^ (7 * i)) (h3 : c < 256) (h9 : i = 9 → c ≤ 1) :
    hygref2_GetVarint.j2 (k + 1) s (a : Int) (acc : Int) (i : Int) (c : Int) x = if c < 128 then some (((acc + c % 128 * 2 ^ (7 * i) : Nat) : Int), ((a + i + 1 : Nat) : Int), 0) else hygref2_GetVarint.l0 k s (a : Int) ((acc + c % 128 * 2 ^ (7 * i) : Nat) : Int) ((i + 1 : Nat) : Int) := by
  have hE : 0 ≤ IntKind.u64.wrap (wrap64 (7 * (i : Int))) := by rw [w7 i hi, wrap_u64]; omega
  have hT : ¬ (false = true) := by simp
  have e0 : wrap64 ((a : Int) + (i : Int)) = ((a + i : Nat) : Int) := by unfold wrap64; omega
  have e1 : wrap64 (((a + i : Nat) : Int) + 1) = ((a + i + 1 : Nat) : Int) := by unfold wrap64; omega
  have e2 : wrap64 ((i : Int) + 1) = ((i + 1 : Nat) : Int) := by unfold wrap64; omega
  have h7 := rstep7 c i acc hi h3 h9 ha
  subst hx
  rw [hygref2_GetVarint.j2, if_neg hT, if_pos hE, h7, e0, e1, e2]
  by_cases hc : c < 128
  · rw [if_pos hc, if_pos (by omega)]
  · rw [if_neg hc, if_neg (by omega)]
theorem rg_step (s : ByteArray) (a i acc k c : Nat) (hs : s.size ≤ 140737488351232) (hi : i ≤ 9) (hlt : a + i < s.size) (ha : acc < 2 ^ (7 * i)) (h2 : bt s ((a + i : Nat) : Int) = (c : Int)) (h3 : c < 256) (h9 : i = 9 → c ≤ 1) :
    hygref2_GetVarint.l0 (k + 2) s (a : Int) (acc : Int) (i : Int) = if c < 128 then some (((acc + c % 128 * 2 ^ (7 * i) : Nat) : Int), ((a + i + 1 : Nat) : Int), 0) else hygref2_GetVarint.l0 k s (a : Int) ((acc + c % 128 * 2 ^ (7 * i) : Nat) : Int) ((i + 1 : Nat) : Int) := by
  have e0 : wrap64 ((a : Int) + (i : Int)) = ((a + i : Nat) : Int) := by unfold wrap64; omega
  have hx : (i : Int) < 10 := by omega
  have hA : ¬ ((a + i : Nat) : Int) ≥ (s.size : Int) := by omega
  have hB : 0 ≤ ((a + i : Nat) : Int) := by omega
  have hC : ((a + i : Nat) : Int) < (s.size : Int) := by omega
  rw [hygref2_GetVarint.l0, if_pos hx, e0, if_neg hA, if_pos hB, if_pos hC, h2]
  by_cases hD : (i : Int) = 9
  · rw [if_pos hD, rg_j2 s a i acc k c _ (by have := h9 (by omega); simp; omega) hs hi hlt ha h3 h9]
  · rw [if_neg hD, rg_j2 s a i acc k c _ rfl hs hi hlt ha h3 h9]
/-- What the reading gives, as the document's function tells it. -/
def rgv (a : Nat) (x : Sum Nat (Nat × Nat)) : Option (Int × Int × Int) := match x with
  | .inl c => some (0, 0, (c : Int))
  | .inr (v, m) => some ((v : Int), ((a + m : Nat) : Int), 0)
def addv (n k : Nat) : Sum Nat (Nat × Nat) → Sum Nat (Nat × Nat)
  | .inl c => .inl c
  | .inr (v, m) => .inr (n + v, k + m)
theorem rgetv_l0 : ∀ (d : Nat) (s : ByteArray) (a i acc k : Nat), s.size ≤ 140737488351232 → i + d = 9 → a + i ≤ s.size → acc < 2 ^ (7 * i) → 2 * d + 2 ≤ k →
    hygref2_GetVarint.l0 k s (a : Int) (acc : Int) (i : Int) = rgv a (addv acc i (dec i ((bs s).drop (a + i)))) := by
  intro d
  induction d with
  | zero =>
    intro s a i acc k hs hi hle ha hk
    obtain rfl : i = 9 := by omega
    obtain ⟨k, rfl⟩ : ∃ m, k = m + 2 := ⟨k - 2, by omega⟩
    by_cases hlt : a + 9 < s.size
    · obtain ⟨c, r, h1, h2, h3, h4⟩ := bt_bs s (a + 9) hlt
      by_cases hc : 1 < c
      · rw [h1, dec_big c r hc, rg_big s a k acc hs hlt c h2 hc]; rfl
      · rw [h1, dec_end 9 c r (by omega) (by omega), rg_step s a 9 acc k c hs (by omega) hlt ha h2 h3 (fun _ => by omega), if_pos (by omega), Nat.mod_eq_of_lt (show c < 128 by omega)]
        rfl
    · rw [List.drop_of_length_le (by rw [bs_length]; omega), dec_nil, rg_end s a 9 (k + 1) acc hs (by omega) (by omega)]
      rfl
  | succ d ih =>
    intro s a i acc k hs hi hle ha hk
    obtain ⟨k, rfl⟩ : ∃ m, k = m + 2 := ⟨k - 2, by omega⟩
    by_cases hlt : a + i < s.size
    · obtain ⟨c, r, h1, h2, h3, h4⟩ := bt_bs s (a + i) hlt
      have hN : ¬ (i = 9 ∧ 1 < c) := by omega
      have hs8 := (step7 c i acc (by omega) h3 (fun h => by omega) ha).2.2 (by omega)
      rw [rg_step s a i acc k c hs (by omega) hlt ha h2 h3 (fun h => by omega)]
      by_cases hc : c < 128
      · rw [h1, dec_end i c r hN hc, if_pos hc, Nat.mod_eq_of_lt hc]; rfl
      · have IH := ih s a (i + 1) _ k hs (by omega) (by omega) hs8 (by omega)
        rw [show a + (i + 1) = a + i + 1 by omega, h4] at IH
        rw [if_neg hc, IH, h1, dec_on i c r hN hc, show c % 128 = c - 128 by omega]
        cases dec (i + 1) r with
        | inl x => rfl
        | inr x =>
          obtain ⟨v, m⟩ := x
          show some (((acc + (c - 128) * 2 ^ (7 * i) + v : Nat) : Int), ((a + (i + 1 + m) : Nat) : Int), (0 : Int)) = some (((acc + ((c - 128) * 2 ^ (7 * i) + v) : Nat) : Int), ((a + (i + (m + 1)) : Nat) : Int), 0)
          rw [Nat.add_assoc acc, Nat.add_assoc i, Nat.add_comm 1 m]
    · rw [List.drop_of_length_le (by rw [bs_length]; omega), dec_nil, rg_end s a i (k + 1) acc hs (by omega) (by omega)]
      rfl
theorem rgetv_k (s : ByteArray) (a k : Nat) (hk : 21 ≤ k) (hs : s.size ≤ 140737488351232) (ha : a ≤ s.size) : hygref2_GetVarint.f k s (a : Int) = rgv a (dec 0 ((bs s).drop a)) := by
  obtain ⟨k, rfl⟩ : ∃ m, k = m + 1 := ⟨k - 1, by omega⟩
  have := rgetv_l0 9 s a 0 0 k hs rfl (by omega) (by simp) (by omega)
  unfold hygref2_GetVarint.f
  rw [if_neg (by omega), hygref2_GetVarint.j0, if_neg (by simp; omega)]
  rw [Nat.add_zero] at this
  refine this.trans ?_
  cases dec 0 ((bs s).drop a) with
  | inl c => rfl
  | inr x => obtain ⟨v, m⟩ := x; simp [addv]
theorem rgetv_f (s : ByteArray) (a : Nat) (hs : s.size ≤ 140737488351232) (ha : a ≤ s.size) : hygref2_GetVarint.f 30 s (a : Int) = rgv a (dec 0 ((bs s).drop a)) := rgetv_k s a 30 (by omega) hs ha
end Go.Proofs.YtnghlkbmfhkmoaaGreatDoor
namespace Go.Proofs.YtnghlkbmfhkmoaaGreatDoor
open Go.RowKit Go.Proofs.YtnghlkbmfhkmoaaGreatDoorW.PrintWords Go.Proofs.YtnghlkbmfhkmoaaGreatDoorW.PrintLast Go.Proofs.YtnghlkbmfhkmoaaGreatDoorW.PrintMore Hy
/-! ### the document's own: groups -/
theorem gr_ok (s : ByteArray) (a v k : Nat) (w : World) (hs : s.size ≤ 140737488351232) (ha : a ≤ s.size) (hd : dec 0 ((bs s).drop a) = .inr (v, k)) :
    Calls Tryz.prog 102 #[.string s, .int .i64 (a : Int)] w fun e w' => e = .returned (.tuple #[.int .u64 (v : Int), .int .i64 ((a + k : Nat) : Int), .int .i64 0]) ∧ Drawn0 w w' := by
  refine CExr.hygref2_GetVarint.calls 30 s a v ((a + k : Nat) : Int) 0 w ?_
  have h := rgetv_f s a hs ha
  rw [hd] at h
  exact h
theorem gr_bad (s : ByteArray) (a c : Nat) (w : World) (hs : s.size ≤ 140737488351232) (ha : a ≤ s.size) (hd : dec 0 ((bs s).drop a) = .inl c) :
    Calls Tryz.prog 102 #[.string s, .int .i64 (a : Int)] w fun e w' => e = .returned (.tuple #[.int .u64 0, .int .i64 0, .int .i64 (c : Int)]) ∧ Drawn0 w w' := by
  refine CExr.hygref2_GetVarint.calls 30 s a 0 0 (c : Int) w ?_
  have h := rgetv_f s a hs ha
  rw [hd] at h
  exact h
theorem tag_dec {b : List Nat} {v k : Nat} (hd : dec 0 b = .inr (v, k)) : tagL b = if 1 ≤ v / 8 ∧ v / 8 < 536870912 then some (v / 8, v % 8, k) else none := by unfold tagL; rw [hd]
theorem grp_end4 {b : List Nat} {d n v k : Nat} (hd : dec 0 b = .inr (v, k)) (h4 : v % 8 = 4) (hn1 : 1 ≤ n) (hn2 : n < 536870912) : grp d n b = if v / 8 = n then some k else none := by
  have ht := tag_dec hd
  by_cases hv : 1 ≤ v / 8 ∧ v / 8 < 536870912
  · rw [if_pos hv, h4] at ht
    exact grp_end ht
  · rw [if_neg hv] at ht
    rw [grp_none ht, if_neg (by omega)]
theorem grp_rec_none {b : List Nat} {d n v k : Nat} (hd : dec 0 b = .inr (v, k)) (h4 : v % 8 ≠ 4) (hr : recL d b = none) : grp d n b = none := by
  have ht := tag_dec hd
  by_cases hv : 1 ≤ v / 8 ∧ v / 8 < 536870912
  · rw [if_pos hv] at ht
    rw [rec_rst ht] at hr
    cases hs : rst d (v / 8) (v % 8) (b.drop k) with
    | none => exact grp_fall ht h4 hs
    | some k2 => rw [hs] at hr; cases hr
  · rw [if_neg hv] at ht
    exact grp_none ht
theorem grp_rec_some {b : List Nat} {d n v k kk : Nat} {R : RecL} (hd : dec 0 b = .inr (v, k)) (h4 : v % 8 ≠ 4) (hr : recL d b = some (R, kk)) : grp d n b = (grp d n (b.drop kk)).map (kk + ·) := by
  have ht := tag_dec hd
  by_cases hv : 1 ≤ v / 8 ∧ v / 8 < 536870912
  · rw [if_pos hv] at ht
    rw [rec_rst ht] at hr
    cases hs : rst d (v / 8) (v % 8) (b.drop k) with
    | none => rw [hs] at hr; cases hr
    | some k2 =>
      rw [hs] at hr
      simp only [Option.map_some, Option.some.injEq, Prod.mk.injEq] at hr
      obtain ⟨_, rfl⟩ := hr
      exact grp_on ht h4 hs
  · rw [if_neg hv] at ht
    rw [rec_none ht] at hr; cases hr
/-- The document's record: its block. -/
def XR (w : World) (x : Nat) (n t N : Int) (S raw : ByteArray) : Prop := w.heap[x]? = some (.cells #[.int .i64 n, .int .i64 t, .int .u64 N, .string S, .string raw] 83 (0, 0))
section
variable {w w' : World} {x : Nat} {n t N : Int} {S raw : ByteArray}
theorem XR.c0 (h : XR w x n t N S raw) : w.cell? ⟨x, 0, none⟩ = some (.int .i64 n) := by rw [blk_cell h]; rfl
theorem XR.c1 (h : XR w x n t N S raw) : w.cell? ⟨x, 1, none⟩ = some (.int .i64 t) := by rw [blk_cell h]; rfl
theorem XR.c2 (h : XR w x n t N S raw) : w.cell? ⟨x, 2, none⟩ = some (.int .u64 N) := by rw [blk_cell h]; rfl
theorem XR.c3 (h : XR w x n t N S raw) : w.cell? ⟨x, 3, none⟩ = some (.string S) := by rw [blk_cell h]; rfl
theorem XR.c4 (h : XR w x n t N S raw) : w.cell? ⟨x, 4, none⟩ = some (.string raw) := by rw [blk_cell h]; rfl
theorem XR.fz (h : XR w x n t N S raw) (i : Nat) : w.frozen? ⟨x, i, none⟩ = false := blk_frozen h i
end
/-- The document's Next at a place. -/
def NextAt (s : ByteArray) (b : Nat) (dp : Int) : Prop := ∀ W : World,
  (∀ R k, recL dp.toNat ((bs s).drop b) = some (R, k) → Calls Tryz.prog 85 #[.string s, .int .i64 (b : Int), .int .i64 dp] W fun e w' => e = .returned (.tuple #[recV (R.num : Int) (R.type : Int) (R.n : Int) (st R.s) (st R.raw), .int .i64 ((b + k : Nat) : Int), .bool true]) ∧ Below W.heap.size W w') ∧
  (recL dp.toNat ((bs s).drop b) = none → Calls Tryz.prog 85 #[.string s, .int .i64 (b : Int), .int .i64 dp] W fun e w' => e = .returned (.tuple #[recV 0 0 0 ByteArray.empty ByteArray.empty, .int .i64 0, .bool false]) ∧ Below W.heap.size W w')
def GrR (_s : ByteArray) (a : Nat) (o : Option Nat) (w : World) (e : Ending) (w' : World) : Prop :=
  (∀ k, o = some k → e = .returned (.tuple #[.int .i64 ((a + k : Nat) : Int), .bool true])) ∧ (o = none → ∃ q : Int, e = .returned (.tuple #[.int .i64 q, .bool false])) ∧ Below w.heap.size w w'
theorem rgroup_low (w : World) (s : ByteArray) (a n : Nat) (dp : Int) (hdp : dp < 1) :
    Calls Tryz.prog 104 #[.string s, .int .i64 (a : Int), .int .i64 (n : Int), .int .i64 dp] w (GrR s a none w) := by
  go_enter Tryz.func104, Tryz.ntmps104
  go_wp2_with fail
  go_ret2
  exact ⟨fun k e => (by cases e), fun _ => ⟨0, rfl⟩, Below.refl _ _⟩
set_option maxHeartbeats 4000000 in
set_option maxRecDepth 100000 in
theorem rgroup_go (w : World) (s : ByteArray) (a n : Nat) (d : Int) (hs : s.size ≤ 140737488351232) (ha : a ≤ s.size) (hn1 : 1 ≤ n) (hn2 : n < 536870912) (hd0 : 0 ≤ d) (hd1 : d + 1 < 9223372036854775808) (HN : ∀ b, a ≤ b → b ≤ s.size → NextAt s b d) :
    Calls Tryz.prog 104 #[.string s, .int .i64 (a : Int), .int .i64 (n : Int), .int .i64 (d + 1)] w (GrR s a (grp d.toNat n ((bs s).drop a)) w) := by
  have HB := Aside0.mk (Below.refl w.heap.size w)
  have HNN := Aside0.mk HN
  have hdp : ¬ d + 1 < 1 := by omega
  have HA0 := Aside0.mk (show grp d.toNat n ((bs s).drop a) = (grp d.toNat n ((bs s).drop a)).map ((a - a) + ·) by rw [Nat.sub_self]; cases grp d.toNat n ((bs s).drop a) <;> simp)
  have hwn : IntKind.u64.wrap (n : Int) = (n : Int) := by rw [wrap_u64]; omega
  clear HN
  go_enter Tryz.func104, Tryz.ntmps104
  go_wp2_with fail
  go_loopw [1] (fun v1 w' => ∃ b : Nat, v1 = .int .i64 (b : Int) ∧ a ≤ b ∧ b ≤ s.size ∧ Aside0 (Below w.heap.size w w') ∧ Aside0 (grp d.toNat n ((bs s).drop a) = (grp d.toNat n ((bs s).drop b)).map ((b - a) + ·))) (fun v1 _ => s.size - (intOf v1).toNat)
  case atStart => exact ⟨a, rfl, Nat.le_refl _, ha, HB, HA0⟩
  case round =>
    clear HB HA0
    obtain ⟨b, rfl, hab, hb, HB, HA⟩ := hrel
    cases hd : dec 0 ((bs s).drop b) with
    | inl c =>
      have HN := Aside0.mk (show grp d.toNat n ((bs s).drop a) = none by rw [HA.out, grp_none (by unfold tagL; rw [hd])]; rfl)
      have hc := dec_code _ _ _ hd
      have hc0 : ¬ ((c : Int) = 0) := by omega
      have G := gr_bad s b c wr hs hb hd
      clear hc hd
      go_wp2_with fail
      refine G.mono ?_
      rintro e wd ⟨rfl, ⟨nd, rfl⟩⟩
      have HB2 : Aside0 (Below w.heap.size w (wr.drewN nd)) := ⟨by apply pw_below_drewN; exact HB.out⟩
      clear G
      go_wp2_with fail
      go_ret2
      exact ⟨fun k e => absurd (e.symm.trans HN.out) (by simp), fun _ => ⟨0, rfl⟩, HB2.out⟩
    | inr q =>
      obtain ⟨v, k⟩ := q
      have hv := (dec_some _ 0 v k (okB_drop (bs_ok s) _) (by omega) hd).2.2.2.2
      have hk := dec_pos _ _ _ _ hd
      rw [List.length_drop, bs_length] at hk
      have G := gr_ok s b v k wr hs hb hd
      have e7 : Go.bits .and .u64 (v : Int) 7 = ((v % 8 : Nat) : Int) := and7 v hv
      by_cases h4 : v % 8 = 4
      · have HE := Aside0.mk (show grp d.toNat n ((bs s).drop a) = (if v / 8 = n then some k else none).map ((b - a) + ·) by rw [HA.out, grp_end4 hd h4 hn1 hn2])
        obtain ⟨m, hm⟩ : ∃ m, v / 8 = m := ⟨_, rfl⟩
        have e3 : (v : Int) / 8 = (m : Int) := by omega
        rw [h4] at e7
        rw [show ((4 : Nat) : Int) = 4 from rfl] at e7
        rw [hm] at HE
        clear hd h4 hm
        go_wp2_with fail
        refine G.mono ?_
        rintro e wd ⟨rfl, ⟨nd, rfl⟩⟩
        have HB2 : Aside0 (Below w.heap.size w (wr.drewN nd)) := ⟨by apply pw_below_drewN; exact HB.out⟩
        clear G
        by_cases hmn : m = n
        · have hmi : (m : Int) = (n : Int) := by omega
          have hdec : decide ((m : Int) = (n : Int)) = true := decide_eq_true hmi
          go_wp2_with fail
          go_ret2
          have h2 := HE.out
          rw [if_pos hmn] at h2
          refine ⟨fun k0 e => ?_, fun e => absurd (e.symm.trans h2) (by simp), HB2.out⟩
          have e2 : k0 = b - a + k := by have := e.symm.trans h2; injection this
          rw [e2, show a + (b - a + k) = b + k by omega]
          simp
        · have hmi : ¬ (m : Int) = (n : Int) := by omega
          go_wp2_with fail
          go_ret2
          have h2 := HE.out
          rw [if_neg hmn] at h2
          exact ⟨fun k e => absurd (e.symm.trans h2) (by simp), fun _ => ⟨_, by simp [hmi]; rfl⟩, HB2.out⟩
      · have h4i : ¬ (((v % 8 : Nat) : Int) = 4) := by omega
        have hN := HNN.out b hab hb
        cases hr : recL d.toNat ((bs s).drop b) with
        | none =>
          have HE := Aside0.mk (show grp d.toNat n ((bs s).drop a) = none by rw [HA.out, grp_rec_none hd h4 hr]; rfl)
          have N := fun W => (hN W).2 hr
          clear hd h4 hr hN
          generalize v % 8 = t8 at *
          go_wp2_with fail
          refine G.mono ?_
          rintro e wd ⟨rfl, ⟨nd, rfl⟩⟩
          have HB2 : Aside0 (Below w.heap.size w (wr.drewN nd)) := ⟨by apply pw_below_drewN; exact HB.out⟩
          clear G
          go_wp2_with fail
          refine (N _).mono ?_
          rintro e w3 ⟨rfl, hb3⟩
          unfold recV
          have HB3 := Aside0.mk (below_next HB2.out hb3)
          clear N hb3
          go_wp2_with (first
            | ((with_reducible refine gate_dst (N := 13) rfl ?_); refine box_event ?hg (N := 13) ?hd (cs := #[.int .i64 0, .int .i64 0, .int .u64 0, .string ⟨#[]⟩, .string ⟨#[]⟩]) (t := 83) ?hr ?_; (case hd => rfl); (case hg => rfl); (case hr => first | (go_simp; done) | (go_simp; rfl)); intro x hx w4 hx4 hb4
               have hx4 : XR w4 x 0 0 0 ByteArray.empty ByteArray.empty := hx4
               have hbx : w.heap.size ≤ x := by have := HB3.out.size; omega
               clear hx
               have HB4 := Aside0.mk (HB3.out.trans (hb4.mono HB3.out.size))
               have z0 := hx4.c0
               have z1 := hx4.c1
               have z2 := hx4.c2
               have z3 := hx4.c3
               have z4 := hx4.c4
               have zf := fun i => hx4.fz i
               have k5 := kp_all w4 x (.int .i64 0) (.int .i64 0) (.int .u64 0) (.string ByteArray.empty) (.string ByteArray.empty)
               have HB5 := Aside0.mk (HB4.out.trans (k5.toBelow HB4.out.size (fun k e => by rw [e]; exact hbx)))
               clear hx4 k5 hb4))
          go_ret2
          exact ⟨fun k e => absurd (e.symm.trans HE.out) (by simp), fun _ => ⟨0, rfl⟩, HB5.out⟩
        | some q =>
          obtain ⟨R, kk⟩ := q
          obtain ⟨hk1, hk2, _, _⟩ := recL_le hr
          rw [List.length_drop, bs_length] at hk2
          have HE := Aside0.mk (show grp d.toNat n ((bs s).drop a) = (grp d.toNat n ((bs s).drop (b + kk))).map ((b + kk - a) + ·) by
            rw [HA.out, grp_rec_some hd h4 hr, List.drop_drop, Option.map_map]
            congr 1
            funext q
            show b - a + (kk + q) = b + kk - a + q
            omega)
          have N := fun W => (hN W).1 R kk hr
          generalize (R.num : Int) = f0 at *
          generalize (R.type : Int) = f1 at *
          generalize (R.n : Int) = f2 at *
          generalize st R.s = f3 at *
          generalize st R.raw = f4 at *
          clear hd h4 hr hN
          generalize v % 8 = t8 at *
          go_wp2_with fail
          refine G.mono ?_
          rintro e wd ⟨rfl, ⟨nd, rfl⟩⟩
          have HB2 : Aside0 (Below w.heap.size w (wr.drewN nd)) := ⟨by apply pw_below_drewN; exact HB.out⟩
          clear G
          go_wp2_with fail
          refine (N _).mono ?_
          rintro e w3 ⟨rfl, hb3⟩
          unfold recV
          have HB3 := Aside0.mk (below_next HB2.out hb3)
          clear N hb3
          go_wp2_with (first
            | ((with_reducible refine gate_dst (N := 13) rfl ?_); refine box_event ?hg (N := 13) ?hd (cs := #[.int .i64 0, .int .i64 0, .int .u64 0, .string ⟨#[]⟩, .string ⟨#[]⟩]) (t := 83) ?hr ?_; (case hd => rfl); (case hg => rfl); (case hr => first | (go_simp; done) | (go_simp; rfl)); intro x hx w4 hx4 hb4
               have hx4 : XR w4 x 0 0 0 ByteArray.empty ByteArray.empty := hx4
               have hbx : w.heap.size ≤ x := by have := HB3.out.size; omega
               clear hx
               have HB4 := Aside0.mk (HB3.out.trans (hb4.mono HB3.out.size))
               have z0 := hx4.c0
               have z1 := hx4.c1
               have z2 := hx4.c2
               have z3 := hx4.c3
               have z4 := hx4.c4
               have zf := fun i => hx4.fz i
               have k5 := kp_all w4 x (.int .i64 f0) (.int .i64 f1) (.int .u64 f2) (.string f3) (.string f4)
               have HB5 := Aside0.mk (HB4.out.trans (k5.toBelow HB4.out.size (fun k e => by rw [e]; exact hbx)))
               clear hx4 k5 hb4))
          go_roundw
          case rel => exact ⟨b + kk, rfl, by omega, by omega, HB5, HE⟩
          case measure => simp [intOf]; omega
end Go.Proofs.YtnghlkbmfhkmoaaGreatDoor
namespace Go.Proofs.YtnghlkbmfhkmoaaGreatDoor
open Go.RowKit Go.Proofs.YtnghlkbmfhkmoaaGreatDoorW.PrintWords Go.Proofs.YtnghlkbmfhkmoaaGreatDoorW.PrintLast Go.Proofs.YtnghlkbmfhkmoaaGreatDoorW.PrintMore Hy
theorem XR.set0 {w : World} {x : Nat} {n t N : Int} {S raw : ByteArray} (h : XR w x n t N S raw) (v : Int) : XR (w.setCell ⟨x, 0, none⟩ (.int .i64 v)) x v t N S raw := by
  unfold XR at *
  rw [blk_set h]; rfl
theorem XR.set1 {w : World} {x : Nat} {n t N : Int} {S raw : ByteArray} (h : XR w x n t N S raw) (v : Int) : XR (w.setCell ⟨x, 1, none⟩ (.int .i64 v)) x n v N S raw := by
  unfold XR at *
  rw [blk_set h]; rfl
theorem XR.setN {w : World} {x : Nat} {n t N : Int} {S raw : ByteArray} (h : XR w x n t N S raw) (v : Int) : XR (w.setCell ⟨x, 2, none⟩ (.int .u64 v)) x n t v S raw := by
  unfold XR at *
  rw [blk_set h]; rfl
theorem XR.setS {w : World} {x : Nat} {n t N : Int} {S raw : ByteArray} (h : XR w x n t N S raw) (v : ByteArray) : XR (w.setCell ⟨x, 3, none⟩ (.string v)) x n t N v raw := by
  unfold XR at *
  rw [blk_set h]; rfl
theorem XR.setR {w : World} {x : Nat} {n t N : Int} {S raw : ByteArray} (h : XR w x n t N S raw) (v : ByteArray) : XR (w.setCell ⟨x, 4, none⟩ (.string v)) x n t N S v := by
  unfold XR at *
  rw [blk_set h]; rfl
theorem XR.all {w : World} {x : Nat} {n0 t0 N0 : Int} {S0 raw0 : ByteArray} (h : XR w x n0 t0 N0 S0 raw0) (n t N : Int) (S raw : ByteArray) : XR (((((w.setCell ⟨x, 0, none⟩ (.int .i64 n)).setCell ⟨x, 1, none⟩ (.int .i64 t)).setCell ⟨x, 2, none⟩ (.int .u64 N)).setCell ⟨x, 3, none⟩ (.string S)).setCell ⟨x, 4, none⟩ (.string raw)) x n t N S raw :=
  XR.setR (XR.setS (XR.setN (XR.set1 (XR.set0 h _) _) _) _) _
theorem XR.kp {M : Nat → Prop} {w w' : World} {x : Nat} {n t N : Int} {S raw : ByteArray} (h : XR w x n t N S raw) (hk : Kp M w w') (hr : ¬ M x) : XR w' x n t N S raw := hk.obj h hr
/-- No record: what Next hands back. -/
def NoR (w : World) (e : Ending) (w' : World) : Prop := e = .returned (.tuple #[recV 0 0 0 ByteArray.empty ByteArray.empty, .int .i64 0, .bool false]) ∧ Below w.heap.size w w'
set_option maxHeartbeats 1000000 in
set_option maxRecDepth 100000 in
theorem rnext_dec (w : World) (s : ByteArray) (a : Int) (dp c : Int) (hc : ¬ c = 0)
    (G : ∀ w, Calls Tryz.prog 102 #[.string s, .int .i64 a] w fun e w' => e = .returned (.tuple #[.int .u64 0, .int .i64 0, .int .i64 c]) ∧ Drawn0 w w') :
    Calls Tryz.prog 85 #[.string s, .int .i64 a, .int .i64 dp] w (NoR w) := by
  have hz1 : XR (w.alloc (.cells #[.int .i64 0, .int .i64 0, .int .u64 0, .string ⟨#[]⟩, .string ⟨#[]⟩] 83)) w.heap.size 0 0 0 ByteArray.empty ByteArray.empty := heap_alloc_new w _
  have HB1 := Aside0.mk ((Below.refl w.heap.size w).alloc (Nat.le_refl _) (.cells #[.int .i64 0, .int .i64 0, .int .u64 0, .string ⟨#[]⟩, .string ⟨#[]⟩] 83))
  have HZ1 := Aside0.mk hz1
  clear hz1
  go_enter Tryz.func85, Tryz.ntmps85
  go_wp2_with fail
  generalize w.alloc (.cells #[.int .i64 0, .int .i64 0, .int .u64 0, .string ⟨#[]⟩, .string ⟨#[]⟩] 83) = W1 at *
  generalize hg : w.heap.size = g at *
  refine (G _).mono ?_
  rintro e wd ⟨rfl, ⟨nd, rfl⟩⟩
  have hz2 : XR (W1.drewN nd) g 0 0 0 ByteArray.empty ByteArray.empty := HZ1.out
  have HB2 : Aside0 (Below g w (W1.drewN nd)) := ⟨by apply pw_below_drewN; exact HB1.out⟩
  have HZ2 := Aside0.mk hz2
  generalize W1.drewN nd = W2 at *
  have z0 := hz2.c0
  have z1 := hz2.c1
  have z2 := hz2.c2
  have z3 := hz2.c3
  have z4 := hz2.c4
  have zf := fun i => hz2.fz i
  have k5 := kp_all W2 g (.int .i64 0) (.int .i64 0) (.int .u64 0) (.string ByteArray.empty) (.string ByteArray.empty)
  have HB3 := Aside0.mk (HB2.out.trans (k5.toBelow (by have := HB2.out.size; omega) (fun k e => by omega)))
  clear hz2 k5 G HB1 HZ1
  go_wp2_with fail
  refine bodyPost_ret (results_cell_two rfl _ _ g 83 #[.int .i64 0, .int .i64 0, .int .u64 0, .string ByteArray.empty, .string ByteArray.empty] (0, 0) rfl (HZ2.out.all 0 0 0 ByteArray.empty ByteArray.empty) Tryz.underlying83 (by kernel_rfl)) rfl ?_
  exact ⟨rfl, by rw [hg]; exact HB3.out⟩
end Go.Proofs.YtnghlkbmfhkmoaaGreatDoor
namespace Go.Proofs.YtnghlkbmfhkmoaaGreatDoor
open Go.RowKit Go.Proofs.YtnghlkbmfhkmoaaGreatDoorW.PrintWords Go.Proofs.YtnghlkbmfhkmoaaGreatDoorW.PrintLast Go.Proofs.YtnghlkbmfhkmoaaGreatDoorW.PrintMore Hy
set_option maxHeartbeats 1000000 in
set_option maxRecDepth 100000 in
theorem rnext_ok0 (w : World) (s : ByteArray) (a v _k m p v2 p2 : Nat) (dp : Int) (hm : v / 8 = m) (hv : v < 18446744073709551616) (hm1 : 1 ≤ m) (hm2 : m < 536870912) (_hs : s.size ≤ 100000) (hap : a ≤ p) (hps : p ≤ s.size)
    (G : ∀ w, Calls Tryz.prog 102 #[.string s, .int .i64 (a : Int)] w fun e w' => e = .returned (.tuple #[.int .u64 (v : Int), .int .i64 (p : Int), .int .i64 0]) ∧ Drawn0 w w') (ht : v % 8 = 0) (hpp : p ≤ p2) (hp2 : p2 ≤ s.size)
    (G2 : ∀ w, Calls Tryz.prog 102 #[.string s, .int .i64 (p : Int)] w fun e w' => e = .returned (.tuple #[.int .u64 (v2 : Int), .int .i64 (p2 : Int), .int .i64 0]) ∧ Drawn0 w w') :
    Calls Tryz.prog 85 #[.string s, .int .i64 (a : Int), .int .i64 dp] w fun e w' => e = .returned (.tuple #[recV (m : Int) 0 ((v2 : Int)) (ByteArray.empty) (s.extract a p2), .int .i64 (p2 : Int), .bool true]) ∧ Below w.heap.size w w' := by
  have e3 : (v : Int) / 8 = (m : Int) := by omega
  have e7 : Go.bits .and .u64 (v : Int) 7 = 0 := by rw [and7 v hv, ht]; rfl
  have HD3 := Aside0.mk (show decide (536870912 ≤ (m : Int)) = false from decide_eq_false (by omega))
  have HD4 := Aside0.mk (show decide ((m : Int) < 1) = false from decide_eq_false (by omega))
  have hnb : (m : Int) ≤ 536870911 := by omega
  have HPS := Aside0.mk hps
  have HAP := Aside0.mk hap
  have HP2 := Aside0.mk (show p ≤ p2 ∧ p2 ≤ s.size from ⟨hpp, hp2⟩)
  clear hpp hp2
  clear hm ht hv hm1 hm2 hps hap
  have hz1 : XR (w.alloc (.cells #[.int .i64 0, .int .i64 0, .int .u64 0, .string ⟨#[]⟩, .string ⟨#[]⟩] 83)) w.heap.size 0 0 0 ByteArray.empty ByteArray.empty := heap_alloc_new w _
  have HB1 := Aside0.mk ((Below.refl w.heap.size w).alloc (Nat.le_refl _) (.cells #[.int .i64 0, .int .i64 0, .int .u64 0, .string ⟨#[]⟩, .string ⟨#[]⟩] 83))
  have HZ1 := Aside0.mk hz1
  clear hz1
  go_enter Tryz.func85, Tryz.ntmps85
  go_wp2_with fail
  generalize w.alloc (.cells #[.int .i64 0, .int .i64 0, .int .u64 0, .string ⟨#[]⟩, .string ⟨#[]⟩] 83) = W1 at *
  generalize hg : w.heap.size = g at *
  refine (G _).mono ?_
  rintro e wd ⟨rfl, ⟨nd, rfl⟩⟩
  have hz2 : XR (W1.drewN nd) g 0 0 0 ByteArray.empty ByteArray.empty := HZ1.out
  have HB2 : Aside0 (Below g w (W1.drewN nd)) := ⟨by apply pw_below_drewN; exact HB1.out⟩
  have HZ2 := Aside0.mk hz2
  generalize W1.drewN nd = W2 at *
  clear hz2 G HB1 HZ1
  have d3 := HD3.out
  have d4 := HD4.out
  go_upto_region 4 with (fail)
  clear d3 d4 HD3 HD4
  go_upto_region 5 with (first
    | ((with_reducible refine gate_dst (N := 12) rfl ?_); refine box_event ?hg (N := 12) ?hd (cs := #[.int .i64 0, .int .i64 0, .int .u64 0, .string ⟨#[]⟩, .string ⟨#[]⟩]) (t := 83) ?hr ?_; (case hd => rfl); (case hg => rfl); (case hr => first | (go_simp; done) | (go_simp; rfl)); intro x hx w4 hx4 hb4
       have hx4 : XR w4 x 0 0 0 ByteArray.empty ByteArray.empty := hx4
       have hgx : g < x := by have := blk_lt HZ2.out; omega
       clear hx
       have hz4 : XR w4 g 0 0 0 ByteArray.empty ByteArray.empty := blk_below HZ2.out hb4
       have HB4 := Aside0.mk (HB2.out.trans (hb4.mono (by have := HB2.out.size; omega)))
       have z0 := hx4.c0
       have z1 := hx4.c1
       have z2 := hx4.c2
       have z3 := hx4.c3
       have z4 := hx4.c4
       have zf := fun i => hx4.fz i
       have k5 := kp_all w4 x (.int .i64 (m : Int)) (.int .i64 0) (.int .u64 0) (.string ⟨#[]⟩) (.string ⟨#[]⟩)
       have hx5 := hx4.all (m : Int) 0 0 ⟨#[]⟩ ⟨#[]⟩
       have HZ5 := Aside0.mk (hz4.kp k5 (fun e => by omega))
       have HB5 := Aside0.mk (HB4.out.trans (k5.toBelow (by have := HB4.out.size; omega) (fun k e => by omega)))
       have HX5 := Aside0.mk hx5
       clear hx4 hz4 k5 hb4 hx5))
  clear z0 z1 z2 z3 z4 zf hx4 e3 e7 hnb
  generalize ((((w4.setCell ⟨x, 0, none⟩ (.int .i64 (m : Int))).setCell ⟨x, 1, none⟩ (.int .i64 0)).setCell ⟨x, 2, none⟩ (.int .u64 0)).setCell ⟨x, 3, none⟩ (.string ⟨#[]⟩)).setCell ⟨x, 4, none⟩ (.string ⟨#[]⟩) = w5 at *
  have q1 := HX5.out.c1
  have q0 := HX5.out.c0
  clear HB2 HZ2 HB4
  go_wp2_with fail
  refine (G2 _).mono ?_
  rintro e wd2 ⟨rfl, ⟨nd2, rfl⟩⟩
  have HX6 : Aside0 (XR (w5.drewN nd2) x (m : Int) 0 0 ByteArray.empty ByteArray.empty) := ⟨HX5.out⟩
  have HZ6 : Aside0 (XR (w5.drewN nd2) g 0 0 0 ByteArray.empty ByteArray.empty) := ⟨HZ5.out⟩
  have HB6 : Aside0 (Below g w (w5.drewN nd2)) := ⟨by apply pw_below_drewN; exact HB5.out⟩
  generalize w5.drewN nd2 = w6 at *
  clear G2 HX5 HZ5 HB5 q0 q1
  have hx6 := HX6.out
  have q2 := hx6.c2
  have f2 := hx6.fz 2
  have hx7 := hx6.setN ((v2 : Int))
  have q4 := hx7.c4
  have f4 := hx7.fz 4
  have hk8 : Kp (fun k => k = x) w6 ((w6.setCell ⟨x, 2, none⟩ (.int .u64 ((v2 : Int)))).setCell ⟨x, 4, none⟩ (.string (s.extract a p2))) := ((Kp.refl (fun k => k = x) w6).set (p := ⟨x, 2, none⟩) rfl _).set (p := ⟨x, 4, none⟩) rfl _
  have HX8 := Aside0.mk (hx7.setR (s.extract a p2))
  have hz8 := HZ6.out.kp hk8 (fun e => by omega)
  have HB8 := Aside0.mk (HB6.out.trans (hk8.toBelow (by have := HB6.out.size; omega) (fun k e => by omega)))
  have HZ8 := Aside0.mk hz8
  have hps := HPS.out
  have hap := HAP.out
  have hp2 := HP2.out
  have b1 : (0 : Int) ≤ (a : Int) := by omega
  have b2 : (a : Int) ≤ (p2 : Int) := by omega
  have b3 : (p2 : Int) ≤ (s.size : Int) := by omega
  have z0 := hz8.c0
  have z1 := hz8.c1
  have z2 := hz8.c2
  have z3 := hz8.c3
  have z4 := hz8.c4
  have zf := fun i => hz8.fz i
  have k9 := kp_all ((w6.setCell ⟨x, 2, none⟩ (.int .u64 ((v2 : Int)))).setCell ⟨x, 4, none⟩ (.string (s.extract a p2))) g (.int .i64 (m : Int)) (.int .i64 0) (.int .u64 ((v2 : Int))) (.string (ByteArray.empty)) (.string (s.extract a p2))
  have HB9 := Aside0.mk (HB8.out.trans (k9.toBelow (by have := HB8.out.size; omega) (fun k e => by omega)))
  clear hx7 hk8 hz8 k9 HZ6 HB6 hps hap hp2 HPS HAP HP2
  clear hx6
  go_wp2_with (first
    | ((with_reducible refine gate_dst (N := 139) rfl ?_); refine wpList_load_row rfl 83 (.tmp 12) rfl x rfl 83 #[.int .i64 (m : Int), .int .i64 0, .int .u64 ((v2 : Int)), .string (ByteArray.empty), .string (s.extract a p2)] (0, 0) _ HX8.out Tryz.underlying83 rfl (by kernel_rfl) ?_))
  refine bodyPost_ret (results_cell_two rfl _ _ g 83 #[.int .i64 (m : Int), .int .i64 0, .int .u64 ((v2 : Int)), .string (ByteArray.empty), .string (s.extract a p2)] (0, 0) rfl (HZ8.out.all (m : Int) 0 ((v2 : Int)) (ByteArray.empty) (s.extract a p2)) Tryz.underlying83 (by kernel_rfl)) rfl ?_
  exact ⟨rfl, by rw [hg]; exact HB9.out⟩
set_option maxHeartbeats 1000000 in
set_option maxRecDepth 100000 in
theorem rnext_ok1 (w : World) (s : ByteArray) (a v _k m p N p2 : Nat) (dp : Int) (hm : v / 8 = m) (hv : v < 18446744073709551616) (hm1 : 1 ≤ m) (hm2 : m < 536870912) (hs : s.size ≤ 100000) (hap : a ≤ p) (hps : p ≤ s.size)
    (G : ∀ w, Calls Tryz.prog 102 #[.string s, .int .i64 (a : Int)] w fun e w' => e = .returned (.tuple #[.int .u64 (v : Int), .int .i64 (p : Int), .int .i64 0]) ∧ Drawn0 w w') (ht : v % 8 = 1) (hpp : p + 8 = p2) (hp2 : p2 ≤ s.size)
    (G2 : ∀ w, Calls Tryz.prog 103 #[.string (s.extract p p2)] w fun e w' => e = .returned (.int .u64 (N : Int)) ∧ Drawn0 w w') :
    Calls Tryz.prog 85 #[.string s, .int .i64 (a : Int), .int .i64 dp] w fun e w' => e = .returned (.tuple #[recV (m : Int) 1 ((N : Int)) (ByteArray.empty) (s.extract a p2), .int .i64 (p2 : Int), .bool true]) ∧ Below w.heap.size w w' := by
  have e3 : (v : Int) / 8 = (m : Int) := by omega
  have e7 : Go.bits .and .u64 (v : Int) 7 = 1 := by rw [and7 v hv, ht]; rfl
  have HD3 := Aside0.mk (show decide (536870912 ≤ (m : Int)) = false from decide_eq_false (by omega))
  have HD4 := Aside0.mk (show decide ((m : Int) < 1) = false from decide_eq_false (by omega))
  have hnb : (m : Int) ≤ 536870911 := by omega
  have HPS := Aside0.mk hps
  have HAP := Aside0.mk hap
  have HP2 := Aside0.mk (show p + 8 = p2 ∧ p2 ≤ s.size from ⟨hpp, hp2⟩)
  clear hpp hp2
  clear hm ht hv hm1 hm2 hps hap
  have hz1 : XR (w.alloc (.cells #[.int .i64 0, .int .i64 0, .int .u64 0, .string ⟨#[]⟩, .string ⟨#[]⟩] 83)) w.heap.size 0 0 0 ByteArray.empty ByteArray.empty := heap_alloc_new w _
  have HB1 := Aside0.mk ((Below.refl w.heap.size w).alloc (Nat.le_refl _) (.cells #[.int .i64 0, .int .i64 0, .int .u64 0, .string ⟨#[]⟩, .string ⟨#[]⟩] 83))
  have HZ1 := Aside0.mk hz1
  clear hz1
  go_enter Tryz.func85, Tryz.ntmps85
  go_wp2_with fail
  generalize w.alloc (.cells #[.int .i64 0, .int .i64 0, .int .u64 0, .string ⟨#[]⟩, .string ⟨#[]⟩] 83) = W1 at *
  generalize hg : w.heap.size = g at *
  refine (G _).mono ?_
  rintro e wd ⟨rfl, ⟨nd, rfl⟩⟩
  have hz2 : XR (W1.drewN nd) g 0 0 0 ByteArray.empty ByteArray.empty := HZ1.out
  have HB2 : Aside0 (Below g w (W1.drewN nd)) := ⟨by apply pw_below_drewN; exact HB1.out⟩
  have HZ2 := Aside0.mk hz2
  generalize W1.drewN nd = W2 at *
  clear hz2 G HB1 HZ1
  have d3 := HD3.out
  have d4 := HD4.out
  go_upto_region 4 with (fail)
  clear d3 d4 HD3 HD4
  go_upto_region 5 with (first
    | ((with_reducible refine gate_dst (N := 12) rfl ?_); refine box_event ?hg (N := 12) ?hd (cs := #[.int .i64 0, .int .i64 0, .int .u64 0, .string ⟨#[]⟩, .string ⟨#[]⟩]) (t := 83) ?hr ?_; (case hd => rfl); (case hg => rfl); (case hr => first | (go_simp; done) | (go_simp; rfl)); intro x hx w4 hx4 hb4
       have hx4 : XR w4 x 0 0 0 ByteArray.empty ByteArray.empty := hx4
       have hgx : g < x := by have := blk_lt HZ2.out; omega
       clear hx
       have hz4 : XR w4 g 0 0 0 ByteArray.empty ByteArray.empty := blk_below HZ2.out hb4
       have HB4 := Aside0.mk (HB2.out.trans (hb4.mono (by have := HB2.out.size; omega)))
       have z0 := hx4.c0
       have z1 := hx4.c1
       have z2 := hx4.c2
       have z3 := hx4.c3
       have z4 := hx4.c4
       have zf := fun i => hx4.fz i
       have k5 := kp_all w4 x (.int .i64 (m : Int)) (.int .i64 1) (.int .u64 0) (.string ⟨#[]⟩) (.string ⟨#[]⟩)
       have hx5 := hx4.all (m : Int) 1 0 ⟨#[]⟩ ⟨#[]⟩
       have HZ5 := Aside0.mk (hz4.kp k5 (fun e => by omega))
       have HB5 := Aside0.mk (HB4.out.trans (k5.toBelow (by have := HB4.out.size; omega) (fun k e => by omega)))
       have HX5 := Aside0.mk hx5
       clear hx4 hz4 k5 hb4 hx5))
  clear z0 z1 z2 z3 z4 zf hx4 e3 e7 hnb
  generalize ((((w4.setCell ⟨x, 0, none⟩ (.int .i64 (m : Int))).setCell ⟨x, 1, none⟩ (.int .i64 1)).setCell ⟨x, 2, none⟩ (.int .u64 0)).setCell ⟨x, 3, none⟩ (.string ⟨#[]⟩)).setCell ⟨x, 4, none⟩ (.string ⟨#[]⟩) = w5 at *
  have q1 := HX5.out.c1
  have q0 := HX5.out.c0
  clear HB2 HZ2 HB4
  have b0 : ¬ ((s.size : Int) - (p : Int) < 8) := by have := HP2.out; omega
  have e4 : (p : Int) + 8 = (p2 : Int) := by have := HP2.out; omega
  have b4 : (0 : Int) ≤ (p : Int) := by omega
  have b5 : (p : Int) ≤ (p2 : Int) := by omega
  have b6 : (p2 : Int) ≤ (s.size : Int) := by have := HP2.out; omega
  go_wp2_with fail
  refine (G2 _).mono ?_
  rintro e wd2 ⟨rfl, ⟨nd2, rfl⟩⟩
  have HX6 : Aside0 (XR (w5.drewN nd2) x (m : Int) 1 0 ByteArray.empty ByteArray.empty) := ⟨HX5.out⟩
  have HZ6 : Aside0 (XR (w5.drewN nd2) g 0 0 0 ByteArray.empty ByteArray.empty) := ⟨HZ5.out⟩
  have HB6 : Aside0 (Below g w (w5.drewN nd2)) := ⟨by apply pw_below_drewN; exact HB5.out⟩
  generalize w5.drewN nd2 = w6 at *
  clear G2 HX5 HZ5 HB5 q0 q1
  have hx6 := HX6.out
  have q2 := hx6.c2
  have f2 := hx6.fz 2
  have hx7 := hx6.setN ((N : Int))
  have q4 := hx7.c4
  have f4 := hx7.fz 4
  have hk8 : Kp (fun k => k = x) w6 ((w6.setCell ⟨x, 2, none⟩ (.int .u64 ((N : Int)))).setCell ⟨x, 4, none⟩ (.string (s.extract a p2))) := ((Kp.refl (fun k => k = x) w6).set (p := ⟨x, 2, none⟩) rfl _).set (p := ⟨x, 4, none⟩) rfl _
  have HX8 := Aside0.mk (hx7.setR (s.extract a p2))
  have hz8 := HZ6.out.kp hk8 (fun e => by omega)
  have HB8 := Aside0.mk (HB6.out.trans (hk8.toBelow (by have := HB6.out.size; omega) (fun k e => by omega)))
  have HZ8 := Aside0.mk hz8
  have hps := HPS.out
  have hap := HAP.out
  have hp2 := HP2.out
  have b1 : (0 : Int) ≤ (a : Int) := by omega
  have b2 : (a : Int) ≤ (p2 : Int) := by omega
  have b3 : (p2 : Int) ≤ (s.size : Int) := by omega
  have z0 := hz8.c0
  have z1 := hz8.c1
  have z2 := hz8.c2
  have z3 := hz8.c3
  have z4 := hz8.c4
  have zf := fun i => hz8.fz i
  have k9 := kp_all ((w6.setCell ⟨x, 2, none⟩ (.int .u64 ((N : Int)))).setCell ⟨x, 4, none⟩ (.string (s.extract a p2))) g (.int .i64 (m : Int)) (.int .i64 1) (.int .u64 ((N : Int))) (.string (ByteArray.empty)) (.string (s.extract a p2))
  have HB9 := Aside0.mk (HB8.out.trans (k9.toBelow (by have := HB8.out.size; omega) (fun k e => by omega)))
  clear hx7 hk8 hz8 k9 HZ6 HB6 hps hap hp2 HPS HAP HP2
  clear hx6
  go_wp2_with (first
    | ((with_reducible refine gate_dst (N := 139) rfl ?_); refine wpList_load_row rfl 83 (.tmp 12) rfl x rfl 83 #[.int .i64 (m : Int), .int .i64 1, .int .u64 ((N : Int)), .string (ByteArray.empty), .string (s.extract a p2)] (0, 0) _ HX8.out Tryz.underlying83 rfl (by kernel_rfl) ?_))
  refine bodyPost_ret (results_cell_two rfl _ _ g 83 #[.int .i64 (m : Int), .int .i64 1, .int .u64 ((N : Int)), .string (ByteArray.empty), .string (s.extract a p2)] (0, 0) rfl (HZ8.out.all (m : Int) 1 ((N : Int)) (ByteArray.empty) (s.extract a p2)) Tryz.underlying83 (by kernel_rfl)) rfl ?_
  exact ⟨rfl, by rw [hg]; exact HB9.out⟩
set_option maxHeartbeats 1000000 in
set_option maxRecDepth 100000 in
theorem rnext_ok5 (w : World) (s : ByteArray) (a v _k m p N p2 : Nat) (dp : Int) (hm : v / 8 = m) (hv : v < 18446744073709551616) (hm1 : 1 ≤ m) (hm2 : m < 536870912) (hs : s.size ≤ 100000) (hap : a ≤ p) (hps : p ≤ s.size)
    (G : ∀ w, Calls Tryz.prog 102 #[.string s, .int .i64 (a : Int)] w fun e w' => e = .returned (.tuple #[.int .u64 (v : Int), .int .i64 (p : Int), .int .i64 0]) ∧ Drawn0 w w') (ht : v % 8 = 5) (hpp : p + 4 = p2) (hp2 : p2 ≤ s.size)
    (G2 : ∀ w, Calls Tryz.prog 103 #[.string (s.extract p p2)] w fun e w' => e = .returned (.int .u64 (N : Int)) ∧ Drawn0 w w') :
    Calls Tryz.prog 85 #[.string s, .int .i64 (a : Int), .int .i64 dp] w fun e w' => e = .returned (.tuple #[recV (m : Int) 5 ((N : Int)) (ByteArray.empty) (s.extract a p2), .int .i64 (p2 : Int), .bool true]) ∧ Below w.heap.size w w' := by
  have e3 : (v : Int) / 8 = (m : Int) := by omega
  have e7 : Go.bits .and .u64 (v : Int) 7 = 5 := by rw [and7 v hv, ht]; rfl
  have HD3 := Aside0.mk (show decide (536870912 ≤ (m : Int)) = false from decide_eq_false (by omega))
  have HD4 := Aside0.mk (show decide ((m : Int) < 1) = false from decide_eq_false (by omega))
  have hnb : (m : Int) ≤ 536870911 := by omega
  have HPS := Aside0.mk hps
  have HAP := Aside0.mk hap
  have HP2 := Aside0.mk (show p + 4 = p2 ∧ p2 ≤ s.size from ⟨hpp, hp2⟩)
  clear hpp hp2
  clear hm ht hv hm1 hm2 hps hap
  have hz1 : XR (w.alloc (.cells #[.int .i64 0, .int .i64 0, .int .u64 0, .string ⟨#[]⟩, .string ⟨#[]⟩] 83)) w.heap.size 0 0 0 ByteArray.empty ByteArray.empty := heap_alloc_new w _
  have HB1 := Aside0.mk ((Below.refl w.heap.size w).alloc (Nat.le_refl _) (.cells #[.int .i64 0, .int .i64 0, .int .u64 0, .string ⟨#[]⟩, .string ⟨#[]⟩] 83))
  have HZ1 := Aside0.mk hz1
  clear hz1
  go_enter Tryz.func85, Tryz.ntmps85
  go_wp2_with fail
  generalize w.alloc (.cells #[.int .i64 0, .int .i64 0, .int .u64 0, .string ⟨#[]⟩, .string ⟨#[]⟩] 83) = W1 at *
  generalize hg : w.heap.size = g at *
  refine (G _).mono ?_
  rintro e wd ⟨rfl, ⟨nd, rfl⟩⟩
  have hz2 : XR (W1.drewN nd) g 0 0 0 ByteArray.empty ByteArray.empty := HZ1.out
  have HB2 : Aside0 (Below g w (W1.drewN nd)) := ⟨by apply pw_below_drewN; exact HB1.out⟩
  have HZ2 := Aside0.mk hz2
  generalize W1.drewN nd = W2 at *
  clear hz2 G HB1 HZ1
  have d3 := HD3.out
  have d4 := HD4.out
  go_upto_region 4 with (fail)
  clear d3 d4 HD3 HD4
  go_upto_region 5 with (first
    | ((with_reducible refine gate_dst (N := 12) rfl ?_); refine box_event ?hg (N := 12) ?hd (cs := #[.int .i64 0, .int .i64 0, .int .u64 0, .string ⟨#[]⟩, .string ⟨#[]⟩]) (t := 83) ?hr ?_; (case hd => rfl); (case hg => rfl); (case hr => first | (go_simp; done) | (go_simp; rfl)); intro x hx w4 hx4 hb4
       have hx4 : XR w4 x 0 0 0 ByteArray.empty ByteArray.empty := hx4
       have hgx : g < x := by have := blk_lt HZ2.out; omega
       clear hx
       have hz4 : XR w4 g 0 0 0 ByteArray.empty ByteArray.empty := blk_below HZ2.out hb4
       have HB4 := Aside0.mk (HB2.out.trans (hb4.mono (by have := HB2.out.size; omega)))
       have z0 := hx4.c0
       have z1 := hx4.c1
       have z2 := hx4.c2
       have z3 := hx4.c3
       have z4 := hx4.c4
       have zf := fun i => hx4.fz i
       have k5 := kp_all w4 x (.int .i64 (m : Int)) (.int .i64 5) (.int .u64 0) (.string ⟨#[]⟩) (.string ⟨#[]⟩)
       have hx5 := hx4.all (m : Int) 5 0 ⟨#[]⟩ ⟨#[]⟩
       have HZ5 := Aside0.mk (hz4.kp k5 (fun e => by omega))
       have HB5 := Aside0.mk (HB4.out.trans (k5.toBelow (by have := HB4.out.size; omega) (fun k e => by omega)))
       have HX5 := Aside0.mk hx5
       clear hx4 hz4 k5 hb4 hx5))
  clear z0 z1 z2 z3 z4 zf hx4 e3 e7 hnb
  generalize ((((w4.setCell ⟨x, 0, none⟩ (.int .i64 (m : Int))).setCell ⟨x, 1, none⟩ (.int .i64 5)).setCell ⟨x, 2, none⟩ (.int .u64 0)).setCell ⟨x, 3, none⟩ (.string ⟨#[]⟩)).setCell ⟨x, 4, none⟩ (.string ⟨#[]⟩) = w5 at *
  have q1 := HX5.out.c1
  have q0 := HX5.out.c0
  clear HB2 HZ2 HB4
  have b0 : ¬ ((s.size : Int) - (p : Int) < 4) := by have := HP2.out; omega
  have e4 : (p : Int) + 4 = (p2 : Int) := by have := HP2.out; omega
  have b4 : (0 : Int) ≤ (p : Int) := by omega
  have b5 : (p : Int) ≤ (p2 : Int) := by omega
  have b6 : (p2 : Int) ≤ (s.size : Int) := by have := HP2.out; omega
  go_wp2_with fail
  refine (G2 _).mono ?_
  rintro e wd2 ⟨rfl, ⟨nd2, rfl⟩⟩
  have HX6 : Aside0 (XR (w5.drewN nd2) x (m : Int) 5 0 ByteArray.empty ByteArray.empty) := ⟨HX5.out⟩
  have HZ6 : Aside0 (XR (w5.drewN nd2) g 0 0 0 ByteArray.empty ByteArray.empty) := ⟨HZ5.out⟩
  have HB6 : Aside0 (Below g w (w5.drewN nd2)) := ⟨by apply pw_below_drewN; exact HB5.out⟩
  generalize w5.drewN nd2 = w6 at *
  clear G2 HX5 HZ5 HB5 q0 q1
  have hx6 := HX6.out
  have q2 := hx6.c2
  have f2 := hx6.fz 2
  have hx7 := hx6.setN ((N : Int))
  have q4 := hx7.c4
  have f4 := hx7.fz 4
  have hk8 : Kp (fun k => k = x) w6 ((w6.setCell ⟨x, 2, none⟩ (.int .u64 ((N : Int)))).setCell ⟨x, 4, none⟩ (.string (s.extract a p2))) := ((Kp.refl (fun k => k = x) w6).set (p := ⟨x, 2, none⟩) rfl _).set (p := ⟨x, 4, none⟩) rfl _
  have HX8 := Aside0.mk (hx7.setR (s.extract a p2))
  have hz8 := HZ6.out.kp hk8 (fun e => by omega)
  have HB8 := Aside0.mk (HB6.out.trans (hk8.toBelow (by have := HB6.out.size; omega) (fun k e => by omega)))
  have HZ8 := Aside0.mk hz8
  have hps := HPS.out
  have hap := HAP.out
  have hp2 := HP2.out
  have b1 : (0 : Int) ≤ (a : Int) := by omega
  have b2 : (a : Int) ≤ (p2 : Int) := by omega
  have b3 : (p2 : Int) ≤ (s.size : Int) := by omega
  have z0 := hz8.c0
  have z1 := hz8.c1
  have z2 := hz8.c2
  have z3 := hz8.c3
  have z4 := hz8.c4
  have zf := fun i => hz8.fz i
  have k9 := kp_all ((w6.setCell ⟨x, 2, none⟩ (.int .u64 ((N : Int)))).setCell ⟨x, 4, none⟩ (.string (s.extract a p2))) g (.int .i64 (m : Int)) (.int .i64 5) (.int .u64 ((N : Int))) (.string (ByteArray.empty)) (.string (s.extract a p2))
  have HB9 := Aside0.mk (HB8.out.trans (k9.toBelow (by have := HB8.out.size; omega) (fun k e => by omega)))
  clear hx7 hk8 hz8 k9 HZ6 HB6 hps hap hp2 HPS HAP HP2
  clear hx6
  go_wp2_with (first
    | ((with_reducible refine gate_dst (N := 139) rfl ?_); refine wpList_load_row rfl 83 (.tmp 12) rfl x rfl 83 #[.int .i64 (m : Int), .int .i64 5, .int .u64 ((N : Int)), .string (ByteArray.empty), .string (s.extract a p2)] (0, 0) _ HX8.out Tryz.underlying83 rfl (by kernel_rfl) ?_))
  refine bodyPost_ret (results_cell_two rfl _ _ g 83 #[.int .i64 (m : Int), .int .i64 5, .int .u64 ((N : Int)), .string (ByteArray.empty), .string (s.extract a p2)] (0, 0) rfl (HZ8.out.all (m : Int) 5 ((N : Int)) (ByteArray.empty) (s.extract a p2)) Tryz.underlying83 (by kernel_rfl)) rfl ?_
  exact ⟨rfl, by rw [hg]; exact HB9.out⟩
set_option maxHeartbeats 1000000 in
set_option maxRecDepth 100000 in
theorem rnext_ok2 (w : World) (s : ByteArray) (a v _k m p n q p2 : Nat) (dp : Int) (hm : v / 8 = m) (hv : v < 18446744073709551616) (hm1 : 1 ≤ m) (hm2 : m < 536870912) (hs : s.size ≤ 100000) (hap : a ≤ p) (hps : p ≤ s.size)
    (G : ∀ w, Calls Tryz.prog 102 #[.string s, .int .i64 (a : Int)] w fun e w' => e = .returned (.tuple #[.int .u64 (v : Int), .int .i64 (p : Int), .int .i64 0]) ∧ Drawn0 w w') (ht : v % 8 = 2) (hpq : p ≤ q) (hqp : q + n = p2) (hp2 : p2 ≤ s.size)
    (G2 : ∀ w, Calls Tryz.prog 102 #[.string s, .int .i64 (p : Int)] w fun e w' => e = .returned (.tuple #[.int .u64 (n : Int), .int .i64 (q : Int), .int .i64 0]) ∧ Drawn0 w w') :
    Calls Tryz.prog 85 #[.string s, .int .i64 (a : Int), .int .i64 dp] w fun e w' => e = .returned (.tuple #[recV (m : Int) 2 (0) (s.extract q p2) (s.extract a p2), .int .i64 (p2 : Int), .bool true]) ∧ Below w.heap.size w w' := by
  have e3 : (v : Int) / 8 = (m : Int) := by omega
  have e7 : Go.bits .and .u64 (v : Int) 7 = 2 := by rw [and7 v hv, ht]; rfl
  have HD3 := Aside0.mk (show decide (536870912 ≤ (m : Int)) = false from decide_eq_false (by omega))
  have HD4 := Aside0.mk (show decide ((m : Int) < 1) = false from decide_eq_false (by omega))
  have hnb : (m : Int) ≤ 536870911 := by omega
  have HPS := Aside0.mk hps
  have HAP := Aside0.mk hap
  have HP2 := Aside0.mk (show p ≤ q ∧ q + n = p2 ∧ p2 ≤ s.size from ⟨hpq, hqp, hp2⟩)
  clear hpq hqp hp2
  clear hm ht hv hm1 hm2 hps hap
  have hz1 : XR (w.alloc (.cells #[.int .i64 0, .int .i64 0, .int .u64 0, .string ⟨#[]⟩, .string ⟨#[]⟩] 83)) w.heap.size 0 0 0 ByteArray.empty ByteArray.empty := heap_alloc_new w _
  have HB1 := Aside0.mk ((Below.refl w.heap.size w).alloc (Nat.le_refl _) (.cells #[.int .i64 0, .int .i64 0, .int .u64 0, .string ⟨#[]⟩, .string ⟨#[]⟩] 83))
  have HZ1 := Aside0.mk hz1
  clear hz1
  go_enter Tryz.func85, Tryz.ntmps85
  go_wp2_with fail
  generalize w.alloc (.cells #[.int .i64 0, .int .i64 0, .int .u64 0, .string ⟨#[]⟩, .string ⟨#[]⟩] 83) = W1 at *
  generalize hg : w.heap.size = g at *
  refine (G _).mono ?_
  rintro e wd ⟨rfl, ⟨nd, rfl⟩⟩
  have hz2 : XR (W1.drewN nd) g 0 0 0 ByteArray.empty ByteArray.empty := HZ1.out
  have HB2 : Aside0 (Below g w (W1.drewN nd)) := ⟨by apply pw_below_drewN; exact HB1.out⟩
  have HZ2 := Aside0.mk hz2
  generalize W1.drewN nd = W2 at *
  clear hz2 G HB1 HZ1
  have d3 := HD3.out
  have d4 := HD4.out
  go_upto_region 4 with (fail)
  clear d3 d4 HD3 HD4
  go_upto_region 5 with (first
    | ((with_reducible refine gate_dst (N := 12) rfl ?_); refine box_event ?hg (N := 12) ?hd (cs := #[.int .i64 0, .int .i64 0, .int .u64 0, .string ⟨#[]⟩, .string ⟨#[]⟩]) (t := 83) ?hr ?_; (case hd => rfl); (case hg => rfl); (case hr => first | (go_simp; done) | (go_simp; rfl)); intro x hx w4 hx4 hb4
       have hx4 : XR w4 x 0 0 0 ByteArray.empty ByteArray.empty := hx4
       have hgx : g < x := by have := blk_lt HZ2.out; omega
       clear hx
       have hz4 : XR w4 g 0 0 0 ByteArray.empty ByteArray.empty := blk_below HZ2.out hb4
       have HB4 := Aside0.mk (HB2.out.trans (hb4.mono (by have := HB2.out.size; omega)))
       have z0 := hx4.c0
       have z1 := hx4.c1
       have z2 := hx4.c2
       have z3 := hx4.c3
       have z4 := hx4.c4
       have zf := fun i => hx4.fz i
       have k5 := kp_all w4 x (.int .i64 (m : Int)) (.int .i64 2) (.int .u64 0) (.string ⟨#[]⟩) (.string ⟨#[]⟩)
       have hx5 := hx4.all (m : Int) 2 0 ⟨#[]⟩ ⟨#[]⟩
       have HZ5 := Aside0.mk (hz4.kp k5 (fun e => by omega))
       have HB5 := Aside0.mk (HB4.out.trans (k5.toBelow (by have := HB4.out.size; omega) (fun k e => by omega)))
       have HX5 := Aside0.mk hx5
       clear hx4 hz4 k5 hb4 hx5))
  clear z0 z1 z2 z3 z4 zf hx4 e3 e7 hnb
  generalize ((((w4.setCell ⟨x, 0, none⟩ (.int .i64 (m : Int))).setCell ⟨x, 1, none⟩ (.int .i64 2)).setCell ⟨x, 2, none⟩ (.int .u64 0)).setCell ⟨x, 3, none⟩ (.string ⟨#[]⟩)).setCell ⟨x, 4, none⟩ (.string ⟨#[]⟩) = w5 at *
  have q1 := HX5.out.c1
  have q0 := HX5.out.c0
  clear HB2 HZ2 HB4
  go_wp2_with fail
  refine (G2 _).mono ?_
  rintro e wd2 ⟨rfl, ⟨nd2, rfl⟩⟩
  have HX6 : Aside0 (XR (w5.drewN nd2) x (m : Int) 2 0 ByteArray.empty ByteArray.empty) := ⟨HX5.out⟩
  have HZ6 : Aside0 (XR (w5.drewN nd2) g 0 0 0 ByteArray.empty ByteArray.empty) := ⟨HZ5.out⟩
  have HB6 : Aside0 (Below g w (w5.drewN nd2)) := ⟨by apply pw_below_drewN; exact HB5.out⟩
  generalize w5.drewN nd2 = w6 at *
  clear G2 HX5 HZ5 HB5 q0 q1
  have b0 : ¬ ((s.size : Int) - (q : Int) < (n : Int)) := by have := HP2.out; omega
  have b7 : (n : Int) ≤ 100000 := by have := HP2.out; omega
  have b8 : (0 : Int) ≤ (s.size : Int) - (q : Int) := by have := HP2.out; omega
  have e4 : (q : Int) + (n : Int) = (p2 : Int) := by have := HP2.out; omega
  have b4 : (0 : Int) ≤ (q : Int) := by omega
  have b5 : (q : Int) ≤ (p2 : Int) := by have := HP2.out; omega
  have b6 : (p2 : Int) ≤ (s.size : Int) := by have := HP2.out; omega
  have hx6 := HX6.out
  have q2 := hx6.c3
  have f2 := hx6.fz 3
  have hx7 := hx6.setS (s.extract q p2)
  have q4 := hx7.c4
  have f4 := hx7.fz 4
  have hk8 : Kp (fun k => k = x) w6 ((w6.setCell ⟨x, 3, none⟩ (.string (s.extract q p2))).setCell ⟨x, 4, none⟩ (.string (s.extract a p2))) := ((Kp.refl (fun k => k = x) w6).set (p := ⟨x, 3, none⟩) rfl _).set (p := ⟨x, 4, none⟩) rfl _
  have HX8 := Aside0.mk (hx7.setR (s.extract a p2))
  have hz8 := HZ6.out.kp hk8 (fun e => by omega)
  have HB8 := Aside0.mk (HB6.out.trans (hk8.toBelow (by have := HB6.out.size; omega) (fun k e => by omega)))
  have HZ8 := Aside0.mk hz8
  have hps := HPS.out
  have hap := HAP.out
  have hp2 := HP2.out
  have b1 : (0 : Int) ≤ (a : Int) := by omega
  have b2 : (a : Int) ≤ (p2 : Int) := by omega
  have b3 : (p2 : Int) ≤ (s.size : Int) := by omega
  have z0 := hz8.c0
  have z1 := hz8.c1
  have z2 := hz8.c2
  have z3 := hz8.c3
  have z4 := hz8.c4
  have zf := fun i => hz8.fz i
  have k9 := kp_all ((w6.setCell ⟨x, 3, none⟩ (.string (s.extract q p2))).setCell ⟨x, 4, none⟩ (.string (s.extract a p2))) g (.int .i64 (m : Int)) (.int .i64 2) (.int .u64 (0)) (.string (s.extract q p2)) (.string (s.extract a p2))
  have HB9 := Aside0.mk (HB8.out.trans (k9.toBelow (by have := HB8.out.size; omega) (fun k e => by omega)))
  clear hx7 hk8 hz8 k9 HZ6 HB6 hps hap hp2 HPS HAP HP2
  clear hx6
  go_wp2_with (first
    | ((with_reducible refine gate_dst (N := 139) rfl ?_); refine wpList_load_row rfl 83 (.tmp 12) rfl x rfl 83 #[.int .i64 (m : Int), .int .i64 2, .int .u64 (0), .string (s.extract q p2), .string (s.extract a p2)] (0, 0) _ HX8.out Tryz.underlying83 rfl (by kernel_rfl) ?_))
  refine bodyPost_ret (results_cell_two rfl _ _ g 83 #[.int .i64 (m : Int), .int .i64 2, .int .u64 (0), .string (s.extract q p2), .string (s.extract a p2)] (0, 0) rfl (HZ8.out.all (m : Int) 2 (0) (s.extract q p2) (s.extract a p2)) Tryz.underlying83 (by kernel_rfl)) rfl ?_
  exact ⟨rfl, by rw [hg]; exact HB9.out⟩
set_option maxHeartbeats 1000000 in
set_option maxRecDepth 100000 in
theorem rnext_ok3 (w : World) (s : ByteArray) (a v _k m p p2 : Nat) (dp : Int) (hm : v / 8 = m) (hv : v < 18446744073709551616) (hm1 : 1 ≤ m) (hm2 : m < 536870912) (_hs : s.size ≤ 100000) (hap : a ≤ p) (hps : p ≤ s.size)
    (G : ∀ w, Calls Tryz.prog 102 #[.string s, .int .i64 (a : Int)] w fun e w' => e = .returned (.tuple #[.int .u64 (v : Int), .int .i64 (p : Int), .int .i64 0]) ∧ Drawn0 w w') (ht : v % 8 = 3) (hpp : p ≤ p2) (hp2 : p2 ≤ s.size)
    (G2 : ∀ w, Calls Tryz.prog 104 #[.string s, .int .i64 (p : Int), .int .i64 (m : Int), .int .i64 dp] w fun e w' => e = .returned (.tuple #[.int .i64 (p2 : Int), .bool true]) ∧ Below w.heap.size w w') :
    Calls Tryz.prog 85 #[.string s, .int .i64 (a : Int), .int .i64 dp] w fun e w' => e = .returned (.tuple #[recV (m : Int) 3 (0) (ByteArray.empty) (s.extract a p2), .int .i64 (p2 : Int), .bool true]) ∧ Below w.heap.size w w' := by
  have e3 : (v : Int) / 8 = (m : Int) := by omega
  have e7 : Go.bits .and .u64 (v : Int) 7 = 3 := by rw [and7 v hv, ht]; rfl
  have HD3 := Aside0.mk (show decide (536870912 ≤ (m : Int)) = false from decide_eq_false (by omega))
  have HD4 := Aside0.mk (show decide ((m : Int) < 1) = false from decide_eq_false (by omega))
  have hnb : (m : Int) ≤ 536870911 := by omega
  have HPS := Aside0.mk hps
  have HAP := Aside0.mk hap
  have HP2 := Aside0.mk (show p ≤ p2 ∧ p2 ≤ s.size from ⟨hpp, hp2⟩)
  clear hpp hp2
  clear hm ht hv hm1 hm2 hps hap
  have hz1 : XR (w.alloc (.cells #[.int .i64 0, .int .i64 0, .int .u64 0, .string ⟨#[]⟩, .string ⟨#[]⟩] 83)) w.heap.size 0 0 0 ByteArray.empty ByteArray.empty := heap_alloc_new w _
  have HB1 := Aside0.mk ((Below.refl w.heap.size w).alloc (Nat.le_refl _) (.cells #[.int .i64 0, .int .i64 0, .int .u64 0, .string ⟨#[]⟩, .string ⟨#[]⟩] 83))
  have HZ1 := Aside0.mk hz1
  clear hz1
  go_enter Tryz.func85, Tryz.ntmps85
  go_wp2_with fail
  generalize w.alloc (.cells #[.int .i64 0, .int .i64 0, .int .u64 0, .string ⟨#[]⟩, .string ⟨#[]⟩] 83) = W1 at *
  generalize hg : w.heap.size = g at *
  refine (G _).mono ?_
  rintro e wd ⟨rfl, ⟨nd, rfl⟩⟩
  have hz2 : XR (W1.drewN nd) g 0 0 0 ByteArray.empty ByteArray.empty := HZ1.out
  have HB2 : Aside0 (Below g w (W1.drewN nd)) := ⟨by apply pw_below_drewN; exact HB1.out⟩
  have HZ2 := Aside0.mk hz2
  generalize W1.drewN nd = W2 at *
  clear hz2 G HB1 HZ1
  have d3 := HD3.out
  have d4 := HD4.out
  go_upto_region 4 with (fail)
  clear d3 d4 HD3 HD4
  go_upto_region 5 with (first
    | ((with_reducible refine gate_dst (N := 12) rfl ?_); refine box_event ?hg (N := 12) ?hd (cs := #[.int .i64 0, .int .i64 0, .int .u64 0, .string ⟨#[]⟩, .string ⟨#[]⟩]) (t := 83) ?hr ?_; (case hd => rfl); (case hg => rfl); (case hr => first | (go_simp; done) | (go_simp; rfl)); intro x hx w4 hx4 hb4
       have hx4 : XR w4 x 0 0 0 ByteArray.empty ByteArray.empty := hx4
       have hgx : g < x := by have := blk_lt HZ2.out; omega
       clear hx
       have hz4 : XR w4 g 0 0 0 ByteArray.empty ByteArray.empty := blk_below HZ2.out hb4
       have HB4 := Aside0.mk (HB2.out.trans (hb4.mono (by have := HB2.out.size; omega)))
       have z0 := hx4.c0
       have z1 := hx4.c1
       have z2 := hx4.c2
       have z3 := hx4.c3
       have z4 := hx4.c4
       have zf := fun i => hx4.fz i
       have k5 := kp_all w4 x (.int .i64 (m : Int)) (.int .i64 3) (.int .u64 0) (.string ⟨#[]⟩) (.string ⟨#[]⟩)
       have hx5 := hx4.all (m : Int) 3 0 ⟨#[]⟩ ⟨#[]⟩
       have HZ5 := Aside0.mk (hz4.kp k5 (fun e => by omega))
       have HB5 := Aside0.mk (HB4.out.trans (k5.toBelow (by have := HB4.out.size; omega) (fun k e => by omega)))
       have HX5 := Aside0.mk hx5
       clear hx4 hz4 k5 hb4 hx5))
  clear z0 z1 z2 z3 z4 zf hx4 e3 e7 hnb
  generalize ((((w4.setCell ⟨x, 0, none⟩ (.int .i64 (m : Int))).setCell ⟨x, 1, none⟩ (.int .i64 3)).setCell ⟨x, 2, none⟩ (.int .u64 0)).setCell ⟨x, 3, none⟩ (.string ⟨#[]⟩)).setCell ⟨x, 4, none⟩ (.string ⟨#[]⟩) = w5 at *
  have q1 := HX5.out.c1
  have q0 := HX5.out.c0
  clear HB2 HZ2 HB4
  go_wp2_with fail
  refine (G2 _).mono ?_
  rintro e w6 ⟨rfl, hb6⟩
  have hgs := HB5.out.size
  have hxs := blk_lt HX5.out
  have hzs := blk_lt HZ5.out
  have HX6 : Aside0 (XR w6 x (m : Int) 3 0 ByteArray.empty ByteArray.empty) := ⟨blk_below HX5.out hb6⟩
  have HZ6 : Aside0 (XR w6 g 0 0 0 ByteArray.empty ByteArray.empty) := ⟨blk_below HZ5.out hb6⟩
  have HB6 : Aside0 (Below g w w6) := ⟨HB5.out.trans (hb6.mono (by omega))⟩
  clear hb6 hgs hxs hzs G2 HX5 HZ5 HB5 q0 q1
  have hx7 := HX6.out
  have q4 := hx7.c4
  have f4 := hx7.fz 4
  have hk8 : Kp (fun k => k = x) w6 (w6.setCell ⟨x, 4, none⟩ (.string (s.extract a p2))) := (Kp.refl (fun k => k = x) w6).set (p := ⟨x, 4, none⟩) rfl _
  have HX8 := Aside0.mk (hx7.setR (s.extract a p2))
  have hz8 := HZ6.out.kp hk8 (fun e => by omega)
  have HB8 := Aside0.mk (HB6.out.trans (hk8.toBelow (by have := HB6.out.size; omega) (fun k e => by omega)))
  have HZ8 := Aside0.mk hz8
  have hps := HPS.out
  have hap := HAP.out
  have hp2 := HP2.out
  have b1 : (0 : Int) ≤ (a : Int) := by omega
  have b2 : (a : Int) ≤ (p2 : Int) := by omega
  have b3 : (p2 : Int) ≤ (s.size : Int) := by omega
  have z0 := hz8.c0
  have z1 := hz8.c1
  have z2 := hz8.c2
  have z3 := hz8.c3
  have z4 := hz8.c4
  have zf := fun i => hz8.fz i
  have k9 := kp_all (w6.setCell ⟨x, 4, none⟩ (.string (s.extract a p2))) g (.int .i64 (m : Int)) (.int .i64 3) (.int .u64 (0)) (.string (ByteArray.empty)) (.string (s.extract a p2))
  have HB9 := Aside0.mk (HB8.out.trans (k9.toBelow (by have := HB8.out.size; omega) (fun k e => by omega)))
  clear hx7 hk8 hz8 k9 HZ6 HB6 hps hap hp2 HPS HAP HP2
  go_wp2_with (first
    | ((with_reducible refine gate_dst (N := 139) rfl ?_); refine wpList_load_row rfl 83 (.tmp 12) rfl x rfl 83 #[.int .i64 (m : Int), .int .i64 3, .int .u64 (0), .string (ByteArray.empty), .string (s.extract a p2)] (0, 0) _ HX8.out Tryz.underlying83 rfl (by kernel_rfl) ?_))
  refine bodyPost_ret (results_cell_two rfl _ _ g 83 #[.int .i64 (m : Int), .int .i64 3, .int .u64 (0), .string (ByteArray.empty), .string (s.extract a p2)] (0, 0) rfl (HZ8.out.all (m : Int) 3 (0) (ByteArray.empty) (s.extract a p2)) Tryz.underlying83 (by kernel_rfl)) rfl ?_
  exact ⟨rfl, by rw [hg]; exact HB9.out⟩
end Go.Proofs.YtnghlkbmfhkmoaaGreatDoor
