import Derived.Test.YtodhnmflabehhaaDoorMkvsfwfem
import Derived.Test.YtodhnmflabehhaaDoorMxfvpfroc
import Derived.Outline
import Derived.StillTailTactics
import Derived.IntWalk
namespace Go.Proofs.YtodhnmflabehhaaDoor
open Go.RowKit Go.Proofs.YtodhnmflabehhaaDoorW.PrintWords Go.Proofs.YtodhnmflabehhaaDoorW.PrintLast Go.Proofs.YtodhnmflabehhaaDoorW.PrintMore Hy

/-! ### the document's own bits, each in a byte -/
def b2n (b : Bool) : Nat := if b then 1 else 0
def bnums (l : List Bool) : List Int := l.map fun b => (b2n b : Int)
theorem bnums_length (l : List Bool) : (bnums l).length = l.length := by simp [bnums]
theorem bnums_snoc (l : List Bool) (b : Bool) : bnums l ++ [(b2n b : Int)] = bnums (l ++ [b]) := by simp [bnums]
/-- Its block g, with the row v. -/
def RWv (g : Nat) (v : Value) (base : Nat) (l : List Bool) (w : World) : Prop :=
  w.heap[g]? = some (.cells #[v] 30 (0, 0)) ∧ Kd.R (Kd.int .u8) 5 w base (fun _ => True) v (bnums l)
theorem RWv.c0 {g v base l w} (h : RWv g v base l w) : w.cell? ⟨g, 0, none⟩ = some v := by rw [blk_cell h.1]; rfl
theorem RWv.apart {g v base l w} (h : RWv g v base l w) : ¬ (some g = v.ownBlock) := own_ne (Kd.own_of_R h.2) h.1 (by decide)
theorem RWv.below {g v base l} {w w' : World} (h : RWv g v base l w) (hb : Below w.heap.size w w') : RWv g v base l w' := ⟨blk_below h.1 hb, Kd.R_below h.2 hb⟩
/-- One bit more: what the store of the row leaves. -/
theorem RWv.more {g v v1 base l w w1} {b : Bool} (h : RWv g v base l w) (ho : Kd.R (Kd.int .u8) 5 w1 base (fun _ => True) v1 (bnums l ++ [(b2n b : Int)])) (hg : w.grownBy w1 v.ownBlock) :
    w1.cell? ⟨g, 0, none⟩ = some v ∧ w1.frozen? ⟨g, 0, none⟩ = false ∧ RWv g v1 base (l ++ [b]) (w1.setCell ⟨g, 0, none⟩ v1) := by
  have hb : w1.heap[g]? = some (.cells #[v] 30 (0, 0)) := blk_grown h.1 hg h.apart
  rw [bnums_snoc] at ho
  have hne : ∀ k, v1.ownBlock = some k → ¬ (k = g) := fun k hk e => own_ne (Kd.own_of_R ho) hb (by decide) (by rw [hk, e])
  refine ⟨by rw [blk_cell hb]; rfl, blk_frozen hb 0, by rw [blk_set hb]; rfl, ?_⟩
  have ho2 : (Kd.int .u8).R 5 w1 base (fun k => ¬ (k = g)) v1 (bnums (l ++ [b])) := Kd.R_of_own (Kd.own_of_R ho) hne
  have hr := (Kp.set (Kp.refl (fun k => k = g) w1) (p := ⟨g, 0, none⟩) rfl v1).row ho2 (fun k hk => hk)
  exact Kd.R_mono hr (fun _ _ => trivial)
/-- Where a row may lie that was put to. -/
def Near (v v' : Value) (S : Nat) : Prop := ∀ k, v'.ownBlock = some k → v.ownBlock = some k ∨ S ≤ k
/-- The blocks that a writing may turn. -/
def GV (g : Nat) (v : Value) (k : Nat) : Prop := k = g ∨ v.ownBlock = some k
theorem kp_grown {M : Nat → Prop} {w w1 w2 : World} {row : Option Nat} (h : Kp M w w1) (hg : w1.grownBy w2 row) (hr : ∀ k, row = some k → M k ∨ w.heap.size ≤ k) : Kp M w w2 :=
  ⟨hg.os.trans h.os, hg.tape.trans h.tape, hg.output.trans h.output, Nat.le_trans h.size hg.size, fun k hk hm => by
    rw [hg.block k (Nat.lt_of_lt_of_le hk h.size) (fun e => by rcases hr k e.symm with h1 | h1; exact hm h1; omega)]
    exact h.block k hk hm⟩
theorem near_next {v v' v1 : Value} {S : Nat} {wr : World} (h : Near v v' S) (hat : v1.ownBlock = v'.ownBlock ∨ ∃ b, v1.ownBlock = some b ∧ wr.heap.size ≤ b) (hS : S ≤ wr.heap.size) : Near v v1 S := by
  intro k hk
  rcases hat with e | ⟨b, e, hb⟩
  · rw [e] at hk; exact h k hk
  · rw [e] at hk; injection hk with hk; exact .inr (by omega)
theorem bitsOf_step (n k : Nat) : bitsOf n (k + 1) = (n / 2 ^ k % 2 == 1) :: bitsOf n k := by
  have h := bitsOf_append n 1 k
  rw [show 1 + k = k + 1 by omega] at h
  rw [h]
  have h1 : bitsOf (n / 2 ^ k) 1 = [n / 2 ^ k % 2 == 1] := by
    simp [bitsOf]
  rw [h1]; rfl
set_option maxHeartbeats 4000000 in
theorem rbput_ok (g : Nat) (v : Value) (base : Nat) (l : List Bool) (n count : Nat) (w : World) (hn : n < 2 ^ count) (hc : count ≤ 64) (hl : l.length ≤ 1000000000) (hB : base ≤ w.heap.size) (h : RWv g v base l w) :
    Calls Tryd.prog 11 #[.pointer (some ⟨g, 0, none⟩), .int .u64 (n : Int), .int .i64 (count : Int)] w fun e w' => e = .returned (.int .i64 0) ∧ ∃ v', RWv g v' base (l ++ bitsOf n count) w' ∧ Near v v' w.heap.size ∧ Kp (GV g v) w w' := by
  have HI := Aside0.mk h
  have hq : (n : Int) / 2 ^ count = 0 := by
    have h1 : n / 2 ^ count = 0 := Nat.div_eq_of_lt hn
    have h2 : ((n / 2 ^ count : Nat) : Int) = (n : Int) / 2 ^ count := by rw [Int.natCast_ediv, Int.natCast_pow]; rfl
    rw [← h2, h1]; rfl
  have HN := Aside0.mk hn
  clear h hn
  by_cases h64 : count < 64
  all_goals
    go_enter Tryd.func11, Tryd.ntmps11
    go_wp2_with fail
    go_loopw [7] (fun v7 w' => ∃ (i : Int) (d : List Bool) (v' : Value), -1 ≤ i ∧ i < count ∧ v7 = .int .i64 i ∧ Aside0 (d ++ bitsOf n (i + 1).toNat = bitsOf n count) ∧ Aside0 (RWv g v' base (l ++ d) w') ∧ Aside0 (Near v v' w.heap.size) ∧ Aside0 (Kp (GV g v) w w')) (fun v7 _ => (intOf v7 + 1).toNat)
    case atStart => exact ⟨(count : Int) - 1, [], v, by omega, by omega, rfl, ⟨by rw [show ((count : Int) - 1 + 1).toNat = count by omega]; rfl⟩, ⟨by rw [List.append_nil]; exact HI.out⟩, ⟨fun k hk => .inl hk⟩, ⟨Kp.refl _ _⟩⟩
    case round =>
      clear HI hq
      obtain ⟨i, d, v', hi0, hi1, rfl, HE, HI, HV, HK⟩ := hrel
      by_cases hge : 0 ≤ i
      · obtain ⟨k, rfl⟩ := Int.eq_ofNat_of_zero_le hge
        have hE := HE.out
        rw [show ((k : Int) + 1).toNat = k + 1 by omega, bitsOf_step] at hE
        obtain ⟨b, hb⟩ : ∃ b, (n / 2 ^ k % 2 == 1) = b := ⟨_, rfl⟩
        rw [hb] at hE
        have hn64 : n < 18446744073709551616 := Nat.lt_of_lt_of_le HN.out (Nat.pow_le_pow_right (n := 2) (by omega) hc)
        have hq2 : n / 2 ^ k < 18446744073709551616 := Nat.lt_of_le_of_lt (Nat.div_le_self _ _) hn64
        have hsh : (n : Int) / 2 ^ k = ((n / 2 ^ k : Nat) : Int) := cast_div n k
        have hb2 : n / 2 ^ k % 2 = b2n b := by
          rw [← hb]; unfold b2n
          by_cases h1 : n / 2 ^ k % 2 = 1
          · rw [if_pos (by simpa using h1)]; exact h1
          · rw [if_neg (by simpa using h1)]; omega
        generalize n / 2 ^ k = q at *
        have hand : Go.bits .and .u64 (q : Int) 1 = (b2n b : Int) := by rw [and_u64_1 _ (by omega) (by omega)]; omega
        have hb1 : b2n b ≤ 1 := by unfold b2n; split <;> omega
        have hdl : (l ++ d).length ≤ 1000000064 := by
          have := congrArg List.length hE
          rw [List.length_append, List.length_cons, bitsOf_length, bitsOf_length] at this
          rw [List.length_append]; omega
        have c0 := HI.out.c0
        have HE2 := Aside0.mk hE
        obtain ⟨c, hc2⟩ : ∃ c, b2n b = c := ⟨_, rfl⟩
        have HC2 := Aside0.mk hc2
        rw [hc2] at hand hb1
        clear hE hb hb2 hq2 hn64 hc2 HE
        have hBr : base ≤ wr.heap.size := Nat.le_trans hB HK.out.size
        go_wp2_with ((with_reducible refine gate_builtin (b := .append) (xs := #[.tmp 35, .tmp 42]) rfl ?_); at_builtin; refine Kd.R_append (Kd.int .u8) (w0 := wr) base rfl (.tmp 35) (.tmp 42) 25 5 (.int .u8 0) 1 rfl Tryd.underlying25 uint8_info rfl (by decide) (by omega) v' (bnums (l ++ d)) (c : Int) [.int .u8 (c : Int)] (fun _ => True) (fun _ => False) rfl rfl rfl (fun _ hk => hk.elim) (fun _ _ => trivial) HI.out.2 (Below.refl _ _) hBr (by rw [bnums_length]; omega) ?_; intro va wa ho hb hg hat; obtain ⟨A', c', hva⟩ := Kd.R_slice ho; obtain ⟨N, hN⟩ : ∃ N, (bnums (l ++ d) ++ [(c : Int)]).length = N := ⟨_, rfl⟩; rw [hN] at hva; subst hva; rw [← HC2.out] at ho; obtain ⟨q0, q1, hv1⟩ := HI.out.more ho hg; have HI1 := Aside0.mk hv1; have HK1 := Aside0.mk ((kp_grown HK.out hg (fun k hk => (HV.out k hk).elim (fun h => .inl (.inr h)) .inr)).set (p := ⟨g, 0, none⟩) (.inl rfl) (.slice A' N c')); have HV1 : Aside0 (Near v (.slice A' N c') w.heap.size) := ⟨near_next HV.out hat HK.out.size⟩; clear c0 ho hb hg hat hv1 hN HI HK HV)
        go_roundw
        case rel => exact ⟨(k : Int) - 1, d ++ [b], .slice A' N c', by omega, by omega, rfl, ⟨by rw [show ((k : Int) - 1 + 1).toNat = k by omega, List.append_assoc]; exact HE2.out⟩, ⟨by rw [← List.append_assoc]; exact HI1.out⟩, HV1, HK1⟩
        case measure => simp [intOf]
      · obtain rfl : i = -1 := by omega
        go_wp2_with fail
        go_ret
        have hE := HE.out
        rw [show ((-1 : Int) + 1).toNat = 0 by rfl] at hE
        have hE2 : d = bitsOf n count := by rw [← hE]; simp [bitsOf]
        exact ⟨rfl, v', by rw [← hE2]; exact HI.out, HV.out, HK.out⟩
end Go.Proofs.YtodhnmflabehhaaDoor
namespace Go.Proofs.YtodhnmflabehhaaDoor
open Go.RowKit Go.Proofs.YtodhnmflabehhaaDoorW.PrintWords Go.Proofs.YtodhnmflabehhaaDoorW.PrintLast Go.Proofs.YtodhnmflabehhaaDoorW.PrintMore Hy

/-- The bytes after i bits. -/
def txt (l : List Bool) (M i : Nat) : List Int := ints (pk (l.take i)) ++ List.replicate (M - (pk (l.take i)).length) (0 : Int)
theorem txt_length (l : List Bool) (M i : Nat) (hM : (l.length + 7) / 8 = M) (hi : i ≤ l.length) : (txt l M i).length = M := by
  unfold txt
  rw [List.length_append, ints_length, List.length_replicate, pk_length, List.length_take]
  omega
theorem txt_step (l : List Bool) (M i : Nat) (hM : (l.length + 7) / 8 = M) (hi : i < l.length) (b : Bool) (hb : l[i] = b) : ∃ (x : Nat), (txt l M i).getD (i / 8) 0 = (x : Int) ∧ (txt l M i).set (i / 8) ((x + b2n b * 2 ^ (7 - i % 8) : Nat) : Int) = txt l M (i + 1) ∧ x % 2 ^ (8 - i % 8) = 0 ∧ x < 256 := by
  have hl : (l.take i).length = i := by rw [List.length_take]; omega
  obtain ⟨P, x, h1, h2, h3, h4⟩ := pk_put (l.take i) [b] (by simp) (by simp; omega)
  rw [hl] at h1 h2 h3
  rw [show l.take i ++ [b] = l.take (i + 1) by rw [List.take_succ_eq_append_getElem hi, hb]] at h2
  have hv : val [b] = b2n b := by cases b <;> rfl
  rw [hv, show 8 - i % 8 - ([b] : List Bool).length = 7 - i % 8 by simp; omega] at h2
  have hlen := congrArg List.length h2
  rw [pk_length, List.length_take, List.length_append] at hlen
  have hP : P.length = i / 8 := by simp at hlen; omega
  have hx : txt l M i = ints P ++ ((x : Int) :: List.replicate (M - (P.length + 1)) (0 : Int)) := by
    unfold txt
    by_cases h8 : i % 8 = 0
    · rw [if_pos h8] at h1
      have e := List.append_inj' h1 rfl
      have e2 : x = 0 := by have := e.2; simp at this; omega
      rw [e.1, e2]
      obtain ⟨z, hz⟩ : ∃ z, M - P.length = z + 1 := ⟨M - P.length - 1, by omega⟩
      rw [hz, List.replicate_succ, show M - (P.length + 1) = z by omega]; rfl
    · rw [if_neg h8] at h1
      rw [h1, ints_append, List.length_append, List.append_assoc]; rfl
  have hy : txt l M (i + 1) = ints P ++ (((x + b2n b * 2 ^ (7 - i % 8) : Nat) : Int) :: List.replicate (M - (P.length + 1)) (0 : Int)) := by
    unfold txt
    rw [h2, ints_append, List.length_append, List.append_assoc]; rfl
  have hPi : (ints P).length = i / 8 := by rw [ints_length]; exact hP
  refine ⟨x, ?_, ?_, h3, h4⟩
  · rw [hx, List.getD_eq_getElem?_getD, List.getElem?_append_right (by omega), hPi, Nat.sub_self]; rfl
  · rw [hx, hy, List.set_append_right _ _ (by omega), hPi, Nat.sub_self]; rfl
theorem txt_zero (l : List Bool) (M : Nat) : txt l M 0 = List.replicate M (0 : Int) := by unfold txt; rw [List.take_zero, pk_nil]; rfl
theorem txt_all (l : List Bool) (M : Nat) (hM : (l.length + 7) / 8 = M) : txt l M l.length = ints (pk l) := by
  unfold txt; rw [List.take_length, pk_length, hM, Nat.sub_self, List.replicate_zero, List.append_nil]
set_option maxHeartbeats 4000000 in
set_option maxRecDepth 100000 in
theorem rbtext_any (g : Nat) (v : Value) (base : Nat) (l : List Bool) (w : World) (hl : l.length ≤ 1000000000) (h : RWv g v base l w) :
    Calls Tryd.prog 19 #[.pointer (some ⟨g, 0, none⟩)] w fun e w' => e = .returned (.string (st (pk l))) ∧ Below w.heap.size w w' := by
  have HB := Aside0.mk (Below.refl w.heap.size w)
  obtain ⟨A, c, hva⟩ := Kd.R_slice h.2
  rw [bnums_length] at hva
  subst hva
  have HI := Aside0.mk h
  have c0 := h.c0
  obtain ⟨M, hM⟩ : ∃ M, (l.length + 7) / 8 = M := ⟨_, rfl⟩
  have hM2 : ((l.length : Int) + 7) / 8 = (M : Int) := by omega
  have hMb : M ≤ 200000000 := by omega
  have HM := Aside0.mk hM
  have HM2 := Aside0.mk hM2
  clear h hM hM2
  go_enter Tryd.func19, Tryd.ntmps19
  go_wp2_with (refine Kd.R_make (Kd.int .u8) (w0 := w) w.heap.size 5 rfl (N := 12) rfl 25 (.tmp 11) (.tmp 11) rfl (((l.length : Int) + 7) / 8) rfl rfl Tryd.underlying25 (.int .u8 0) 1 uint8_info rfl (by decide) (by omega) (0 : Int) (ok := fun _ => True) (okp := fun _ => False) rfl (fun _ hk => hk.elim) trivial (by omega) (by omega) (by repeat (first | (with_reducible exact HB.out) | apply below_alloc | apply pw_below_drewN | apply below_drew1)) (below_size (by repeat (first | (with_reducible exact HB.out) | apply below_alloc | apply pw_below_drewN | apply below_drew1))) ?_; intro va wa ho hb _ _; have HO := Aside0.mk ho; clear HB; have HB := Aside0.mk hb; clear ho hb)
  have ho := HO.out
  rw [HM2.out, Int.toNat_natCast] at ho
  by_cases hl0 : l = []
  · subst hl0
    obtain rfl : M = 0 := by have := HM.out; simp at this; omega
    obtain ⟨A2, c2, hva⟩ := Kd.R_slice ho
    subst hva
    have hcv := own_string (P := Tryd.prog) Tryd.underlying25 Tryd.underlying5 Tryd.underlying9 (Kd.own_of_R ho)
    rw [show strOfNums (List.replicate 0 (0 : Int)) = st (pk []) by rw [pk_nil]; rfl, List.length_replicate] at hcv
    rw [List.length_replicate]
    have d0 : wa.cell? ⟨g, 0, none⟩ = some (.slice A ([] : List Bool).length c) := pw_cell_below HB.out c0
    clear ho HO c0
    refine wp_loop_rounds 1 ?_
    rw [rounds_succ]
    go_wp2_with fail
    go_ret
    exact ⟨rfl, (by repeat (first | (with_reducible exact HB.out) | apply below_alloc | apply pw_below_drewN | apply below_drew1))⟩
  · have hlp : 0 < l.length := List.length_pos_iff.2 hl0
    obtain ⟨ga, cap, hva, hg1, hg2, _⟩ := Kd.R_form ho (by rw [List.length_replicate]; have := HM.out; omega)
    rw [List.length_replicate] at hva
    subst hva
    have HO2 : Aside0 (Kd.R (Kd.int .u8) 5 wa w.heap.size (fun _ => True) (.slice (some ⟨ga, 0, none⟩) M cap) (txt l M 0)) := ⟨by rw [txt_zero]; exact ho⟩
    clear HO ho hg2 hl0 c0
    go_loopw [4] (fun v4 w' => ∃ i : Nat, i ≤ l.length ∧ v4 = .int .i64 (i : Int) ∧ Aside0 (Kd.R (Kd.int .u8) 5 w' w.heap.size (fun _ => True) (.slice (some ⟨ga, 0, none⟩) M cap) (txt l M i)) ∧ Aside0 (Below w.heap.size w w')) (fun v4 _ => l.length - (intOf v4).toNat)
    case atStart => exact ⟨0, by omega, rfl, HO2, HB⟩
    case round =>
      clear HO2 HB
      obtain ⟨i, hi, rfl, HO, HB⟩ := hrel
      have c0 := (HI.out.below HB.out).c0
      by_cases hlt : i < l.length
      · obtain ⟨b, hb⟩ : ∃ b, l[i] = b := ⟨_, rfl⟩
        obtain ⟨x, hx, hset, hx2, hx3⟩ := txt_step l M i HM.out hlt b hb
        have hlen := txt_length l M i HM.out hi
        have ho := HO.out
        rw [show Value.slice (some ⟨ga, 0, none⟩) M cap = .slice (some ⟨ga, 0, none⟩) (txt l M i).length cap by rw [hlen]] at ho
        obtain ⟨p, hp⟩ : ∃ p, i / 8 = p := ⟨_, rfl⟩
        have hpM : p < M := by have := HM.out; omega
        obtain ⟨k, hk⟩ : ∃ k, 7 - i % 8 = k := ⟨_, rfl⟩
        obtain ⟨r, hr⟩ : ∃ r, i % 8 = r := ⟨_, rfl⟩
        obtain ⟨d1, d2⟩ := Kd.R_cell (0 : Int) ho (p : Int) (by omega) (by rw [hlen]; omega)
        have hput := (Kd.R_put ho (p : Int) ((x + b2n b * 2 ^ k : Nat) : Int)).1
        rw [Int.toNat_natCast] at d1 d2 hput
        have hrd : rdOf (0 : Int) (txt l M i) (p : Int) = (x : Int) := by unfold rdOf; rw [Int.toNat_natCast, ← hp]; exact hx
        rw [hrd] at d1
        rw [← hp, ← hk, hset, hlen] at hput
        rw [hp, hk] at hput
        have HP := Aside0.mk hput
        have HB2 := Aside0.mk (HB.out.setCell (p := ⟨ga, p, none⟩) hg1 (.int .u8 ((x + b2n b * 2 ^ k : Nat) : Int)))
        obtain ⟨ad, rfl, e1⟩ := cellAt (R_C (HI.out.below HB.out).2).1 i (by rw [bnums_length]; exact hlt)
        rw [show (bnums l)[i]'(by rw [bnums_length]; exact hlt) = (b2n b : Int) by simp [bnums, hb]] at e1
        have hb1 : b2n b ≤ 1 := by unfold b2n; split <;> omega
        obtain ⟨c1, hc1⟩ : ∃ c1, b2n b = c1 := ⟨_, rfl⟩
        rw [hc1] at hb1 e1 HP HB2
        have hk7 : k ≤ 7 := by omega
        have hpk := pow8 k (by omega)
        have hck : c1 * 2 ^ k < 256 := by
          rcases Nat.lt_or_ge 0 c1 with h | h
          · obtain rfl : c1 = 1 := by omega
            have : (2 : Nat) ^ k ≤ 2 ^ 7 := Nat.pow_le_pow_right (by omega) hk7
            omega
          · obtain rfl : c1 = 0 := by omega
            omega
        have hor : Go.bits .or .u8 (x : Int) ((c1 : Int) * 2 ^ k % 256) = ((x + c1 * 2 ^ k : Nat) : Int) := by
          rw [cast_shl, Int.emod_eq_of_lt (by omega) (by omega)]
          exact join_u8 x c1 k (8 - i % 8) hx2 hx3 (by omega) (by omega) (Nat.lt_of_le_of_lt hb1 (by rw [show 8 - i % 8 - k = 1 by omega]; decide))
        generalize x + c1 * 2 ^ k = y at *
        have hp2 : (i : Int) / 8 = (p : Int) := by omega
        have hr2 : (i : Int) % 8 = (r : Int) := by omega
        have hk2 : 7 - (r : Int) = (k : Int) := by omega
        have hpm2 : (p : Int) < (M : Int) := by omega
        have hli : (i : Int) < (l.length : Int) := by omega
        have HK := Aside0.mk hk
        have HOR := Aside0.mk hor
        clear hor hb hset hlen ho hput hrd hx hp hk hr hx2 hx3 hck hpk hc1 hb1 hpM
        go_wp2_with fail
        obtain ⟨W2, hW2⟩ : ∃ W2, wr.drew = W2 := ⟨_, rfl⟩
        have k0 : W2.cell? ⟨g, 0, none⟩ = some (.slice (some ad) l.length c) := by rw [← hW2]; exact c0
        have k1 : W2.cell? ⟨ga, p, none⟩ = some (.int .u8 (x : Int)) := by rw [← hW2]; exact d1
        have k2 : W2.frozen? ⟨ga, p, none⟩ = false := by rw [← hW2]; exact d2
        have k3 : W2.cell? (ad.add i) = some (.int .u8 (c1 : Int)) := by rw [← hW2]; exact e1
        have HP2 : Aside0 (Kd.R (Kd.int .u8) 5 (W2.setCell ⟨ga, p, none⟩ (.int .u8 (y : Int))) w.heap.size (fun _ => True) (.slice (some ⟨ga, 0, none⟩) M cap) (txt l M (i + 1))) := ⟨by rw [← hW2]; exact HP.out⟩
        have HB3 : Aside0 (Below w.heap.size w (W2.setCell ⟨ga, p, none⟩ (.int .u8 (y : Int)))) := ⟨by rw [← hW2]; exact HB.out.drew.setCell (p := ⟨ga, p, none⟩) hg1 _⟩
        clear HP HB2 c0 d1 d2 e1 HO HB
        have hw1 : IntKind.i64.wrap (p : Int) = (p : Int) := IntWalk.i64_in _ (by omega)
        have hw2 : IntKind.i64.wrap (k : Int) = (k : Int) := IntWalk.i64_in _ (by omega)
        have hw3 : IntKind.i64.wrap (r : Int) = (r : Int) := IntWalk.i64_in _ (by omega)
        have hw4 : IntKind.u64.wrap (k : Int) = (k : Int) := by rw [wrap_u64]; omega
        refine wp_region_still_tail 18 (by kernel_rfl) (by kernel_rfl) ?_
        simp only [List.take_succ_cons, List.take_zero, List.drop_succ_cons, List.drop_zero]
        unfold World.drew at hW2
        rw [hW2]
        clear hW2
        repeat still_step
        try refine wpStill_nil ?_
        go_wp2_with fail
        go_roundw
        case rel =>
          have he : Go.bits .or .u8 (x : Int) ((c1 : Int) * 2 ^ min (7 - i % 8) 8 % 256) = (y : Int) := by rw [show min (7 - i % 8) 8 = k by have := HK.out; omega]; exact HOR.out
          exact ⟨i + 1, by omega, by go_num, by rw [he]; exact HP2, by rw [he]; exact HB3⟩
        case measure => simp [intOf]; omega
      · obtain rfl : i = l.length := by omega
        have ho := HO.out
        have hlen := txt_length l M l.length HM.out (Nat.le_refl _)
        rw [show Value.slice (some ⟨ga, 0, none⟩) M cap = .slice (some ⟨ga, 0, none⟩) (txt l M l.length).length cap by rw [hlen]] at ho
        have hcv := own_string (P := Tryd.prog) Tryd.underlying25 Tryd.underlying5 Tryd.underlying9 (Kd.own_of_R ho)
        rw [txt_all l M HM.out] at hcv
        have hst : strOfNums (ints (pk l)) = st (pk l) := strOfNums_eq _
        rw [hst] at hcv
        rw [txt_all l M HM.out] at hlen
        rw [hlen] at hcv
        clear ho hst
        go_wp2_with fail
        go_ret
        exact ⟨rfl, (by repeat (first | (with_reducible exact HB.out) | apply below_alloc | apply pw_below_drewN | apply below_drew1))⟩
end Go.Proofs.YtodhnmflabehhaaDoor
namespace Go.Proofs.YtodhnmflabehhaaDoor
open Go.RowKit Go.Proofs.YtodhnmflabehhaaDoorW.PrintWords Go.Proofs.YtodhnmflabehhaaDoorW.PrintLast Go.Proofs.YtodhnmflabehhaaDoorW.PrintMore Hy

theorem rlead_l0 (n : Nat) (h : n < 18446744073709551616) : ∀ (d x k : Nat), x + d = 64 → d < k → x ≤ lead n → PXorGets.hygref2_Lead.l0 k (n : Int) (x : Int) = some ((lead n : Nat) : Int) := by
  have hl : lead n ≤ 64 := by unfold lead; split <;> omega
  intro d
  induction d with
  | zero =>
    intro x k hx hk hle
    obtain ⟨k, rfl⟩ : ∃ m, k = m + 1 := ⟨k - 1, by omega⟩
    simp only [PXorGets.hygref2_Lead.l0]
    rw [if_neg (by omega), show x = lead n by omega]
  | succ d ih =>
    intro x k hx hk hle
    obtain ⟨k, rfl⟩ : ∃ m, k = m + 1 := ⟨k - 1, by omega⟩
    have e1 : IntKind.u64.wrap (wrap64 (63 - (x : Int))) = ((63 - x : Nat) : Int) := by rw [wrap_u64]; unfold wrap64; omega
    have e2 : wrap64 ((x : Int) + 1) = ((x + 1 : Nat) : Int) := by unfold wrap64; omega
    have hb : n / 2 ^ (63 - x) < 18446744073709551616 := Nat.lt_of_le_of_lt (Nat.div_le_self _ _) h
    have hi := lead_iff n x h (by omega) hle
    simp only [PXorGets.hygref2_Lead.l0]
    rw [if_pos (by omega), e1, if_pos (by omega), shr_div _ _ (by omega), e2]
    by_cases hlt : x < lead n
    · rw [hi.2 hlt, if_pos (by decide)]
      exact ih (x + 1) k (by omega) (by omega) (by omega)
    · have hxl : x = lead n := by omega
      have hn0 : n ≠ 0 := by rintro rfl; simp [lead] at hxl; omega
      have h1 := (lead_says n hn0 h).2
      rw [← hxl] at h1
      rw [h1, if_neg (by decide), ← hxl]
theorem rlead_any (n : Nat) (w : World) (h : n < 18446744073709551616) : Calls Tryd.prog 15 #[.int .u64 (n : Int)] w fun e w' => e = .returned (.int .i64 ((lead n : Nat) : Int)) ∧ Drawn0 w w' :=
  PXorGets.hygref2_Lead.calls 70 _ _ w (rlead_l0 n h 64 0 70 (by omega) (by omega) (by omega))
theorem trail_iff (n : Nat) (h : n < 18446744073709551616) : trail n ≤ 64 ∧ ∀ x, x < 64 → x ≤ trail n → (n / 2 ^ x % 2 = 0 ↔ x < trail n) := by
  by_cases hn : n = 0
  · subst hn; simp [trail]; intro x hx _; omega
  · obtain ⟨i1, i2, i3, i4⟩ := tz_says 64 n hn h
    unfold trail
    rw [if_neg hn]
    refine ⟨by omega, fun x hx hxl => ⟨fun e => ?_, fun hlt => i4 x hlt⟩⟩
    rcases Nat.lt_or_ge x (tz 64 n) with h | h
    · exact h
    · obtain rfl : x = tz 64 n := by omega
      omega
theorem rtrail_l0 (n : Nat) (h : n < 18446744073709551616) : ∀ (d x k : Nat), x + d = 64 → d < k → x ≤ trail n → PXorGets.hygref2_Trail.l0 k (n : Int) (x : Int) = some ((trail n : Nat) : Int) := by
  have hs := trail_iff n h
  intro d
  induction d with
  | zero =>
    intro x k hx hk hle
    obtain ⟨k, rfl⟩ : ∃ m, k = m + 1 := ⟨k - 1, by omega⟩
    simp only [PXorGets.hygref2_Trail.l0]
    rw [if_neg (by omega), show x = trail n by omega]
  | succ d ih =>
    intro x k hx hk hle
    obtain ⟨k, rfl⟩ : ∃ m, k = m + 1 := ⟨k - 1, by omega⟩
    have e1 : IntKind.u64.wrap (x : Int) = (x : Int) := by rw [wrap_u64]; omega
    have e2 : wrap64 ((x : Int) + 1) = ((x + 1 : Nat) : Int) := by unfold wrap64; omega
    have hb : n / 2 ^ x < 18446744073709551616 := Nat.lt_of_le_of_lt (Nat.div_le_self _ _) h
    simp only [PXorGets.hygref2_Trail.l0]
    have hi := hs.2 x (by omega) hle
    rw [if_pos (by omega), e1, if_pos (by omega), shr_div _ _ (by omega)]
    generalize n / 2 ^ x = q at *
    rw [and_u64_1 _ (by omega) (by omega), e2]
    by_cases hlt : x < trail n
    · rw [if_pos (by have := hi.2 hlt; omega)]
      exact ih (x + 1) k (by omega) (by omega) (by omega)
    · rw [if_neg (by intro e; exact hlt (hi.1 (by omega))), show x = trail n by omega]
theorem rtrail_any (n : Nat) (w : World) (h : n < 18446744073709551616) : Calls Tryd.prog 17 #[.int .u64 (n : Int)] w fun e w' => e = .returned (.int .i64 ((trail n : Nat) : Int)) ∧ Drawn0 w w' :=
  PXorGets.hygref2_Trail.calls 70 _ _ w (rtrail_l0 n h 64 0 70 (by omega) (by omega) (by omega))

/-- The document's own bits, of the call's own. -/
def RB (B g : Nat) (l : List Bool) (w : World) : Prop := B ≤ g ∧ ∃ v, RWv g v B l w
theorem RB.new (w : World) : RB w.heap.size w.heap.size [] (w.alloc (.cells #[.slice none 0 0] 30)) :=
  ⟨Nat.le_refl _, .slice none 0 0, heap_alloc_new w _, Kd.R_nil _ _ _ _ _⟩
theorem RB.below {B g l} {w w' : World} (h : RB B g l w) (hb : Below w.heap.size w w') : RB B g l w' := by
  obtain ⟨h1, v, h2⟩ := h
  exact ⟨h1, v, h2.below hb⟩
theorem rputs_any (B g : Nat) (l : List Bool) (n c : Int) (w : World) (h0 : 0 ≤ n) (hc0 : 0 ≤ c) (hn : n.toNat < 2 ^ c.toNat) (hc : c ≤ 64) (hl : l.length ≤ 1000000000) (hB : B ≤ w.heap.size) (h : RB B g l w) :
    Calls Tryd.prog 11 #[.pointer (some ⟨g, 0, none⟩), .int .u64 n, .int .i64 c] w fun e w' => e = .returned (.int .i64 0) ∧ RB B g (l ++ bitsOf n.toNat c.toNat) w' ∧ Below B w w' := by
  obtain ⟨n, rfl⟩ := Int.eq_ofNat_of_zero_le h0
  obtain ⟨c, rfl⟩ := Int.eq_ofNat_of_zero_le hc0
  rw [Int.toNat_natCast, Int.toNat_natCast] at *
  obtain ⟨hg, v, hv⟩ := h
  refine (rbput_ok g v B l n c w hn (by omega) hl hB hv).mono ?_
  rintro e w' ⟨rfl, v', h1, h2, h3⟩
  refine ⟨rfl, ⟨hg, v', h1⟩, h3.toBelow hB (fun k hk => ?_)⟩
  rcases hk with rfl | hk
  · exact hg
  · exact own_base (Kd.own_of_R hv.2) k hk
set_option maxHeartbeats 8000000 in
set_option maxRecDepth 100000 in
theorem rputxor_any (A : Option Addr) (c : Nat) (l : List Int) (w : World) (hr : Kd.C (Kd.int .u64) w A l.length l) (hc : l.length ≤ c) (hl : l.length ≤ 20000) (hx : ∀ x ∈ l, 0 ≤ x ∧ x < 18446744073709551616) :
    Calls Tryd.prog 30 #[.slice A l.length c] w fun e w' => e = .returned (.tuple #[.string (colT (nat l)), .int .i64 0]) ∧ Below w.heap.size w w' := by
  have HB := Aside0.mk (Below.refl w.heap.size w)
  have HR := Aside0.mk hr
  have HC := Aside0.mk hc
  have HX := Aside0.mk hx
  clear hr hc hx
  go_enter Tryd.func30, Tryd.ntmps30
  go_wp2_with fail
  obtain ⟨g, hg⟩ : ∃ g, w.heap.size = g := ⟨_, rfl⟩
  have HI0 : Aside0 (RB w.heap.size g [] (w.alloc (.cells #[.slice none 0 0] 30))) := ⟨by rw [← hg]; exact RB.new w⟩
  rw [hg]
  clear hg
  go_loopw [5] (fun v5 w' => ∃ k : Nat, k ≤ l.length ∧ v5 = .int .i64 (k : Int) ∧ Aside0 (RB w.heap.size g (encL (nat (l.take k))) w') ∧ Aside0 (Below w.heap.size w w')) (fun v5 _ => l.length - (intOf v5).toNat)
  case atStart => exact ⟨0, by omega, rfl, HI0, ⟨(by repeat (first | (with_reducible exact HB.out) | apply below_alloc | apply pw_below_drewN | apply below_drew1))⟩⟩
  case round =>
    clear HB HI0
    obtain ⟨k, hk, rfl, HI, HB⟩ := hrel
    by_cases hlt : k < l.length
    · obtain ⟨ad, rfl, hcell⟩ := cellAt (Kd.C_below HR.out HB.out) k hlt
      have hxk := Aside0.mk (HX.out _ (List.getElem_mem hlt))
      have hbl : (encL (nat (l.take k))).length ≤ 1600000 := by have := encL_len (nat (l.take k)); rw [nat_length, List.length_take] at this; omega
      have hsz := HB.out.size
      by_cases h0 : k = 0
      · subst h0
        have HE : Aside0 (encL (nat (l.take (0 + 1))) = encL (nat (l.take 0)) ++ bitsOf (l[0]).toNat 64) := ⟨by
          rw [List.take_succ_eq_append_getElem hlt]; simp [nat, encL, encT]⟩
        have hk0 : (((0 : Nat) : Int) == 0) = true := by decide
        have hn64 : Aside0 ((l[0]).toNat < 2 ^ (64 : Int).toNat) := ⟨by rw [show (64 : Int).toNat = 64 from rfl]; have := hxk.out; omega⟩
        have c0 : wr.cell? ad = some (.int .u64 l[0]) := hcell
        clear hcell
        go_wp2_with (first
          | (go_at_call 11; refine (rputs_any w.heap.size g _ _ 64 _ hxk.out.1 (by decide) hn64.out (by decide) (by omega) hsz HI.out).mono ?_; rintro e w1 ⟨rfl, h1, b1⟩; have HI1 := Aside0.mk h1; have HB1 := Aside0.mk (HB.out.trans b1); clear h1 b1 HB HI))
        go_roundw
        case rel => exact ⟨0 + 1, by omega, by go_num, ⟨by rw [HE.out]; exact HI1.out⟩, HB1⟩
        case measure => simp [intOf]; omega
      · obtain ⟨m, hm⟩ : ∃ m, k = m + 1 := ⟨k - 1, by omega⟩
        have hml : m < l.length := by omega
        obtain ⟨ad', e', hcell2⟩ := cellAt (Kd.C_below HR.out HB.out) m hml
        injection e' with e'
        subst e'
        have hm2 : (k : Int) - 1 = (m : Int) := by omega
        have hk0 : ((k : Int) == 0) = false := by simp; omega
        have hxj := HX.out _ (List.getElem_mem hml)
        obtain ⟨q1, q2, q3⟩ := xor_nat _ _ hxk.out hxj
        have HE : Aside0 (encL (nat (l.take (k + 1))) = encL (nat (l.take k)) ++ encD (Go.bits .xor .u64 l[k] l[m]).toNat) := ⟨by
          subst hm; rw [q3]; exact encL_take l m hlt⟩
        have Q2 := Aside0.mk q2
        have hwm : IntKind.i64.wrap (m : Int) = (m : Int) := IntWalk.i64_in _ (by omega)
        obtain ⟨x, hxx⟩ : ∃ x : Nat, Go.bits .xor .u64 l[k] l[m] = (x : Int) := Int.eq_ofNat_of_zero_le q1
        rw [hxx] at Q2 HE
        rw [Int.toNat_natCast] at HE
        clear q3 q2 q1 hxj hm h0
        go_wp2_with fail
        go_quiet (fail)
        have HI0 : Aside0 (RB w.heap.size g (encL (nat (List.take k l))) (wr.drewN nq)) := ⟨HI.out.below (drewN_below (Below.refl _ _) _)⟩
        have HB0 : Aside0 (Below w.heap.size w (wr.drewN nq)) := ⟨drewN_below HB.out nq⟩
        have hsz0 := HB0.out.size
        clear HI HB hcell hcell2
        generalize wr.drewN nq = wq at *
        by_cases hx0 : x = 0
        · subst hx0
          rw [show encD 0 = [false] from rfl] at HE
          go_wp2_with (first
            | (go_at_call 11; refine (rputs_any w.heap.size g _ 0 1 _ (by decide) (by decide) (by decide) (by decide) (by omega) hsz0 HI0.out).mono ?_; rintro e w1 ⟨rfl, h1, b1⟩; have HI1 := Aside0.mk h1; have HB1 := Aside0.mk (HB0.out.trans b1); clear h1 b1 HB0 HI0))
          go_roundw
          case rel => exact ⟨k + 1, by omega, by go_num, ⟨by rw [HE.out]; exact HI1.out⟩, HB1⟩
          case measure => simp [intOf]; omega
        · have hx : x < 18446744073709551616 := by have := Q2.out; omega
          obtain ⟨s1, _, _, _⟩ := ends_says x hx0 hx
          have z := size_lt x hx0 hx
          have A1 := fun w => rlead_any x w hx
          have A2 := fun w => rtrail_any x w hx
          have HE2 : Aside0 (encD x = true :: (bitsOf (lead x) 6 ++ (bitsOf (63 - lead x - trail x) 6 ++ bitsOf (x / 2 ^ trail x) (64 - lead x - trail x)))) := ⟨by unfold encD; rw [if_neg hx0]⟩
          have f6 : ((x : Int) == 0) = false := by rw [beq_eq_false_iff_ne]; omega
          generalize lead x = L at *
          generalize trail x = t at *
          obtain ⟨q, hq⟩ : ∃ q, x / 2 ^ t = q := ⟨_, rfl⟩
          obtain ⟨S, hS⟩ : ∃ S, 64 - L - t = S := ⟨_, rfl⟩
          obtain ⟨S1, hS1⟩ : ∃ S1, 63 - L - t = S1 := ⟨_, rfl⟩
          rw [hq, hS, hS1] at HE2
          rw [hq, hS] at z
          have f1 : (x : Int) / 2 ^ t = (q : Int) := by rw [cast_div, hq]
          have f3 : (64 : Int) - (L : Int) - (t : Int) = (S : Int) := by omega
          have f4 : (S : Int) - 1 = (S1 : Int) := by omega
          have hL2 : (L : Int) ≤ 63 := by omega
          have ht2 : (t : Int) ≤ 63 := by omega
          have hS2 : (S : Int) ≤ 64 := by omega
          have hS3 : (S1 : Int) ≤ 63 := by omega
          have hS4 : (1 : Int) ≤ (S : Int) := by omega
          have hLn : L < 64 := by omega
          have hSn : S1 < 64 := by omega
          have Z := Aside0.mk z
          clear z hq hS hS1 hx s1 hx0
          go_wp2_with (first
            | (go_at_call 15; refine (A1 _).mono ?_; rintro e wd ⟨rfl, ⟨nd, rfl⟩⟩)
            | (go_at_call 17; refine (A2 _).mono ?_; rintro e wd ⟨rfl, ⟨nd, rfl⟩⟩))
          refine (rputs_any w.heap.size g _ 1 1 _ (by decide) (by decide) (by decide) (by decide) (by omega) (by exact HB0.out.size) (HI0.out.below (drewN_below (Below.refl _ _) _))).mono ?_
          rintro e w1 ⟨rfl, h1, b1⟩
          have H1 := Aside0.mk h1
          have B1 : Aside0 (Below w.heap.size w w1) := ⟨by first | exact HB0.out.trans b1 | exact (drewN_below HB0.out _).trans b1⟩
          clear h1 b1 HI0 HB0
          go_wp2_with (first
            | (go_at_call 15; refine (A1 _).mono ?_; rintro e wd ⟨rfl, ⟨nd, rfl⟩⟩)
            | (go_at_call 17; refine (A2 _).mono ?_; rintro e wd ⟨rfl, ⟨nd, rfl⟩⟩))
          refine (rputs_any w.heap.size g _ (L : Int) 6 _ (by omega) (by decide) (by rw [Int.toNat_natCast]; exact hLn) (by decide) (by simp [bitsOf_length]; omega) (by exact B1.out.size) (H1.out.below (drewN_below (Below.refl _ _) _))).mono ?_
          rintro e w2 ⟨rfl, h1, b1⟩
          have H2 := Aside0.mk h1
          have B2 : Aside0 (Below w.heap.size w w2) := ⟨by first | exact B1.out.trans b1 | exact (drewN_below B1.out _).trans b1⟩
          clear h1 b1 H1 B1
          go_wp2_with (first
            | (go_at_call 15; refine (A1 _).mono ?_; rintro e wd ⟨rfl, ⟨nd, rfl⟩⟩)
            | (go_at_call 17; refine (A2 _).mono ?_; rintro e wd ⟨rfl, ⟨nd, rfl⟩⟩))
          refine (rputs_any w.heap.size g _ (S1 : Int) 6 _ (by omega) (by decide) (by rw [Int.toNat_natCast]; exact hSn) (by decide) (by simp [bitsOf_length]; omega) (by exact B2.out.size) H2.out).mono ?_
          rintro e w3 ⟨rfl, h1, b1⟩
          have H3 := Aside0.mk h1
          have B3 : Aside0 (Below w.heap.size w w3) := ⟨by first | exact B2.out.trans b1 | exact (drewN_below B2.out _).trans b1⟩
          clear h1 b1 H2 B2
          go_wp2_with (first
            | (go_at_call 15; refine (A1 _).mono ?_; rintro e wd ⟨rfl, ⟨nd, rfl⟩⟩)
            | (go_at_call 17; refine (A2 _).mono ?_; rintro e wd ⟨rfl, ⟨nd, rfl⟩⟩))
          refine (rputs_any w.heap.size g _ (q : Int) (S : Int) _ (by omega) (by omega) (by rw [Int.toNat_natCast, Int.toNat_natCast]; exact Z.out) (by omega) (by simp [bitsOf_length]; omega) (by exact B3.out.size) (H3.out.below (drewN_below (Below.refl _ _) _))).mono ?_
          rintro e w4 ⟨rfl, h1, b1⟩
          have H4 := Aside0.mk h1
          have B4 : Aside0 (Below w.heap.size w w4) := ⟨by first | exact B3.out.trans b1 | exact (drewN_below B3.out _).trans b1⟩
          clear h1 b1 H3 B3
          go_wp2_with fail
          go_roundw
          case rel =>
            refine ⟨k + 1, by omega, by go_num, ⟨?_⟩, B4⟩
            have := H4.out
            rw [Int.toNat_natCast, Int.toNat_natCast, Int.toNat_natCast, Int.toNat_natCast] at this
            rw [HE.out, HE2.out]
            simpa [List.append_assoc, bitsOf] using this
          case measure => simp [intOf]; omega
    · obtain rfl : k = l.length := by omega
      rw [List.take_length] at HI
      have hS := fun w' (h : RB w.heap.size g (encL (nat l)) w') => rbtext_any g _ _ _ w' (by have := encL_len (nat l); rw [nat_length] at this; omega) h.2.choose_spec
      go_wp2_with (first
        | (go_at_call 19; refine (hS _ HI.out).mono ?_; rintro e wb ⟨rfl, hb⟩; have HBn : Aside0 (Below w.heap.size w wb) := ⟨below_next (by repeat (first | (with_reducible exact HB.out) | apply below_alloc | apply pw_below_drewN | apply below_drew1)) hb⟩; clear HB hb; have HB := HBn; clear HBn))
      go_ret2
      exact ⟨rfl, (by repeat (first | (with_reducible exact HB.out) | apply below_alloc | apply pw_below_drewN | apply below_drew1))⟩
end Go.Proofs.YtodhnmflabehhaaDoor
