import Derived.Test.YtodhnmflabehhaaDoorMkvsfwfem
import Derived.Test.YtodhnmflabehhaaDoorMsyosqzhj
import Derived.Outline
import Derived.StillTailTactics
import Derived.IntWalk
import Derived.Test.YtodhnmflabehhaaDoorMfknojbzb
namespace Go.Proofs.YtodhnmflabehhaaDoor
open Go.RowKit Go.Proofs.YtodhnmflabehhaaDoorW.PrintWords Go.Proofs.YtodhnmflabehhaaDoorW.PrintLast Go.Proofs.YtodhnmflabehhaaDoorW.PrintMore Hy

/-! ### the document's own bits, each in a byte -/
def b2n (b : Bool) : Nat := if b then 1 else 0
def bnums (l : List Bool) : List Int := l.map fun b => (b2n b : Int)
theorem bnums_length (l : List Bool) : (bnums l).length = l.length := by simp [bnums]
theorem bnums_snoc (l : List Bool) (b : Bool) : bnums l ++ [(b2n b : Int)] = bnums (l ++ [b]) := by simp [bnums]
/-- Its block g, with the row v. -/
def RWv (g : Nat) (v : Value) (base : Nat) (l : List Bool) (w : World) : Prop :=
  w.heap[g]? = some (.cells #[v] 30 (0, 0)) ∧ Kd.R (Kd.int .u8) 5 w base (fun _ => True) v (bnums l)
theorem RWv.c0 {g v base l w} (h : RWv g v base l w) : w.cell? ⟨g, 0, none⟩ = some v := by rw [blk_cell h.1]; rfl
theorem RWv.apart {g v base l w} (h : RWv g v base l w) : ¬ (some g = v.ownBlock) := own_ne (Kd.own_of_R h.2) h.1 (by decide)
theorem RWv.below {g v base l} {w w' : World} (h : RWv g v base l w) (hb : Below w.heap.size w w') : RWv g v base l w' := ⟨blk_below h.1 hb, Kd.R_below h.2 hb⟩
/-- One bit more: what the store of the row leaves. -/
theorem RWv.more {g v v1 base l w w1} {b : Bool} (h : RWv g v base l w) (ho : Kd.R (Kd.int .u8) 5 w1 base (fun _ => True) v1 (bnums l ++ [(b2n b : Int)])) (hg : w.grownBy w1 v.ownBlock) :
    w1.cell? ⟨g, 0, none⟩ = some v ∧ w1.frozen? ⟨g, 0, none⟩ = false ∧ RWv g v1 base (l ++ [b]) (w1.setCell ⟨g, 0, none⟩ v1) := by
  have hb : w1.heap[g]? = some (.cells #[v] 30 (0, 0)) := blk_grown h.1 hg h.apart
  rw [bnums_snoc] at ho
  have hne : ∀ k, v1.ownBlock = some k → ¬ (k = g) := fun k hk e => own_ne (Kd.own_of_R ho) hb (by decide) (by rw [hk, e])
  refine ⟨by rw [blk_cell hb]; rfl, blk_frozen hb 0, by rw [blk_set hb]; rfl, ?_⟩
  have ho2 : (Kd.int .u8).R 5 w1 base (fun k => ¬ (k = g)) v1 (bnums (l ++ [b])) := Kd.R_of_own (Kd.own_of_R ho) hne
  have hr := (Kp.set (Kp.refl (fun k => k = g) w1) (p := ⟨g, 0, none⟩) rfl v1).row ho2 (fun k hk => hk)
  exact Kd.R_mono hr (fun _ _ => trivial)
/-- Where a row may lie that was put to. -/
def Near (v v' : Value) (S : Nat) : Prop := ∀ k, v'.ownBlock = some k → v.ownBlock = some k ∨ S ≤ k
/-- The blocks that a writing may turn. -/
def GV (g : Nat) (v : Value) (k : Nat) : Prop := k = g ∨ v.ownBlock = some k
theorem kp_grown {M : Nat → Prop} {w w1 w2 : World} {row : Option Nat} (h : Kp M w w1) (hg : w1.grownBy w2 row) (hr : ∀ k, row = some k → M k ∨ w.heap.size ≤ k) : Kp M w w2 :=
  ⟨hg.os.trans h.os, hg.tape.trans h.tape, hg.output.trans h.output, Nat.le_trans h.size hg.size, fun k hk hm => by
    rw [hg.block k (Nat.lt_of_lt_of_le hk h.size) (fun e => by rcases hr k e.symm with h1 | h1; exact hm h1; omega)]
    exact h.block k hk hm⟩
theorem near_next {v v' v1 : Value} {S : Nat} {wr : World} (h : Near v v' S) (hat : v1.ownBlock = v'.ownBlock ∨ ∃ b, v1.ownBlock = some b ∧ wr.heap.size ≤ b) (hS : S ≤ wr.heap.size) : Near v v1 S := by
  intro k hk
  rcases hat with e | ⟨b, e, hb⟩
  · rw [e] at hk; exact h k hk
  · rw [e] at hk; injection hk with hk; exact .inr (by omega)
theorem bitsOf_step (n k : Nat) : bitsOf n (k + 1) = (n / 2 ^ k % 2 == 1) :: bitsOf n k := by
  have h := bitsOf_append n 1 k
  rw [show 1 + k = k + 1 by omega] at h
  rw [h]
  have h1 : bitsOf (n / 2 ^ k) 1 = [n / 2 ^ k % 2 == 1] := by
    simp [bitsOf]
  rw [h1]; rfl
set_option maxHeartbeats 4000000 in
theorem rbput_ok (g : Nat) (v : Value) (base : Nat) (l : List Bool) (n count : Nat) (w : World) (hn : n < 2 ^ count) (hc : count ≤ 64) (hl : l.length ≤ 1000000000) (hB : base ≤ w.heap.size) (h : RWv g v base l w) :
    Calls Tryd.prog 11 #[.pointer (some ⟨g, 0, none⟩), .int .u64 (n : Int), .int .i64 (count : Int)] w fun e w' => e = .returned (.int .i64 0) ∧ ∃ v', RWv g v' base (l ++ bitsOf n count) w' ∧ Near v v' w.heap.size ∧ Kp (GV g v) w w' := by
  have HI := Aside0.mk h
  have hq : (n : Int) / 2 ^ count = 0 := by
    have h1 : n / 2 ^ count = 0 := Nat.div_eq_of_lt hn
    have h2 : ((n / 2 ^ count : Nat) : Int) = (n : Int) / 2 ^ count := by rw [Int.natCast_ediv, Int.natCast_pow]; rfl
    rw [← h2, h1]; rfl
  have HN := Aside0.mk hn
  clear h hn
  by_cases h64 : count < 64
  all_goals
    go_enter Tryd.func11, Tryd.ntmps11
    go_wp2_with fail
    go_loopw [7] (fun v7 w' => ∃ (i : Int) (d : List Bool) (v' : Value), -1 ≤ i ∧ i < count ∧ v7 = .int .i64 i ∧ Aside0 (d ++ bitsOf n (i + 1).toNat = bitsOf n count) ∧ Aside0 (RWv g v' base (l ++ d) w') ∧ Aside0 (Near v v' w.heap.size) ∧ Aside0 (Kp (GV g v) w w')) (fun v7 _ => (intOf v7 + 1).toNat)
    case atStart => exact ⟨(count : Int) - 1, [], v, by omega, by omega, rfl, ⟨by rw [show ((count : Int) - 1 + 1).toNat = count by omega]; rfl⟩, ⟨by rw [List.append_nil]; exact HI.out⟩, ⟨fun k hk => .inl hk⟩, ⟨Kp.refl _ _⟩⟩
    case round =>
      clear HI hq
      obtain ⟨i, d, v', hi0, hi1, rfl, HE, HI, HV, HK⟩ := hrel
      by_cases hge : 0 ≤ i
      · obtain ⟨k, rfl⟩ := Int.eq_ofNat_of_zero_le hge
        have hE := HE.out
        rw [show ((k : Int) + 1).toNat = k + 1 by omega, bitsOf_step] at hE
        obtain ⟨b, hb⟩ : ∃ b, (n / 2 ^ k % 2 == 1) = b := ⟨_, rfl⟩
        rw [hb] at hE
        have hn64 : n < 18446744073709551616 := Nat.lt_of_lt_of_le HN.out (Nat.pow_le_pow_right (n := 2) (by omega) hc)
        have hq2 : n / 2 ^ k < 18446744073709551616 := Nat.lt_of_le_of_lt (Nat.div_le_self _ _) hn64
        have hsh : (n : Int) / 2 ^ k = ((n / 2 ^ k : Nat) : Int) := cast_div n k
        have hb2 : n / 2 ^ k % 2 = b2n b := by
          rw [← hb]; unfold b2n
          by_cases h1 : n / 2 ^ k % 2 = 1
          · rw [if_pos (by simpa using h1)]; exact h1
          · rw [if_neg (by simpa using h1)]; omega
        generalize n / 2 ^ k = q at *
        have hand : Go.bits .and .u64 (q : Int) 1 = (b2n b : Int) := by rw [and_u64_1 _ (by omega) (by omega)]; omega
        have hb1 : b2n b ≤ 1 := by unfold b2n; split <;> omega
        have hdl : (l ++ d).length ≤ 1000000064 := by
          have := congrArg List.length hE
          rw [List.length_append, List.length_cons, bitsOf_length, bitsOf_length] at this
          rw [List.length_append]; omega
        have c0 := HI.out.c0
        have HE2 := Aside0.mk hE
        obtain ⟨c, hc2⟩ : ∃ c, b2n b = c := ⟨_, rfl⟩
        have HC2 := Aside0.mk hc2
        rw [hc2] at hand hb1
        clear hE hb hb2 hq2 hn64 hc2 HE
        have hBr : base ≤ wr.heap.size := Nat.le_trans hB HK.out.size
        go_wp2_with ((with_reducible refine gate_builtin (b := .append) (xs := #[.tmp 35, .tmp 42]) rfl ?_); at_builtin; refine Kd.R_append (Kd.int .u8) (w0 := wr) base rfl (.tmp 35) (.tmp 42) 25 5 (.int .u8 0) 1 rfl Tryd.underlying25 uint8_info rfl (by decide) (by omega) v' (bnums (l ++ d)) (c : Int) [.int .u8 (c : Int)] (fun _ => True) (fun _ => False) rfl rfl rfl (fun _ hk => hk.elim) (fun _ _ => trivial) HI.out.2 (Below.refl _ _) hBr (by rw [bnums_length]; omega) ?_; intro va wa ho hb hg hat; obtain ⟨A', c', hva⟩ := Kd.R_slice ho; obtain ⟨N, hN⟩ : ∃ N, (bnums (l ++ d) ++ [(c : Int)]).length = N := ⟨_, rfl⟩; rw [hN] at hva; subst hva; rw [← HC2.out] at ho; obtain ⟨q0, q1, hv1⟩ := HI.out.more ho hg; have HI1 := Aside0.mk hv1; have HK1 := Aside0.mk ((kp_grown HK.out hg (fun k hk => (HV.out k hk).elim (fun h => .inl (.inr h)) .inr)).set (p := ⟨g, 0, none⟩) (.inl rfl) (.slice A' N c')); have HV1 : Aside0 (Near v (.slice A' N c') w.heap.size) := ⟨near_next HV.out hat HK.out.size⟩; clear c0 ho hb hg hat hv1 hN HI HK HV)
        go_roundw
        case rel => exact ⟨(k : Int) - 1, d ++ [b], .slice A' N c', by omega, by omega, rfl, ⟨by rw [show ((k : Int) - 1 + 1).toNat = k by omega, List.append_assoc]; exact HE2.out⟩, ⟨by rw [← List.append_assoc]; exact HI1.out⟩, HV1, HK1⟩
        case measure => simp [intOf]
      · obtain rfl : i = -1 := by omega
        go_wp2_with fail
        go_ret
        have hE := HE.out
        rw [show ((-1 : Int) + 1).toNat = 0 by rfl] at hE
        have hE2 : d = bitsOf n count := by rw [← hE]; simp [bitsOf]
        exact ⟨rfl, v', by rw [← hE2]; exact HI.out, HV.out, HK.out⟩
end Go.Proofs.YtodhnmflabehhaaDoor
namespace Go.Proofs.YtodhnmflabehhaaDoor
open Go.RowKit Go.Proofs.YtodhnmflabehhaaDoorW.PrintWords Go.Proofs.YtodhnmflabehhaaDoorW.PrintLast Go.Proofs.YtodhnmflabehhaaDoorW.PrintMore Hy

/-- The bytes after i bits. -/
def txt (l : List Bool) (M i : Nat) : List Int := ints (pk (l.take i)) ++ List.replicate (M - (pk (l.take i)).length) (0 : Int)
theorem txt_length (l : List Bool) (M i : Nat) (hM : (l.length + 7) / 8 = M) (hi : i ≤ l.length) : (txt l M i).length = M := by
  unfold txt
  rw [List.length_append, ints_length, List.length_replicate, pk_length, List.length_take]
  omega
theorem txt_step (l : List Bool) (M i : Nat) (hM : (l.length + 7) / 8 = M) (hi : i < l.length) (b : Bool) (hb : l[i] = b) : ∃ (x : Nat), (txt l M i).getD (i / 8) 0 = (x : Int) ∧ (txt l M i).set (i / 8) ((x + b2n b * 2 ^ (7 - i % 8) : Nat) : Int) = txt l M (i + 1) ∧ x % 2 ^ (8 - i % 8) = 0 ∧ x < 256 := by
  have hl : (l.take i).length = i := by rw [List.length_take]; omega
  obtain ⟨P, x, h1, h2, h3, h4⟩ := pk_put (l.take i) [b] (by simp) (by simp; omega)
  rw [hl] at h1 h2 h3
  rw [show l.take i ++ [b] = l.take (i + 1) by rw [List.take_succ_eq_append_getElem hi, hb]] at h2
  have hv : val [b] = b2n b := by cases b <;> rfl
  rw [hv, show 8 - i % 8 - ([b] : List Bool).length = 7 - i % 8 by simp; omega] at h2
  have hlen := congrArg List.length h2
  rw [pk_length, List.length_take, List.length_append] at hlen
  have hP : P.length = i / 8 := by simp at hlen; omega
  have hx : txt l M i = ints P ++ ((x : Int) :: List.replicate (M - (P.length + 1)) (0 : Int)) := by
    unfold txt
    by_cases h8 : i % 8 = 0
    · rw [if_pos h8] at h1
      have e := List.append_inj' h1 rfl
      have e2 : x = 0 := by have := e.2; simp at this; omega
      rw [e.1, e2]
      obtain ⟨z, hz⟩ : ∃ z, M - P.length = z + 1 := ⟨M - P.length - 1, by omega⟩
      rw [hz, List.replicate_succ, show M - (P.length + 1) = z by omega]; rfl
    · rw [if_neg h8] at h1
      rw [h1, ints_append, List.length_append, List.append_assoc]; rfl
  have hy : txt l M (i + 1) = ints P ++ (((x + b2n b * 2 ^ (7 - i % 8) : Nat) : Int) :: List.replicate (M - (P.length + 1)) (0 : Int)) := by
    unfold txt
    rw [h2, ints_append, List.length_append, List.append_assoc]; rfl
  have hPi : (ints P).length = i / 8 := by rw [ints_length]; exact hP
  refine ⟨x, ?_, ?_, h3, h4⟩
  · rw [hx, List.getD_eq_getElem?_getD, List.getElem?_append_right (by omega), hPi, Nat.sub_self]; rfl
  · rw [hx, hy, List.set_append_right _ _ (by omega), hPi, Nat.sub_self]; rfl
theorem txt_zero (l : List Bool) (M : Nat) : txt l M 0 = List.replicate M (0 : Int) := by unfold txt; rw [List.take_zero, pk_nil]; rfl
theorem txt_all (l : List Bool) (M : Nat) (hM : (l.length + 7) / 8 = M) : txt l M l.length = ints (pk l) := by
  unfold txt; rw [List.take_length, pk_length, hM, Nat.sub_self, List.replicate_zero, List.append_nil]
set_option maxHeartbeats 4000000 in
set_option maxRecDepth 100000 in
theorem rbtext_any (g : Nat) (v : Value) (base : Nat) (l : List Bool) (w : World) (hl : l.length ≤ 1000000000) (h : RWv g v base l w) :
    Calls Tryd.prog 19 #[.pointer (some ⟨g, 0, none⟩)] w fun e w' => e = .returned (.string (st (pk l))) ∧ Below w.heap.size w w' := by
  have HB := Aside0.mk (Below.refl w.heap.size w)
  obtain ⟨A, c, hva⟩ := Kd.R_slice h.2
  rw [bnums_length] at hva
  subst hva
  have HI := Aside0.mk h
  have c0 := h.c0
  obtain ⟨M, hM⟩ : ∃ M, (l.length + 7) / 8 = M := ⟨_, rfl⟩
  have hM2 : ((l.length : Int) + 7) / 8 = (M : Int) := by omega
  have hMb : M ≤ 200000000 := by omega
  have HM := Aside0.mk hM
  have HM2 := Aside0.mk hM2
  clear h hM hM2
  go_enter Tryd.func19, Tryd.ntmps19
  go_wp2_with (refine Kd.R_make (Kd.int .u8) (w0 := w) w.heap.size 5 rfl (N := 12) rfl 25 (.tmp 11) (.tmp 11) rfl (((l.length : Int) + 7) / 8) rfl rfl Tryd.underlying25 (.int .u8 0) 1 uint8_info rfl (by decide) (by omega) (0 : Int) (ok := fun _ => True) (okp := fun _ => False) rfl (fun _ hk => hk.elim) trivial (by omega) (by omega) (by repeat (first | (with_reducible exact HB.out) | apply below_alloc | apply pw_below_drewN | apply below_drew1)) (below_size (by repeat (first | (with_reducible exact HB.out) | apply below_alloc | apply pw_below_drewN | apply below_drew1))) ?_; intro va wa ho hb _ _; have HO := Aside0.mk ho; clear HB; have HB := Aside0.mk hb; clear ho hb)
  have ho := HO.out
  rw [HM2.out, Int.toNat_natCast] at ho
  by_cases hl0 : l = []
  · subst hl0
    obtain rfl : M = 0 := by have := HM.out; simp at this; omega
    obtain ⟨A2, c2, hva⟩ := Kd.R_slice ho
    subst hva
    have hcv := own_string (P := Tryd.prog) Tryd.underlying25 Tryd.underlying5 Tryd.underlying9 (Kd.own_of_R ho)
    rw [show strOfNums (List.replicate 0 (0 : Int)) = st (pk []) by rw [pk_nil]; rfl, List.length_replicate] at hcv
    rw [List.length_replicate]
    have d0 : wa.cell? ⟨g, 0, none⟩ = some (.slice A ([] : List Bool).length c) := pw_cell_below HB.out c0
    clear ho HO c0
    refine wp_loop_rounds 1 ?_
    rw [rounds_succ]
    go_wp2_with fail
    go_ret
    exact ⟨rfl, (by repeat (first | (with_reducible exact HB.out) | apply below_alloc | apply pw_below_drewN | apply below_drew1))⟩
  · have hlp : 0 < l.length := List.length_pos_iff.2 hl0
    obtain ⟨ga, cap, hva, hg1, hg2, _⟩ := Kd.R_form ho (by rw [List.length_replicate]; have := HM.out; omega)
    rw [List.length_replicate] at hva
    subst hva
    have HO2 : Aside0 (Kd.R (Kd.int .u8) 5 wa w.heap.size (fun _ => True) (.slice (some ⟨ga, 0, none⟩) M cap) (txt l M 0)) := ⟨by rw [txt_zero]; exact ho⟩
    clear HO ho hg2 hl0 c0
    go_loopw [4] (fun v4 w' => ∃ i : Nat, i ≤ l.length ∧ v4 = .int .i64 (i : Int) ∧ Aside0 (Kd.R (Kd.int .u8) 5 w' w.heap.size (fun _ => True) (.slice (some ⟨ga, 0, none⟩) M cap) (txt l M i)) ∧ Aside0 (Below w.heap.size w w')) (fun v4 _ => l.length - (intOf v4).toNat)
    case atStart => exact ⟨0, by omega, rfl, HO2, HB⟩
    case round =>
      clear HO2 HB
      obtain ⟨i, hi, rfl, HO, HB⟩ := hrel
      have c0 := (HI.out.below HB.out).c0
      by_cases hlt : i < l.length
      · obtain ⟨b, hb⟩ : ∃ b, l[i] = b := ⟨_, rfl⟩
        obtain ⟨x, hx, hset, hx2, hx3⟩ := txt_step l M i HM.out hlt b hb
        have hlen := txt_length l M i HM.out hi
        have ho := HO.out
        rw [show Value.slice (some ⟨ga, 0, none⟩) M cap = .slice (some ⟨ga, 0, none⟩) (txt l M i).length cap by rw [hlen]] at ho
        obtain ⟨p, hp⟩ : ∃ p, i / 8 = p := ⟨_, rfl⟩
        have hpM : p < M := by have := HM.out; omega
        obtain ⟨k, hk⟩ : ∃ k, 7 - i % 8 = k := ⟨_, rfl⟩
        obtain ⟨r, hr⟩ : ∃ r, i % 8 = r := ⟨_, rfl⟩
        obtain ⟨d1, d2⟩ := Kd.R_cell (0 : Int) ho (p : Int) (by omega) (by rw [hlen]; omega)
        have hput := (Kd.R_put ho (p : Int) ((x + b2n b * 2 ^ k : Nat) : Int)).1
        rw [Int.toNat_natCast] at d1 d2 hput
        have hrd : rdOf (0 : Int) (txt l M i) (p : Int) = (x : Int) := by unfold rdOf; rw [Int.toNat_natCast, ← hp]; exact hx
        rw [hrd] at d1
        rw [← hp, ← hk, hset, hlen] at hput
        rw [hp, hk] at hput
        have HP := Aside0.mk hput
        have HB2 := Aside0.mk (HB.out.setCell (p := ⟨ga, p, none⟩) hg1 (.int .u8 ((x + b2n b * 2 ^ k : Nat) : Int)))
        obtain ⟨ad, rfl, e1⟩ := cellAt (R_C (HI.out.below HB.out).2).1 i (by rw [bnums_length]; exact hlt)
        rw [show (bnums l)[i]'(by rw [bnums_length]; exact hlt) = (b2n b : Int) by simp [bnums, hb]] at e1
        have hb1 : b2n b ≤ 1 := by unfold b2n; split <;> omega
        obtain ⟨c1, hc1⟩ : ∃ c1, b2n b = c1 := ⟨_, rfl⟩
        rw [hc1] at hb1 e1 HP HB2
        have hk7 : k ≤ 7 := by omega
        have hpk := pow8 k (by omega)
        have hck : c1 * 2 ^ k < 256 := by
          rcases Nat.lt_or_ge 0 c1 with h | h
          · obtain rfl : c1 = 1 := by omega
            have : (2 : Nat) ^ k ≤ 2 ^ 7 := Nat.pow_le_pow_right (by omega) hk7
            omega
          · obtain rfl : c1 = 0 := by omega
            omega
        have hor : Go.bits .or .u8 (x : Int) ((c1 : Int) * 2 ^ k % 256) = ((x + c1 * 2 ^ k : Nat) : Int) := by
          rw [cast_shl, Int.emod_eq_of_lt (by omega) (by omega)]
          exact join_u8 x c1 k (8 - i % 8) hx2 hx3 (by omega) (by omega) (Nat.lt_of_le_of_lt hb1 (by rw [show 8 - i % 8 - k = 1 by omega]; decide))
        generalize x + c1 * 2 ^ k = y at *
        have hp2 : (i : Int) / 8 = (p : Int) := by omega
        have hr2 : (i : Int) % 8 = (r : Int) := by omega
        have hk2 : 7 - (r : Int) = (k : Int) := by omega
        have hpm2 : (p : Int) < (M : Int) := by omega
        have hli : (i : Int) < (l.length : Int) := by omega
        have HK := Aside0.mk hk
        have HOR := Aside0.mk hor
        clear hor hb hset hlen ho hput hrd hx hp hk hr hx2 hx3 hck hpk hc1 hb1 hpM
        go_wp2_with fail
        obtain ⟨W2, hW2⟩ : ∃ W2, wr.drew = W2 := ⟨_, rfl⟩
        have k0 : W2.cell? ⟨g, 0, none⟩ = some (.slice (some ad) l.length c) := by rw [← hW2]; exact c0
        have k1 : W2.cell? ⟨ga, p, none⟩ = some (.int .u8 (x : Int)) := by rw [← hW2]; exact d1
        have k2 : W2.frozen? ⟨ga, p, none⟩ = false := by rw [← hW2]; exact d2
        have k3 : W2.cell? (ad.add i) = some (.int .u8 (c1 : Int)) := by rw [← hW2]; exact e1
        have HP2 : Aside0 (Kd.R (Kd.int .u8) 5 (W2.setCell ⟨ga, p, none⟩ (.int .u8 (y : Int))) w.heap.size (fun _ => True) (.slice (some ⟨ga, 0, none⟩) M cap) (txt l M (i + 1))) := ⟨by rw [← hW2]; exact HP.out⟩
        have HB3 : Aside0 (Below w.heap.size w (W2.setCell ⟨ga, p, none⟩ (.int .u8 (y : Int)))) := ⟨by rw [← hW2]; exact HB.out.drew.setCell (p := ⟨ga, p, none⟩) hg1 _⟩
        clear HP HB2 c0 d1 d2 e1 HO HB
        have hw1 : IntKind.i64.wrap (p : Int) = (p : Int) := IntWalk.i64_in _ (by omega)
        have hw2 : IntKind.i64.wrap (k : Int) = (k : Int) := IntWalk.i64_in _ (by omega)
        have hw3 : IntKind.i64.wrap (r : Int) = (r : Int) := IntWalk.i64_in _ (by omega)
        have hw4 : IntKind.u64.wrap (k : Int) = (k : Int) := by rw [wrap_u64]; omega
        refine wp_region_still_tail 18 (by kernel_rfl) (by kernel_rfl) ?_
        simp only [List.take_succ_cons, List.take_zero, List.drop_succ_cons, List.drop_zero]
        unfold World.drew at hW2
        rw [hW2]
        clear hW2
        repeat still_step
        try refine wpStill_nil ?_
        go_wp2_with fail
        go_roundw
        case rel =>
          have he : Go.bits .or .u8 (x : Int) ((c1 : Int) * 2 ^ min (7 - i % 8) 8 % 256) = (y : Int) := by rw [show min (7 - i % 8) 8 = k by have := HK.out; omega]; exact HOR.out
          exact ⟨i + 1, by omega, by go_num, by rw [he]; exact HP2, by rw [he]; exact HB3⟩
        case measure => simp [intOf]; omega
      · obtain rfl : i = l.length := by omega
        have ho := HO.out
        have hlen := txt_length l M l.length HM.out (Nat.le_refl _)
        rw [show Value.slice (some ⟨ga, 0, none⟩) M cap = .slice (some ⟨ga, 0, none⟩) (txt l M l.length).length cap by rw [hlen]] at ho
        have hcv := own_string (P := Tryd.prog) Tryd.underlying25 Tryd.underlying5 Tryd.underlying9 (Kd.own_of_R ho)
        rw [txt_all l M HM.out] at hcv
        have hst : strOfNums (ints (pk l)) = st (pk l) := strOfNums_eq _
        rw [hst] at hcv
        rw [txt_all l M HM.out] at hlen
        rw [hlen] at hcv
        clear ho hst
        go_wp2_with fail
        go_ret
        exact ⟨rfl, (by repeat (first | (with_reducible exact HB.out) | apply below_alloc | apply pw_below_drewN | apply below_drew1))⟩
end Go.Proofs.YtodhnmflabehhaaDoor
namespace Go.Proofs.YtodhnmflabehhaaDoor
open Go.RowKit Go.Proofs.YtodhnmflabehhaaDoorW.PrintWords Go.Proofs.YtodhnmflabehhaaDoorW.PrintLast Go.Proofs.YtodhnmflabehhaaDoorW.PrintMore Hy

theorem rlead_l0 (n : Nat) (h : n < 18446744073709551616) : ∀ (d x k : Nat), x + d = 64 → d < k → x ≤ lead n → PXorGets.hygref2_Lead.l0 k (n : Int) (x : Int) = some ((lead n : Nat) : Int) := by
  have hl : lead n ≤ 64 := by unfold lead; split <;> omega
  intro d
  induction d with
  | zero =>
    intro x k hx hk hle
    obtain ⟨k, rfl⟩ : ∃ m, k = m + 1 := ⟨k - 1, by omega⟩
    simp only [PXorGets.hygref2_Lead.l0]
    rw [if_neg (by omega), show x = lead n by omega]
  | succ d ih =>
    intro x k hx hk hle
    obtain ⟨k, rfl⟩ : ∃ m, k = m + 1 := ⟨k - 1, by omega⟩
    have e1 : IntKind.u64.wrap (wrap64 (63 - (x : Int))) = ((63 - x : Nat) : Int) := by rw [wrap_u64]; unfold wrap64; omega
    have e2 : wrap64 ((x : Int) + 1) = ((x + 1 : Nat) : Int) := by unfold wrap64; omega
    have hb : n / 2 ^ (63 - x) < 18446744073709551616 := Nat.lt_of_le_of_lt (Nat.div_le_self _ _) h
    have hi := lead_iff n x h (by omega) hle
    simp only [PXorGets.hygref2_Lead.l0]
    rw [if_pos (by omega), e1, if_pos (by omega), shr_div _ _ (by omega), e2]
    by_cases hlt : x < lead n
    · rw [hi.2 hlt, if_pos (by decide)]
      exact ih (x + 1) k (by omega) (by omega) (by omega)
    · have hxl : x = lead n := by omega
      have hn0 : n ≠ 0 := by rintro rfl; simp [lead] at hxl; omega
      have h1 := (lead_says n hn0 h).2
      rw [← hxl] at h1
      rw [h1, if_neg (by decide), ← hxl]
theorem rlead_any (n : Nat) (w : World) (h : n < 18446744073709551616) : Calls Tryd.prog 15 #[.int .u64 (n : Int)] w fun e w' => e = .returned (.int .i64 ((lead n : Nat) : Int)) ∧ Drawn0 w w' :=
  PXorGets.hygref2_Lead.calls 70 _ _ w (rlead_l0 n h 64 0 70 (by omega) (by omega) (by omega))
theorem trail_iff (n : Nat) (h : n < 18446744073709551616) : trail n ≤ 64 ∧ ∀ x, x < 64 → x ≤ trail n → (n / 2 ^ x % 2 = 0 ↔ x < trail n) := by
  by_cases hn : n = 0
  · subst hn; simp [trail]; intro x hx _; omega
  · obtain ⟨i1, i2, i3, i4⟩ := tz_says 64 n hn h
    unfold trail
    rw [if_neg hn]
    refine ⟨by omega, fun x hx hxl => ⟨fun e => ?_, fun hlt => i4 x hlt⟩⟩
    rcases Nat.lt_or_ge x (tz 64 n) with h | h
    · exact h
    · obtain rfl : x = tz 64 n := by omega
      omega
theorem rtrail_l0 (n : Nat) (h : n < 18446744073709551616) : ∀ (d x k : Nat), x + d = 64 → d < k → x ≤ trail n → PXorGets.hygref2_Trail.l0 k (n : Int) (x : Int) = some ((trail n : Nat) : Int) := by
  have hs := trail_iff n h
  intro d
  induction d with
  | zero =>
    intro x k hx hk hle
    obtain ⟨k, rfl⟩ : ∃ m, k = m + 1 := ⟨k - 1, by omega⟩
    simp only [PXorGets.hygref2_Trail.l0]
    rw [if_neg (by omega), show x = trail n by omega]
  | succ d ih =>
    intro x k hx hk hle
    obtain ⟨k, rfl⟩ : ∃ m, k = m + 1 := ⟨k - 1, by omega⟩
    have e1 : IntKind.u64.wrap (x : Int) = (x : Int) := by rw [wrap_u64]; omega
    have e2 : wrap64 ((x : Int) + 1) = ((x + 1 : Nat) : Int) := by unfold wrap64; omega
    have hb : n / 2 ^ x < 18446744073709551616 := Nat.lt_of_le_of_lt (Nat.div_le_self _ _) h
    simp only [PXorGets.hygref2_Trail.l0]
    have hi := hs.2 x (by omega) hle
    rw [if_pos (by omega), e1, if_pos (by omega), shr_div _ _ (by omega)]
    generalize n / 2 ^ x = q at *
    rw [and_u64_1 _ (by omega) (by omega), e2]
    by_cases hlt : x < trail n
    · rw [if_pos (by have := hi.2 hlt; omega)]
      exact ih (x + 1) k (by omega) (by omega) (by omega)
    · rw [if_neg (by intro e; exact hlt (hi.1 (by omega))), show x = trail n by omega]
theorem rtrail_any (n : Nat) (w : World) (h : n < 18446744073709551616) : Calls Tryd.prog 17 #[.int .u64 (n : Int)] w fun e w' => e = .returned (.int .i64 ((trail n : Nat) : Int)) ∧ Drawn0 w w' :=
  PXorGets.hygref2_Trail.calls 70 _ _ w (rtrail_l0 n h 64 0 70 (by omega) (by omega) (by omega))

/-- The document's own bits, of the call's own. -/
def RB (B g : Nat) (l : List Bool) (w : World) : Prop := B ≤ g ∧ ∃ v, RWv g v B l w
theorem RB.new (w : World) : RB w.heap.size w.heap.size [] (w.alloc (.cells #[.slice none 0 0] 30)) :=
  ⟨Nat.le_refl _, .slice none 0 0, heap_alloc_new w _, Kd.R_nil _ _ _ _ _⟩
theorem RB.below {B g l} {w w' : World} (h : RB B g l w) (hb : Below w.heap.size w w') : RB B g l w' := by
  obtain ⟨h1, v, h2⟩ := h
  exact ⟨h1, v, h2.below hb⟩
theorem rputs_any (B g : Nat) (l : List Bool) (n c : Int) (w : World) (h0 : 0 ≤ n) (hc0 : 0 ≤ c) (hn : n.toNat < 2 ^ c.toNat) (hc : c ≤ 64) (hl : l.length ≤ 1000000000) (hB : B ≤ w.heap.size) (h : RB B g l w) :
    Calls Tryd.prog 11 #[.pointer (some ⟨g, 0, none⟩), .int .u64 n, .int .i64 c] w fun e w' => e = .returned (.int .i64 0) ∧ RB B g (l ++ bitsOf n.toNat c.toNat) w' ∧ Below B w w' := by
  obtain ⟨n, rfl⟩ := Int.eq_ofNat_of_zero_le h0
  obtain ⟨c, rfl⟩ := Int.eq_ofNat_of_zero_le hc0
  rw [Int.toNat_natCast, Int.toNat_natCast] at *
  obtain ⟨hg, v, hv⟩ := h
  refine (rbput_ok g v B l n c w hn (by omega) hl hB hv).mono ?_
  rintro e w' ⟨rfl, v', h1, h2, h3⟩
  refine ⟨rfl, ⟨hg, v', h1⟩, h3.toBelow hB (fun k hk => ?_)⟩
  rcases hk with rfl | hk
  · exact hg
  · exact own_base (Kd.own_of_R hv.2) k hk
set_option maxHeartbeats 8000000 in
set_option maxRecDepth 100000 in
theorem rputxor_any (A : Option Addr) (c : Nat) (l : List Int) (w : World) (hr : Kd.C (Kd.int .u64) w A l.length l) (hc : l.length ≤ c) (hl : l.length ≤ 20000) (hx : ∀ x ∈ l, 0 ≤ x ∧ x < 18446744073709551616) :
    Calls Tryd.prog 30 #[.slice A l.length c] w fun e w' => e = .returned (.tuple #[.string (colT (nat l)), .int .i64 0]) ∧ Below w.heap.size w w' := by
  have HB := Aside0.mk (Below.refl w.heap.size w)
  have HR := Aside0.mk hr
  have HC := Aside0.mk hc
  have HX := Aside0.mk hx
  clear hr hc hx
  go_enter Tryd.func30, Tryd.ntmps30
  go_wp2_with fail
  obtain ⟨g, hg⟩ : ∃ g, w.heap.size = g := ⟨_, rfl⟩
  have HI0 : Aside0 (RB w.heap.size g [] (w.alloc (.cells #[.slice none 0 0] 30))) := ⟨by rw [← hg]; exact RB.new w⟩
  rw [hg]
  clear hg
  go_loopw [5] (fun v5 w' => ∃ k : Nat, k ≤ l.length ∧ v5 = .int .i64 (k : Int) ∧ Aside0 (RB w.heap.size g (encL (nat (l.take k))) w') ∧ Aside0 (Below w.heap.size w w')) (fun v5 _ => l.length - (intOf v5).toNat)
  case atStart => exact ⟨0, by omega, rfl, HI0, ⟨(by repeat (first | (with_reducible exact HB.out) | apply below_alloc | apply pw_below_drewN | apply below_drew1))⟩⟩
  case round =>
    clear HB HI0
    obtain ⟨k, hk, rfl, HI, HB⟩ := hrel
    by_cases hlt : k < l.length
    · obtain ⟨ad, rfl, hcell⟩ := cellAt (Kd.C_below HR.out HB.out) k hlt
      have hxk := Aside0.mk (HX.out _ (List.getElem_mem hlt))
      have hbl : (encL (nat (l.take k))).length ≤ 1600000 := by have := encL_len (nat (l.take k)); rw [nat_length, List.length_take] at this; omega
      have hsz := HB.out.size
      by_cases h0 : k = 0
      · subst h0
        have HE : Aside0 (encL (nat (l.take (0 + 1))) = encL (nat (l.take 0)) ++ bitsOf (l[0]).toNat 64) := ⟨by
          rw [List.take_succ_eq_append_getElem hlt]; simp [nat, encL, encT]⟩
        have hk0 : (((0 : Nat) : Int) == 0) = true := by decide
        have hn64 : Aside0 ((l[0]).toNat < 2 ^ (64 : Int).toNat) := ⟨by rw [show (64 : Int).toNat = 64 from rfl]; have := hxk.out; omega⟩
        have c0 : wr.cell? ad = some (.int .u64 l[0]) := hcell
        clear hcell
        go_wp2_with (first
          | (go_at_call 11; refine (rputs_any w.heap.size g _ _ 64 _ hxk.out.1 (by decide) hn64.out (by decide) (by omega) hsz HI.out).mono ?_; rintro e w1 ⟨rfl, h1, b1⟩; have HI1 := Aside0.mk h1; have HB1 := Aside0.mk (HB.out.trans b1); clear h1 b1 HB HI))
        go_roundw
        case rel => exact ⟨0 + 1, by omega, by go_num, ⟨by rw [HE.out]; exact HI1.out⟩, HB1⟩
        case measure => simp [intOf]; omega
      · obtain ⟨m, hm⟩ : ∃ m, k = m + 1 := ⟨k - 1, by omega⟩
        have hml : m < l.length := by omega
        obtain ⟨ad', e', hcell2⟩ := cellAt (Kd.C_below HR.out HB.out) m hml
        injection e' with e'
        subst e'
        have hm2 : (k : Int) - 1 = (m : Int) := by omega
        have hk0 : ((k : Int) == 0) = false := by simp; omega
        have hxj := HX.out _ (List.getElem_mem hml)
        obtain ⟨q1, q2, q3⟩ := xor_nat _ _ hxk.out hxj
        have HE : Aside0 (encL (nat (l.take (k + 1))) = encL (nat (l.take k)) ++ encD (Go.bits .xor .u64 l[k] l[m]).toNat) := ⟨by
          subst hm; rw [q3]; exact encL_take l m hlt⟩
        have Q2 := Aside0.mk q2
        have hwm : IntKind.i64.wrap (m : Int) = (m : Int) := IntWalk.i64_in _ (by omega)
        obtain ⟨x, hxx⟩ : ∃ x : Nat, Go.bits .xor .u64 l[k] l[m] = (x : Int) := Int.eq_ofNat_of_zero_le q1
        rw [hxx] at Q2 HE
        rw [Int.toNat_natCast] at HE
        clear q3 q2 q1 hxj hm h0
        go_wp2_with fail
        go_quiet (fail)
        have HI0 : Aside0 (RB w.heap.size g (encL (nat (List.take k l))) (wr.drewN nq)) := ⟨HI.out.below (drewN_below (Below.refl _ _) _)⟩
        have HB0 : Aside0 (Below w.heap.size w (wr.drewN nq)) := ⟨drewN_below HB.out nq⟩
        have hsz0 := HB0.out.size
        clear HI HB hcell hcell2
        generalize wr.drewN nq = wq at *
        by_cases hx0 : x = 0
        · subst hx0
          rw [show encD 0 = [false] from rfl] at HE
          go_wp2_with (first
            | (go_at_call 11; refine (rputs_any w.heap.size g _ 0 1 _ (by decide) (by decide) (by decide) (by decide) (by omega) hsz0 HI0.out).mono ?_; rintro e w1 ⟨rfl, h1, b1⟩; have HI1 := Aside0.mk h1; have HB1 := Aside0.mk (HB0.out.trans b1); clear h1 b1 HB0 HI0))
          go_roundw
          case rel => exact ⟨k + 1, by omega, by go_num, ⟨by rw [HE.out]; exact HI1.out⟩, HB1⟩
          case measure => simp [intOf]; omega
        · have hx : x < 18446744073709551616 := by have := Q2.out; omega
          obtain ⟨s1, _, _, _⟩ := ends_says x hx0 hx
          have z := size_lt x hx0 hx
          have A1 := fun w => rlead_any x w hx
          have A2 := fun w => rtrail_any x w hx
          have HE2 : Aside0 (encD x = true :: (bitsOf (lead x) 6 ++ (bitsOf (63 - lead x - trail x) 6 ++ bitsOf (x / 2 ^ trail x) (64 - lead x - trail x)))) := ⟨by unfold encD; rw [if_neg hx0]⟩
          have f6 : ((x : Int) == 0) = false := by rw [beq_eq_false_iff_ne]; omega
          generalize lead x = L at *
          generalize trail x = t at *
          obtain ⟨q, hq⟩ : ∃ q, x / 2 ^ t = q := ⟨_, rfl⟩
          obtain ⟨S, hS⟩ : ∃ S, 64 - L - t = S := ⟨_, rfl⟩
          obtain ⟨S1, hS1⟩ : ∃ S1, 63 - L - t = S1 := ⟨_, rfl⟩
          rw [hq, hS, hS1] at HE2
          rw [hq, hS] at z
          have f1 : (x : Int) / 2 ^ t = (q : Int) := by rw [cast_div, hq]
          have f3 : (64 : Int) - (L : Int) - (t : Int) = (S : Int) := by omega
          have f4 : (S : Int) - 1 = (S1 : Int) := by omega
          have hL2 : (L : Int) ≤ 63 := by omega
          have ht2 : (t : Int) ≤ 63 := by omega
          have hS2 : (S : Int) ≤ 64 := by omega
          have hS3 : (S1 : Int) ≤ 63 := by omega
          have hS4 : (1 : Int) ≤ (S : Int) := by omega
          have hLn : L < 64 := by omega
          have hSn : S1 < 64 := by omega
          have Z := Aside0.mk z
          clear z hq hS hS1 hx s1 hx0
          go_wp2_with (first
            | (go_at_call 15; refine (A1 _).mono ?_; rintro e wd ⟨rfl, ⟨nd, rfl⟩⟩)
            | (go_at_call 17; refine (A2 _).mono ?_; rintro e wd ⟨rfl, ⟨nd, rfl⟩⟩))
          refine (rputs_any w.heap.size g _ 1 1 _ (by decide) (by decide) (by decide) (by decide) (by omega) (by exact HB0.out.size) (HI0.out.below (drewN_below (Below.refl _ _) _))).mono ?_
          rintro e w1 ⟨rfl, h1, b1⟩
          have H1 := Aside0.mk h1
          have B1 : Aside0 (Below w.heap.size w w1) := ⟨by first | exact HB0.out.trans b1 | exact (drewN_below HB0.out _).trans b1⟩
          clear h1 b1 HI0 HB0
          go_wp2_with (first
            | (go_at_call 15; refine (A1 _).mono ?_; rintro e wd ⟨rfl, ⟨nd, rfl⟩⟩)
            | (go_at_call 17; refine (A2 _).mono ?_; rintro e wd ⟨rfl, ⟨nd, rfl⟩⟩))
          refine (rputs_any w.heap.size g _ (L : Int) 6 _ (by omega) (by decide) (by rw [Int.toNat_natCast]; exact hLn) (by decide) (by simp [bitsOf_length]; omega) (by exact B1.out.size) (H1.out.below (drewN_below (Below.refl _ _) _))).mono ?_
          rintro e w2 ⟨rfl, h1, b1⟩
          have H2 := Aside0.mk h1
          have B2 : Aside0 (Below w.heap.size w w2) := ⟨by first | exact B1.out.trans b1 | exact (drewN_below B1.out _).trans b1⟩
          clear h1 b1 H1 B1
          go_wp2_with (first
            | (go_at_call 15; refine (A1 _).mono ?_; rintro e wd ⟨rfl, ⟨nd, rfl⟩⟩)
            | (go_at_call 17; refine (A2 _).mono ?_; rintro e wd ⟨rfl, ⟨nd, rfl⟩⟩))
          refine (rputs_any w.heap.size g _ (S1 : Int) 6 _ (by omega) (by decide) (by rw [Int.toNat_natCast]; exact hSn) (by decide) (by simp [bitsOf_length]; omega) (by exact B2.out.size) H2.out).mono ?_
          rintro e w3 ⟨rfl, h1, b1⟩
          have H3 := Aside0.mk h1
          have B3 : Aside0 (Below w.heap.size w w3) := ⟨by first | exact B2.out.trans b1 | exact (drewN_below B2.out _).trans b1⟩
          clear h1 b1 H2 B2
          go_wp2_with (first
            | (go_at_call 15; refine (A1 _).mono ?_; rintro e wd ⟨rfl, ⟨nd, rfl⟩⟩)
            | (go_at_call 17; refine (A2 _).mono ?_; rintro e wd ⟨rfl, ⟨nd, rfl⟩⟩))
          refine (rputs_any w.heap.size g _ (q : Int) (S : Int) _ (by omega) (by omega) (by rw [Int.toNat_natCast, Int.toNat_natCast]; exact Z.out) (by omega) (by simp [bitsOf_length]; omega) (by exact B3.out.size) (H3.out.below (drewN_below (Below.refl _ _) _))).mono ?_
          rintro e w4 ⟨rfl, h1, b1⟩
          have H4 := Aside0.mk h1
          have B4 : Aside0 (Below w.heap.size w w4) := ⟨by first | exact B3.out.trans b1 | exact (drewN_below B3.out _).trans b1⟩
          clear h1 b1 H3 B3
          go_wp2_with fail
          go_roundw
          case rel =>
            refine ⟨k + 1, by omega, by go_num, ⟨?_⟩, B4⟩
            have := H4.out
            rw [Int.toNat_natCast, Int.toNat_natCast, Int.toNat_natCast, Int.toNat_natCast] at this
            rw [HE.out, HE2.out]
            simpa [List.append_assoc, bitsOf] using this
          case measure => simp [intOf]; omega
    · obtain rfl : k = l.length := by omega
      rw [List.take_length] at HI
      have hS := fun w' (h : RB w.heap.size g (encL (nat l)) w') => rbtext_any g _ _ _ w' (by have := encL_len (nat l); rw [nat_length] at this; omega) h.2.choose_spec
      go_wp2_with (first
        | (go_at_call 19; refine (hS _ HI.out).mono ?_; rintro e wb ⟨rfl, hb⟩; have HBn : Aside0 (Below w.heap.size w wb) := ⟨below_next (by repeat (first | (with_reducible exact HB.out) | apply below_alloc | apply pw_below_drewN | apply below_drew1)) hb⟩; clear HB hb; have HB := HBn; clear HBn))
      go_ret2
      exact ⟨rfl, (by repeat (first | (with_reducible exact HB.out) | apply below_alloc | apply pw_below_drewN | apply below_drew1))⟩
end Go.Proofs.YtodhnmflabehhaaDoor
namespace Go.Proofs.YtodhnmflabehhaaDoor
open Go.RowKit Go.Proofs.YtodhnmflabehhaaDoorW.PrintWords Go.Proofs.YtodhnmflabehhaaDoorW.PrintLast Go.Proofs.YtodhnmflabehhaaDoorW.PrintMore Hy

/-! ### the document's reader: its Get -/
theorem rbit (s : ByteArray) (i : Nat) (h : i < 8 * s.size) : ∃ c, bt s ((i / 8 : Nat) : Int) = ((c : Nat) : Int) ∧ c < 256 ∧ val (((unp (bs s)).drop i).take 1) = c / 2 ^ (7 - i % 8) % 2 := by
  obtain ⟨c, r, h1, h2, h3, _⟩ := bt_bs s (i / 8) (by omega)
  have h5 : (bs s)[i / 8]? = some c := by
    have := congrArg (fun l : List Nat => l[0]?) h1
    simpa [List.getElem?_drop] using this
  have h6 := unp_piece (bs s) i 1 c h5 (by omega)
  refine ⟨c, h2, h3, ?_⟩
  rw [h6, val_bitsOf, show 8 - i % 8 - 1 = 7 - i % 8 by omega]
theorem bit_next (n c k j : Nat) (hn : n < 2 ^ j) (hj : j < 64) (hc : c < 256) (hk : k ≤ 7) :
    Go.bits .or .u64 (IntKind.u64.wrap ((n : Int) * 2)) (IntKind.u64.wrap (Go.bits .and .u8 (shr .u8 (c : Int) (k : Int)) 1)) = ((n * 2 + c / 2 ^ k % 2 : Nat) : Int) := by
  have e3 : shr .u8 (c : Int) (k : Int) = ((c / 2 ^ k : Nat) : Int) := by
    rw [← cast_div]; unfold shr; rw [Int.toNat_natCast, show min k IntKind.u8.bits = k from Nat.min_eq_left (by show k ≤ 8; omega)]
  have hck : c / 2 ^ k < 256 := Nat.lt_of_le_of_lt (Nat.div_le_self _ _) hc
  rw [e3]
  generalize c / 2 ^ k = q at *
  have e4 : Go.bits .and .u8 (q : Int) 1 = ((q % 2 : Nat) : Int) := by
    have := bits_mask .u8 8 (by decide) wraps_u8 1 (by omega) (q : Int) (by omega) (by omega)
    rw [show (2 : Int) ^ 1 - 1 = 1 from rfl, show (2 : Int) ^ 1 = 2 from rfl] at this
    rw [this]; omega
  have h1 : n < 9223372036854775808 := by
    calc n < 2 ^ j := hn
      _ ≤ 2 ^ 63 := Nat.pow_le_pow_right (by omega) (by omega)
      _ = 9223372036854775808 := rfl
  rw [e4, wrap_u64, wrap_u64, Int.emod_eq_of_lt (by omega) (by omega), Int.emod_eq_of_lt (by omega) (by omega)]
  have h := bits_join .u64 64 (by decide) (fun n a b => by rw [wrap_u64]; omega) 1 ((n : Int) * 2) ((q % 2 : Nat) : Int) (by omega) (by omega) (by omega) (by omega) (by omega) (by omega)
  rw [h]; omega
theorem val_next (L : List Bool) (a j : Nat) (h : a + j < L.length) : val ((L.drop a).take (j + 1)) = val ((L.drop a).take j) * 2 + val ((L.drop (a + j)).take 1) := by
  rw [List.take_add, val_append, List.drop_drop, List.length_take, List.length_drop, show min 1 (L.length - (a + j)) = 1 by omega]
theorem w_div (i : Nat) (h : i < 2000000000000000) : wrap64 (Int.tdiv (i : Int) 8) = ((i / 8 : Nat) : Int) := by rw [Int.tdiv_eq_ediv_of_nonneg (by omega)]; unfold wrap64; omega
theorem w_mod (i : Nat) : IntKind.u64.wrap (wrap64 (7 - Int.tmod (i : Int) 8)) = ((7 - i % 8 : Nat) : Int) := by rw [Int.tmod_eq_emod_of_nonneg (by omega), wrap_u64]; unfold wrap64; omega
theorem w_inc (i : Nat) (h : i < 2000000000000000) : wrap64 ((i : Int) + 1) = ((i + 1 : Nat) : Int) := by unfold wrap64; omega
theorem w_left (z a : Nat) (h : z ≤ 140737488351232) (h2 : a ≤ 8 * z) : wrap64 (wrap64 (8 * (z : Int)) - (a : Int)) = 8 * (z : Int) - a := by unfold wrap64; omega
theorem val_take_lt (L : List Bool) (j : Nat) : val (L.take j) < 2 ^ j := Nat.lt_of_lt_of_le (val_lt _) (Nat.pow_le_pow_right (n := 2) (by decide) (by rw [List.length_take]; exact Nat.min_le_left _ _))
theorem rget_l0 (s : ByteArray) (a c : Nat) (hs : s.size ≤ 140737488351232) (hc : c ≤ 64) (ha : a + c ≤ 8 * s.size) : ∀ (d j k : Nat), j + d = c → d < k →
    PXorGets.hygref2_Reader_Get.l0 k (c : Int) ((val (((unp (bs s)).drop a).take j) : Nat) : Int) (j : Int) s ((a + j : Nat) : Int) = some (((val (((unp (bs s)).drop a).take c) : Nat) : Int), 0, s, ((a + c : Nat) : Int)) := by
  intro d
  induction d with
  | zero =>
    intro j k hj hk
    obtain ⟨k, rfl⟩ : ∃ m, k = m + 1 := ⟨k - 1, by omega⟩
    obtain rfl : j = c := by omega
    simp only [PXorGets.hygref2_Reader_Get.l0]
    rw [if_neg (by omega)]
  | succ d ih =>
    intro j k hj hk
    obtain ⟨k, rfl⟩ : ∃ m, k = m + 1 := ⟨k - 1, by omega⟩
    obtain ⟨i, hi⟩ : ∃ i, a + j = i := ⟨_, rfl⟩
    have hn : val (((unp (bs s)).drop a).take j) < 2 ^ j := val_take_lt _ j
    have hv := val_next (unp (bs s)) a j (by rw [unp_length, bs_length]; omega)
    have hR := rbit s i (by omega)
    have c1 : (j : Int) < (c : Int) := by omega
    have c2 : (0 : Int) ≤ ((i / 8 : Nat) : Int) := by omega
    have c3 : ((i / 8 : Nat) : Int) < (s.size : Int) := by omega
    have c4 : (0 : Int) ≤ ((7 - i % 8 : Nat) : Int) := by omega
    have c5 : j < 64 := by omega
    have c6 : 7 - i % 8 ≤ 7 := by omega
    have c7 : j + 1 + d = c := by omega
    have c8 : d < k := by omega
    have c9 : i < 2000000000000000 := by omega
    have c10 : a + (j + 1) = i + 1 := by omega
    obtain ⟨y, h1, h2, h3⟩ := hR
    rw [hi, h3] at hv
    simp only [PXorGets.hygref2_Reader_Get.l0]
    rw [hi, if_pos c1, w_div i c9, if_pos c2, if_pos c3, w_mod i, if_pos c4, h1, bit_next _ _ _ j hn c5 h2 c6, w_inc j (Nat.lt_trans c5 (by decide)), w_inc i c9, ← hv, ← c10]
    exact ih (j + 1) k c7 c8
theorem rget_f_ok (s : ByteArray) (a c : Nat) (hs : s.size ≤ 140737488351232) (hc : c ≤ 64) (ha : a + c ≤ 8 * s.size) :
    PXorGets.hygref2_Reader_Get.f (c + 2) s (a : Int) (c : Int) = some (((val (((unp (bs s)).drop a).take c) : Nat) : Int), 0, s, ((a + c : Nat) : Int)) := by
  have h := rget_l0 s a c hs hc ha c 0 (c + 1) (by omega) (by omega)
  unfold PXorGets.hygref2_Reader_Get.f
  rw [if_neg (by omega)]
  simp only [PXorGets.hygref2_Reader_Get.j0]
  rw [if_neg (by simp; omega), w_left _ _ hs (by omega), if_neg (by omega)]
  exact h
theorem rget_f_short (s : ByteArray) (a : Nat) (c : Int) (hs : s.size ≤ 140737488351232) (hc0 : 0 ≤ c) (hc : c ≤ 64) (ha0 : a ≤ 8 * s.size) (ha : 8 * (s.size : Int) - a < c) :
    PXorGets.hygref2_Reader_Get.f 2 s (a : Int) c = some (0, 1, s, (a : Int)) := by
  unfold PXorGets.hygref2_Reader_Get.f
  rw [if_neg (by omega)]
  simp only [PXorGets.hygref2_Reader_Get.j0]
  rw [if_neg (by simp; omega), w_left _ _ hs (by omega), if_pos (by omega)]
/-- A reader of the call's own, at its bit a. -/
def RR (w0 : World) (g : Nat) (s : ByteArray) (a : Nat) (w : World) : Prop := PXorGets.IsS53 w0 w g s (a : Int) ∧ Below w0.heap.size w0 w
theorem RR.new (w : World) (s : ByteArray) : RR w w.heap.size s 0 (w.alloc (.cells #[.string s, .int .i64 0] 53)) :=
  ⟨PXorGets.IsS53.new w w s 0 (Below.refl _ _), below_alloc (Below.refl _ _) _⟩
theorem RR.next {w0 w w1 : World} {g a : Nat} {s : ByteArray} (h : RR w0 g s a w) (hb : Below w.heap.size w w1) : RR w0 g s a w1 := ⟨h.1.below hb, below_next h.2 hb⟩
theorem RR.grown {w0 w w1 : World} {g a : Nat} {s : ByteArray} {row : Option Nat} (h : RR w0 g s a w) (hg : w.grownBy w1 row) (hn : ∀ k, row = some k → k ≠ g) (hb : Below w0.heap.size w0 w1) : RR w0 g s a w1 := ⟨h.1.grown hg (fun e => hn g e.symm rfl), hb⟩
theorem RR.lt {w0 w : World} {g a : Nat} {s : ByteArray} (h : RR w0 g s a w) : g < w.heap.size := blk_lt h.1.1
/-- What Get leaves of the world: the reader apart. -/
def Kg (g : Nat) (w w' : World) : Prop := KeepBut w w' g none
theorem Kg.row {α : Type} {d : Kd α} {e base g : Nat} {ok : Nat → Prop} {v : Value} {xs : List α} {w w1 : World} (h : Kg g w w1) (hr : d.R e w base ok v xs) (hok : ∀ k, ok k → k ≠ g) : d.R e w1 base ok v xs :=
  Kd.R_step hr (fun k ho hk => h.2 k hk (hok k ho) (by simp))
theorem rrget_is (w0 : World) (g : Nat) (s : ByteArray) (a a' : Nat) (c : Int) (v : Int) (w : World) (hs : s.size ≤ 140737488351232) (hc0 : 0 ≤ c) (hc : c ≤ 64) (ha' : a + c.toNat = a') (ha : a' ≤ 8 * s.size) (hv : ((val (((unp (bs s)).drop a).take c.toNat) : Nat) : Int) = v) (h : RR w0 g s a w) :
    Calls Tryd.prog 24 #[.pointer (some ⟨g, 0, none⟩), .int .i64 c] w fun e w' => e = .returned (.tuple #[.int .u64 v, .int .i64 0]) ∧ RR w0 g s a' w' ∧ Kg g w w' := by
  obtain ⟨c, rfl⟩ := Int.eq_ofNat_of_zero_le hc0
  rw [Int.toNat_natCast] at *
  subst ha' hv
  refine (PXorGets.hygref2_Reader_Get.calls _ g s _ _ _ _ _ _ w0 w h.1 h.2 (rget_f_ok s a c hs (by omega) ha)).mono ?_
  rintro e w' ⟨rfl, h1, h2, h3⟩
  exact ⟨rfl, ⟨h1, h2⟩, h3⟩
theorem rrget_short (w0 : World) (g : Nat) (s : ByteArray) (a : Nat) (c : Int) (w : World) (hs : s.size ≤ 140737488351232) (hc0 : 0 ≤ c) (hc : c ≤ 64) (ha0 : a ≤ 8 * s.size) (ha : 8 * (s.size : Int) - a < c) (h : RR w0 g s a w) :
    Calls Tryd.prog 24 #[.pointer (some ⟨g, 0, none⟩), .int .i64 c] w fun e w' => e = .returned (.tuple #[.int .u64 0, .int .i64 1]) ∧ RR w0 g s a w' ∧ Kg g w w' := by
  refine (PXorGets.hygref2_Reader_Get.calls _ g s _ _ _ _ _ _ w0 w h.1 h.2 (rget_f_short s a c hs hc0 hc ha0 ha)).mono ?_
  rintro e w' ⟨rfl, h1, h2, h3⟩
  exact ⟨rfl, ⟨h1, h2⟩, h3⟩
end Go.Proofs.YtodhnmflabehhaaDoor
namespace Go.Proofs.YtodhnmflabehhaaDoor
open Go.RowKit Go.Proofs.YtodhnmflabehhaaDoorW.PrintWords Go.Proofs.YtodhnmflabehhaaDoorW.PrintLast Go.Proofs.YtodhnmflabehhaaDoorW.PrintMore Hy

/-- How far the document's reading has come. -/
def XJ (s : ByteArray) (n : Nat) (l : List Int) (a : Nat) : Prop := (unp (bs s) = encL (nat l) ++ (unp (bs s)).drop a ∧ a = (encL (nat l)).length) ∨ ∀ m, ¬ ColX s n m
theorem xj_exit {s : ByteArray} {n : Nat} {l : List Int} {a : Nat} (J : XJ s n l a) (hl : l.length < n) (h0 : l ≠ []) (hu : u64n (nat l)) (hbad : ∀ x R, x < 18446744073709551616 → (unp (bs s)).drop a ≠ encD x ++ R) : ∀ m, ¬ ColX s n m :=
  J.elim (fun h => xst_stuck s n l a hl h0 hu h.1 hbad) id
def u64i (l : List Int) : Prop := ∀ y ∈ l, 0 ≤ y ∧ y < 18446744073709551616
theorem xj_push {s : ByteArray} {n : Nat} {l : List Int} {a m : Nat} (J : XJ s n l a) (hm : l.length = m + 1) (hln : l.length < n) (hl : u64i l) (x a' : Nat) (hx : x < 18446744073709551616)
    (h : ((∃ R, (unp (bs s)).drop a = encD x ++ R) ∧ a' = a + (encD x).length) ∨ ∀ x R, x < 18446744073709551616 → (unp (bs s)).drop a ≠ encD x ++ R) :
    XJ s n (l ++ [Go.bits .xor .u64 (l[m]'(by omega)) (x : Int)]) a' ∧ u64i (l ++ [Go.bits .xor .u64 (l[m]'(by omega)) (x : Int)]) := by
  have hq := xor_nat (l[m]'(by omega)) (x : Int) (hl _ (List.getElem_mem _)) (by omega)
  have hu : u64i (l ++ [Go.bits .xor .u64 (l[m]'(by omega)) (x : Int)]) := by
    intro y hy
    rcases List.mem_append.1 hy with hy | hy
    · exact hl y hy
    · rw [List.mem_singleton.1 hy]; exact ⟨hq.1, hq.2.1⟩
  refine ⟨?_, hu⟩
  rcases J with ⟨e1, e2⟩ | hno
  · rcases h with ⟨⟨R, hR⟩, rfl⟩ | hbad
    · obtain ⟨f1, f2, f3, f4⟩ := xst_snoc s l a x R m hm hl hx e1 e2 hR
      exact .inl ⟨f1, f2⟩
    · exact .inr (xst_stuck s n l a hln (by rintro rfl; simp at hm) (nat_u64 l hl) e1 hbad)
  · exact .inr hno
theorem xj_end_ok {s : ByteArray} {n : Nat} {l : List Int} (hl : l.length = n) (hu : u64i l) (h : colT (nat l) = s) : ColX s n (nat l) := by
  have := col_back (nat l) (nat_u64 l hu)
  rw [h, nat_length, hl] at this
  exact this
theorem xj_end_no {s : ByteArray} {n : Nat} {l : List Int} {a : Nat} (J : XJ s n l a) (hl : l.length = n) (hu : u64i l) (h : colT (nat l) ≠ s) : ∀ m, ¬ ColX s n m := by
  rcases J with ⟨e1, e2⟩ | hno
  · intro m hC
    obtain ⟨h1, h2, k, hk, e⟩ := id hC
    rw [e1] at e
    obtain ⟨t, ht, _, _⟩ := encL_inj (nat l) m _ _ (nat_u64 l hu) h2 (by rw [nat_length]; omega) e
    obtain rfl : t = [] := List.eq_nil_of_length_eq_zero (by rw [ht, List.length_append, nat_length] at h1; omega)
    rw [List.append_nil] at ht
    subst ht
    exact h (col_text s n _ hC)
  · exact hno
theorem encD_read {y : Nat} {R D1 : List Bool} (hy : y < 18446744073709551616) (h : true :: D1 = encD y ++ R) : ∃ L t, L + t ≤ 63 ∧ val (D1.take 6) = L ∧ val ((D1.drop 6).take 6) = 63 - L - t ∧ 12 + (64 - L - t) ≤ D1.length ∧ val (((D1.drop 6).drop 6).take (64 - L - t)) * 2 ^ t = y ∧ (encD y).length = 13 + (64 - L - t) := by
  have hy0 : y ≠ 0 := by rintro rfl; rw [show encD 0 = [false] from rfl] at h; simp at h
  obtain ⟨s1, _, _, s4⟩ := ends_says y hy0 hy
  have z := size_lt y hy0 hy
  have he : encD y = true :: (bitsOf (lead y) 6 ++ (bitsOf (63 - lead y - trail y) 6 ++ bitsOf (y / 2 ^ trail y) (64 - lead y - trail y))) := by unfold encD; rw [if_neg hy0]
  rw [he] at h
  simp only [List.cons_append, List.cons.injEq, true_and, List.append_assoc] at h
  have d1 : D1.drop 6 = bitsOf (63 - lead y - trail y) 6 ++ (bitsOf (y / 2 ^ trail y) (64 - lead y - trail y) ++ R) := by rw [h, List.drop_left' (bitsOf_length _ _)]
  have d2 : (D1.drop 6).drop 6 = bitsOf (y / 2 ^ trail y) (64 - lead y - trail y) ++ R := by rw [d1, List.drop_left' (bitsOf_length _ _)]
  refine ⟨lead y, trail y, s1, ?_, ?_, ?_, ?_, ?_⟩
  · rw [h, List.take_left' (bitsOf_length _ _), val_small _ _ (by omega)]
  · rw [d1, List.take_left' (bitsOf_length _ _), val_small _ _ (by omega)]
  · rw [h]; simp only [List.length_append, bitsOf_length]; omega
  · rw [d2, List.take_left' (bitsOf_length _ _), val_small _ _ z, s4]
  · rw [he]; simp only [List.length_cons, List.length_append, bitsOf_length]; omega
/-- What a round may meet. -/
inductive XRd (s : ByteArray) (n : Nat) (l : List Int) (a m : Nat) (hml : m < l.length) : Prop
  | short (h : 8 * s.size < a + 1) (no : ∀ m, ¬ ColX s n m)
  | same (h : a + 1 ≤ 8 * s.size) (hv : val (((unp (bs s)).drop a).take 1) = 0) (next : XJ s n (l ++ [Go.bits .xor .u64 l[m] 0]) (a + 1) ∧ u64i (l ++ [Go.bits .xor .u64 l[m] 0]))
  | short1 (h : a + 1 ≤ 8 * s.size) (hv : val (((unp (bs s)).drop a).take 1) = 1) (h1 : 8 * s.size < a + 1 + 6) (no : ∀ m, ¬ ColX s n m)
  | short2 (L : Nat) (hL : L < 64) (h : a + 1 + 6 ≤ 8 * s.size) (hv : val (((unp (bs s)).drop a).take 1) = 1) (hv1 : val (((unp (bs s)).drop (a + 1)).take 6) = L) (h1 : 8 * s.size < a + 1 + 6 + 6) (no : ∀ m, ¬ ColX s n m)
  | long (L S1 : Nat) (hL : L < 64) (hS : S1 < 64) (h : a + 1 + 6 + 6 ≤ 8 * s.size) (hv : val (((unp (bs s)).drop a).take 1) = 1) (hv1 : val (((unp (bs s)).drop (a + 1)).take 6) = L) (hv2 : val (((unp (bs s)).drop (a + 1 + 6)).take 6) = S1) (hg : 64 < L + S1 + 1) (no : ∀ m, ¬ ColX s n m)
  | short3 (L S1 : Nat) (hL : L < 64) (hS : S1 < 64) (h : a + 1 + 6 + 6 ≤ 8 * s.size) (hv : val (((unp (bs s)).drop a).take 1) = 1) (hv1 : val (((unp (bs s)).drop (a + 1)).take 6) = L) (hv2 : val (((unp (bs s)).drop (a + 1 + 6)).take 6) = S1) (hg : L + S1 + 1 ≤ 64) (h1 : 8 * s.size < a + 1 + 6 + 6 + (S1 + 1)) (no : ∀ m, ¬ ColX s n m)
  | more (L S1 v x : Nat) (hL : L < 64) (hS : S1 < 64) (h : a + 1 + 6 + 6 + (S1 + 1) ≤ 8 * s.size) (hv : val (((unp (bs s)).drop a).take 1) = 1) (hv1 : val (((unp (bs s)).drop (a + 1)).take 6) = L) (hv2 : val (((unp (bs s)).drop (a + 1 + 6)).take 6) = S1) (hg : L + S1 + 1 ≤ 64) (hv3 : val (((unp (bs s)).drop (a + 1 + 6 + 6)).take (S1 + 1)) = v) (hx : v * 2 ^ (63 - L - S1) = x) (hx64 : x < 18446744073709551616)
      (next : XJ s n (l ++ [Go.bits .xor .u64 l[m] (x : Int)]) (a + 1 + 6 + 6 + (S1 + 1)) ∧ u64i (l ++ [Go.bits .xor .u64 l[m] (x : Int)]))
theorem xrd {s : ByteArray} {n : Nat} {l : List Int} {a m : Nat} (J : XJ s n l a) (hm : l.length = m + 1) (hln : l.length < n) (hl : u64i l) (ha : a ≤ 8 * s.size) : XRd s n l a m (by omega) := by
  have h0 : l ≠ [] := by rintro rfl; simp at hm
  have hu := nat_u64 l hl
  have hlen : ((unp (bs s)).drop a).length = 8 * s.size - a := by rw [List.length_drop, unp_length, bs_length]
  have v6 : ∀ L : List Bool, val (L.take 6) < 64 := fun L => val_take_lt L 6
  cases hd : (unp (bs s)).drop a with
  | nil =>
    rw [hd] at hlen
    exact .short (by simp at hlen; omega) (xj_exit J hln h0 hu (fun x R _ e => by rw [hd] at e; have := congrArg List.length e; have := encD_pos x; simp at *; omega))
  | cons b D =>
    rw [hd] at hlen
    simp only [List.length_cons] at hlen
    cases b with
    | false => exact .same (by omega) (by rw [hd]; rfl) (xj_push J hm hln hl 0 (a + 1) (by decide) (.inl ⟨⟨D, by rw [hd]; rfl⟩, rfl⟩))
    | true =>
      have hb : val (((unp (bs s)).drop a).take 1) = 1 := by rw [hd]; rfl
      have h1 : (unp (bs s)).drop (a + 1) = D := by rw [← List.drop_drop, hd]; rfl
      have h2 : (unp (bs s)).drop (a + 1 + 6) = D.drop 6 := by rw [← List.drop_drop, h1]
      have h3 : (unp (bs s)).drop (a + 1 + 6 + 6) = (D.drop 6).drop 6 := by rw [← List.drop_drop, h2]
      have no : (∀ y R, y < 18446744073709551616 → true :: D = encD y ++ R → False) → ∀ m, ¬ ColX s n m := fun h => xj_exit J hln h0 hu (fun x R hx e => h x R hx (by rw [← hd]; exact e))
      by_cases c1 : 8 * s.size < a + 1 + 6
      · exact .short1 (by omega) hb c1 (no fun y R hy e => by obtain ⟨L, t, q1, q2, q3, q4, q5, q6⟩ := encD_read hy e; omega)
      · by_cases c2 : 8 * s.size < a + 1 + 6 + 6
        · exact .short2 _ (v6 _) (by omega) hb rfl c2 (no fun y R hy e => by obtain ⟨L, t, q1, q2, q3, q4, q5, q6⟩ := encD_read hy e; omega)
        · obtain ⟨L, hL⟩ : ∃ L, val (D.take 6) = L := ⟨_, rfl⟩
          obtain ⟨S1, hS⟩ : ∃ S1, val ((D.drop 6).take 6) = S1 := ⟨_, rfl⟩
          have hL6 : L < 64 := hL ▸ v6 D
          have hS6 : S1 < 64 := hS ▸ v6 (D.drop 6)
          by_cases c3 : 64 < L + S1 + 1
          · exact .long L S1 hL6 hS6 (by omega) hb (by rw [h1, hL]) (by rw [h2, hS]) c3 (no fun y R hy e => by obtain ⟨L', t, q1, q2, q3, q4, q5, q6⟩ := encD_read hy e; omega)
          · by_cases c4 : 8 * s.size < a + 1 + 6 + 6 + (S1 + 1)
            · exact .short3 L S1 hL6 hS6 (by omega) hb (by rw [h1, hL]) (by rw [h2, hS]) (by omega) c4 (no fun y R hy e => by obtain ⟨L', t, q1, q2, q3, q4, q5, q6⟩ := encD_read hy e; omega)
            · obtain ⟨v, hv⟩ : ∃ v, val (((D.drop 6).drop 6).take (S1 + 1)) = v := ⟨_, rfl⟩
              have hvl : v < 2 ^ (S1 + 1) := hv ▸ val_take_lt _ _
              have hx64 : v * 2 ^ (63 - L - S1) < 18446744073709551616 := by
                calc v * 2 ^ (63 - L - S1) < 2 ^ (S1 + 1) * 2 ^ (63 - L - S1) := Nat.mul_lt_mul_of_pos_right hvl (Nat.two_pow_pos _)
                  _ = 2 ^ (S1 + 1 + (63 - L - S1)) := by rw [← Nat.pow_add]
                  _ ≤ 2 ^ 64 := Nat.pow_le_pow_right (by omega) (by omega)
                  _ = 18446744073709551616 := rfl
              refine .more L S1 v _ hL6 hS6 (by omega) hb (by rw [h1, hL]) (by rw [h2, hS]) (by omega) (by rw [h3, hv]) rfl hx64 (xj_push J hm hln hl _ _ hx64 ?_)
              by_cases hD : ∃ y R, y < 18446744073709551616 ∧ true :: D = encD y ++ R
              · obtain ⟨y, R, hy, e⟩ := hD
                obtain ⟨L', t, q1, q2, q3, q4, q5, q6⟩ := encD_read hy e
                have e1 : L' = L := by rw [← q2, hL]
                subst e1
                have e2 : S1 = 63 - L' - t := by rw [← q3, hS]
                have e3 : 64 - L' - t = S1 + 1 := by omega
                have e4 : 63 - L' - S1 = t := by omega
                rw [e3, hv] at q5
                rw [e4, q5]
                exact .inl ⟨⟨R, by rw [hd]; exact e⟩, by rw [q6]; omega⟩
              · exact .inr (fun y R hy e => hD ⟨y, R, hy, by rw [← hd]; exact e⟩)
end Go.Proofs.YtodhnmflabehhaaDoor
namespace Go.Proofs.YtodhnmflabehhaaDoor
open Go.RowKit Go.Proofs.YtodhnmflabehhaaDoorW.PrintWords Go.Proofs.YtodhnmflabehhaaDoorW.PrintLast Go.Proofs.YtodhnmflabehhaaDoorW.PrintMore Hy

/-- What the document's reading of a column comes to. -/
def RXGot (s : ByteArray) (n : Nat) (w : World) (e : Ending) (w' : World) : Prop :=
  (∃ (l : List Int) (A : Option Addr) (c : Nat), e = .returned (.tuple #[.slice A l.length c, .bool true]) ∧ ColX s n (nat l) ∧ u64i l ∧ Kd.C (Kd.int .u64) w' A l.length l ∧ l.length ≤ c ∧ Below w.heap.size w w') ∨
  ((∀ m, ¬ ColX s n m) ∧ e = .returned (.tuple #[.slice none 0 0, .bool false]) ∧ Below w.heap.size w w')
theorem rxorGet_range (s : ByteArray) (count : Int) (w : World) (h : count < 0 ∨ 20000 < count) :
    Calls Tryd.prog 33 #[.string s, .int .i64 count] w fun e w' => e = .returned (.tuple #[.slice none 0 0, .bool false]) ∧ w' = w := by
  rcases h with h | h
  · go_enter Tryd.func33, Tryd.ntmps33
    go_wp2_with fail
    go_ret2
    exact ⟨rfl, rfl⟩
  · have h' : ¬ count < 0 := by omega
    go_enter Tryd.func33, Tryd.ntmps33
    go_wp2_with fail
    go_ret2
    exact ⟨rfl, rfl⟩
theorem xj_first {s : ByteArray} {n a : Nat} (J : XJ s n [] a) (h : a + 64 ≤ 8 * s.size) (v : Nat) (hv : val (((unp (bs s)).drop a).take 64) = v) : v < 18446744073709551616 ∧ XJ s n [(v : Int)] (a + 64) ∧ u64i [(v : Int)] := by
  have hvl : v < 18446744073709551616 := hv ▸ val_take_lt _ 64
  refine ⟨hvl, ?_, by intro y hy; rw [List.mem_singleton.1 hy]; omega⟩
  rcases J with ⟨e1, e2⟩ | hno
  · obtain rfl : a = 0 := by rw [e2]; rfl
    refine .inl ⟨?_, by simp [nat, encL, encT, bitsOf_length]⟩
    have h2 := bitsOf_val ((unp (bs s)).take 64)
    rw [List.drop_zero] at hv
    rw [hv, List.length_take, unp_length, bs_length, Nat.min_eq_left (by omega)] at h2
    rw [show nat [(v : Int)] = [v] from rfl, encL_one, h2, List.take_append_drop]
  · exact .inr hno
theorem xj_first_no {s : ByteArray} {n a : Nat} (J : XJ s n [] a) (hn : 0 < n) (h : 8 * s.size < a + 64) : ∀ m, ¬ ColX s n m := by
  rcases J with ⟨e1, e2⟩ | hno
  · obtain rfl : a = 0 := by rw [e2]; rfl
    exact xst_stuck0 s n hn (by omega)
  · exact hno
theorem toList_ne {t s : ByteArray} (h : ¬ t = s) : ¬ t.toList = s.toList := by
  rw [ByteArray.toList_eq, ByteArray.toList_eq]
  intro e
  exact h (ByteArray.ext (Array.toList_inj.mp e))
set_option maxHeartbeats 8000000 in
set_option maxRecDepth 100000 in
theorem rxorGet_any (s : ByteArray) (count : Int) (w : World) (hs : s.size ≤ 140737488351232) (h0 : 0 ≤ count) (h1 : count ≤ 20000) :
    Calls Tryd.prog 33 #[.string s, .int .i64 count] w (RXGot s count.toNat w) := by
  obtain ⟨n, rfl⟩ := Int.eq_ofNat_of_zero_le h0
  rw [Int.toNat_natCast]
  have HB := Aside0.mk (Below.refl w.heap.size w)
  have hn : n ≤ 20000 := by omega
  clear h0
  go_enter Tryd.func33, Tryd.ntmps33
  go_wp2_with fail
  have HX := Aside0.mk (RR.new w s)
  obtain ⟨g, hg⟩ : ∃ g, w.heap.size = g := ⟨_, rfl⟩
  have HG0 : Aside0 (w.heap.size ≤ g) := ⟨Nat.le_of_eq hg⟩
  have HX : Aside0 (RR w g s 0 (w.alloc (.cells #[.string s, .int .i64 0] 53))) := ⟨by rw [← hg]; exact RR.new w s⟩
  rw [hg]
  clear hg
  go_loopw [7, 8] (fun v7 v8 w' => ∃ (l : List Int) (A : Option Addr) (c a : Nat), v7 = .slice A l.length c ∧ v8 = .int .i64 (l.length : Int) ∧ l.length ≤ n ∧ a ≤ 8 * s.size ∧ Aside0 (u64i l) ∧ Aside0 (RR w g s a w') ∧ Aside0 (Kd.R (Kd.int .u64) 34 w' w.heap.size (fun k => k ≠ g) (.slice A l.length c) l) ∧ Aside0 (Below w.heap.size w w') ∧ Aside0 (XJ s n l a)) (fun _ v8 _ => n - (intOf v8).toNat)
  case atStart => exact ⟨[], none, 0, 0, rfl, rfl, Nat.zero_le _, Nat.zero_le _, ⟨by intro y hy; simp at hy⟩, HX, ⟨Kd.R_nil _ _ _ _ _⟩, ⟨(by repeat (first | (with_reducible exact HB.out) | apply below_alloc | apply pw_below_drewN | apply below_drew1))⟩, ⟨.inl ⟨by simp [nat, encL], by simp [nat, encL]⟩⟩⟩
  case round =>
    clear HX HB
    obtain ⟨l, A, c, a, rfl, rfl, hln, ha, HU, HX, HO, HB, HJ⟩ := hrel
    by_cases hlt : l.length < n
    · have HLT := Aside0.mk HX.out.lt
      by_cases hl0 : l.length = 0
      · obtain rfl : l = [] := List.eq_nil_of_length_eq_zero hl0
        have hi0 : (((([] : List Int).length : Nat) : Int) == 0) = true := by decide
        clear hl0
        by_cases h64 : a + 64 ≤ 8 * s.size
        · obtain ⟨v, hv⟩ : ∃ v, val (((unp (bs s)).drop a).take 64) = v := ⟨_, rfl⟩
          have HV := Aside0.mk (xj_first HJ.out h64 v hv)
          go_wp2_with fail
          refine (rrget_is w g s (a) (a + 64) 64 (v : Int) _ hs (by decide) (by decide) rfl (by omega) (by rw [show Int.toNat 64 = 64 from rfl, hv]) HX.out).mono ?_
          rintro e w2 ⟨rfl, hx, hk⟩
          have HX2 := Aside0.mk hx
          have HB2 := Aside0.mk hx.2
          have HO2 := Aside0.mk (hk.row HO.out (fun k hk => hk))
          have hz2 := hk.1
          clear HX HB HO hx hk
          have HX := HX2
          have HB := HB2
          have HO := HO2
          clear HX2 HB2 HO2
          clear hv
          go_wp2_with (first
            | ((with_reducible refine gate_builtin (b := .append) (xs := #[.tmp 45, .tmp 47]) rfl ?_); at_builtin; refine Kd.R_append (Kd.int .u64) (w0 := w) w.heap.size rfl (.tmp 45) (.tmp 47) 60 34 (.int .u64 0) 8 rfl Tryd.underlying60 info_u64 rfl (by decide) (by omega) (.slice A ([] : List Int).length c) ([] : List Int) (v : Int) [.int .u64 (v : Int)] (fun k => k ≠ g) (fun _ => False) rfl rfl ?aP (fun _ hk => hk.elim) ?aF ?aO ?aB ?aS ?aL ?_; (case aP => exact rfl); (case aB => exact (by repeat (first | (with_reducible exact HB.out) | apply below_alloc | apply pw_below_drewN | apply below_drew1))); (case aF => exact (fun k hk e => by have := HLT.out; omega)); (case aO => exact (by (with_reducible repeat (first | apply Kd.R_alloc | apply Kd.R_drewN | apply Kd.R_drew)); exact HO.out)); (case aS => exact (below_size (by repeat (first | (with_reducible exact HB.out) | apply below_alloc | apply pw_below_drewN | apply below_drew1)))); (case aL => simp); intro va wa ho hb hg hat; have HX3 := Aside0.mk (HX.out.grown hg HO.out.1 hb); have n0_ := Aside0.mk hb; have n1_ := Aside0.mk ho; clear HB HO; have HB := n0_; have HO := n1_; clear n0_ n1_ ho hb hg hat; obtain ⟨A', c', hva⟩ := Kd.R_slice HO.out; subst hva))
          go_roundw
          case rel => exact ⟨[(v : Int)], A', c', a + 64, rfl, rfl, by simp; omega, h64, ⟨HV.out.2.2⟩, HX3, HO, HB, ⟨HV.out.2.1⟩⟩
          case measure => simp [intOf]; omega
        · have HN := Aside0.mk (xj_first_no HJ.out (by simp at hlt; omega) (by omega))
          go_wp2_with fail
          refine (rrget_short w g s (a) 64 _ hs (by decide) (by decide) (by omega) (by omega) HX.out).mono ?_
          rintro e w2 ⟨rfl, hx, hk⟩
          have HX2 := Aside0.mk hx
          have HB2 := Aside0.mk hx.2
          have HO2 := Aside0.mk (hk.row HO.out (fun k hk => hk))
          have hz2 := hk.1
          clear HX HB HO hx hk
          have HX := HX2
          have HB := HB2
          have HO := HO2
          clear HX2 HB2 HO2
          go_wp2_with fail
          go_ret2
          exact .inr ⟨HN.out, rfl, HB.out⟩
      · obtain ⟨m, hm⟩ : ∃ m, l.length = m + 1 := ⟨l.length - 1, by omega⟩
        have hml : m < l.length := by omega
        obtain ⟨ad, rfl, -⟩ := cellAt (R_C HO.out).1 m hml
        have hcellOf : ∀ w', Kd.R (Kd.int .u64) 34 w' w.heap.size (fun k => k ≠ g) (.slice (some ad) l.length c) l → w'.cell? (ad.add m) = some (.int .u64 l[m]) := by
          intro w' h
          obtain ⟨ad', e', hc⟩ := cellAt (R_C h).1 m hml
          injection e' with e'
          subst e'
          exact hc
        have hm2 : (l.length : Int) - 1 = (m : Int) := by omega
        have hi0 : ((l.length : Int) == 0) = false := by rw [beq_eq_false_iff_ne]; omega
        have hlm := HU.out _ (List.getElem_mem hml)
        have hlim : l.length ≤ 20000 := by omega
        have HR : Aside0 (XRd s n l a m hml) := ⟨xrd HJ.out hm hlt HU.out ha⟩
        have HLM := Aside0.mk hlm
        clear hm hl0 hlm
        cases HR.out with
        | short h no =>
          have HN := Aside0.mk no
          go_wp2_with fail
          refine (rrget_short w g s (a) 1 _ hs (by decide) (by decide) (by omega) (by omega) HX.out).mono ?_
          rintro e w2 ⟨rfl, hx, hk⟩
          have HX2 := Aside0.mk hx
          have HB2 := Aside0.mk hx.2
          have HO2 := Aside0.mk (hk.row HO.out (fun k hk => hk))
          have hz2 := hk.1
          clear HX HB HO hx hk
          have HX := HX2
          have HB := HB2
          have HO := HO2
          clear HX2 HB2 HO2
          go_wp2_with fail
          go_ret2
          exact .inr ⟨HN.out, rfl, HB.out⟩
        | same h hv next =>
          have HNX := Aside0.mk next
          go_wp2_with fail
          refine (rrget_is w g s (a) (a + 1) 1 0 _ hs (by decide) (by decide) rfl (by omega) (by rw [show Int.toNat 1 = 1 from rfl, hv]; rfl) HX.out).mono ?_
          rintro e w2 ⟨rfl, hx, hk⟩
          have HX2 := Aside0.mk hx
          have HB2 := Aside0.mk hx.2
          have HO2 := Aside0.mk (hk.row HO.out (fun k hk => hk))
          have hz2 := hk.1
          clear HX HB HO hx hk
          have HX := HX2
          have HB := HB2
          have HO := HO2
          clear HX2 HB2 HO2
          clear hv next HR
          have c0 := hcellOf _ HO.out
          go_wp2_with (first
            | ((with_reducible refine gate_builtin (b := .append) (xs := #[.tmp 100, .tmp 108]) rfl ?_); at_builtin; refine Kd.R_append (Kd.int .u64) (w0 := w) w.heap.size rfl (.tmp 100) (.tmp 108) 60 34 (.int .u64 0) 8 rfl Tryd.underlying60 info_u64 rfl (by decide) (by omega) (.slice (some ad) l.length c) l (Go.bits .xor .u64 l[m] 0) [.int .u64 (Go.bits .xor .u64 l[m] 0)] (fun k => k ≠ g) (fun _ => False) rfl rfl ?aP (fun _ hk => hk.elim) ?aF ?aO ?aB ?aS ?aL ?_; (case aP => exact rfl); (case aB => exact (by repeat (first | (with_reducible exact HB.out) | apply below_alloc | apply pw_below_drewN | apply below_drew1))); (case aF => exact (fun k hk e => by have := HLT.out; omega)); (case aO => exact (by (with_reducible repeat (first | apply Kd.R_alloc | apply Kd.R_drewN | apply Kd.R_drew)); exact HO.out)); (case aS => exact (below_size (by repeat (first | (with_reducible exact HB.out) | apply below_alloc | apply pw_below_drewN | apply below_drew1)))); (case aL => omega); intro va wa ho hb hg hat; have HX3 := Aside0.mk (HX.out.grown hg HO.out.1 hb); have n0_ := Aside0.mk hb; have n1_ := Aside0.mk ho; clear HB HO; have HB := n0_; have HO := n1_; clear n0_ n1_ ho hb hg hat; obtain ⟨A', c', hva⟩ := Kd.R_slice HO.out; subst hva))
          go_roundw
          case rel => exact ⟨l ++ [Go.bits .xor .u64 l[m] 0], A', c', a + 1, by rw [List.length_append]; rfl, by rw [List.length_append]; go_num, by rw [List.length_append]; exact hlt, by omega, ⟨HNX.out.2⟩, HX3, HO, HB, ⟨HNX.out.1⟩⟩
          case measure => simp [intOf]; omega
        | short1 h hv h1 no =>
          have HN := Aside0.mk no
          go_wp2_with fail
          refine (rrget_is w g s (a) (a + 1) 1 1 _ hs (by decide) (by decide) rfl (by omega) (by rw [show Int.toNat 1 = 1 from rfl, hv]; rfl) HX.out).mono ?_
          rintro e w2 ⟨rfl, hx, hk⟩
          have HX2 := Aside0.mk hx
          have HB2 := Aside0.mk hx.2
          have HO2 := Aside0.mk (hk.row HO.out (fun k hk => hk))
          have hz2 := hk.1
          clear HX HB HO hx hk
          have HX := HX2
          have HB := HB2
          have HO := HO2
          clear HX2 HB2 HO2
          go_wp2_with fail
          refine (rrget_short w g s (a + 1) 6 _ hs (by decide) (by decide) (by omega) (by omega) HX.out).mono ?_
          rintro e w3 ⟨rfl, hx, hk⟩
          have HX2 := Aside0.mk hx
          have HB2 := Aside0.mk hx.2
          have HO2 := Aside0.mk (hk.row HO.out (fun k hk => hk))
          have hz3 := hk.1
          clear HX HB HO hx hk
          have HX := HX2
          have HB := HB2
          have HO := HO2
          clear HX2 HB2 HO2
          go_wp2_with fail
          refine (rrget_short w g s (a + 1) 6 _ hs (by decide) (by decide) (by omega) (by omega) HX.out).mono ?_
          rintro e w4 ⟨rfl, hx, hk⟩
          have HX2 := Aside0.mk hx
          have HB2 := Aside0.mk hx.2
          have HO2 := Aside0.mk (hk.row HO.out (fun k hk => hk))
          have hz4 := hk.1
          clear HX HB HO hx hk
          have HX := HX2
          have HB := HB2
          have HO := HO2
          clear HX2 HB2 HO2
          go_wp2_with fail
          go_ret2
          exact .inr ⟨HN.out, rfl, HB.out⟩
        | short2 L hL h hv hv1 h1 no =>
          have HN := Aside0.mk no
          go_wp2_with fail
          refine (rrget_is w g s (a) (a + 1) 1 1 _ hs (by decide) (by decide) rfl (by omega) (by rw [show Int.toNat 1 = 1 from rfl, hv]; rfl) HX.out).mono ?_
          rintro e w2 ⟨rfl, hx, hk⟩
          have HX2 := Aside0.mk hx
          have HB2 := Aside0.mk hx.2
          have HO2 := Aside0.mk (hk.row HO.out (fun k hk => hk))
          have hz2 := hk.1
          clear HX HB HO hx hk
          have HX := HX2
          have HB := HB2
          have HO := HO2
          clear HX2 HB2 HO2
          go_wp2_with fail
          refine (rrget_is w g s (a + 1) (a + 1 + 6) 6 (L : Int) _ hs (by decide) (by decide) rfl (by omega) (by rw [show Int.toNat 6 = 6 from rfl, hv1]) HX.out).mono ?_
          rintro e w3 ⟨rfl, hx, hk⟩
          have HX2 := Aside0.mk hx
          have HB2 := Aside0.mk hx.2
          have HO2 := Aside0.mk (hk.row HO.out (fun k hk => hk))
          have hz3 := hk.1
          clear HX HB HO hx hk
          have HX := HX2
          have HB := HB2
          have HO := HO2
          clear HX2 HB2 HO2
          go_wp2_with fail
          refine (rrget_short w g s (a + 1 + 6) 6 _ hs (by decide) (by decide) (by omega) (by omega) HX.out).mono ?_
          rintro e w4 ⟨rfl, hx, hk⟩
          have HX2 := Aside0.mk hx
          have HB2 := Aside0.mk hx.2
          have HO2 := Aside0.mk (hk.row HO.out (fun k hk => hk))
          have hz4 := hk.1
          clear HX HB HO hx hk
          have HX := HX2
          have HB := HB2
          have HO := HO2
          clear HX2 HB2 HO2
          go_wp2_with fail
          go_ret2
          exact .inr ⟨HN.out, rfl, HB.out⟩
        | long L S1 hL hS h hv hv1 hv2 hgt no =>
          have HN := Aside0.mk no
          go_wp2_with fail
          refine (rrget_is w g s (a) (a + 1) 1 1 _ hs (by decide) (by decide) rfl (by omega) (by rw [show Int.toNat 1 = 1 from rfl, hv]; rfl) HX.out).mono ?_
          rintro e w2 ⟨rfl, hx, hk⟩
          have HX2 := Aside0.mk hx
          have HB2 := Aside0.mk hx.2
          have HO2 := Aside0.mk (hk.row HO.out (fun k hk => hk))
          have hz2 := hk.1
          clear HX HB HO hx hk
          have HX := HX2
          have HB := HB2
          have HO := HO2
          clear HX2 HB2 HO2
          go_wp2_with fail
          refine (rrget_is w g s (a + 1) (a + 1 + 6) 6 (L : Int) _ hs (by decide) (by decide) rfl (by omega) (by rw [show Int.toNat 6 = 6 from rfl, hv1]) HX.out).mono ?_
          rintro e w3 ⟨rfl, hx, hk⟩
          have HX2 := Aside0.mk hx
          have HB2 := Aside0.mk hx.2
          have HO2 := Aside0.mk (hk.row HO.out (fun k hk => hk))
          have hz3 := hk.1
          clear HX HB HO hx hk
          have HX := HX2
          have HB := HB2
          have HO := HO2
          clear HX2 HB2 HO2
          go_wp2_with fail
          refine (rrget_is w g s (a + 1 + 6) (a + 1 + 6 + 6) 6 (S1 : Int) _ hs (by decide) (by decide) rfl (by omega) (by rw [show Int.toNat 6 = 6 from rfl, hv2]) HX.out).mono ?_
          rintro e w4 ⟨rfl, hx, hk⟩
          have HX2 := Aside0.mk hx
          have HB2 := Aside0.mk hx.2
          have HO2 := Aside0.mk (hk.row HO.out (fun k hk => hk))
          have hz4 := hk.1
          clear HX HB HO hx hk
          have HX := HX2
          have HB := HB2
          have HO := HO2
          clear HX2 HB2 HO2
          clear hv hv1 hv2 HR no
          have f1 : (64 : Int) < (L : Int) + (S1 : Int) + 1 := by omega
          go_wp2_with fail
          go_ret2
          exact .inr ⟨HN.out, rfl, HB.out⟩
        | short3 L S1 hL hS h hv hv1 hv2 hgt h1 no =>
          have HN := Aside0.mk no
          go_wp2_with fail
          refine (rrget_is w g s (a) (a + 1) 1 1 _ hs (by decide) (by decide) rfl (by omega) (by rw [show Int.toNat 1 = 1 from rfl, hv]; rfl) HX.out).mono ?_
          rintro e w2 ⟨rfl, hx, hk⟩
          have HX2 := Aside0.mk hx
          have HB2 := Aside0.mk hx.2
          have HO2 := Aside0.mk (hk.row HO.out (fun k hk => hk))
          have hz2 := hk.1
          clear HX HB HO hx hk
          have HX := HX2
          have HB := HB2
          have HO := HO2
          clear HX2 HB2 HO2
          go_wp2_with fail
          refine (rrget_is w g s (a + 1) (a + 1 + 6) 6 (L : Int) _ hs (by decide) (by decide) rfl (by omega) (by rw [show Int.toNat 6 = 6 from rfl, hv1]) HX.out).mono ?_
          rintro e w3 ⟨rfl, hx, hk⟩
          have HX2 := Aside0.mk hx
          have HB2 := Aside0.mk hx.2
          have HO2 := Aside0.mk (hk.row HO.out (fun k hk => hk))
          have hz3 := hk.1
          clear HX HB HO hx hk
          have HX := HX2
          have HB := HB2
          have HO := HO2
          clear HX2 HB2 HO2
          go_wp2_with fail
          refine (rrget_is w g s (a + 1 + 6) (a + 1 + 6 + 6) 6 (S1 : Int) _ hs (by decide) (by decide) rfl (by omega) (by rw [show Int.toNat 6 = 6 from rfl, hv2]) HX.out).mono ?_
          rintro e w4 ⟨rfl, hx, hk⟩
          have HX2 := Aside0.mk hx
          have HB2 := Aside0.mk hx.2
          have HO2 := Aside0.mk (hk.row HO.out (fun k hk => hk))
          have hz4 := hk.1
          clear HX HB HO hx hk
          have HX := HX2
          have HB := HB2
          have HO := HO2
          clear HX2 HB2 HO2
          clear hv hv1 hv2 HR no
          have f1 : (L : Int) + (S1 : Int) + 1 ≤ 64 := by omega
          go_wp2_with fail
          refine (rrget_short w g s (a + 1 + 6 + 6) ((S1 : Int) + 1) _ hs (by omega) (by omega) (by omega) (by omega) HX.out).mono ?_
          rintro e w5 ⟨rfl, hx, hk⟩
          have HX2 := Aside0.mk hx
          have HB2 := Aside0.mk hx.2
          have HO2 := Aside0.mk (hk.row HO.out (fun k hk => hk))
          have hz5 := hk.1
          clear HX HB HO hx hk
          have HX := HX2
          have HB := HB2
          have HO := HO2
          clear HX2 HB2 HO2
          go_wp2_with fail
          go_ret2
          exact .inr ⟨HN.out, rfl, HB.out⟩
        | more L S1 v x hL hS h hv hv1 hv2 hgt hv3 hx hx64 next =>
          have HNX := Aside0.mk next
          go_wp2_with fail
          refine (rrget_is w g s (a) (a + 1) 1 1 _ hs (by decide) (by decide) rfl (by omega) (by rw [show Int.toNat 1 = 1 from rfl, hv]; rfl) HX.out).mono ?_
          rintro e w2 ⟨rfl, hx, hk⟩
          have HX2 := Aside0.mk hx
          have HB2 := Aside0.mk hx.2
          have HO2 := Aside0.mk (hk.row HO.out (fun k hk => hk))
          have hz2 := hk.1
          clear HX HB HO hx hk
          have HX := HX2
          have HB := HB2
          have HO := HO2
          clear HX2 HB2 HO2
          go_wp2_with fail
          refine (rrget_is w g s (a + 1) (a + 1 + 6) 6 (L : Int) _ hs (by decide) (by decide) rfl (by omega) (by rw [show Int.toNat 6 = 6 from rfl, hv1]) HX.out).mono ?_
          rintro e w3 ⟨rfl, hx, hk⟩
          have HX2 := Aside0.mk hx
          have HB2 := Aside0.mk hx.2
          have HO2 := Aside0.mk (hk.row HO.out (fun k hk => hk))
          have hz3 := hk.1
          clear HX HB HO hx hk
          have HX := HX2
          have HB := HB2
          have HO := HO2
          clear HX2 HB2 HO2
          go_wp2_with fail
          refine (rrget_is w g s (a + 1 + 6) (a + 1 + 6 + 6) 6 (S1 : Int) _ hs (by decide) (by decide) rfl (by omega) (by rw [show Int.toNat 6 = 6 from rfl, hv2]) HX.out).mono ?_
          rintro e w4 ⟨rfl, hx, hk⟩
          have HX2 := Aside0.mk hx
          have HB2 := Aside0.mk hx.2
          have HO2 := Aside0.mk (hk.row HO.out (fun k hk => hk))
          have hz4 := hk.1
          clear HX HB HO hx hk
          have HX := HX2
          have HB := HB2
          have HO := HO2
          clear HX2 HB2 HO2
          have f1 : (L : Int) + (S1 : Int) + 1 ≤ 64 := by omega
          have f6 : ((S1 : Int) + 1).toNat = S1 + 1 := by omega
          go_wp2_with fail
          refine (rrget_is w g s (a + 1 + 6 + 6) (a + 1 + 6 + 6 + (S1 + 1)) ((S1 : Int) + 1) (v : Int) _ hs (by omega) (by omega) (by rw [f6]) (by omega) (by rw [f6, hv3]) HX.out).mono ?_
          rintro e w5 ⟨rfl, hx, hk⟩
          have HX2 := Aside0.mk hx
          have HB2 := Aside0.mk hx.2
          have HO2 := Aside0.mk (hk.row HO.out (fun k hk => hk))
          have hz5 := hk.1
          clear HX HB HO hx hk
          have HX := HX2
          have HB := HB2
          have HO := HO2
          clear HX2 HB2 HO2
          clear hv hv1 hv2 hv3 HR next
          obtain ⟨sh, hsh⟩ : ∃ sh, 63 - L - S1 = sh := ⟨_, rfl⟩
          have f3 : (63 : Int) - (L : Int) - (S1 : Int) = (sh : Int) := by omega
          have f4 : (sh : Int) ≤ 63 := by omega
          rw [hsh] at hx
          have f5 : IntKind.u64.wrap ((v : Int) * 2 ^ sh) = (x : Int) := by rw [cast_shl, hx, wrap_u64]; omega
          clear hx hsh
          have c0 := hcellOf _ HO.out
          go_wp2_with (first
            | ((with_reducible refine gate_builtin (b := .append) (xs := #[.tmp 100, .tmp 108]) rfl ?_); at_builtin; refine Kd.R_append (Kd.int .u64) (w0 := w) w.heap.size rfl (.tmp 100) (.tmp 108) 60 34 (.int .u64 0) 8 rfl Tryd.underlying60 info_u64 rfl (by decide) (by omega) (.slice (some ad) l.length c) l (Go.bits .xor .u64 l[m] (x : Int)) [.int .u64 (Go.bits .xor .u64 l[m] (x : Int))] (fun k => k ≠ g) (fun _ => False) rfl rfl ?aP (fun _ hk => hk.elim) ?aF ?aO ?aB ?aS ?aL ?_; (case aP => exact rfl); (case aB => exact (by repeat (first | (with_reducible exact HB.out) | apply below_alloc | apply pw_below_drewN | apply below_drew1))); (case aF => exact (fun k hk e => by have := HLT.out; omega)); (case aO => exact (by (with_reducible repeat (first | apply Kd.R_alloc | apply Kd.R_drewN | apply Kd.R_drew)); exact HO.out)); (case aS => exact (below_size (by repeat (first | (with_reducible exact HB.out) | apply below_alloc | apply pw_below_drewN | apply below_drew1)))); (case aL => omega); intro va wa ho hb hg hat; have HX3 := Aside0.mk (HX.out.grown hg HO.out.1 hb); have n0_ := Aside0.mk hb; have n1_ := Aside0.mk ho; clear HB HO; have HB := n0_; have HO := n1_; clear n0_ n1_ ho hb hg hat; obtain ⟨A', c', hva⟩ := Kd.R_slice HO.out; subst hva))
          go_roundw
          case rel => exact ⟨l ++ [Go.bits .xor .u64 l[m] (x : Int)], A', c', a + 1 + 6 + 6 + (S1 + 1), by rw [List.length_append]; rfl, by rw [List.length_append]; go_num, by rw [List.length_append]; exact hlt, by omega, ⟨HNX.out.2⟩, HX3, HO, HB, ⟨HNX.out.1⟩⟩
          case measure => simp [intOf]; omega
    · obtain rfl : l.length = n := by omega
      have HC := Aside0.mk (R_C HO.out)
      by_cases hT : colT (nat l) = s
      · have HOK := Aside0.mk (xj_end_ok rfl HU.out hT)
        have A2 := fun w' h => rputxor_any A c l w' h HC.out.2.2 (by omega) HU.out
        rw [hT] at A2
        go_wp2_with (first
          | (go_at_call 30; refine (A2 _ HC.out.1).mono ?_; rintro e w2 ⟨rfl, hb⟩; have HBL := Aside0.mk hb; clear hb))
        go_ret2
        exact .inl ⟨l, A, c, rfl, HOK.out, HU.out, Kd.C_below HC.out.1 HBL.out, HC.out.2.2, below_next HB.out HBL.out⟩
      · have HN := Aside0.mk (xj_end_no HJ.out rfl HU.out hT)
        have A2 := fun w' h => rputxor_any A c l w' h HC.out.2.2 (by omega) HU.out
        generalize colT (nat l) = T at *
        have hts3 : (T.toList == s.toList) = false := by rw [beq_eq_false_iff_ne]; exact toList_ne hT
        go_wp2_with (first
          | (go_at_call 30; refine (A2 _ HC.out.1).mono ?_; rintro e w2 ⟨rfl, hb⟩; have HBL := Aside0.mk hb; clear hb))
        go_ret2
        exact .inr ⟨HN.out, rfl, below_next HB.out HBL.out⟩
end Go.Proofs.YtodhnmflabehhaaDoor
