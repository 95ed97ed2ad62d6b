import Derived.Test.YtdogokcoobpgdaaMkavvajwh
import Derived.Test.YtdogokcoobpgdaaMsihddxeb
import Derived.Test.YtdogokcoobpgdaaMfcnvqwvf
import Derived.Test.YtdogokcoobpgdaaMngtzozrc
namespace Go.Proofs.Ytdogokcoobpgdaa
open Go.RowKit Go.Proofs.YtdogokcoobpgdaaW.PrintWords Go.Proofs.YtdogokcoobpgdaaW.PrintLast Go.Proofs.YtdogokcoobpgdaaW.PrintMore

/-! ### summaries -/
def qB (q : Int) : Bool := (classI q == 4) || (lessB q 0 || lessB 4607182418800017408 q)
def sumI (start time : Int) (dup : Bool) (l : List Qnt) : Int := orL [commI start time dup, whn (l.any fun x => qB x.q) 11]
theorem class_b (W : World) (a : Int) : Calls Try.prog 30 #[.int .u64 a] W fun e w' => e = .returned (.int .i64 (classI a)) ∧ Below W.heap.size W w' :=
  (CChk.flt_Class.calls a _ W (class_f a)).mono fun _ _ h => ⟨h.1, h.2.below⟩
theorem less_b (W : World) (a b : Int) : Calls Try.prog 31 #[.int .u64 a, .int .u64 b] W fun e w' => e = .returned (.bool (lessB a b)) ∧ Below W.heap.size W w' :=
  (less_any a b W).mono fun _ _ h => ⟨h.1, h.2.below⟩
theorem any_next (l : List Qnt) (i : Nat) (hi : i < l.length) : ((l.take (i + 1)).any fun x => qB x.q) = (((l.take i).any fun x => qB x.q) || ((classI l[i].q == 4) || (lessB l[i].q 0 || lessB 4607182418800017408 l[i].q))) := by
  show _ = (_ || qB l[i].q)
  rw [List.take_succ_eq_append_getElem hi, List.any_append]
  simp
noncomputable def zeroQ : Value := ((Try.prog.info? 78).bind (·.zero)).getD undef
noncomputable def zcQ : Array Value := zeroQ.cells
theorem zcQ_sz : zcQ.size = 3 := by kernel_rfl
theorem q_all (a b : Int) (u : ByteArray) : (#[.int .u64 a, .int .u64 b, .string u] : Array Value).all (·.oneCell') = true := Array.all_eq_true_iff_forall_mem.2 (fun v hv => qnt_one ⟨a, b, u⟩ v (by simpa [qntC] using hv))
set_option maxHeartbeats 4000000 in
set_option maxRecDepth 100000 in
theorem summ_any (w : World) (x : Smm) (ks : List Kv) (qs : List Qnt) (hk : KsAt w x.attrs ks) (hq : SlAt 3 qntC QntOk w x.qs qs) :
    Calls Try.prog 16 #[smmA x] w fun e w' => e = .returned (.int .i64 (sumI x.start x.time (dupK ks) qs)) ∧ Below w.heap.size w w' := by
  have HC : Aside0 (∀ w', Below w.heap.size w w' → Calls Try.prog 25 #[.int .u64 x.start, .int .u64 x.time, .slice x.attrs.a x.attrs.len x.attrs.cap] w' fun e w2 => e = .returned (.int .i64 (commI x.start x.time (dupK ks))) ∧ Below w'.heap.size w' w2) := ⟨fun w' h => common_any w' x.start x.time x.attrs ks (hk.below h)⟩
  unfold sumI
  generalize commI x.start x.time (dupK ks) = cm at *
  obtain ⟨⟨aa, an, ac⟩, start, time, count, sum, ⟨qa, qn, qc⟩, flags, unk⟩ := x
  obtain rfl : qn = qs.length := hq.1
  have hlm : qs.length ≤ 9223372036854775807 := by have h := hq.2.1; have h2 := hq.2.2.1; unfold maxLen at h2; simp only at h h2; omega
  have HQS := Aside0.mk hq
  clear hk hq
  unfold smmA smmC Sl.v
  go_enter Try.func16, Try.ntmps16
  go_upto_region 2 with fail
  have HX : Aside0 (XS (w.alloc (.cells #[.slice aa an ac, .int .u64 start, .int .u64 time, .int .u64 count, .int .u64 sum, .slice qa qs.length qc, .int .u32 flags, .string unk] 50)) w.heap.size ⟨⟨aa, an, ac⟩, start, time, count, sum, ⟨qa, qs.length, qc⟩, flags, unk⟩) := ⟨⟨heap_alloc_new w _⟩⟩
  have HB : Aside0 (Below w.heap.size w (w.alloc (.cells #[.slice aa an ac, .int .u64 start, .int .u64 time, .int .u64 count, .int .u64 sum, .slice qa qs.length qc, .int .u32 flags, .string unk] 50))) := ⟨(Below.refl w.heap.size w).alloc (Nat.le_refl _) _⟩
  generalize w.alloc (.cells #[.slice aa an ac, .int .u64 start, .int .u64 time, .int .u64 count, .int .u64 sum, .slice qa qs.length qc, .int .u32 flags, .string unk] 50) = w1 at *
  generalize hgg : w.heap.size = g at HX ⊢
  have HGG := Aside0.mk hgg
  clear hgg
  have p5 := HX.out.c5
  go_wp2_with fail
  clear p5
  go_loopw [3, 9] (fun v3 v9 w' => ∃ i : Nat, v3 = .bool ((qs.take i).any fun x => qB x.q) ∧ v9 = .int .i64 (i : Int) ∧ i ≤ qs.length ∧ Aside0 (XS w' g ⟨⟨aa, an, ac⟩, start, time, count, sum, ⟨qa, qs.length, qc⟩, flags, unk⟩) ∧ Aside0 (Below w.heap.size w w')) (fun _ v9 _ => qs.length - (intOf v9).toNat)
  case atStart => exact ⟨0, rfl, rfl, Nat.zero_le _, HX, HB⟩
  case round =>
    clear HX HB
    obtain ⟨i, rfl, rfl, hi, HX, HB⟩ := hrel
    by_cases hlt : i < qs.length
    · obtain ⟨ad, rfl, hel⟩ := HQS.out.2.2.2 (by omega)
      obtain ⟨he1, he2⟩ := hel i hlt
      have hxa := (qnt_at he1).below HB.out
      have HN := Aside0.mk (any_next qs i hlt)
      generalize qs[i] = q at *
      obtain ⟨qq, qv, qu⟩ := q
      have q0 := hxa.c0
      have q1 := hxa.c1
      have q2 := hxa.c2
      have z78 := Try.sizeOf78
      generalize ((qs.take i).any fun x => qB x.q) = o at *
      clear he1 he2 hel hxa
      go_upto_region 5 with (first
        | ((with_reducible refine gate_dst (N := 5) rfl ?_); refine wpList_allocZ rfl 78 rfl zcQ zeroQ (by kernel_rfl) rfl ?_; have q0 := True.intro)
        | (refine wpList_store_row rfl 78 _ _ rfl wr.heap.size #[.int .u64 qq, .int .u64 qv, .string qu] rfl rfl 78 zcQ (heap_alloc_new wr _) (by kernel_rfl) zcQ_sz (q_all _ _ _) ?_))
      have HP := Aside0.mk (show ((wr.alloc (.cells zcQ 78)).setRow wr.heap.size #[.int .u64 qq, .int .u64 qv, .string qu]).heap[wr.heap.size]? = some (.cells #[.int .u64 qq, .int .u64 qv, .string qu] 78 (0, 0)) from copy_at _ _ _)
      have HXn := Aside0.mk (show XS ((wr.alloc (.cells zcQ 78)).setRow wr.heap.size #[.int .u64 qq, .int .u64 qv, .string qu]) g ⟨⟨aa, an, ac⟩, start, time, count, sum, ⟨some ad, qs.length, qc⟩, flags, unk⟩ from ⟨by rw [setRow_other _ _ _ _ (by have := blk_lt HX.out.blk; omega)]; exact blk_below HX.out.blk ((Below.refl _ _).alloc (Nat.le_refl _) _)⟩)
      have HBn := Aside0.mk (below_copy HB.out (.cells zcQ 78) #[.int .u64 qq, .int .u64 qv, .string qu])
      clear HX HB q0 q1 q2
      generalize (wr.alloc (.cells zcQ 78)).setRow wr.heap.size #[.int .u64 qq, .int .u64 qv, .string qu] = w2 at *
      generalize wr.heap.size = p at HP ⊢
      have k0 : w2.cell? ⟨p, 0, none⟩ = some (.int .u64 qq) := by rw [cell_of_row _ _ _ _ _ _ HP.out]; rfl
      have HCl := Aside0.mk (fun W => class_b W qq)
      have HL0 := Aside0.mk (fun W => less_b W qq 0)
      have HL1 := Aside0.mk (fun W => less_b W 4607182418800017408 qq)
      have hcl : (classI qq = 4 ∧ (classI qq == 4) = true) ∨ (¬ classI qq = 4 ∧ (classI qq == 4) = false) := by
        by_cases h : classI qq = 4
        · exact .inl ⟨h, by simpa using h⟩
        · exact .inr ⟨h, by simpa using h⟩
      generalize classI qq = c at *
      generalize lessB qq 0 = l0 at *
      generalize lessB 4607182418800017408 qq = l1 at *
      rcases hcl with ⟨c1, c2⟩ | ⟨c1, c2⟩ <;> rw [c2] at HN <;> cases o <;> cases l0
      all_goals
        simp only [Bool.true_or, Bool.false_or, Bool.or_true] at HN
        go_wp2_with (first
          | (go_at_call 30; with_reducible refine (HCl.out _).mono ?_; rintro e w3 ⟨rfl, hb⟩; have n1_ := Aside0.mk (HXn.out.below hb); have n0_ := Aside0.mk (below_next HBn.out hb); have n2_ := pw_cell_below hb k0; clear HXn HBn hb k0; have HXn := n1_; have HBn := n0_; have k0 := n2_; clear n0_ n1_ n2_)
          | (go_at_call 31; with_reducible refine (HL0.out _).mono ?_; rintro e w3 ⟨rfl, hb⟩; have n1_ := Aside0.mk (HXn.out.below hb); have n0_ := Aside0.mk (below_next HBn.out hb); have n2_ := pw_cell_below hb k0; clear HXn HBn hb k0; have HXn := n1_; have HBn := n0_; have k0 := n2_; clear n0_ n1_ n2_)
          | (go_at_call 31; with_reducible refine (HL1.out _).mono ?_; rintro e w3 ⟨rfl, hb⟩; have n1_ := Aside0.mk (HXn.out.below hb); have n0_ := Aside0.mk (below_next HBn.out hb); have n2_ := pw_cell_below hb k0; clear HXn HBn hb k0; have HXn := n1_; have HBn := n0_; have k0 := n2_; clear n0_ n1_ n2_))
        go_roundw
        case rel => exact ⟨i + 1, by rw [HN.out], by go_num, by omega, HXn, HBn⟩
        case measure => simp [intOf]; omega
    · obtain rfl : i = qs.length := by omega
      have HT := Aside0.mk (show ((qs.take qs.length).any fun x => qB x.q) = (qs.any fun x => qB x.q) by rw [List.take_length])
      rw [HT.out]
      generalize ho : (qs.any fun x => qB x.q) = o
      have HQO := Aside0.mk ho
      clear ho
      have p0 := HX.out.c0
      have p1 := HX.out.c1
      have p2 := HX.out.c2
      clear HT
      go_wp2_with (first
        | (go_at_call 25; with_reducible refine (HC.out _ HB.out).mono ?_; rintro e w3 ⟨rfl, hb⟩; have n0_ := Aside0.mk (below_next HB.out hb); clear HB hb; have HB := n0_; clear n0_)
        | (go_at_call 26; with_reducible refine (when_b _ _ _).mono ?_; rintro e w4 ⟨rfl, hb⟩; have n0_ := Aside0.mk (below_next HB.out hb); clear HB hb; have HB := n0_; clear n0_; have HO := Aside0.mk (fun e => or2_any w4 cm (whn o 11) e); have HBA := Aside0.mk (fun oo => (Below.refl w4.heap.size w4).alloc (Nat.le_refl _) oo))
        | (go_at_call 24; with_reducible refine (HO.out _).mono ?_; rintro e w5 ⟨rfl, hb⟩; have n0_ := Aside0.mk (below_next HB.out hb); clear HB hb; have HB := n0_; clear n0_))
      go_ret
      exact ⟨by rw [HQO.out]; rfl, HB.out⟩
end Go.Proofs.Ytdogokcoobpgdaa
namespace Go.Proofs.Ytdogokcoobpgdaa
open Go.RowKit Go.Proofs.YtdogokcoobpgdaaW.PrintWords Go.Proofs.YtdogokcoobpgdaaW.PrintLast Go.Proofs.YtdogokcoobpgdaaW.PrintMore

def sR (cm : Int) (l : List Qnt) : Int := orL [cm, whn (l.any fun x => qB x.q) 11]
theorem sR_0 {cm : Int} {l : List Qnt} (h : sR cm l = 0) : cm = 0 ∧ (l.any fun x => qB x.q) = false := by
  unfold sR at h
  obtain ⟨h1, h2⟩ := orL_0 h
  obtain ⟨h3, _⟩ := orL_0 h2
  exact ⟨h1, whn_0 (by decide) h3⟩
theorem sR_end {cm : Int} {l : List Qnt} (i : Nat) (h : sR cm (l.take i) ≠ 0) : sR cm (l.take i) = sR cm l := by
  unfold sR at *
  by_cases h0 : cm = 0
  · subst h0
    rw [orL_z] at h ⊢
    rw [orL_z]
    cases ha : (l.take i).any fun x => qB x.q with
    | false => rw [ha] at h; exact absurd rfl h
    | true =>
      obtain ⟨x, hx, hq⟩ := List.any_eq_true.1 ha
      rw [List.any_eq_true.2 ⟨x, List.mem_of_mem_take hx, hq⟩]
  · rw [orL_ne h0, orL_ne h0]
set_option maxHeartbeats 4000000 in
set_option maxRecDepth 100000 in
theorem rsum_any (w : World) (x : Smm) (ks : List Kv) (qs : List Qnt) (hk : KsAt w x.attrs ks) (hq : SlAt 3 qntC QntOk w x.qs qs) :
    Calls Try.prog 17 #[smmA x] w fun e w' => e = .returned (.int .i64 (sumI x.start x.time (dupK ks) qs)) ∧ Below w.heap.size w w' := by
  have HC : Aside0 (∀ w', Below w.heap.size w w' → Calls Try.prog 33 #[.int .u64 x.start, .int .u64 x.time, .slice x.attrs.a x.attrs.len x.attrs.cap] w' fun e w2 => e = .returned (.int .i64 (commI x.start x.time (dupK ks))) ∧ Below w'.heap.size w' w2) := ⟨fun w' h => rbase_any w' x.start x.time x.attrs ks (hk.below h)⟩
  show Calls _ _ _ _ fun e w' => e = .returned (.int .i64 (sR (commI x.start x.time (dupK ks)) qs)) ∧ _
  generalize commI x.start x.time (dupK ks) = cm at *
  obtain ⟨⟨aa, an, ac⟩, start, time, count, sum, ⟨qa, qn, qc⟩, flags, unk⟩ := x
  obtain rfl : qn = qs.length := hq.1
  have hlm : qs.length ≤ 9223372036854775807 := by have h := hq.2.1; have h2 := hq.2.2.1; unfold maxLen at h2; simp only at h h2; omega
  have HQS := Aside0.mk hq
  clear hk hq
  unfold smmA smmC Sl.v
  go_enter Try.func17, Try.ntmps17
  go_upto_region 1 with fail
  have HX : Aside0 (XS (w.alloc (.cells #[.slice aa an ac, .int .u64 start, .int .u64 time, .int .u64 count, .int .u64 sum, .slice qa qs.length qc, .int .u32 flags, .string unk] 50)) w.heap.size ⟨⟨aa, an, ac⟩, start, time, count, sum, ⟨qa, qs.length, qc⟩, flags, unk⟩) := ⟨⟨heap_alloc_new w _⟩⟩
  have HB : Aside0 (Below w.heap.size w (w.alloc (.cells #[.slice aa an ac, .int .u64 start, .int .u64 time, .int .u64 count, .int .u64 sum, .slice qa qs.length qc, .int .u32 flags, .string unk] 50))) := ⟨(Below.refl w.heap.size w).alloc (Nat.le_refl _) _⟩
  generalize w.alloc (.cells #[.slice aa an ac, .int .u64 start, .int .u64 time, .int .u64 count, .int .u64 sum, .slice qa qs.length qc, .int .u32 flags, .string unk] 50) = w1 at *
  generalize hgg : w.heap.size = g at HX ⊢
  have HGG := Aside0.mk hgg
  clear hgg
  have p0 := HX.out.c0
  have p1 := HX.out.c1
  have p2 := HX.out.c2
  go_wp2_with (go_at_call 33; with_reducible refine (HC.out _ HB.out).mono ?_; rintro e w3 ⟨rfl, hb⟩; have n0_ := Aside0.mk (below_next HB.out hb); have n1_ := Aside0.mk (HX.out.below hb); clear HX HB hb p0 p1 p2; have HB := n0_; have HX := n1_; clear n0_ n1_)
  go_loopw [3, 4] (fun v3 v4 w' => ∃ i : Nat, v3 = .int .i64 (sR cm (qs.take i)) ∧ v4 = .int .i64 (i : Int) ∧ i ≤ qs.length ∧ Aside0 (XS w' g ⟨⟨aa, an, ac⟩, start, time, count, sum, ⟨qa, qs.length, qc⟩, flags, unk⟩) ∧ Aside0 (Below w.heap.size w w')) (fun _ v4 _ => qs.length - (intOf v4).toNat)
  case atStart => exact ⟨0, by by_cases h0 : cm = 0 <;> simp [sR, orL, whn, h0], rfl, Nat.zero_le _, HX, HB⟩
  case round =>
    clear HX HB
    obtain ⟨i, rfl, rfl, hi, HX, HB⟩ := hrel
    have p5 := HX.out.c5
    by_cases hgo : i < qs.length ∧ sR cm (qs.take i) = 0
    · obtain ⟨hlt, hz⟩ := hgo
      obtain ⟨h0, h1⟩ := sR_0 hz
      subst h0
      rw [hz]
      obtain ⟨ad, rfl, hel⟩ := HQS.out.2.2.2 (by omega)
      obtain ⟨he1, he2⟩ := hel i hlt
      have hxa := (qnt_at he1).below HB.out
      have hN := any_next qs i hlt
      rw [h1] at hN
      have HN := Aside0.mk hN
      have hq2 := he2.q
      generalize qs[i] = q at *
      obtain ⟨qq, qv, qu⟩ := q
      simp only at hq2
      have q0 := hxa.c0
      have HCl := Aside0.mk (fun W => rclass_any W qq hq2)
      have HL0 := Aside0.mk (fun W => rless_any W qq 0 hq2 ⟨by decide, by decide⟩)
      have HL1 := Aside0.mk (fun W => rless_any W 4607182418800017408 qq ⟨by decide, by decide⟩ hq2)
      have hcl : (classI qq = 4 ∧ (classI qq == 4) = true) ∨ (¬ classI qq = 4 ∧ (classI qq == 4) = false) := by
        by_cases h : classI qq = 4
        · exact .inl ⟨h, by simpa using h⟩
        · exact .inr ⟨h, by simpa using h⟩
      clear hz h1 hN hq2 he1 he2 hel hxa
      generalize classI qq = c at *
      generalize lessB qq 0 = l0 at *
      generalize lessB 4607182418800017408 qq = l1 at *
      rcases hcl with ⟨c1, c2⟩ | ⟨c1, c2⟩ <;> rw [c2] at HN <;> cases l0 <;> cases l1
      all_goals
        simp only [Bool.or_true, Bool.or_false] at HN
        go_wp2_with (first
          | (go_at_call 38; with_reducible refine (HCl.out _).mono ?_; rintro e w3 ⟨rfl, hb⟩; have n1_ := Aside0.mk (HX.out.below hb); have n0_ := Aside0.mk (below_next HB.out hb); clear HX HB hb p5 q0; have HX := n1_; have HB := n0_; clear n0_ n1_)
          | (go_at_call 39; with_reducible refine (HL0.out _).mono ?_; rintro e w3 ⟨rfl, hb⟩; have n1_ := Aside0.mk (HX.out.below hb); have n0_ := Aside0.mk (below_next HB.out hb); clear HX HB hb; have HX := n1_; have HB := n0_; clear n0_ n1_)
          | (go_at_call 40; with_reducible refine (rone_any _).mono ?_; rintro e w3 ⟨rfl, hb⟩; have n1_ := Aside0.mk (HX.out.below hb); have n0_ := Aside0.mk (below_next HB.out hb); clear HX HB hb; have HX := n1_; have HB := n0_; clear n0_ n1_)
          | (go_at_call 39; with_reducible refine (HL1.out _).mono ?_; rintro e w3 ⟨rfl, hb⟩; have n1_ := Aside0.mk (HX.out.below hb); have n0_ := Aside0.mk (below_next HB.out hb); clear HX HB hb; have HX := n1_; have HB := n0_; clear n0_ n1_))
        go_roundw
        case rel => exact ⟨i + 1, by unfold sR; rw [HN.out]; rfl, by go_num, by omega, HX, HB⟩
        case measure => simp [intOf]; omega
    · have hor : ¬ i < qs.length ∨ (i < qs.length ∧ ¬ sR cm (qs.take i) = 0) := by
        by_cases h1 : i < qs.length
        · exact .inr ⟨h1, fun h => hgo ⟨h1, h⟩⟩
        · exact .inl h1
      have HE : Aside0 (sR cm (qs.take i) = sR cm qs) := ⟨by
        rcases hor with h | ⟨_, h⟩
        · rw [List.take_of_length_le (by omega)]
        · exact sR_end i h⟩
      clear hgo
      generalize sR cm (qs.take i) = r at *
      rcases hor with d1 | ⟨d1, d2⟩
      · go_wp2_with fail
        go_ret
        exact ⟨by rw [← HE.out]; rfl, HB.out⟩
      · have d3 : (r == 0) = false := by simpa using d2
        go_wp2_with fail
        go_ret
        exact ⟨by rw [← HE.out]; rfl, HB.out⟩
end Go.Proofs.Ytdogokcoobpgdaa
