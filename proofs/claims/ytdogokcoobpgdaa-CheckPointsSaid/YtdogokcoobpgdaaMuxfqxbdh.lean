import Derived.Test.YtdogokcoobpgdaaMzsmiysjl
namespace Go.Proofs.Ytdogokcoobpgdaa
open Go.RowKit Go.Proofs.YtdogokcoobpgdaaW.PrintWords Go.Proofs.YtdogokcoobpgdaaW.PrintLast Go.Proofs.YtdogokcoobpgdaaW.PrintMore

set_option maxHeartbeats 2000000 in
set_option maxRecDepth 100000 in
theorem rnum_any (W w : World) (x : Nmb) (hW : Below W.heap.size W w) (hx : NmbOk W x) :
    Calls Try.prog 10 #[nmbA x, .int .i64 12000] w (fun e w' => ∃ (r : Int) (l : List Kv), e = .returned (.int .i64 r) ∧ SlAt 11 kvC KvOk W x.attrs l ∧ (0 ≤ r → l.length ≤ 600) ∧ -1 ≤ r ∧ r ≤ 12000 ∧ Below w.heap.size w w') := by
  obtain ⟨ks, hks⟩ := rd_kvs hx.attrs
  obtain ⟨es, hes⟩ := rd_exms hx.exs
  obtain ⟨⟨aa, an, ac⟩, start, time, kind, n, ⟨ea, en, ec⟩, flags, unk⟩ := x
  have HK := Aside0.mk hks
  have T1 := Aside0.mk (tk_rp 12000 (unk.size : Int) (by omega) (by omega) (by omega))
  have RK : ∀ w', Below w.heap.size w w' → Calls Try.prog 22 #[.slice aa an ac, .int .i64 40, .int .i64 (tk 12000 (unk.size : Int))] w' (RRes (tk 12000 (unk.size : Int)) ks.length w') := fun w' hb => rkeys_40 W w' ⟨aa, an, ac⟩ ks _ (hW.trans (hb.mono hW.size)) hks T1.out.1 T1.out.2.1
  have RX : ∀ w' r2, Below w.heap.size w w' → RP (tk 12000 (unk.size : Int)) ks.length r2 → Calls Try.prog 21 #[.slice ea en ec, .int .i64 r2] w' (RRes r2 0 w') := fun w' r2 hb h => rexs_any W w' ⟨ea, en, ec⟩ es r2 (hW.trans (hb.mono hW.size)) hes h.1 (by have := h.2.1; have := T1.out.2.1; omega)
  clear hW hx hks hes
  unfold nmbA nmbC Sl.v
  go_enter Try.func10, Try.ntmps10
  go_upto_region 1 with fail
  have HX : Aside0 (XN (w.alloc (.cells #[.slice aa an ac, .int .u64 start, .int .u64 time, .int .i64 kind, .int .u64 n, .slice ea en ec, .int .u32 flags, .string unk] 47)).drew w.heap.size ⟨⟨aa, an, ac⟩, start, time, kind, n, ⟨ea, en, ec⟩, flags, unk⟩) := ⟨⟨heap_alloc_new w _⟩⟩
  have HB : Aside0 (Below w.heap.size w (w.alloc (.cells #[.slice aa an ac, .int .u64 start, .int .u64 time, .int .i64 kind, .int .u64 n, .slice ea en ec, .int .u32 flags, .string unk] 47)).drew) := ⟨below_drew1 ((Below.refl w.heap.size w).alloc (Nat.le_refl _) _)⟩
  generalize w.alloc (.cells #[.slice aa an ac, .int .u64 start, .int .u64 time, .int .i64 kind, .int .u64 n, .slice ea en ec, .int .u32 flags, .string unk] 47) = w1 at *
  generalize hgg : w.heap.size = g at HX ⊢
  have HGG := Aside0.mk hgg
  clear hgg
  refine start_ (n := 12) (S := fun w' => w'.cell? ⟨g, 5, none⟩ = some (.slice ea en ec) ∧ w'.cell? ⟨g, 0, none⟩ = some (.slice aa an ac) ∧ w'.cell? ⟨g, 7, none⟩ = some (.string unk)) (ds := []) #[false, false, false, false, false, false, false, false, false, false, false, false] (by kernel_rfl) rfl rfl ⟨HX.out.c5, HX.out.c0, HX.out.c7⟩ (fun hHeld => ?_)
  refine pure_ (i := 0) (N := some 5) (v := ?_) (a' := ?_) (mkM 12 1) rfl rfl (by kernel_rfl) (fun _ _ _ h => h) (Or.inl ⟨by rfl, ?_⟩) ?_ ?_
  rotate_left
  · intro w'
    go_simp
    with_reducible rfl
  rotate_left
  · simp only [Act.put, s1_, s2_, s3_]
    rfl
  refine pure_ (i := 2) (N := some 7) (v := ?_) (a' := ?_) (mkM 12 5) rfl rfl (by kernel_rfl) (fun _ _ _ h => h) (Or.inl ⟨by rfl, ?_⟩) ?_ ?_
  rotate_left
  · intro w'
    go_simp
    with_reducible rfl
  rotate_left
  · simp only [Act.put, s1_, s2_, s3_]
    rfl
  refine pure_ (i := 4) (N := some 9) (v := ?_) (a' := ?_) (mkM 12 21) rfl rfl (by kernel_rfl) (fun _ _ _ h => h) (Or.inl ⟨by rfl, ?_⟩) ?_ ?_
  rotate_left
  · intro w'
    go_simp
    with_reducible rfl
  rotate_left
  · simp only [Act.put, s1_, s2_, s3_]
    rfl
  refine pure_ (i := 5) (N := some 10) (v := ?_) (a' := ?_) (mkM 12 53) rfl rfl (by kernel_rfl) (fun _ _ _ h => h) (Or.inl ⟨by rfl, ?_⟩) ?_ ?_
  rotate_left
  · intro w'
    go_simp
    with_reducible rfl
  rotate_left
  · simp only [Act.put, s1_, s2_, s3_]
    rfl
  refine take_ (i := 1) (N := some 6) (v := ?_) (a' := ?_) (mkM 12 55) rfl rfl (by kernel_rfl) (fun _ _ _ h => h) (Or.inl ⟨by rfl, ?_⟩) hHeld ?_ ?_
  rotate_left
  · rintro w' ⟨s0, s1, s2⟩
    go_simp
    with_reducible rfl
  rotate_left
  · simp only [Act.put, s1_, s2_, s3_]
    rfl
  refine take_ (i := 3) (N := some 8) (v := ?_) (a' := ?_) (mkM 12 63) rfl rfl (by kernel_rfl) (fun _ _ _ h => h) (Or.inl ⟨by rfl, ?_⟩) hHeld ?_ ?_
  rotate_left
  · rintro w' ⟨s0, s1, s2⟩
    go_simp
    with_reducible rfl
  rotate_left
  · simp only [Act.put, s1_, s2_, s3_]
    rfl
  refine take_ (i := 6) (N := some 11) (v := ?_) (a' := ?_) (mkM 12 127) rfl rfl (by kernel_rfl) (fun _ _ _ h => h) (Or.inl ⟨by rfl, ?_⟩) hHeld ?_ ?_
  rotate_left
  · rintro w' ⟨s0, s1, s2⟩
    go_simp
    with_reducible rfl
  rotate_left
  · simp only [Act.put, s1_, s2_, s3_]
    rfl
  refine pure_ (i := 7) (N := some 12) (v := ?_) (a' := ?_) (mkM 12 255) rfl rfl (by kernel_rfl) (fun _ _ _ h => h) (Or.inl ⟨by rfl, ?_⟩) ?_ ?_
  rotate_left
  · intro w'
    go_simp
    with_reducible rfl
  rotate_left
  · simp only [Act.put, s1_, s2_, s3_]
    rfl
  refine one_ (i := 8) (N := some 13) (mkM 12 511) rfl rfl (by kernel_rfl) (by decide) (fun K hK => ?_)
  refine goes_ Try.func20 (by kernel_rfl) rfl #[.int .i64 12000, .int .i64 (unk.size : Int)] (by rfl) rfl rfl (by simp only [List.map_toArray, List.map_cons, List.map_nil]; rfl) ?_
  with_reducible refine (take_b _ _ _).mono ?_
  rintro e w2 ⟨rfl, hb⟩
  refine ⟨_, rfl, ?_⟩
  replace HB := Aside0.mk (below_next HB.out hb)
  have HXn := Aside0.mk (HX.out.below hb)
  clear HX hb
  have HX := HXn
  clear HXn
  refine hK.out _ _ ⟨HX.out.c5, HX.out.c0, HX.out.c7⟩ (fun hHeld => ?_)
  clear hK K
  refine norm_ (a' := ?_) ?_ ?_
  rotate_left
  · show Act.put _ (some 13) _ = _
    simp only [Act.put, s1_, s2_, s3_]
    rfl
  refine one_ (i := 9) (N := some 14) (mkM 12 1023) rfl rfl (by kernel_rfl) (by decide) (fun K hK => ?_)
  refine goes_ Try.func22 (by kernel_rfl) rfl #[.slice aa an ac, .int .i64 40, .int .i64 (tk 12000 (unk.size : Int))] (by rfl) rfl rfl (by simp only [List.map_toArray, List.map_cons, List.map_nil]; rfl) ?_
  with_reducible refine (RK _ HB.out).mono ?_
  rintro e w7 ⟨r3, rfl, hr3, hb⟩
  refine ⟨_, rfl, ?_⟩
  have HR3 := Aside0.mk hr3
  clear hr3
  replace HB := Aside0.mk (below_next HB.out hb)
  have HXn := Aside0.mk (HX.out.below hb)
  clear HX hb
  have HX := HXn
  clear HXn
  refine hK.out _ _ ⟨HX.out.c5, HX.out.c0, HX.out.c7⟩ (fun hHeld => ?_)
  clear hK K
  refine norm_ (a' := ?_) ?_ ?_
  rotate_left
  · show Act.put _ (some 14) _ = _
    simp only [Act.put, s1_, s2_, s3_]
    rfl
  refine one_ (i := 10) (N := some 15) (mkM 12 2047) rfl rfl (by kernel_rfl) (by decide) (fun K hK => ?_)
  refine goes_ Try.func21 (by kernel_rfl) rfl #[.slice ea en ec, .int .i64 r3] (by rfl) rfl rfl (by simp only [List.map_toArray, List.map_cons, List.map_nil]; rfl) ?_
  with_reducible refine (RX _ r3 HB.out HR3.out).mono ?_
  rintro e w8 ⟨r4, rfl, hr4, hb⟩
  refine ⟨_, rfl, ?_⟩
  have HR4 := Aside0.mk hr4
  clear hr4
  replace HB := Aside0.mk (below_next HB.out hb)
  have HXn := Aside0.mk (HX.out.below hb)
  clear HX hb
  have HX := HXn
  clear HXn
  refine hK.out _ _ ⟨HX.out.c5, HX.out.c0, HX.out.c7⟩ (fun hHeld => ?_)
  clear hK K
  refine norm_ (a' := ?_) ?_ ?_
  rotate_left
  · show Act.put _ (some 15) _ = _
    simp only [Act.put, s1_, s2_, s3_]
    rfl
  refine pure_ (i := 11) (N := some 4) (v := ?_) (a' := ?_) (mkM 12 4095) rfl rfl (by kernel_rfl) (fun _ _ _ h => h) (Or.inl ⟨by rfl, ?_⟩) ?_ ?_
  rotate_left
  · intro w'
    go_simp
    with_reducible rfl
  rotate_left
  · simp only [Act.put, s1_, s2_, s3_]
    rfl
  refine done_ (by kernel_rfl) ?_
  go_wp2_with fail
  go_ret
  have h1 := T1.out
  have h2 := HR3.out
  have h3 := HR4.out
  exact ⟨r4, rfl, ks, HK.out, fun h0 => by have k3 := h3.2.1; have k2 := h2.2.2 (by omega); have k1 := h1.2.1; omega, h3.1, by have := h3.2.1; have := h2.2.1; have := h1.2.1; omega, HB.out⟩
set_option maxHeartbeats 2000000 in
set_option maxRecDepth 100000 in
theorem rsmm_any (W w : World) (x : Smm) (hW : Below W.heap.size W w) (hx : SmmOk W x) :
    Calls Try.prog 11 #[smmA x, .int .i64 12000] w (fun e w' => ∃ (r : Int) (l : List Kv), e = .returned (.int .i64 r) ∧ SlAt 11 kvC KvOk W x.attrs l ∧ (0 ≤ r → l.length ≤ 600) ∧ -1 ≤ r ∧ r ≤ 12000 ∧ Below w.heap.size w w') := by
  obtain ⟨ks, hks⟩ := rd_kvs hx.attrs
  obtain ⟨qs, hqs⟩ := rd_qnts hx.qs
  obtain ⟨⟨aa, an, ac⟩, start, time, count, sum, ⟨qa, qn, qc⟩, flags, unk⟩ := x
  obtain rfl : qn = qs.length := hqs.1
  have HK := Aside0.mk hks
  have HQS := Aside0.mk hqs
  have HW := Aside0.mk hW
  have hlm : qs.length ≤ 9223372036854775807 := by have h := hqs.2.1; have h2 := hqs.2.2.1; unfold maxLen at h2; simp only at h h2; omega
  have HQ0 := Aside0.mk ((tk_rp 12000 (unk.size : Int) (by omega) (by omega) (by omega)).less (Nat.zero_le _))
  have HRK := Aside0.mk (fun r (hr : RP 12000 0 r) w' (hb : Below w.heap.size w w') => rkeys_40 W w' ⟨aa, an, ac⟩ ks r (hW.trans (hb.mono hW.size)) hks hr.1 hr.2.1)
  clear hW hx hks hqs
  unfold smmA smmC Sl.v
  go_enter Try.func11, Try.ntmps11
  go_upto_region 1 with fail
  have HX : Aside0 (XS (w.alloc (.cells #[.slice aa an ac, .int .u64 start, .int .u64 time, .int .u64 count, .int .u64 sum, .slice qa qs.length qc, .int .u32 flags, .string unk] 50)) w.heap.size ⟨⟨aa, an, ac⟩, start, time, count, sum, ⟨qa, qs.length, qc⟩, flags, unk⟩) := ⟨⟨heap_alloc_new w _⟩⟩
  have HB : Aside0 (Below w.heap.size w (w.alloc (.cells #[.slice aa an ac, .int .u64 start, .int .u64 time, .int .u64 count, .int .u64 sum, .slice qa qs.length qc, .int .u32 flags, .string unk] 50))) := ⟨(Below.refl w.heap.size w).alloc (Nat.le_refl _) _⟩
  generalize w.alloc (.cells #[.slice aa an ac, .int .u64 start, .int .u64 time, .int .u64 count, .int .u64 sum, .slice qa qs.length qc, .int .u32 flags, .string unk] 50) = w1 at *
  generalize hgg : w.heap.size = g at HX ⊢
  have HGG := Aside0.mk hgg
  clear hgg
  have p7 := HX.out.c7
  go_wp2_with (go_at_call 20; with_reducible refine (take_b _ _ _).mono ?_; rintro e w2 ⟨rfl, hb⟩; have n1_ := Aside0.mk (HX.out.below hb); have n0_ := Aside0.mk (below_next HB.out hb); clear HB HX hb p7; have HB := n0_; have HX := n1_; clear n0_ n1_)
  generalize tk 12000 (unk.size : Int) = r0 at *
  go_loopw [1, 5] (fun v1 v5 w' => ∃ (i : Nat) (r : Int), v1 = .int .i64 r ∧ v5 = .int .i64 (i : Int) ∧ i ≤ qs.length ∧ Aside0 (RP 12000 0 r) ∧ Aside0 (XS w' g ⟨⟨aa, an, ac⟩, start, time, count, sum, ⟨qa, qs.length, qc⟩, flags, unk⟩) ∧ Aside0 (Below w.heap.size w w')) (fun _ v5 _ => qs.length - (intOf v5).toNat)
  case atStart => exact ⟨0, r0, rfl, rfl, Nat.zero_le _, HQ0, HX, HB⟩
  case round =>
    clear HQ0 HX HB
    obtain ⟨i, r, rfl, rfl, hi, HQ, HX, HB⟩ := hrel
    have p5 := HX.out.c5
    have p0 := HX.out.c0
    by_cases hgo : i < qs.length ∧ 0 ≤ r
    · obtain ⟨hlt, hr0⟩ := hgo
      obtain ⟨ad, rfl, hel⟩ := HQS.out.2.2.2 (by omega)
      obtain ⟨he1, he2⟩ := hel i hlt
      have hWr : Below W.heap.size W wr := HW.out.trans (HB.out.mono HW.out.size)
      have hxa := (qnt_at he1).below hWr
      generalize qs[i] = q at *
      obtain ⟨qq, qv, qu⟩ := q
      have z2 := hxa.c2
      have T := Aside0.mk (tk_rp r (qu.size : Int) HQ.out.1 HQ.out.2.1 (by omega))
      clear he1 he2 hel hxa hWr
      go_wp2_with (go_at_call 20; with_reducible refine (take_b _ _ _).mono ?_; rintro e w2 ⟨rfl, hb⟩; have n1_ := Aside0.mk (HX.out.below hb); have n0_ := Aside0.mk (below_next HB.out hb); clear HB HX hb p5 p0 z2; have HB := n0_; have HX := n1_; clear n0_ n1_)
      generalize tk r (qu.size : Int) = r1 at *
      go_roundw
      case rel => exact ⟨i + 1, r1, rfl, by go_num, by omega, ⟨(HQ.out.trans T.out).less (Nat.zero_le _)⟩, HX, HB⟩
      case measure => simp [intOf]; omega
    · have hor : ¬ i < qs.length ∨ (i < qs.length ∧ r < 0) := by
        by_cases h1 : i < qs.length
        · exact .inr ⟨h1, by by_cases h : 0 ≤ r; exact absurd ⟨h1, h⟩ hgo; omega⟩
        · exact .inl h1
      have H := HRK.out r HQ.out wr HB.out
      unfold Sl.v at H
      clear hgo
      rcases hor with d1 | ⟨d1, d2⟩
      all_goals
        go_wp2_with fail
        all_goals first
          | (exfalso; omega)
          | (refine H.mono ?_
             rintro e w3 ⟨r2, rfl, hr2, hb⟩
             have HR2 := Aside0.mk hr2
             have HBn := Aside0.mk (below_next HB.out hb)
             clear hb hr2 p0 p5 HX HB H
             go_wp2_with fail
             go_ret
             exact ⟨r2, ks, rfl, HK.out, fun h0 => by have k2 := HR2.out.2.2 h0; have k1 := HQ.out.2.1; omega, HR2.out.1, by have := HR2.out.2.1; have := HQ.out.2.1; omega, HBn.out⟩)
end Go.Proofs.Ytdogokcoobpgdaa
namespace Go.Proofs.Ytdogokcoobpgdaa
open Go.RowKit Go.Proofs.YtdogokcoobpgdaaW.PrintWords Go.Proofs.YtdogokcoobpgdaaW.PrintLast Go.Proofs.YtdogokcoobpgdaaW.PrintMore

theorem tk_pos {a n : Int} (h : 0 ≤ tk a n) (ha : a ≤ 12000) : n ≤ 12000 ∧ 0 ≤ a := by
  unfold tk at h
  by_cases h1 : a < 0
  · rw [if_pos h1] at h; omega
  · rw [if_neg h1] at h
    have e1 : wrap64 (a - 20) = a - 20 := by unfold wrap64; omega
    rw [e1] at h
    by_cases h3 : n > a - 20
    · rw [if_pos h3] at h; omega
    · omega
theorem tk_len {a j : Int} {n : Nat} (h : 0 ≤ tk a (wrap64 (8 * j))) (ha : a ≤ 12000) (hj : (if (100000 : Int) < (n : Int) then 100000 else (n : Int)) = j) : n ≤ 12000 := by
  have h1 := (tk_pos h ha).1
  by_cases hc : (100000 : Int) < (n : Int)
  · rw [if_pos hc] at hj
    subst hj
    have : wrap64 (8 * 100000) = 800000 := by unfold wrap64; omega
    rw [this] at h1
    omega
  · rw [if_neg hc] at hj
    subst hj
    have : wrap64 (8 * (n : Int)) = 8 * (n : Int) := by unfold wrap64; omega
    rw [this] at h1
    omega
theorem tk_le (a n : Int) (h1 : a ≤ 12000) (hn : 0 ≤ n) : tk a n ≤ 12000 := by
  unfold tk
  by_cases h0 : a < 0
  · rw [if_pos h0]; omega
  · rw [if_neg h0]
    have e1 : wrap64 (a - 20) = a - 20 := by unfold wrap64; omega
    rw [e1]
    by_cases h3 : n > a - 20
    · rw [if_pos h3]; omega
    · rw [if_neg h3]
      unfold wrap64; omega
theorem tk_lens {u j1 j2 : Int} {m n : Nat} (h : 0 ≤ tk (tk (tk 12000 u) (wrap64 (8 * j1))) (wrap64 (8 * j2))) (hu : 0 ≤ u) (hj1 : (if (100000 : Int) < (m : Int) then 100000 else (m : Int)) = j1) (hj2 : (if (100000 : Int) < (n : Int) then 100000 else (n : Int)) = j2) : m ≤ 12000 ∧ n ≤ 12000 := by
  have p1 : 0 ≤ wrap64 (8 * j1) := by
    by_cases hc : (100000 : Int) < (m : Int)
    · rw [if_pos hc] at hj1; subst hj1; unfold wrap64; omega
    · rw [if_neg hc] at hj1; subst hj1; unfold wrap64; omega
  have a1 := tk_le 12000 u (by omega) hu
  have a2 := tk_le (tk 12000 u) (wrap64 (8 * j1)) a1 p1
  exact ⟨tk_len (tk_pos h a2).2 a1 hj1, tk_len h a2 hj2⟩
set_option maxHeartbeats 2000000 in
set_option maxRecDepth 100000 in
theorem rhist_len (W w : World) (x : Hst) (hW : Below W.heap.size W w) (hx : HstOk W x) :
    Calls Try.prog 6 #[hstA x, .int .i64 12000] w (fun e w' => ∃ (r : Int) (l : List Kv), e = .returned (.int .i64 r) ∧ SlAt 11 kvC KvOk W x.attrs l ∧ (0 ≤ r → l.length ≤ 600 ∧ x.counts.len ≤ 12000 ∧ x.bounds.len ≤ 12000) ∧ -1 ≤ r ∧ r ≤ 12000 ∧ Below w.heap.size w w') := by
  obtain ⟨ks, hks⟩ := rd_kvs hx.attrs
  obtain ⟨es, hes⟩ := rd_exms hx.exs
  obtain ⟨⟨aa, an, ac⟩, start, time, count, ⟨sh, sn⟩, ⟨mnh, mnn⟩, ⟨mxh, mxn⟩, ⟨ca, cn, cc⟩, ⟨ba, bn, bc⟩, ⟨ea, en, ec⟩, flags, unk⟩ := x
  have HW := Aside0.mk hW
  have HK := Aside0.mk hks
  obtain ⟨j1, hj1, hp1⟩ := min8 cn
  obtain ⟨j2, hj2, hp2⟩ := min8 bn
  have T3 := Aside0.mk (tk3i 12000 unk.size (wrap64 (8 * j1)) (wrap64 (8 * j2)) (by omega) (by omega) (by omega) hp1 hp2)
  have TL := Aside0.mk (show 0 ≤ tk (tk (tk 12000 (unk.size : Int)) (wrap64 (8 * j1))) (wrap64 (8 * j2)) → cn ≤ 12000 ∧ bn ≤ 12000 from fun h0 => tk_lens h0 (by omega) hj1 hj2)
  have RK : ∀ r1, RP 12000 3 r1 → ∀ w', Below w.heap.size w w' → Calls Try.prog 22 #[.slice aa an ac, .int .i64 40, .int .i64 r1] w' (RRes r1 ks.length w') := fun r1 h w' hb => rkeys_40 W w' ⟨aa, an, ac⟩ ks r1 (hW.trans (hb.mono hW.size)) hks h.1 (by have := h.2.1; omega)
  have RX : ∀ w' r2, Below w.heap.size w w' → -1 ≤ r2 ∧ r2 ≤ 12000 → Calls Try.prog 21 #[.slice ea en ec, .int .i64 r2] w' (RRes r2 0 w') := fun w' r2 hb h => rexs_any W w' ⟨ea, en, ec⟩ es r2 (hW.trans (hb.mono hW.size)) hes h.1 h.2
  have HRK := Aside0.mk RK
  have HRX := Aside0.mk RX
  have HJ := Aside0.mk (show (if (100000 : Int) < (cn : Int) then 100000 else (cn : Int)) = j1 ∧ (if (100000 : Int) < (bn : Int) then 100000 else (bn : Int)) = j2 from ⟨hj1, hj2⟩)
  clear hW hx hks hes RK RX hj1 hp1 hj2 hp2
  unfold hstA hstC Sl.v
  go_enter Try.func6, Try.ntmps6
  go_upto_region 1 with fail
  have hx1 : XH (w.alloc (.cells #[.slice aa an ac, .int .u64 start, .int .u64 time, .int .u64 count, .bool sh, .int .u64 sn, .bool mnh, .int .u64 mnn, .bool mxh, .int .u64 mxn, .slice ca cn cc, .slice ba bn bc, .slice ea en ec, .int .u32 flags, .string unk] 30)) w.heap.size ⟨⟨aa, an, ac⟩, start, time, count, ⟨sh, sn⟩, ⟨mnh, mnn⟩, ⟨mxh, mxn⟩, ⟨ca, cn, cc⟩, ⟨ba, bn, bc⟩, ⟨ea, en, ec⟩, flags, unk⟩ := ⟨heap_alloc_new w _⟩
  have HX : Aside0 (XH (w.alloc (.cells #[.slice aa an ac, .int .u64 start, .int .u64 time, .int .u64 count, .bool sh, .int .u64 sn, .bool mnh, .int .u64 mnn, .bool mxh, .int .u64 mxn, .slice ca cn cc, .slice ba bn bc, .slice ea en ec, .int .u32 flags, .string unk] 30)).drew w.heap.size ⟨⟨aa, an, ac⟩, start, time, count, ⟨sh, sn⟩, ⟨mnh, mnn⟩, ⟨mxh, mxn⟩, ⟨ca, cn, cc⟩, ⟨ba, bn, bc⟩, ⟨ea, en, ec⟩, flags, unk⟩) := ⟨⟨hx1.blk⟩⟩
  have HB : Aside0 (Below w.heap.size w (w.alloc (.cells #[.slice aa an ac, .int .u64 start, .int .u64 time, .int .u64 count, .bool sh, .int .u64 sn, .bool mnh, .int .u64 mnn, .bool mxh, .int .u64 mxn, .slice ca cn cc, .slice ba bn bc, .slice ea en ec, .int .u32 flags, .string unk] 30)).drew) := ⟨below_drew1 ((Below.refl w.heap.size w).alloc (Nat.le_refl _) _)⟩
  clear hx1
  generalize w.alloc (.cells #[.slice aa an ac, .int .u64 start, .int .u64 time, .int .u64 count, .bool sh, .int .u64 sn, .bool mnh, .int .u64 mnn, .bool mxh, .int .u64 mxn, .slice ca cn cc, .slice ba bn bc, .slice ea en ec, .int .u32 flags, .string unk] 30) = w1 at *
  generalize hgg : w.heap.size = g at HX ⊢
  have HGG := Aside0.mk hgg
  clear hgg
  obtain ⟨hj1, hj2⟩ := HJ.out
  refine start_ (n := 18) (S := fun w' => w'.cell? ⟨g, 14, none⟩ = some (.string unk) ∧ w'.cell? ⟨g, 10, none⟩ = some (.slice ca cn cc) ∧ w'.cell? ⟨g, 11, none⟩ = some (.slice ba bn bc)) (ds := []) #[false, false, false, false, false, false, false, false, false, false, false, false, false, false, false, false, false, false] (by kernel_rfl) rfl rfl ⟨HX.out.c14, HX.out.c10, HX.out.c11⟩ (fun hHeld => ?_)
  refine pure_ (i := 0) (N := some 5) (v := ?_) (a' := ?_) (mkM 18 1) rfl rfl (by kernel_rfl) (fun _ _ _ h => h) (Or.inl ⟨by rfl, ?_⟩) ?_ ?_
  rotate_left
  · intro w'
    go_simp
    with_reducible rfl
  rotate_left
  · simp only [Act.put, s1_, s2_, s3_]
    rfl
  refine pure_ (i := 1) (N := some 6) (v := ?_) (a' := ?_) (mkM 18 3) rfl rfl (by kernel_rfl) (fun _ _ _ h => h) (Or.inl ⟨by rfl, ?_⟩) ?_ ?_
  rotate_left
  · intro w'
    go_simp
    with_reducible rfl
  rotate_left
  · simp only [Act.put, s1_, s2_, s3_]
    rfl
  refine pure_ (i := 5) (N := some 10) (v := ?_) (a' := ?_) (mkM 18 35) rfl rfl (by kernel_rfl) (fun _ _ _ h => h) (Or.inl ⟨by rfl, ?_⟩) ?_ ?_
  rotate_left
  · intro w'
    go_simp
    with_reducible rfl
  rotate_left
  · simp only [Act.put, s1_, s2_, s3_]
    rfl
  refine pure_ (i := 11) (N := some 16) (v := ?_) (a' := ?_) (mkM 18 2083) rfl rfl (by kernel_rfl) (fun _ _ _ h => h) (Or.inl ⟨by rfl, ?_⟩) ?_ ?_
  rotate_left
  · intro w'
    go_simp
    with_reducible rfl
  rotate_left
  · simp only [Act.put, s1_, s2_, s3_]
    rfl
  refine take_ (i := 2) (N := some 7) (v := ?_) (a' := ?_) (mkM 18 2087) rfl rfl (by kernel_rfl) (fun _ _ _ h => h) (Or.inl ⟨by rfl, ?_⟩) hHeld ?_ ?_
  rotate_left
  · rintro w' ⟨s0, s1, s2⟩
    go_simp
    with_reducible rfl
  rotate_left
  · simp only [Act.put, s1_, s2_, s3_]
    rfl
  refine pure_ (i := 3) (N := some 8) (v := ?_) (a' := ?_) (mkM 18 2095) rfl rfl (by kernel_rfl) (fun _ _ _ h => h) (Or.inl ⟨by rfl, ?_⟩) ?_ ?_
  rotate_left
  · intro w'
    go_simp
    with_reducible rfl
  rotate_left
  · simp only [Act.put, s1_, s2_, s3_]
    rfl
  refine take_ (i := 6) (N := some 11) (v := ?_) (a' := ?_) (mkM 18 2159) rfl rfl (by kernel_rfl) (fun _ _ _ h => h) (Or.inl ⟨by rfl, ?_⟩) hHeld ?_ ?_
  rotate_left
  · rintro w' ⟨s0, s1, s2⟩
    go_simp
    with_reducible rfl
  rotate_left
  · simp only [Act.put, s1_, s2_, s3_]
    rfl
  refine pure_ (i := 7) (N := some 12) (v := ?_) (a' := ?_) (mkM 18 2287) rfl rfl (by kernel_rfl) (fun _ _ _ h => h) (Or.inl ⟨by rfl, ?_⟩) ?_ ?_
  rotate_left
  · intro w'
    go_simp
    with_reducible rfl
  rotate_left
  · simp only [Act.put, s1_, s2_, s3_]
    rfl
  refine pure_ (i := 8) (N := some 13) (v := ?_) (a' := ?_) (mkM 18 2543) rfl rfl (by kernel_rfl) (fun _ _ _ h => h) (Or.inl ⟨by rfl, ?_⟩) ?_ ?_
  rotate_left
  · intro w'
    go_simp
    with_reducible rfl
  rotate_left
  · simp only [Act.put, s1_, s2_, s3_]
    rfl
  refine pure_ (i := 9) (N := some 14) (v := ?_) (a' := ?_) (mkM 18 3055) rfl rfl (by kernel_rfl) (fun _ _ _ h => h) (Or.inl ⟨by rfl, ?_⟩) ?_ ?_
  rotate_left
  · intro w'
    go_simp
    with_reducible rfl
  rotate_left
  · simp only [Act.put, s1_, s2_, s3_, i64_w]
    rfl
  refine take_ (i := 12) (N := some 17) (v := ?_) (a' := ?_) (mkM 18 7151) rfl rfl (by kernel_rfl) (fun _ _ _ h => h) (Or.inl ⟨by rfl, ?_⟩) hHeld ?_ ?_
  rotate_left
  · rintro w' ⟨s0, s1, s2⟩
    go_simp
    with_reducible rfl
  rotate_left
  · simp only [Act.put, s1_, s2_, s3_]
    rfl
  refine pure_ (i := 13) (N := some 18) (v := ?_) (a' := ?_) (mkM 18 15343) rfl rfl (by kernel_rfl) (fun _ _ _ h => h) (Or.inl ⟨by rfl, ?_⟩) ?_ ?_
  rotate_left
  · intro w'
    go_simp
    with_reducible rfl
  rotate_left
  · simp only [Act.put, s1_, s2_, s3_]
    rfl
  refine pure_ (i := 14) (N := some 19) (v := ?_) (a' := ?_) (mkM 18 31727) rfl rfl (by kernel_rfl) (fun _ _ _ h => h) (Or.inl ⟨by rfl, ?_⟩) ?_ ?_
  rotate_left
  · intro w'
    go_simp
    with_reducible rfl
  rotate_left
  · simp only [Act.put, s1_, s2_, s3_]
    rfl
  refine pure_ (i := 15) (N := some 20) (v := ?_) (a' := ?_) (mkM 18 64495) rfl rfl (by kernel_rfl) (fun _ _ _ h => h) (Or.inl ⟨by rfl, ?_⟩) ?_ ?_
  rotate_left
  · intro w'
    go_simp
    with_reducible rfl
  rotate_left
  · simp only [Act.put, s1_, s2_, s3_, i64_w]
    rfl
  refine one_ (i := 4) (N := some 9) (mkM 18 64511) rfl rfl (by kernel_rfl) (by decide) (fun K hK => ?_)
  refine goes_ Try.func20 (by kernel_rfl) rfl #[.int .i64 12000, .int .i64 (unk.size : Int)] (by rfl) rfl rfl (by simp only [List.map_toArray, List.map_cons, List.map_nil]; rfl) ?_
  with_reducible refine (take_b _ _ _).mono ?_
  rintro e w2 ⟨rfl, hb⟩
  refine ⟨_, rfl, ?_⟩
  replace HB := Aside0.mk (below_next HB.out hb)
  have HXn := Aside0.mk (HX.out.below hb)
  clear HX hb
  have HX := HXn
  clear HXn
  refine hK.out _ _ ⟨HX.out.c14, HX.out.c10, HX.out.c11⟩ (fun hHeld => ?_)
  clear hK K
  refine norm_ (a' := ?_) ?_ ?_
  rotate_left
  · show Act.put _ (some 9) _ = _
    simp only [Act.put, s1_, s2_, s3_]
    rfl
  refine one_ (i := 10) (N := some 15) (mkM 18 65535) rfl rfl (by kernel_rfl) (by decide) (fun K hK => ?_)
  refine goes_ Try.func20 (by kernel_rfl) rfl #[.int .i64 (tk 12000 (unk.size : Int)), .int .i64 (wrap64 (8 * j1))] (by rfl) rfl rfl (by simp only [List.map_toArray, List.map_cons, List.map_nil]; rfl) ?_
  with_reducible refine (take_b _ _ _).mono ?_
  rintro e w3 ⟨rfl, hb⟩
  refine ⟨_, rfl, ?_⟩
  replace HB := Aside0.mk (below_next HB.out hb)
  have HXn := Aside0.mk (HX.out.below hb)
  clear HX hb
  have HX := HXn
  clear HXn
  refine hK.out _ _ ⟨HX.out.c14, HX.out.c10, HX.out.c11⟩ (fun hHeld => ?_)
  clear hK K
  refine norm_ (a' := ?_) ?_ ?_
  rotate_left
  · show Act.put _ (some 15) _ = _
    simp only [Act.put, s1_, s2_, s3_]
    rfl
  refine one_ (i := 16) (N := some 21) (mkM 18 131071) rfl rfl (by kernel_rfl) (by decide) (fun K hK => ?_)
  refine goes_ Try.func20 (by kernel_rfl) rfl #[.int .i64 (tk (tk 12000 (unk.size : Int)) (wrap64 (8 * j1))), .int .i64 (wrap64 (8 * j2))] (by rfl) rfl rfl (by simp only [List.map_toArray, List.map_cons, List.map_nil]; rfl) ?_
  with_reducible refine (take_b _ _ _).mono ?_
  rintro e w4 ⟨rfl, hb⟩
  refine ⟨_, rfl, ?_⟩
  replace HB := Aside0.mk (below_next HB.out hb)
  have HXn := Aside0.mk (HX.out.below hb)
  clear HX hb
  have HX := HXn
  clear HXn
  refine hK.out _ _ ⟨HX.out.c14, HX.out.c10, HX.out.c11⟩ (fun hHeld => ?_)
  clear hK K
  refine norm_ (a' := ?_) ?_ ?_
  rotate_left
  · show Act.put _ (some 21) _ = _
    simp only [Act.put, s1_, s2_, s3_]
    rfl
  refine pure_ (i := 17) (N := some 1) (v := ?_) (a' := ?_) (mkM 18 262143) rfl rfl (by kernel_rfl) (fun _ _ _ h => h) (Or.inl ⟨by rfl, ?_⟩) ?_ ?_
  rotate_left
  · intro w'
    go_simp
    with_reducible rfl
  rotate_left
  · simp only [Act.put, s1_, s2_, s3_]
    rfl
  refine done_ (by kernel_rfl) ?_
  clear hj1 hj2 hHeld
  generalize tk (tk (tk 12000 (unk.size : Int)) (wrap64 (8 * j1))) (wrap64 (8 * j2)) = r1 at *
  have RK := fun w' hb => HRK.out r1 T3.out w' hb
  have RX := fun w' r2 hb (h : RP r1 ks.length r2) => HRX.out w' r2 hb ⟨h.1, by have := h.2.1; have := T3.out.2.1; omega⟩
  generalize w4 = w5 at *
  have HXn : Aside0 (XH w5.drew g ⟨⟨aa, an, ac⟩, start, time, count, ⟨sh, sn⟩, ⟨mnh, mnn⟩, ⟨mxh, mxn⟩, ⟨ca, cn, cc⟩, ⟨ba, bn, bc⟩, ⟨ea, en, ec⟩, flags, unk⟩) := ⟨⟨HX.out.blk⟩⟩
  have HBn : Aside0 (Below w.heap.size w w5.drew) := ⟨below_drew1 HB.out⟩
  clear HX HB
  have HX := HXn
  have HB := HBn
  clear HXn HBn
  go_wp2_with fail
  refine start_ (n := 8) (S := fun w' => w'.cell? ⟨g, 0, none⟩ = some (.slice aa an ac) ∧ w'.cell? ⟨g, 12, none⟩ = some (.slice ea en ec)) (ds := []) #[false, false, false, false, false, false, false, false] (by kernel_rfl) rfl rfl ⟨HX.out.c0, HX.out.c12⟩ (fun hHeld => ?_)
  refine pure_ (i := 0) (N := some 22) (v := ?_) (a' := ?_) #[true, false, false, false, false, false, false, false] rfl rfl (by kernel_rfl) (fun _ _ _ h => h) (Or.inl ⟨by rfl, ?_⟩) ?_ ?_
  rotate_left
  · intro w'
    go_simp
    with_reducible rfl
  rotate_left
  · simp only [Act.put, s1_, s2_, s3_]
    rfl
  refine pure_ (i := 2) (N := some 24) (v := ?_) (a' := ?_) #[true, false, true, false, false, false, false, false] rfl rfl (by kernel_rfl) (fun _ _ _ h => h) (Or.inl ⟨by rfl, ?_⟩) ?_ ?_
  rotate_left
  · intro w'
    go_simp
    with_reducible rfl
  rotate_left
  · simp only [Act.put, s1_, s2_, s3_]
    rfl
  refine pure_ (i := 4) (N := some 26) (v := ?_) (a' := ?_) #[true, false, true, false, true, false, false, false] rfl rfl (by kernel_rfl) (fun _ _ _ h => h) (Or.inl ⟨by rfl, ?_⟩) ?_ ?_
  rotate_left
  · intro w'
    go_simp
    with_reducible rfl
  rotate_left
  · simp only [Act.put, s1_, s2_, s3_]
    rfl
  refine take_ (i := 1) (N := some 23) (v := ?_) (a' := ?_) #[true, true, true, false, true, false, false, false] rfl rfl (by kernel_rfl) (fun _ _ _ h => h) (Or.inl ⟨by rfl, ?_⟩) hHeld ?_ ?_
  rotate_left
  · rintro w' ⟨s0, s1⟩
    go_simp
    with_reducible rfl
  rotate_left
  · simp only [Act.put, s1_, s2_, s3_]
    rfl
  refine take_ (i := 3) (N := some 25) (v := ?_) (a' := ?_) #[true, true, true, true, true, false, false, false] rfl rfl (by kernel_rfl) (fun _ _ _ h => h) (Or.inl ⟨by rfl, ?_⟩) hHeld ?_ ?_
  rotate_left
  · rintro w' ⟨s0, s1⟩
    go_simp
    with_reducible rfl
  rotate_left
  · simp only [Act.put, s1_, s2_, s3_]
    rfl
  refine one_ (i := 5) (N := some 27) #[true, true, true, true, true, true, false, false] rfl rfl (by kernel_rfl) (by decide) (fun K hK => ?_)
  refine goes_ Try.func22 (by kernel_rfl) rfl #[.slice aa an ac, .int .i64 40, .int .i64 r1] (by rfl) rfl rfl (by simp only [List.map_toArray, List.map_cons, List.map_nil]; rfl) ?_
  with_reducible refine (RK _ HB.out).mono ?_
  rintro e w7 ⟨r2, rfl, hr2, hb⟩
  refine ⟨_, rfl, ?_⟩
  have HR2 := Aside0.mk hr2
  replace HB := Aside0.mk (below_next HB.out hb)
  have HXn := Aside0.mk (HX.out.below hb)
  clear HX hb hr2
  have HX := HXn
  clear HXn
  refine hK.out _ _ ⟨HX.out.c0, HX.out.c12⟩ (fun hHeld => ?_)
  clear hK K
  refine norm_ (a' := ?_) ?_ ?_
  rotate_left
  · show Act.put _ (some 27) _ = _
    simp only [Act.put, s1_, s2_, s3_]
    rfl
  refine one_ (i := 6) (N := some 28) #[true, true, true, true, true, true, true, false] rfl rfl (by kernel_rfl) (by decide) (fun K hK => ?_)
  refine goes_ Try.func21 (by kernel_rfl) rfl #[.slice ea en ec, .int .i64 r2] (by rfl) rfl rfl (by simp only [List.map_toArray, List.map_cons, List.map_nil]; rfl) ?_
  with_reducible refine (RX _ r2 HB.out HR2.out).mono ?_
  rintro e w8 ⟨r3, rfl, hr3, hb⟩
  refine ⟨_, rfl, ?_⟩
  have HR3 := Aside0.mk hr3
  replace HB := Aside0.mk (below_next HB.out hb)
  have HXn := Aside0.mk (HX.out.below hb)
  clear HX hb hr3
  have HX := HXn
  clear HXn
  refine hK.out _ _ ⟨HX.out.c0, HX.out.c12⟩ (fun hHeld => ?_)
  clear hK K
  refine norm_ (a' := ?_) ?_ ?_
  rotate_left
  · show Act.put _ (some 28) _ = _
    simp only [Act.put, s1_, s2_, s3_]
    rfl
  refine pure_ (i := 7) (N := some 4) (v := ?_) (a' := ?_) #[true, true, true, true, true, true, true, true] rfl rfl (by kernel_rfl) (fun _ _ _ h => h) (Or.inl ⟨by rfl, ?_⟩) ?_ ?_
  rotate_left
  · intro w'
    go_simp
    with_reducible rfl
  rotate_left
  · simp only [Act.put, s1_, s2_, s3_]
    rfl
  refine done_ (by kernel_rfl) ?_
  go_wp2_with fail
  go_ret
  have h1 := T3.out
  have h2 := HR2.out
  have h3 := HR3.out
  exact ⟨r3, ks, rfl, HK.out, fun h0 => by have k3 := h3.2.1; have k2 := h2.2.2 (by omega); have k1 := h1.2.1; exact ⟨by omega, TL.out (by omega)⟩, h3.1, by have := h3.2.1; have := h2.2.1; have := h1.2.1; omega, HB.out⟩
set_option maxHeartbeats 2000000 in
set_option maxRecDepth 100000 in
theorem rbkt_len (w : World) (x : Bkt) (room : Int) (h1 : -1 ≤ room) (h2 : room ≤ 12000) :
    Calls Try.prog 23 #[bktA x, .int .i64 room] w (fun e w' => ∃ r : Int, e = .returned (.int .i64 r) ∧ (RP room 0 r ∧ (0 ≤ r → x.counts.len ≤ 12000)) ∧ Below w.heap.size w w') := by
  obtain ⟨offv, ⟨counts_a, counts_n, counts_c⟩, unkv⟩ := x
  obtain ⟨j1, hj1, hp1⟩ := min8 counts_n
  have T2 := Aside0.mk ((tk2i room unkv.size (wrap64 (8 * j1)) h1 h2 (by omega) hp1).less (Nat.zero_le _))
  have TL := Aside0.mk (show 0 ≤ tk (tk room (unkv.size : Int)) (wrap64 (8 * j1)) → counts_n ≤ 12000 from fun h0 => tk_len h0 (by have := (tk_rp room (unkv.size : Int) h1 h2 (by omega)).2.1; omega) hj1)
  have HJ := Aside0.mk hj1
  clear hj1 hp1 h1 h2
  unfold bktA bktC Sl.v
  go_enter Try.func23, Try.ntmps23
  go_upto_region 1 with fail
  have HX : Aside0 (XB (w.alloc (.cells #[.int .i32 offv, .slice counts_a counts_n counts_c, .string unkv] 32)).drew w.heap.size ⟨offv, ⟨counts_a, counts_n, counts_c⟩, unkv⟩) := ⟨⟨heap_alloc_new w _⟩⟩
  have HB : Aside0 (Below w.heap.size w (w.alloc (.cells #[.int .i32 offv, .slice counts_a counts_n counts_c, .string unkv] 32)).drew) := ⟨below_drew1 ((Below.refl w.heap.size w).alloc (Nat.le_refl _) _)⟩
  generalize w.alloc (.cells #[.int .i32 offv, .slice counts_a counts_n counts_c, .string unkv] 32) = w1 at *
  generalize hgg : w.heap.size = g at HX ⊢
  have HGG := Aside0.mk hgg
  clear hgg
  have hj1 := HJ.out
  refine start_ (n := 12) (S := fun w' => w'.cell? ⟨g, 2, none⟩ = some (.string unkv) ∧ w'.cell? ⟨g, 1, none⟩ = some (.slice counts_a counts_n counts_c)) (ds := []) #[false, false, false, false, false, false, false, false, false, false, false, false] (by kernel_rfl) rfl rfl ⟨HX.out.c2, HX.out.c1⟩ (fun hHeld => ?_)
  refine pure_ (i := 0) (N := some 5) (v := ?_) (a' := ?_) (mkM 12 1) rfl rfl (by kernel_rfl) (fun _ _ _ h => h) (Or.inl ⟨by rfl, ?_⟩) ?_ ?_
  rotate_left
  · intro w'
    go_simp
    with_reducible rfl
  rotate_left
  · simp only [Act.put, s1_, s2_, s3_]
    rfl
  refine pure_ (i := 1) (N := some 6) (v := ?_) (a' := ?_) (mkM 12 3) rfl rfl (by kernel_rfl) (fun _ _ _ h => h) (Or.inl ⟨by rfl, ?_⟩) ?_ ?_
  rotate_left
  · intro w'
    go_simp
    with_reducible rfl
  rotate_left
  · simp only [Act.put, s1_, s2_, s3_]
    rfl
  refine pure_ (i := 5) (N := some 10) (v := ?_) (a' := ?_) (mkM 12 35) rfl rfl (by kernel_rfl) (fun _ _ _ h => h) (Or.inl ⟨by rfl, ?_⟩) ?_ ?_
  rotate_left
  · intro w'
    go_simp
    with_reducible rfl
  rotate_left
  · simp only [Act.put, s1_, s2_, s3_]
    rfl
  refine take_ (i := 2) (N := some 7) (v := ?_) (a' := ?_) (mkM 12 39) rfl rfl (by kernel_rfl) (fun _ _ _ h => h) (Or.inl ⟨by rfl, ?_⟩) hHeld ?_ ?_
  rotate_left
  · rintro w' ⟨s0, s1⟩
    go_simp
    with_reducible rfl
  rotate_left
  · simp only [Act.put, s1_, s2_, s3_]
    rfl
  refine pure_ (i := 3) (N := some 8) (v := ?_) (a' := ?_) (mkM 12 47) rfl rfl (by kernel_rfl) (fun _ _ _ h => h) (Or.inl ⟨by rfl, ?_⟩) ?_ ?_
  rotate_left
  · intro w'
    go_simp
    with_reducible rfl
  rotate_left
  · simp only [Act.put, s1_, s2_, s3_]
    rfl
  refine take_ (i := 6) (N := some 11) (v := ?_) (a' := ?_) (mkM 12 111) rfl rfl (by kernel_rfl) (fun _ _ _ h => h) (Or.inl ⟨by rfl, ?_⟩) hHeld ?_ ?_
  rotate_left
  · rintro w' ⟨s0, s1⟩
    go_simp
    with_reducible rfl
  rotate_left
  · simp only [Act.put, s1_, s2_, s3_]
    rfl
  refine pure_ (i := 7) (N := some 12) (v := ?_) (a' := ?_) (mkM 12 239) rfl rfl (by kernel_rfl) (fun _ _ _ h => h) (Or.inl ⟨by rfl, ?_⟩) ?_ ?_
  rotate_left
  · intro w'
    go_simp
    with_reducible rfl
  rotate_left
  · simp only [Act.put, s1_, s2_, s3_]
    rfl
  refine pure_ (i := 8) (N := some 13) (v := ?_) (a' := ?_) (mkM 12 495) rfl rfl (by kernel_rfl) (fun _ _ _ h => h) (Or.inl ⟨by rfl, ?_⟩) ?_ ?_
  rotate_left
  · intro w'
    go_simp
    with_reducible rfl
  rotate_left
  · simp only [Act.put, s1_, s2_, s3_]
    rfl
  refine pure_ (i := 9) (N := some 14) (v := ?_) (a' := ?_) (mkM 12 1007) rfl rfl (by kernel_rfl) (fun _ _ _ h => h) (Or.inl ⟨by rfl, ?_⟩) ?_ ?_
  rotate_left
  · intro w'
    go_simp
    with_reducible rfl
  rotate_left
  · simp only [Act.put, s1_, s2_, s3_, i64_w]
    rfl
  refine one_ (i := 4) (N := some 9) (mkM 12 1023) rfl rfl (by kernel_rfl) (by decide) (fun K hK => ?_)
  refine goes_ Try.func20 (by kernel_rfl) rfl #[.int .i64 room, .int .i64 (unkv.size : Int)] (by rfl) rfl rfl (by simp only [List.map_toArray, List.map_cons, List.map_nil]; rfl) ?_
  with_reducible refine (take_b _ _ _).mono ?_
  rintro e w2 ⟨rfl, hb⟩
  refine ⟨_, rfl, ?_⟩
  replace HB := Aside0.mk (below_next HB.out hb)
  have HXn := Aside0.mk (HX.out.below hb)
  clear HX hb
  have HX := HXn
  clear HXn
  refine hK.out _ _ ⟨HX.out.c2, HX.out.c1⟩ (fun hHeld => ?_)
  clear hK K
  refine norm_ (a' := ?_) ?_ ?_
  rotate_left
  · show Act.put _ (some 9) _ = _
    simp only [Act.put, s1_, s2_, s3_]
    rfl
  refine one_ (i := 10) (N := some 15) (mkM 12 2047) rfl rfl (by kernel_rfl) (by decide) (fun K hK => ?_)
  refine goes_ Try.func20 (by kernel_rfl) rfl #[.int .i64 (tk room (unkv.size : Int)), .int .i64 (wrap64 (8 * j1))] (by rfl) rfl rfl (by simp only [List.map_toArray, List.map_cons, List.map_nil]; rfl) ?_
  with_reducible refine (take_b _ _ _).mono ?_
  rintro e w3 ⟨rfl, hb⟩
  refine ⟨_, rfl, ?_⟩
  replace HB := Aside0.mk (below_next HB.out hb)
  have HXn := Aside0.mk (HX.out.below hb)
  clear HX hb
  have HX := HXn
  clear HXn
  refine hK.out _ _ ⟨HX.out.c2, HX.out.c1⟩ (fun hHeld => ?_)
  clear hK K
  refine norm_ (a' := ?_) ?_ ?_
  rotate_left
  · show Act.put _ (some 15) _ = _
    simp only [Act.put, s1_, s2_, s3_]
    rfl
  refine pure_ (i := 11) (N := some 4) (v := ?_) (a' := ?_) (mkM 12 4095) rfl rfl (by kernel_rfl) (fun _ _ _ h => h) (Or.inl ⟨by rfl, ?_⟩) ?_ ?_
  rotate_left
  · intro w'
    go_simp
    with_reducible rfl
  rotate_left
  · simp only [Act.put, s1_, s2_, s3_]
    rfl
  refine done_ (by kernel_rfl) ?_
  clear hj1 hHeld
  go_wp2_with fail
  go_ret
  exact ⟨_, rfl, ⟨T2.out, TL.out⟩, HB.out⟩
set_option maxHeartbeats 2000000 in
set_option maxRecDepth 100000 in
theorem rexp_len (W w : World) (x : Exq) (hW : Below W.heap.size W w) (hx : ExqOk W x) :
    Calls Try.prog 7 #[exqA x, .int .i64 12000] w (fun e w' => ∃ (r : Int) (l : List Kv), e = .returned (.int .i64 r) ∧ SlAt 11 kvC KvOk W x.attrs l ∧ (0 ≤ r → l.length ≤ 600 ∧ x.pos.counts.len ≤ 12000 ∧ x.neg.counts.len ≤ 12000) ∧ -1 ≤ r ∧ r ≤ 12000 ∧ Below w.heap.size w w') := by
  obtain ⟨ks, hks⟩ := rd_kvs hx.attrs
  obtain ⟨es, hes⟩ := rd_exms hx.exs
  obtain ⟨⟨attrs_a, attrs_n, attrs_c⟩, startv, timev, countv, ⟨su_hasv, su_nv⟩, ⟨mn_hasv, mn_nv⟩, ⟨mx_hasv, mx_nv⟩, scalev, zerov, hasPosv, ⟨po_offv, ⟨po_counts_a, po_counts_n, po_counts_c⟩, po_unkv⟩, hasNegv, ⟨ne_offv, ⟨ne_counts_a, ne_counts_n, ne_counts_c⟩, ne_unkv⟩, ⟨exs_a, exs_n, exs_c⟩, flagsv, thrv, unkv⟩ := x
  have HK := Aside0.mk hks
  have T1 := Aside0.mk (tk_rp 12000 unkv.size (by omega) (by omega) (by omega))
  have RN := fun w => rbkt_len w ⟨ne_offv, ⟨ne_counts_a, ne_counts_n, ne_counts_c⟩, ne_unkv⟩ (tk 12000 (unkv.size : Int)) T1.out.1 (by have := T1.out.2.1; omega)
  have RP' := fun w r1 (h : RP (tk 12000 (unkv.size : Int)) 0 r1) => rbkt_len w ⟨po_offv, ⟨po_counts_a, po_counts_n, po_counts_c⟩, po_unkv⟩ r1 h.1 (by have := h.2.1; have := T1.out.2.1; omega)
  have HRK : Aside0 (∀ r1, -1 ≤ r1 → r1 ≤ 12000 → ∀ w', Below w.heap.size w w' → Calls Try.prog 22 #[.slice attrs_a attrs_n attrs_c, .int .i64 40, .int .i64 r1] w' (RRes r1 ks.length w')) := ⟨fun r1 h h' w' hb => rkeys_40 W w' ⟨attrs_a, attrs_n, attrs_c⟩ ks r1 (hW.trans (hb.mono hW.size)) hks h h'⟩
  have HRX : Aside0 (∀ w' r2, Below w.heap.size w w' → -1 ≤ r2 ∧ r2 ≤ 12000 → Calls Try.prog 21 #[.slice exs_a exs_n exs_c, .int .i64 r2] w' (RRes r2 0 w')) := ⟨fun w' r2 hb h => rexs_any W w' ⟨exs_a, exs_n, exs_c⟩ es r2 (hW.trans (hb.mono hW.size)) hes h.1 h.2⟩
  have HRN := Aside0.mk RN
  have HRP := Aside0.mk RP'
  clear hW hx hks hes RN RP'
  unfold exqA exqC Sl.v
  go_enter Try.func7, Try.ntmps7
  go_upto_region 1 with fail
  have HX : Aside0 (XQ (w.alloc (.cells #[.slice attrs_a attrs_n attrs_c, .int .u64 startv, .int .u64 timev, .int .u64 countv, .bool su_hasv, .int .u64 su_nv, .bool mn_hasv, .int .u64 mn_nv, .bool mx_hasv, .int .u64 mx_nv, .int .i32 scalev, .int .u64 zerov, .bool hasPosv, .int .i32 po_offv, .slice po_counts_a po_counts_n po_counts_c, .string po_unkv, .bool hasNegv, .int .i32 ne_offv, .slice ne_counts_a ne_counts_n ne_counts_c, .string ne_unkv, .slice exs_a exs_n exs_c, .int .u32 flagsv, .int .u64 thrv, .string unkv] 34)).drew w.heap.size ⟨⟨attrs_a, attrs_n, attrs_c⟩, startv, timev, countv, ⟨su_hasv, su_nv⟩, ⟨mn_hasv, mn_nv⟩, ⟨mx_hasv, mx_nv⟩, scalev, zerov, hasPosv, ⟨po_offv, ⟨po_counts_a, po_counts_n, po_counts_c⟩, po_unkv⟩, hasNegv, ⟨ne_offv, ⟨ne_counts_a, ne_counts_n, ne_counts_c⟩, ne_unkv⟩, ⟨exs_a, exs_n, exs_c⟩, flagsv, thrv, unkv⟩) := ⟨⟨heap_alloc_new w _⟩⟩
  have HB : Aside0 (Below w.heap.size w (w.alloc (.cells #[.slice attrs_a attrs_n attrs_c, .int .u64 startv, .int .u64 timev, .int .u64 countv, .bool su_hasv, .int .u64 su_nv, .bool mn_hasv, .int .u64 mn_nv, .bool mx_hasv, .int .u64 mx_nv, .int .i32 scalev, .int .u64 zerov, .bool hasPosv, .int .i32 po_offv, .slice po_counts_a po_counts_n po_counts_c, .string po_unkv, .bool hasNegv, .int .i32 ne_offv, .slice ne_counts_a ne_counts_n ne_counts_c, .string ne_unkv, .slice exs_a exs_n exs_c, .int .u32 flagsv, .int .u64 thrv, .string unkv] 34)).drew) := ⟨below_drew1 ((Below.refl w.heap.size w).alloc (Nat.le_refl _) _)⟩
  generalize w.alloc (.cells #[.slice attrs_a attrs_n attrs_c, .int .u64 startv, .int .u64 timev, .int .u64 countv, .bool su_hasv, .int .u64 su_nv, .bool mn_hasv, .int .u64 mn_nv, .bool mx_hasv, .int .u64 mx_nv, .int .i32 scalev, .int .u64 zerov, .bool hasPosv, .int .i32 po_offv, .slice po_counts_a po_counts_n po_counts_c, .string po_unkv, .bool hasNegv, .int .i32 ne_offv, .slice ne_counts_a ne_counts_n ne_counts_c, .string ne_unkv, .slice exs_a exs_n exs_c, .int .u32 flagsv, .int .u64 thrv, .string unkv] 34) = w1 at *
  generalize hgg : w.heap.size = g at HX ⊢
  have HGG := Aside0.mk hgg
  clear hgg
  have RN := HRN.out
  have RP' := HRP.out
  unfold bktA bktC Sl.v at RN RP'
  have z32 := Try.sizeOf32
  refine start_ (n := 12) (S := fun w' => w'.cell? ⟨g, 13, none⟩ = some (.int .i32 po_offv) ∧ w'.cell? ⟨g, 14, none⟩ = some (.slice po_counts_a po_counts_n po_counts_c) ∧ w'.cell? ⟨g, 15, none⟩ = some (.string po_unkv) ∧ w'.cell? ⟨g, 17, none⟩ = some (.int .i32 ne_offv) ∧ w'.cell? ⟨g, 18, none⟩ = some (.slice ne_counts_a ne_counts_n ne_counts_c) ∧ w'.cell? ⟨g, 19, none⟩ = some (.string ne_unkv) ∧ w'.cell? ⟨g, 23, none⟩ = some (.string unkv)) (ds := []) #[false, false, false, false, false, false, false, false, false, false, false, false] (by kernel_rfl) rfl rfl ⟨HX.out.c13, HX.out.c14, HX.out.c15, HX.out.c17, HX.out.c18, HX.out.c19, HX.out.c23⟩ (fun hHeld => ?_)
  refine pure_ (i := 0) (N := some 5) (v := ?_) (a' := ?_) (mkM 12 1) rfl rfl (by kernel_rfl) (fun _ _ _ h => h) (Or.inl ⟨by rfl, ?_⟩) ?_ ?_
  rotate_left
  · intro w'
    go_simp
    with_reducible rfl
  rotate_left
  · simp only [Act.put, s1_, s2_, s3_]
    rfl
  refine pure_ (i := 2) (N := some 7) (v := ?_) (a' := ?_) (mkM 12 5) rfl rfl (by kernel_rfl) (fun _ _ _ h => h) (Or.inl ⟨by rfl, ?_⟩) ?_ ?_
  rotate_left
  · intro w'
    go_simp
    with_reducible rfl
  rotate_left
  · simp only [Act.put, s1_, s2_, s3_]
    rfl
  refine pure_ (i := 4) (N := some 9) (v := ?_) (a' := ?_) (mkM 12 21) rfl rfl (by kernel_rfl) (fun _ _ _ h => h) (Or.inl ⟨by rfl, ?_⟩) ?_ ?_
  rotate_left
  · intro w'
    go_simp
    with_reducible rfl
  rotate_left
  · simp only [Act.put, s1_, s2_, s3_]
    rfl
  refine pure_ (i := 5) (N := some 10) (v := ?_) (a' := ?_) (mkM 12 53) rfl rfl (by kernel_rfl) (fun _ _ _ h => h) (Or.inl ⟨by rfl, ?_⟩) ?_ ?_
  rotate_left
  · intro w'
    go_simp
    with_reducible rfl
  rotate_left
  · simp only [Act.put, s1_, s2_, s3_]
    rfl
  refine take_ (i := 1) (N := some 6) (v := ?_) (a' := ?_) (mkM 12 55) rfl rfl (by kernel_rfl) (fun _ _ _ h => h) (Or.inl ⟨by rfl, ?_⟩) hHeld ?_ ?_
  rotate_left
  · rintro w' ⟨s0, s1, s2, s3, s4, s5, s6⟩
    go_simp
    with_reducible rfl
  rotate_left
  · simp only [Act.put, s1_, s2_, s3_]
    rfl
  refine take_ (i := 3) (N := some 8) (v := ?_) (a' := ?_) (mkM 12 63) rfl rfl (by kernel_rfl) (fun _ _ _ h => h) (Or.inl ⟨by rfl, ?_⟩) hHeld ?_ ?_
  rotate_left
  · rintro w' ⟨s0, s1, s2, s3, s4, s5, s6⟩
    go_simp
    with_reducible rfl
  rotate_left
  · simp only [Act.put, s1_, s2_, s3_]
    rfl
  refine take_ (i := 6) (N := some 11) (v := ?_) (a' := ?_) (mkM 12 127) rfl rfl (by kernel_rfl) (fun _ _ _ h => h) (Or.inl ⟨by rfl, ?_⟩) hHeld ?_ ?_
  rotate_left
  · rintro w' ⟨s0, s1, s2, s3, s4, s5, s6⟩
    go_simp
    with_reducible rfl
  rotate_left
  · simp only [Act.put, s1_, s2_, s3_]
    rfl
  refine pure_ (i := 7) (N := some 12) (v := ?_) (a' := ?_) (mkM 12 255) rfl rfl (by kernel_rfl) (fun _ _ _ h => h) (Or.inl ⟨by rfl, ?_⟩) ?_ ?_
  rotate_left
  · intro w'
    go_simp
    with_reducible rfl
  rotate_left
  · simp only [Act.put, s1_, s2_, s3_]
    rfl
  refine one_ (i := 8) (N := some 13) (mkM 12 511) rfl rfl (by kernel_rfl) (by decide) (fun K hK => ?_)
  refine goes_ Try.func20 (by kernel_rfl) rfl #[.int .i64 12000, .int .i64 (unkv.size : Int)] (by rfl) rfl rfl (by simp only [List.map_toArray, List.map_cons, List.map_nil]; rfl) ?_
  with_reducible refine (take_b _ _ _).mono ?_
  rintro e w2 ⟨rfl, hb⟩
  refine ⟨_, rfl, ?_⟩
  replace HB := Aside0.mk (below_next HB.out hb)
  have HXn := Aside0.mk (HX.out.below hb)
  clear HX hb
  have HX := HXn
  clear HXn
  refine hK.out _ _ ⟨HX.out.c13, HX.out.c14, HX.out.c15, HX.out.c17, HX.out.c18, HX.out.c19, HX.out.c23⟩ (fun hHeld => ?_)
  clear hK K
  refine norm_ (a' := ?_) ?_ ?_
  rotate_left
  · show Act.put _ (some 13) _ = _
    simp only [Act.put, s1_, s2_, s3_]
    rfl
  refine one_ (i := 9) (N := some 14) (mkM 12 1023) rfl rfl (by kernel_rfl) (by decide) (fun K hK => ?_)
  refine goes_ Try.func23 (by kernel_rfl) rfl #[.agg #[.int .i32 ne_offv, .slice ne_counts_a ne_counts_n ne_counts_c, .string ne_unkv], .int .i64 (tk 12000 (unkv.size : Int))] (by rfl) rfl rfl (by simp only [List.map_toArray, List.map_cons, List.map_nil]; rfl) ?_
  with_reducible refine (RN _).mono ?_
  rintro e w3 ⟨r1, rfl, hr1, hb⟩
  refine ⟨_, rfl, ?_⟩
  have HR1 := Aside0.mk hr1
  clear hr1
  replace HB := Aside0.mk (below_next HB.out hb)
  have HXn := Aside0.mk (HX.out.below hb)
  clear HX hb
  have HX := HXn
  clear HXn
  refine hK.out _ _ ⟨HX.out.c13, HX.out.c14, HX.out.c15, HX.out.c17, HX.out.c18, HX.out.c19, HX.out.c23⟩ (fun hHeld => ?_)
  clear hK K
  refine norm_ (a' := ?_) ?_ ?_
  rotate_left
  · show Act.put _ (some 14) _ = _
    simp only [Act.put, s1_, s2_, s3_]
    rfl
  refine one_ (i := 10) (N := some 15) (mkM 12 2047) rfl rfl (by kernel_rfl) (by decide) (fun K hK => ?_)
  refine goes_ Try.func23 (by kernel_rfl) rfl #[.agg #[.int .i32 po_offv, .slice po_counts_a po_counts_n po_counts_c, .string po_unkv], .int .i64 r1] (by rfl) rfl rfl (by simp only [List.map_toArray, List.map_cons, List.map_nil]; rfl) ?_
  with_reducible refine (RP' _ r1 HR1.out.1).mono ?_
  rintro e w4 ⟨r2, rfl, hr2, hb⟩
  refine ⟨_, rfl, ?_⟩
  have HR2 := Aside0.mk hr2
  clear hr2
  replace HB := Aside0.mk (below_next HB.out hb)
  have HXn := Aside0.mk (HX.out.below hb)
  clear HX hb
  have HX := HXn
  clear HXn
  refine hK.out _ _ ⟨HX.out.c13, HX.out.c14, HX.out.c15, HX.out.c17, HX.out.c18, HX.out.c19, HX.out.c23⟩ (fun hHeld => ?_)
  clear hK K
  refine norm_ (a' := ?_) ?_ ?_
  rotate_left
  · show Act.put _ (some 15) _ = _
    simp only [Act.put, s1_, s2_, s3_]
    rfl
  refine pure_ (i := 11) (N := some 1) (v := ?_) (a' := ?_) (mkM 12 4095) rfl rfl (by kernel_rfl) (fun _ _ _ h => h) (Or.inl ⟨by rfl, ?_⟩) ?_ ?_
  rotate_left
  · intro w'
    go_simp
    with_reducible rfl
  rotate_left
  · simp only [Act.put, s1_, s2_, s3_]
    rfl
  refine done_ (by kernel_rfl) ?_
  clear hHeld RN RP'
  have k1 := T1.out
  have k2 := HR1.out.1
  have k3 := HR2.out.1
  have RK := fun w' hb => HRK.out r2 k3.1 (by have := k3.2.1; have := k2.2.1; have := k1.2.1; omega) w' hb
  have RX := fun w' r3 hb (h : RP r2 ks.length r3) => HRX.out w' r3 hb ⟨h.1, by have := h.2.1; have := k3.2.1; have := k2.2.1; have := k1.2.1; omega⟩
  clear k1 k2 k3
  have HXn : Aside0 (XQ w4.drew g ⟨⟨attrs_a, attrs_n, attrs_c⟩, startv, timev, countv, ⟨su_hasv, su_nv⟩, ⟨mn_hasv, mn_nv⟩, ⟨mx_hasv, mx_nv⟩, scalev, zerov, hasPosv, ⟨po_offv, ⟨po_counts_a, po_counts_n, po_counts_c⟩, po_unkv⟩, hasNegv, ⟨ne_offv, ⟨ne_counts_a, ne_counts_n, ne_counts_c⟩, ne_unkv⟩, ⟨exs_a, exs_n, exs_c⟩, flagsv, thrv, unkv⟩) := ⟨⟨HX.out.blk⟩⟩
  have HBn : Aside0 (Below w.heap.size w w4.drew) := ⟨below_drew1 HB.out⟩
  clear HX HB
  have HX := HXn
  have HB := HBn
  clear HXn HBn
  go_wp2_with fail
  refine start_ (n := 8) (S := fun w' => w'.cell? ⟨g, 20, none⟩ = some (.slice exs_a exs_n exs_c) ∧ w'.cell? ⟨g, 0, none⟩ = some (.slice attrs_a attrs_n attrs_c)) (ds := []) #[false, false, false, false, false, false, false, false] (by kernel_rfl) rfl rfl ⟨HX.out.c20, HX.out.c0⟩ (fun hHeld => ?_)
  refine pure_ (i := 0) (N := some 16) (v := ?_) (a' := ?_) #[true, false, false, false, false, false, false, false] rfl rfl (by kernel_rfl) (fun _ _ _ h => h) (Or.inl ⟨by rfl, ?_⟩) ?_ ?_
  rotate_left
  · intro w'
    go_simp
    with_reducible rfl
  rotate_left
  · simp only [Act.put, s1_, s2_, s3_]
    rfl
  refine pure_ (i := 2) (N := some 18) (v := ?_) (a' := ?_) #[true, false, true, false, false, false, false, false] rfl rfl (by kernel_rfl) (fun _ _ _ h => h) (Or.inl ⟨by rfl, ?_⟩) ?_ ?_
  rotate_left
  · intro w'
    go_simp
    with_reducible rfl
  rotate_left
  · simp only [Act.put, s1_, s2_, s3_]
    rfl
  refine pure_ (i := 4) (N := some 20) (v := ?_) (a' := ?_) #[true, false, true, false, true, false, false, false] rfl rfl (by kernel_rfl) (fun _ _ _ h => h) (Or.inl ⟨by rfl, ?_⟩) ?_ ?_
  rotate_left
  · intro w'
    go_simp
    with_reducible rfl
  rotate_left
  · simp only [Act.put, s1_, s2_, s3_]
    rfl
  refine take_ (i := 1) (N := some 17) (v := ?_) (a' := ?_) #[true, true, true, false, true, false, false, false] rfl rfl (by kernel_rfl) (fun _ _ _ h => h) (Or.inl ⟨by rfl, ?_⟩) hHeld ?_ ?_
  rotate_left
  · rintro w' ⟨s0, s1⟩
    go_simp
    with_reducible rfl
  rotate_left
  · simp only [Act.put, s1_, s2_, s3_]
    rfl
  refine take_ (i := 3) (N := some 19) (v := ?_) (a' := ?_) #[true, true, true, true, true, false, false, false] rfl rfl (by kernel_rfl) (fun _ _ _ h => h) (Or.inl ⟨by rfl, ?_⟩) hHeld ?_ ?_
  rotate_left
  · rintro w' ⟨s0, s1⟩
    go_simp
    with_reducible rfl
  rotate_left
  · simp only [Act.put, s1_, s2_, s3_]
    rfl
  refine one_ (i := 5) (N := some 21) #[true, true, true, true, true, true, false, false] rfl rfl (by kernel_rfl) (by decide) (fun K hK => ?_)
  refine goes_ Try.func22 (by kernel_rfl) rfl #[.slice attrs_a attrs_n attrs_c, .int .i64 40, .int .i64 r2] (by rfl) rfl rfl (by simp only [List.map_toArray, List.map_cons, List.map_nil]; rfl) ?_
  with_reducible refine (RK _ HB.out).mono ?_
  rintro e w7 ⟨r3, rfl, hr3, hb⟩
  refine ⟨_, rfl, ?_⟩
  have HR3 := Aside0.mk hr3
  clear hr3
  replace HB := Aside0.mk (below_next HB.out hb)
  have HXn := Aside0.mk (HX.out.below hb)
  clear HX hb
  have HX := HXn
  clear HXn
  refine hK.out _ _ ⟨HX.out.c20, HX.out.c0⟩ (fun hHeld => ?_)
  clear hK K
  refine norm_ (a' := ?_) ?_ ?_
  rotate_left
  · show Act.put _ (some 21) _ = _
    simp only [Act.put, s1_, s2_, s3_]
    rfl
  refine one_ (i := 6) (N := some 22) #[true, true, true, true, true, true, true, false] rfl rfl (by kernel_rfl) (by decide) (fun K hK => ?_)
  refine goes_ Try.func21 (by kernel_rfl) rfl #[.slice exs_a exs_n exs_c, .int .i64 r3] (by rfl) rfl rfl (by simp only [List.map_toArray, List.map_cons, List.map_nil]; rfl) ?_
  with_reducible refine (RX _ r3 HB.out HR3.out).mono ?_
  rintro e w8 ⟨r4, rfl, hr4, hb⟩
  refine ⟨_, rfl, ?_⟩
  have HR4 := Aside0.mk hr4
  clear hr4
  replace HB := Aside0.mk (below_next HB.out hb)
  have HXn := Aside0.mk (HX.out.below hb)
  clear HX hb
  have HX := HXn
  clear HXn
  refine hK.out _ _ ⟨HX.out.c20, HX.out.c0⟩ (fun hHeld => ?_)
  clear hK K
  refine norm_ (a' := ?_) ?_ ?_
  rotate_left
  · show Act.put _ (some 22) _ = _
    simp only [Act.put, s1_, s2_, s3_]
    rfl
  refine pure_ (i := 7) (N := some 4) (v := ?_) (a' := ?_) #[true, true, true, true, true, true, true, true] rfl rfl (by kernel_rfl) (fun _ _ _ h => h) (Or.inl ⟨by rfl, ?_⟩) ?_ ?_
  rotate_left
  · intro w'
    go_simp
    with_reducible rfl
  rotate_left
  · simp only [Act.put, s1_, s2_, s3_]
    rfl
  refine done_ (by kernel_rfl) ?_
  go_wp2_with fail
  go_ret
  have k1 := T1.out
  have k2 := HR1.out.1
  have k3 := HR2.out.1
  have k4 := HR3.out
  have k5 := HR4.out
  exact ⟨r4, ks, rfl, HK.out, fun h0 => by have a1 := k5.2.1; have a2 := k4.2.2 (by omega); have a3 := k3.2.1; have a4 := k2.2.1; have a5 := k1.2.1; exact ⟨by omega, HR2.out.2 (by omega), HR1.out.2 (by omega)⟩, k5.1, by have := k5.2.1; have := k4.2.1; have := k3.2.1; have := k2.2.1; have := k1.2.1; omega, HB.out⟩
end Go.Proofs.Ytdogokcoobpgdaa
