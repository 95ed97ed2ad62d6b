import Derived.Test.YtdogokcoobpgdaaMshfpzujm
namespace Go.Proofs.Ytdogokcoobpgdaa
set_option linter.unusedVariables false
set_option linter.unusedSimpArgs false
open Go.RowKit Go.Proofs.YtdogokcoobpgdaaW.PrintWords Go.Proofs.YtdogokcoobpgdaaW.PrintLast Go.Proofs.YtdogokcoobpgdaaW.PrintMore

/-- What a number's check tells. -/
def numI (start time kind flags : Int) (dup : Bool) : Int := orL [commI start time dup, whn (decide (kind = 0) && (Go.bits .and .u32 flags 1 == 0)) 7]
set_option maxHeartbeats 4000000 in
set_option maxRecDepth 100000 in
theorem number_any (w : World) (x : Nmb) (ks : List Kv) (hk : KsAt w x.attrs ks) :
    Calls Try.prog 12 #[nmbA x] w fun e w' => e = .returned (.int .i64 (numI x.start x.time x.kind x.flags (dupK ks))) ∧ Below w.heap.size w w' := by
  obtain ⟨⟨aa, an, ac⟩, start, time, kind, nn, ⟨ea, en, ec⟩, flags, unk⟩ := x
  simp only at hk ⊢
  have HC : Aside0 (∀ w', Below w.heap.size w w' → Calls Try.prog 25 #[.int .u64 start, .int .u64 time, .slice aa an ac] w' fun e w2 => e = .returned (.int .i64 (commI start time (dupK ks))) ∧ Below w'.heap.size w' w2) := ⟨fun w' h => common_any w' start time ⟨aa, an, ac⟩ ks (hk.below h)⟩
  unfold numI
  generalize commI start time (dupK ks) = cm at *
  unfold nmbA nmbC Sl.v
  clear hk
  by_cases hkd : kind = 0
  · subst hkd
    simp only [decide_true, Bool.true_and]
    go_enter Try.func12, Try.ntmps12
    go_upto_region 1 with fail
    have HX : Aside0 (XN (w.alloc (.cells #[.slice aa an ac, .int .u64 start, .int .u64 time, .int .i64 0, .int .u64 nn, .slice ea en ec, .int .u32 flags, .string unk] 47)).drew w.heap.size ⟨⟨aa, an, ac⟩, start, time, 0, nn, ⟨ea, en, ec⟩, flags, unk⟩) := ⟨⟨heap_alloc_new w _⟩⟩
    have HB : Aside0 (Below w.heap.size w (w.alloc (.cells #[.slice aa an ac, .int .u64 start, .int .u64 time, .int .i64 0, .int .u64 nn, .slice ea en ec, .int .u32 flags, .string unk] 47)).drew) := ⟨below_drew1 ((Below.refl w.heap.size w).alloc (Nat.le_refl _) _)⟩
    generalize w.alloc (.cells #[.slice aa an ac, .int .u64 start, .int .u64 time, .int .i64 0, .int .u64 nn, .slice ea en ec, .int .u32 flags, .string unk] 47) = w1 at *
    generalize hgg : w.heap.size = g at HX ⊢
    have HGG := Aside0.mk hgg
    clear hgg
    skip
    refine start_ (n := 20) (S := fun w' => w'.cell? ⟨g, 0, none⟩ = some (.slice aa an ac) ∧ w'.cell? ⟨g, 1, none⟩ = some (.int .u64 start) ∧ w'.cell? ⟨g, 2, none⟩ = some (.int .u64 time) ∧ w'.cell? ⟨g, 3, none⟩ = some (.int .i64 0) ∧ w'.cell? ⟨g, 6, none⟩ = some (.int .u32 flags)) (ds := []) #[false, false, false, false, false, false, false, false, false, false, false, false, false, false, false, false, false, false, false, false] (by kernel_rfl) rfl rfl ⟨HX.out.c0, HX.out.c1, HX.out.c2, HX.out.c3, HX.out.c6⟩ (fun hHeld => ?_)
    refine pure_ (i := 0) (N := some 3) (v := ?_) (a' := ?_) (mkM 20 1) rfl rfl (by kernel_rfl) (fun _ _ _ h => h) (Or.inl ⟨by rfl, ?_⟩) ?_ ?_
    rotate_left
    · intro w'
      go_simp
      with_reducible rfl
    rotate_left
    · simp only [Act.put, s1_, s2_, s3_, i64_w, i32_w]
      rfl
    refine pure_ (i := 2) (N := some 5) (v := ?_) (a' := ?_) (mkM 20 5) rfl rfl (by kernel_rfl) (fun _ _ _ h => h) (Or.inl ⟨by rfl, ?_⟩) ?_ ?_
    rotate_left
    · intro w'
      go_simp
      with_reducible rfl
    rotate_left
    · simp only [Act.put, s1_, s2_, s3_, i64_w, i32_w]
      rfl
    refine pure_ (i := 4) (N := some 7) (v := ?_) (a' := ?_) (mkM 20 21) rfl rfl (by kernel_rfl) (fun _ _ _ h => h) (Or.inl ⟨by rfl, ?_⟩) ?_ ?_
    rotate_left
    · intro w'
      go_simp
      with_reducible rfl
    rotate_left
    · simp only [Act.put, s1_, s2_, s3_, i64_w, i32_w]
      rfl
    refine pure_ (i := 7) (N := some 10) (v := ?_) (a' := ?_) (mkM 20 149) rfl rfl (by kernel_rfl) (fun _ _ _ h => h) (Or.inl ⟨by rfl, ?_⟩) ?_ ?_
    rotate_left
    · intro w'
      go_simp
      with_reducible rfl
    rotate_left
    · simp only [Act.put, s1_, s2_, s3_, i64_w, i32_w]
      rfl
    refine take_ (i := 1) (N := some 4) (v := ?_) (a' := ?_) (mkM 20 151) rfl rfl (by kernel_rfl) (fun _ _ _ h => h) (Or.inl ⟨by rfl, ?_⟩) hHeld ?_ ?_
    rotate_left
    · rintro w' ⟨s0, s1, s2, s3, s4⟩
      go_simp
      with_reducible rfl
    rotate_left
    · simp only [Act.put, s1_, s2_, s3_, i64_w, i32_w]
      rfl
    refine take_ (i := 3) (N := some 6) (v := ?_) (a' := ?_) (mkM 20 159) rfl rfl (by kernel_rfl) (fun _ _ _ h => h) (Or.inl ⟨by rfl, ?_⟩) hHeld ?_ ?_
    rotate_left
    · rintro w' ⟨s0, s1, s2, s3, s4⟩
      go_simp
      with_reducible rfl
    rotate_left
    · simp only [Act.put, s1_, s2_, s3_, i64_w, i32_w]
      rfl
    refine take_ (i := 5) (N := some 8) (v := ?_) (a' := ?_) (mkM 20 191) rfl rfl (by kernel_rfl) (fun _ _ _ h => h) (Or.inl ⟨by rfl, ?_⟩) hHeld ?_ ?_
    rotate_left
    · rintro w' ⟨s0, s1, s2, s3, s4⟩
      go_simp
      with_reducible rfl
    rotate_left
    · simp only [Act.put, s1_, s2_, s3_, i64_w, i32_w]
      rfl
    refine take_ (i := 8) (N := some 11) (v := ?_) (a' := ?_) (mkM 20 447) rfl rfl (by kernel_rfl) (fun _ _ _ h => h) (Or.inl ⟨by rfl, ?_⟩) hHeld ?_ ?_
    rotate_left
    · rintro w' ⟨s0, s1, s2, s3, s4⟩
      go_simp
      with_reducible rfl
    rotate_left
    · simp only [Act.put, s1_, s2_, s3_, i64_w, i32_w]
      rfl
    refine pure_ (i := 9) (N := some 12) (v := ?_) (a' := ?_) (mkM 20 959) rfl rfl (by kernel_rfl) (fun _ _ _ h => h) (Or.inl ⟨by rfl, ?_⟩) ?_ ?_
    rotate_left
    · intro w'
      go_simp
      with_reducible rfl
    rotate_left
    · simp only [Act.put, s1_, s2_, s3_, i64_w, i32_w]
      rfl
    refine one_ (i := 6) (N := some 9) (mkM 20 1023) rfl rfl (by kernel_rfl) (by decide) (fun K hK => ?_)
    refine goes_ Try.func25 (by kernel_rfl) rfl #[.int .u64 start, .int .u64 time, .slice aa an ac] (by rfl) rfl rfl (by simp only [List.map_toArray, List.map_cons, List.map_nil]; rfl) ?_
    with_reducible refine (HC.out _ HB.out).mono ?_
    rintro e w2 ⟨rfl, hb⟩
    refine ⟨_, rfl, ?_⟩
    replace HB := Aside0.mk (below_next HB.out hb)
    replace HX := Aside0.mk (HX.out.below hb)
    clear hb
    refine hK.out _ _ ⟨HX.out.c0, HX.out.c1, HX.out.c2, HX.out.c3, HX.out.c6⟩ (fun hHeld => ?_)
    clear hK K
    refine norm_ (a' := ?_) ?_ ?_
    rotate_left
    · show Act.put _ (some 9) _ = _
      simp only [Act.put, s1_, s2_, s3_, i64_w, i32_w]
      rfl
    refine pure_ (i := 10) (N := some 13) (v := ?_) (a' := ?_) (mkM 20 2047) rfl rfl (by kernel_rfl) (fun _ _ _ h => h) (Or.inl ⟨by rfl, ?_⟩) ?_ ?_
    rotate_left
    · intro w'
      go_simp
      with_reducible rfl
    rotate_left
    · simp only [Act.put, s1_, s2_, s3_, i64_w, i32_w]
      rfl
    refine pure_ (i := 11) (N := some 14) (v := ?_) (a' := ?_) (mkM 20 4095) rfl rfl (by kernel_rfl) (fun _ _ _ h => h) (Or.inl ⟨by rfl, ?_⟩) ?_ ?_
    rotate_left
    · intro w'
      go_simp
      with_reducible rfl
    rotate_left
    · simp only [Act.put, s1_, s2_, s3_, i64_w, i32_w]
      rfl
    refine take_ (i := 12) (N := some 15) (v := ?_) (a' := ?_) (mkM 20 8191) rfl rfl (by kernel_rfl) (fun _ _ _ h => h) (Or.inl ⟨by rfl, ?_⟩) hHeld ?_ ?_
    rotate_left
    · rintro w' ⟨s0, s1, s2, s3, s4⟩
      go_simp
      with_reducible rfl
    rotate_left
    · simp only [Act.put, s1_, s2_, s3_, i64_w, i32_w]
      rfl
    refine pure_ (i := 13) (N := some 16) (v := ?_) (a' := ?_) (mkM 20 16383) rfl rfl (by kernel_rfl) (fun _ _ _ h => h) (Or.inl ⟨by rfl, ?_⟩) ?_ ?_
    rotate_left
    · intro w'
      go_simp
      with_reducible rfl
    rotate_left
    · simp only [Act.put, s1_, s2_, s3_, i64_w, i32_w]
      rfl
    refine pure_ (i := 14) (N := some 17) (v := ?_) (a' := ?_) (mkM 20 32767) rfl rfl (by kernel_rfl) (fun _ _ _ h => h) (Or.inl ⟨by rfl, ?_⟩) ?_ ?_
    rotate_left
    · intro w'
      go_simp
      with_reducible rfl
    rotate_left
    · simp only [Act.put, s1_, s2_, s3_, i64_w, i32_w]
      rfl
    refine pure_ (i := 15) (N := some 18) (v := ?_) (a' := ?_) (mkM 20 65535) rfl rfl (by kernel_rfl) (fun _ _ _ h => h) (Or.inl ⟨by rfl, ?_⟩) ?_ ?_
    rotate_left
    · intro w'
      go_simp
      with_reducible rfl
    rotate_left
    · simp only [Act.put, s1_, s2_, s3_, i64_w, i32_w]
      rfl
    refine one_ (i := 16) (N := some 19) (mkM 20 131071) rfl rfl (by kernel_rfl) (by decide) (fun K hK => ?_)
    refine goes_ Try.func26 (by kernel_rfl) rfl #[.bool (Go.bits .and .u32 flags 1 == 0), .int .i64 7] (by rfl) rfl rfl (by simp only [List.map_toArray, List.map_cons, List.map_nil]; rfl) ?_
    with_reducible refine (when_b _ _ _).mono ?_
    rintro e w4 ⟨rfl, hb⟩
    refine ⟨_, rfl, ?_⟩
    replace HB := Aside0.mk (below_next HB.out hb)
    replace HX := Aside0.mk (HX.out.below hb)
    clear hb
    refine hK.out _ _ ⟨HX.out.c0, HX.out.c1, HX.out.c2, HX.out.c3, HX.out.c6⟩ (fun hHeld => ?_)
    clear hK K
    refine norm_ (a' := ?_) ?_ ?_
    rotate_left
    · show Act.put _ (some 19) _ = _
      simp only [Act.put, s1_, s2_, s3_, i64_w, i32_w]
      rfl
    refine one_ (i := 17) (N := some 20) (mkM 20 262143) rfl rfl (by kernel_rfl) (by decide) (fun K hK => ?_)
    refine value_ (w1 := ?_) (v := ?_) (by rfl) rfl ?_ ?_
    rotate_left 2
    · go_simp
      constructor
      · rfl
      · rfl
    have hBA := fun o => (Below.refl w4.heap.size w4).alloc (Nat.le_refl _) o
    have HO := fun e => or2_any w4 cm (whn (Go.bits .and .u32 flags 1 == 0) 7) e
    refine hK.out _ _ ⟨(HX.out.below (hBA _)).c0, (HX.out.below (hBA _)).c1, (HX.out.below (hBA _)).c2, (HX.out.below (hBA _)).c3, (HX.out.below (hBA _)).c6⟩ (fun hHeld => ?_)
    clear hK K
    refine norm_ (a' := ?_) ?_ ?_
    rotate_left
    · show Act.put _ (some 20) _ = _
      simp only [Act.put, s1_, s2_, s3_, i64_w, i32_w]
      rfl
    refine one_ (i := 18) (N := some 21) (mkM 20 524287) rfl rfl (by kernel_rfl) (by decide) (fun K hK => ?_)
    refine goes_ Try.func24 (by kernel_rfl) rfl #[.slice (some ⟨w4.heap.size, 0, none⟩) 2 2] (by rfl) rfl rfl (by simp only [List.map_toArray, List.map_cons, List.map_nil]; rfl) ?_
    with_reducible refine (HO _).mono ?_
    rintro e w9 ⟨rfl, hb⟩
    refine ⟨_, rfl, ?_⟩
    clear hBA HO
    replace HB := Aside0.mk (below_next HB.out hb)
    replace HX := Aside0.mk (HX.out.below hb)
    clear hb
    refine hK.out _ _ ⟨HX.out.c0, HX.out.c1, HX.out.c2, HX.out.c3, HX.out.c6⟩ (fun hHeld => ?_)
    clear hK K
    refine norm_ (a' := ?_) ?_ ?_
    rotate_left
    · show Act.put _ (some 21) _ = _
      simp only [Act.put, s1_, s2_, s3_, i64_w, i32_w]
      rfl
    refine pure_ (i := 19) (N := some 2) (v := ?_) (a' := ?_) (mkM 20 1048575) rfl rfl (by kernel_rfl) (fun _ _ _ h => h) (Or.inl ⟨by rfl, ?_⟩) ?_ ?_
    rotate_left
    · intro w'
      go_simp
      with_reducible rfl
    rotate_left
    · simp only [Act.put, s1_, s2_, s3_, i64_w, i32_w]
      rfl
    refine done_ (by kernel_rfl) ?_
    clear hHeld
    go_wp2_with fail
    go_ret
    exact ⟨rfl, HB.out⟩
  · rw [decide_eq_false hkd]
    simp only [Bool.false_and]
    have HKD := Aside0.mk hkd
    clear hkd
    go_enter Try.func12, Try.ntmps12
    go_upto_region 1 with fail
    have HX : Aside0 (XN (w.alloc (.cells #[.slice aa an ac, .int .u64 start, .int .u64 time, .int .i64 kind, .int .u64 nn, .slice ea en ec, .int .u32 flags, .string unk] 47)).drew w.heap.size ⟨⟨aa, an, ac⟩, start, time, kind, nn, ⟨ea, en, ec⟩, flags, unk⟩) := ⟨⟨heap_alloc_new w _⟩⟩
    have HB : Aside0 (Below w.heap.size w (w.alloc (.cells #[.slice aa an ac, .int .u64 start, .int .u64 time, .int .i64 kind, .int .u64 nn, .slice ea en ec, .int .u32 flags, .string unk] 47)).drew) := ⟨below_drew1 ((Below.refl w.heap.size w).alloc (Nat.le_refl _) _)⟩
    generalize w.alloc (.cells #[.slice aa an ac, .int .u64 start, .int .u64 time, .int .i64 kind, .int .u64 nn, .slice ea en ec, .int .u32 flags, .string unk] 47) = w1 at *
    generalize hgg : w.heap.size = g at HX ⊢
    have HGG := Aside0.mk hgg
    clear hgg
    have hkd : (kind == 0) = false := by simpa using HKD.out
    refine start_ (n := 20) (S := fun w' => w'.cell? ⟨g, 0, none⟩ = some (.slice aa an ac) ∧ w'.cell? ⟨g, 1, none⟩ = some (.int .u64 start) ∧ w'.cell? ⟨g, 2, none⟩ = some (.int .u64 time) ∧ w'.cell? ⟨g, 3, none⟩ = some (.int .i64 kind) ∧ w'.cell? ⟨g, 6, none⟩ = some (.int .u32 flags)) (ds := []) #[false, false, false, false, false, false, false, false, false, false, false, false, false, false, false, false, false, false, false, false] (by kernel_rfl) rfl rfl ⟨HX.out.c0, HX.out.c1, HX.out.c2, HX.out.c3, HX.out.c6⟩ (fun hHeld => ?_)
    refine pure_ (i := 0) (N := some 3) (v := ?_) (a' := ?_) (mkM 20 1) rfl rfl (by kernel_rfl) (fun _ _ _ h => h) (Or.inl ⟨by rfl, ?_⟩) ?_ ?_
    rotate_left
    · intro w'
      go_simp
      with_reducible rfl
    rotate_left
    · simp only [Act.put, s1_, s2_, s3_, i64_w, i32_w]
      rfl
    refine pure_ (i := 2) (N := some 5) (v := ?_) (a' := ?_) (mkM 20 5) rfl rfl (by kernel_rfl) (fun _ _ _ h => h) (Or.inl ⟨by rfl, ?_⟩) ?_ ?_
    rotate_left
    · intro w'
      go_simp
      with_reducible rfl
    rotate_left
    · simp only [Act.put, s1_, s2_, s3_, i64_w, i32_w]
      rfl
    refine pure_ (i := 4) (N := some 7) (v := ?_) (a' := ?_) (mkM 20 21) rfl rfl (by kernel_rfl) (fun _ _ _ h => h) (Or.inl ⟨by rfl, ?_⟩) ?_ ?_
    rotate_left
    · intro w'
      go_simp
      with_reducible rfl
    rotate_left
    · simp only [Act.put, s1_, s2_, s3_, i64_w, i32_w]
      rfl
    refine pure_ (i := 7) (N := some 10) (v := ?_) (a' := ?_) (mkM 20 149) rfl rfl (by kernel_rfl) (fun _ _ _ h => h) (Or.inl ⟨by rfl, ?_⟩) ?_ ?_
    rotate_left
    · intro w'
      go_simp
      with_reducible rfl
    rotate_left
    · simp only [Act.put, s1_, s2_, s3_, i64_w, i32_w]
      rfl
    refine take_ (i := 1) (N := some 4) (v := ?_) (a' := ?_) (mkM 20 151) rfl rfl (by kernel_rfl) (fun _ _ _ h => h) (Or.inl ⟨by rfl, ?_⟩) hHeld ?_ ?_
    rotate_left
    · rintro w' ⟨s0, s1, s2, s3, s4⟩
      go_simp
      with_reducible rfl
    rotate_left
    · simp only [Act.put, s1_, s2_, s3_, i64_w, i32_w]
      rfl
    refine take_ (i := 3) (N := some 6) (v := ?_) (a' := ?_) (mkM 20 159) rfl rfl (by kernel_rfl) (fun _ _ _ h => h) (Or.inl ⟨by rfl, ?_⟩) hHeld ?_ ?_
    rotate_left
    · rintro w' ⟨s0, s1, s2, s3, s4⟩
      go_simp
      with_reducible rfl
    rotate_left
    · simp only [Act.put, s1_, s2_, s3_, i64_w, i32_w]
      rfl
    refine take_ (i := 5) (N := some 8) (v := ?_) (a' := ?_) (mkM 20 191) rfl rfl (by kernel_rfl) (fun _ _ _ h => h) (Or.inl ⟨by rfl, ?_⟩) hHeld ?_ ?_
    rotate_left
    · rintro w' ⟨s0, s1, s2, s3, s4⟩
      go_simp
      with_reducible rfl
    rotate_left
    · simp only [Act.put, s1_, s2_, s3_, i64_w, i32_w]
      rfl
    refine take_ (i := 8) (N := some 11) (v := ?_) (a' := ?_) (mkM 20 447) rfl rfl (by kernel_rfl) (fun _ _ _ h => h) (Or.inl ⟨by rfl, ?_⟩) hHeld ?_ ?_
    rotate_left
    · rintro w' ⟨s0, s1, s2, s3, s4⟩
      go_simp
      with_reducible rfl
    rotate_left
    · simp only [Act.put, s1_, s2_, s3_, i64_w, i32_w]
      rfl
    refine pure_ (i := 9) (N := some 12) (v := ?_) (a' := ?_) (mkM 20 959) rfl rfl (by kernel_rfl) (fun _ _ _ h => h) (Or.inl ⟨by rfl, ?_⟩) ?_ ?_
    rotate_left
    · intro w'
      go_simp
      with_reducible rfl
    rotate_left
    · simp only [Act.put, s1_, s2_, s3_, i64_w, i32_w]
      rfl
    refine one_ (i := 6) (N := some 9) (mkM 20 1023) rfl rfl (by kernel_rfl) (by decide) (fun K hK => ?_)
    refine goes_ Try.func25 (by kernel_rfl) rfl #[.int .u64 start, .int .u64 time, .slice aa an ac] (by rfl) rfl rfl (by simp only [List.map_toArray, List.map_cons, List.map_nil]; rfl) ?_
    with_reducible refine (HC.out _ HB.out).mono ?_
    rintro e w2 ⟨rfl, hb⟩
    refine ⟨_, rfl, ?_⟩
    replace HB := Aside0.mk (below_next HB.out hb)
    replace HX := Aside0.mk (HX.out.below hb)
    clear hb
    refine hK.out _ _ ⟨HX.out.c0, HX.out.c1, HX.out.c2, HX.out.c3, HX.out.c6⟩ (fun hHeld => ?_)
    clear hK K
    refine norm_ (a' := ?_) ?_ ?_
    rotate_left
    · show Act.put _ (some 9) _ = _
      simp only [Act.put, s1_, s2_, s3_, i64_w, i32_w]
      rfl
    refine pure_ (i := 10) (N := some 13) (v := ?_) (a' := ?_) (mkM 20 2047) rfl rfl (by kernel_rfl) (fun _ _ _ h => h) (Or.inl ⟨by rfl, ?_⟩) ?_ ?_
    rotate_left
    · intro w'
      go_simp
      with_reducible rfl
    rotate_left
    · simp only [Act.put, s1_, s2_, s3_, i64_w, i32_w]
      rfl
    refine pure_ (i := 11) (N := some 14) (v := undef) (a' := ?_) (mkM 20 4095) rfl rfl (by kernel_rfl) (fun _ _ _ h => h) (Or.inr ⟨by rfl, rfl⟩) ?_ ?_
    rotate_left
    · simp only [Act.put, s1_, s2_, s3_, i64_w, i32_w]
      rfl
    refine pure_ (i := 12) (N := some 15) (v := undef) (a' := ?_) (mkM 20 8191) rfl rfl (by kernel_rfl) (fun _ _ _ h => h) (Or.inr ⟨by rfl, rfl⟩) ?_ ?_
    rotate_left
    · simp only [Act.put, s1_, s2_, s3_, i64_w, i32_w]
      rfl
    refine pure_ (i := 13) (N := some 16) (v := undef) (a' := ?_) (mkM 20 16383) rfl rfl (by kernel_rfl) (fun _ _ _ h => h) (Or.inr ⟨by rfl, rfl⟩) ?_ ?_
    rotate_left
    · simp only [Act.put, s1_, s2_, s3_, i64_w, i32_w]
      rfl
    refine pure_ (i := 14) (N := some 17) (v := undef) (a' := ?_) (mkM 20 32767) rfl rfl (by kernel_rfl) (fun _ _ _ h => h) (Or.inr ⟨by rfl, rfl⟩) ?_ ?_
    rotate_left
    · simp only [Act.put, s1_, s2_, s3_, i64_w, i32_w]
      rfl
    refine pure_ (i := 15) (N := some 18) (v := ?_) (a' := ?_) (mkM 20 65535) rfl rfl (by kernel_rfl) (fun _ _ _ h => h) (Or.inl ⟨by rfl, ?_⟩) ?_ ?_
    rotate_left
    · intro w'
      go_simp
      with_reducible rfl
    rotate_left
    · simp only [Act.put, s1_, s2_, s3_, i64_w, i32_w]
      rfl
    refine one_ (i := 16) (N := some 19) (mkM 20 131071) rfl rfl (by kernel_rfl) (by decide) (fun K hK => ?_)
    refine goes_ Try.func26 (by kernel_rfl) rfl #[.bool false, .int .i64 7] (by rfl) rfl rfl (by simp only [List.map_toArray, List.map_cons, List.map_nil]; rfl) ?_
    with_reducible refine (when_b _ _ _).mono ?_
    rintro e w4 ⟨rfl, hb⟩
    refine ⟨_, rfl, ?_⟩
    replace HB := Aside0.mk (below_next HB.out hb)
    replace HX := Aside0.mk (HX.out.below hb)
    clear hb
    refine hK.out _ _ ⟨HX.out.c0, HX.out.c1, HX.out.c2, HX.out.c3, HX.out.c6⟩ (fun hHeld => ?_)
    clear hK K
    refine norm_ (a' := ?_) ?_ ?_
    rotate_left
    · show Act.put _ (some 19) _ = _
      simp only [Act.put, s1_, s2_, s3_, i64_w, i32_w]
      rfl
    refine one_ (i := 17) (N := some 20) (mkM 20 262143) rfl rfl (by kernel_rfl) (by decide) (fun K hK => ?_)
    refine value_ (w1 := ?_) (v := ?_) (by rfl) rfl ?_ ?_
    rotate_left 2
    · go_simp
      constructor
      · rfl
      · rfl
    have hBA := fun o => (Below.refl w4.heap.size w4).alloc (Nat.le_refl _) o
    have HO := fun e => or2_any w4 cm (whn false 7) e
    refine hK.out _ _ ⟨(HX.out.below (hBA _)).c0, (HX.out.below (hBA _)).c1, (HX.out.below (hBA _)).c2, (HX.out.below (hBA _)).c3, (HX.out.below (hBA _)).c6⟩ (fun hHeld => ?_)
    clear hK K
    refine norm_ (a' := ?_) ?_ ?_
    rotate_left
    · show Act.put _ (some 20) _ = _
      simp only [Act.put, s1_, s2_, s3_, i64_w, i32_w]
      rfl
    refine one_ (i := 18) (N := some 21) (mkM 20 524287) rfl rfl (by kernel_rfl) (by decide) (fun K hK => ?_)
    refine goes_ Try.func24 (by kernel_rfl) rfl #[.slice (some ⟨w4.heap.size, 0, none⟩) 2 2] (by rfl) rfl rfl (by simp only [List.map_toArray, List.map_cons, List.map_nil]; rfl) ?_
    with_reducible refine (HO _).mono ?_
    rintro e w9 ⟨rfl, hb⟩
    refine ⟨_, rfl, ?_⟩
    clear hBA HO
    replace HB := Aside0.mk (below_next HB.out hb)
    replace HX := Aside0.mk (HX.out.below hb)
    clear hb
    refine hK.out _ _ ⟨HX.out.c0, HX.out.c1, HX.out.c2, HX.out.c3, HX.out.c6⟩ (fun hHeld => ?_)
    clear hK K
    refine norm_ (a' := ?_) ?_ ?_
    rotate_left
    · show Act.put _ (some 21) _ = _
      simp only [Act.put, s1_, s2_, s3_, i64_w, i32_w]
      rfl
    refine pure_ (i := 19) (N := some 2) (v := ?_) (a' := ?_) (mkM 20 1048575) rfl rfl (by kernel_rfl) (fun _ _ _ h => h) (Or.inl ⟨by rfl, ?_⟩) ?_ ?_
    rotate_left
    · intro w'
      go_simp
      with_reducible rfl
    rotate_left
    · simp only [Act.put, s1_, s2_, s3_, i64_w, i32_w]
      rfl
    refine done_ (by kernel_rfl) ?_
    clear hHeld
    go_wp2_with fail
    go_ret
    exact ⟨rfl, HB.out⟩
end Go.Proofs.Ytdogokcoobpgdaa
namespace Go.Proofs.Ytdogokcoobpgdaa
open Go.RowKit Go.Proofs.YtdogokcoobpgdaaW.PrintWords Go.Proofs.YtdogokcoobpgdaaW.PrintLast Go.Proofs.YtdogokcoobpgdaaW.PrintMore

theorem ks_nil (w : World) : KsAt w ⟨none, 0, 0⟩ [] := ⟨⟨rfl, Nat.le_refl _, Nat.zero_le _, fun h => absurd h (Nat.lt_irrefl 0)⟩, (fun _ h => by simp at h), Nat.zero_le _⟩
theorem num_0 (w : World) : Calls Try.prog 12 #[.agg #[.slice none 0 0, .int .u64 0, .int .u64 0, .int .i64 0, .int .u64 0, .slice none 0 0, .int .u32 0, .string { data := #[] }]] w fun e w' => e = .returned (.int .i64 4) ∧ Below w.heap.size w w' :=
  number_any w ⟨⟨none, 0, 0⟩, 0, 0, 0, 0, ⟨none, 0, 0⟩, 0, ⟨#[]⟩⟩ [] (ks_nil w)
theorem num_1 (w : World) : Calls Try.prog 12 #[.agg #[.slice none 0 0, .int .u64 0, .int .u64 1, .int .i64 2, .int .u64 0, .slice none 0 0, .int .u32 0, .string { data := #[] }]] w fun e w' => e = .returned (.int .i64 0) ∧ Below w.heap.size w w' :=
  number_any w ⟨⟨none, 0, 0⟩, 0, 1, 2, 0, ⟨none, 0, 0⟩, 0, ⟨#[]⟩⟩ [] (ks_nil w)
set_option maxHeartbeats 2000000 in
set_option maxRecDepth 100000 in
theorem met_0 (w : World) : Calls Try.prog 18 #[.agg #[.string { data := #[] }, .string { data := #[] }, .string { data := #[] }, .int .i64 0, .int .i32 0, .bool false, .slice none 0 0, .slice none 0 0, .slice none 0 0, .slice none 0 0, .slice none 0 0, .string { data := #[] }, .string { data := #[] }]] w fun e w' => e = .returned (.int .i64 1) ∧ Below w.heap.size w w' := by
  have HB := Aside0.mk (Below.refl w.heap.size w)
  go_enter Try.func18, Try.ntmps18
  go_wp2_with fail
  go_ret
  exact ⟨rfl, by repeat (first | (with_reducible first | exact HB.out | apply below_alloc | apply pw_below_drewN | apply below_drew1) | exact HB.out)⟩
set_option maxHeartbeats 2000000 in
set_option maxRecDepth 100000 in
theorem first_any (w : World) : Calls Try.prog 5 #[] w fun e w' => e = .returned (.bool true) ∧ Below w.heap.size w w' := by
  have HB := Aside0.mk (Below.refl w.heap.size w)
  have hn6 := fun W => CChk.check_Name.calls 6 ⟨#[116, 119, 105, 99, 101]⟩ W (by kernel_rfl)
  have hn99 := fun W => CChk.check_Name.calls 99 ⟨#[63]⟩ W (by kernel_rfl)
  go_enter Try.func5, Try.ntmps5
  go_wp2_with (first
    | (go_at_call 12; with_reducible refine (num_0 _).mono ?_; rintro e w1 ⟨rfl, hb⟩; replace HB := Aside0.mk (below_next HB.out hb); clear hb)
    | (go_at_call 12; with_reducible refine (num_1 _).mono ?_; rintro e w1 ⟨rfl, hb⟩; replace HB := Aside0.mk (below_next HB.out hb); clear hb)
    | (go_at_call 18; with_reducible refine (met_0 _).mono ?_; rintro e w1 ⟨rfl, hb⟩; replace HB := Aside0.mk (below_next HB.out hb); clear hb)
    | (go_at_call 19; with_reducible refine (hn6 _).mono ?_; rintro e w1 ⟨rfl, hb⟩; replace HB := Aside0.mk (below_next HB.out hb); clear hb)
    | (go_at_call 19; with_reducible refine (hn99 _).mono ?_; rintro e w1 ⟨rfl, hb⟩; replace HB := Aside0.mk (below_next HB.out hb); clear hb))
  go_ret
  exact ⟨rfl, HB.out⟩
end Go.Proofs.Ytdogokcoobpgdaa
