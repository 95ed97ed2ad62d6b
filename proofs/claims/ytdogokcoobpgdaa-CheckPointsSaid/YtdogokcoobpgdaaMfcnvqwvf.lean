import Derived.Test.YtdogokcoobpgdaaMshfpzujm
namespace Go.Proofs.Ytdogokcoobpgdaa
open Go.RowKit Go.Proofs.YtdogokcoobpgdaaW.PrintWords Go.Proofs.YtdogokcoobpgdaaW.PrintLast Go.Proofs.YtdogokcoobpgdaaW.PrintMore

/-- What a histogram's check tells. -/
def toldB (cl bl : Nat) : Bool := decide (0 < (cl : Int)) || decide (0 < (bl : Int))
def misB (cl bl : Nat) : Bool := !(decide ((cl : Int) = wrap64 ((bl : Int) + 1)))
def histI (start time count : Int) (dup : Bool) (cl : List Int) (bl : List Int) (up : Bool) : Int :=
  orL [commI start time dup, whn (toldB cl.length bl.length && (misB cl.length bl.length || !addsB count [cl])) 8, whn (!risesB bl) 9, whn up 11]
set_option maxHeartbeats 4000000 in
set_option maxRecDepth 100000 in
theorem hist_any (w : World) (x : Hst) (ks : List Kv) (cl bl : List Int) (hk : KsAt w x.attrs ks) (hc : NsAt w x.counts cl) (hb : NsAt w x.bounds bl) :
    Calls Try.prog 8 #[hstA x] w fun e w' => e = .returned (.int .i64 (histI x.start x.time x.count (dupK ks) cl bl (upB x.mn.has x.mn.n x.mx.has x.mx.n))) ∧ Below w.heap.size w w' := by
  obtain ⟨⟨aa, an, ac⟩, start, time, count, ⟨sh, sn⟩, ⟨mnh, mnn⟩, ⟨mxh, mxn⟩, ⟨ca, cn, cc⟩, ⟨ba, bn, bc⟩, ⟨ea, en, ec⟩, flags, unk⟩ := x
  simp only at hk hc hb ⊢
  have e1 : cl.length = cn := hc.len.symm
  have e2 : bl.length = bn := hb.len.symm
  have HC : Aside0 (∀ w', Below w.heap.size w w' → Calls Try.prog 25 #[.int .u64 start, .int .u64 time, .slice aa an ac] w' fun e w2 => e = .returned (.int .i64 (commI start time (dupK ks))) ∧ Below w'.heap.size w' w2) := ⟨fun w' h => common_any w' start time ⟨aa, an, ac⟩ ks (hk.below h)⟩
  have HRI : Aside0 (∀ w', Below w.heap.size w w' → Calls Try.prog 28 #[.slice ba bn bc] w' fun e w2 => e = .returned (.bool (risesB bl)) ∧ Below w'.heap.size w' w2) := ⟨fun w' h => (rises_any w' ⟨ba, bn, bc⟩ bl (hb.below h)).mono fun _ _ h => ⟨h.1, h.2.below⟩⟩
  have HA : Aside0 (∀ w', Below w.heap.size w w' → ∀ e, Calls Try.prog 27 #[.int .u64 count, .slice (some ⟨w'.heap.size, 0, none⟩) 1 1] (w'.alloc (.cells #[.slice ca cn cc] e)) fun e w2 => e = .returned (.bool (addsB count [cl])) ∧ Below w'.heap.size w' w2) := ⟨fun w' h e => adds1_any w' count ⟨ca, cn, cc⟩ cl e (hc.below h)⟩
  have hclen : cn ≤ 9223372036854775807 := by have h1 := hc.cap; have h2 := hc.most; unfold maxLen at h2; simp only at h1 h2; omega
  have hblen : bn ≤ 9223372036854775807 := by have h1 := hb.cap; have h2 := hb.most; unfold maxLen at h2; simp only at h1 h2; omega
  unfold histI
  rw [e1, e2]
  clear e1 e2
  generalize commI start time (dupK ks) = cm at *
  generalize risesB bl = ri at *
  generalize addsB count [cl] = ad at *
  unfold hstA hstC Sl.v
  clear hk hc hb
  rcases Nat.eq_zero_or_pos cn with hc0 | hc0
  · subst hc0
    rcases Nat.eq_zero_or_pos bn with hb0 | hb0
    · subst hb0
      go_enter Try.func8, Try.ntmps8
      go_upto_region 1 with fail
      have hx1 : XH (w.alloc (.cells #[.slice aa an ac, .int .u64 start, .int .u64 time, .int .u64 count, .bool sh, .int .u64 sn, .bool mnh, .int .u64 mnn, .bool mxh, .int .u64 mxn, .slice ca 0 cc, .slice ba 0 bc, .slice ea en ec, .int .u32 flags, .string unk] 30)) w.heap.size ⟨⟨aa, an, ac⟩, start, time, count, ⟨sh, sn⟩, ⟨mnh, mnn⟩, ⟨mxh, mxn⟩, ⟨ca, 0, cc⟩, ⟨ba, 0, bc⟩, ⟨ea, en, ec⟩, flags, unk⟩ := ⟨heap_alloc_new w _⟩
      have HX := Aside0.mk hx1
      have HB : Aside0 (Below w.heap.size w (w.alloc (.cells #[.slice aa an ac, .int .u64 start, .int .u64 time, .int .u64 count, .bool sh, .int .u64 sn, .bool mnh, .int .u64 mnn, .bool mxh, .int .u64 mxn, .slice ca 0 cc, .slice ba 0 bc, .slice ea en ec, .int .u32 flags, .string unk] 30))) := ⟨(Below.refl w.heap.size w).alloc (Nat.le_refl _) _⟩
      have p10 := hx1.c10
      have p11 := hx1.c11
      clear hx1
      generalize w.alloc (.cells #[.slice aa an ac, .int .u64 start, .int .u64 time, .int .u64 count, .bool sh, .int .u64 sn, .bool mnh, .int .u64 mnn, .bool mxh, .int .u64 mxn, .slice ca 0 cc, .slice ba 0 bc, .slice ea en ec, .int .u32 flags, .string unk] 30) = w1 at *
      generalize hgg : w.heap.size = g at HX p10 p11 ⊢
      have HGG := Aside0.mk hgg
      clear hgg
      go_wp2_with fail
      have HXn : Aside0 (XH w1.drew g ⟨⟨aa, an, ac⟩, start, time, count, ⟨sh, sn⟩, ⟨mnh, mnn⟩, ⟨mxh, mxn⟩, ⟨ca, 0, cc⟩, ⟨ba, 0, bc⟩, ⟨ea, en, ec⟩, flags, unk⟩) := ⟨⟨HX.out.blk⟩⟩
      have HBn : Aside0 (Below w.heap.size w w1.drew) := ⟨below_drew1 HB.out⟩
      clear HX HB p10 p11
      have HX := HXn
      have HB := HBn
      clear HXn HBn
      have z25 := Try.sizeOf25
      skip
      refine start_ (n := 42) (S := fun w' => w'.cell? ⟨g, 0, none⟩ = some (.slice aa an ac) ∧ w'.cell? ⟨g, 1, none⟩ = some (.int .u64 start) ∧ w'.cell? ⟨g, 2, none⟩ = some (.int .u64 time) ∧ w'.cell? ⟨g, 3, none⟩ = some (.int .u64 count) ∧ w'.cell? ⟨g, 6, none⟩ = some (.bool mnh) ∧ w'.cell? ⟨g, 7, none⟩ = some (.int .u64 mnn) ∧ w'.cell? ⟨g, 8, none⟩ = some (.bool mxh) ∧ w'.cell? ⟨g, 9, none⟩ = some (.int .u64 mxn) ∧ w'.cell? ⟨g, 10, none⟩ = some (.slice ca 0 cc) ∧ w'.cell? ⟨g, 11, none⟩ = some (.slice ba 0 bc)) (ds := []) #[false, false, false, false, false, false, false, false, false, false, false, false, false, false, false, false, false, false, false, false, false, false, false, false, false, false, false, false, false, false, false, false, false, false, false, false, false, false, false, false, false, false] (by kernel_rfl) rfl rfl ⟨HX.out.c0, HX.out.c1, HX.out.c2, HX.out.c3, HX.out.c6, HX.out.c7, HX.out.c8, HX.out.c9, HX.out.c10, HX.out.c11⟩ (fun hHeld => ?_)
      refine pure_ (i := 0) (N := some 14) (v := ?_) (a' := ?_) (mkM 42 1) rfl rfl (by kernel_rfl) (fun _ _ _ h => h) (Or.inl ⟨by rfl, ?_⟩) ?_ ?_
      rotate_left
      · intro w'
        go_simp
        with_reducible rfl
      rotate_left
      · simp only [Act.put, s1_, s2_, s3_]
        rfl
      refine pure_ (i := 2) (N := some 16) (v := ?_) (a' := ?_) (mkM 42 5) rfl rfl (by kernel_rfl) (fun _ _ _ h => h) (Or.inl ⟨by rfl, ?_⟩) ?_ ?_
      rotate_left
      · intro w'
        go_simp
        with_reducible rfl
      rotate_left
      · simp only [Act.put, s1_, s2_, s3_]
        rfl
      refine pure_ (i := 4) (N := some 18) (v := ?_) (a' := ?_) (mkM 42 21) rfl rfl (by kernel_rfl) (fun _ _ _ h => h) (Or.inl ⟨by rfl, ?_⟩) ?_ ?_
      rotate_left
      · intro w'
        go_simp
        with_reducible rfl
      rotate_left
      · simp only [Act.put, s1_, s2_, s3_]
        rfl
      refine pure_ (i := 7) (N := some 21) (v := ?_) (a' := ?_) (mkM 42 149) rfl rfl (by kernel_rfl) (fun _ _ _ h => h) (Or.inl ⟨by rfl, ?_⟩) ?_ ?_
      rotate_left
      · intro w'
        go_simp
        with_reducible rfl
      rotate_left
      · simp only [Act.put, s1_, s2_, s3_]
        rfl
      refine pure_ (i := 28) (N := some 42) (v := ?_) (a' := ?_) (mkM 42 268435605) rfl rfl (by kernel_rfl) (fun _ _ _ h => h) (Or.inl ⟨by rfl, ?_⟩) ?_ ?_
      rotate_left
      · intro w'
        go_simp
        with_reducible rfl
      rotate_left
      · simp only [Act.put, s1_, s2_, s3_]
        rfl
      refine pure_ (i := 33) (N := some 47) (v := ?_) (a' := ?_) (mkM 42 8858370197) rfl rfl (by kernel_rfl) (fun _ _ _ h => h) (Or.inl ⟨by rfl, ?_⟩) ?_ ?_
      rotate_left
      · intro w'
        go_simp
        with_reducible rfl
      rotate_left
      · simp only [Act.put, s1_, s2_, s3_]
        rfl
      refine pure_ (i := 35) (N := some 49) (v := ?_) (a' := ?_) (mkM 42 43218108565) rfl rfl (by kernel_rfl) (fun _ _ _ h => h) (Or.inl ⟨by rfl, ?_⟩) ?_ ?_
      rotate_left
      · intro w'
        go_simp
        with_reducible rfl
      rotate_left
      · simp only [Act.put, s1_, s2_, s3_]
        rfl
      refine take_ (i := 1) (N := some 15) (v := ?_) (a' := ?_) (mkM 42 43218108567) rfl rfl (by kernel_rfl) (fun _ _ _ h => h) (Or.inl ⟨by rfl, ?_⟩) hHeld ?_ ?_
      rotate_left
      · rintro w' ⟨s0, s1, s2, s3, s4, s5, s6, s7, s8, s9⟩
        go_simp
        with_reducible rfl
      rotate_left
      · simp only [Act.put, s1_, s2_, s3_]
        rfl
      refine take_ (i := 3) (N := some 17) (v := ?_) (a' := ?_) (mkM 42 43218108575) rfl rfl (by kernel_rfl) (fun _ _ _ h => h) (Or.inl ⟨by rfl, ?_⟩) hHeld ?_ ?_
      rotate_left
      · rintro w' ⟨s0, s1, s2, s3, s4, s5, s6, s7, s8, s9⟩
        go_simp
        with_reducible rfl
      rotate_left
      · simp only [Act.put, s1_, s2_, s3_]
        rfl
      refine take_ (i := 5) (N := some 19) (v := ?_) (a' := ?_) (mkM 42 43218108607) rfl rfl (by kernel_rfl) (fun _ _ _ h => h) (Or.inl ⟨by rfl, ?_⟩) hHeld ?_ ?_
      rotate_left
      · rintro w' ⟨s0, s1, s2, s3, s4, s5, s6, s7, s8, s9⟩
        go_simp
        with_reducible rfl
      rotate_left
      · simp only [Act.put, s1_, s2_, s3_]
        rfl
      refine take_ (i := 29) (N := some 43) (v := ?_) (a' := ?_) (mkM 42 43754979519) rfl rfl (by kernel_rfl) (fun _ _ _ h => h) (Or.inl ⟨by rfl, ?_⟩) hHeld ?_ ?_
      rotate_left
      · rintro w' ⟨s0, s1, s2, s3, s4, s5, s6, s7, s8, s9⟩
        go_simp
        with_reducible rfl
      rotate_left
      · simp only [Act.put, s1_, s2_, s3_]
        rfl
      refine take_ (i := 34) (N := some 48) (v := ?_) (a' := ?_) (mkM 42 60934848703) rfl rfl (by kernel_rfl) (fun _ _ _ h => h) (Or.inl ⟨by rfl, ?_⟩) hHeld ?_ ?_
      rotate_left
      · rintro w' ⟨s0, s1, s2, s3, s4, s5, s6, s7, s8, s9⟩
        go_simp
        with_reducible rfl
      rotate_left
      · simp only [Act.put, s1_, s2_, s3_]
        rfl
      refine take_ (i := 36) (N := some 50) (v := ?_) (a' := ?_) (mkM 42 129654325439) rfl rfl (by kernel_rfl) (fun _ _ _ h => h) (Or.inl ⟨by rfl, ?_⟩) hHeld ?_ ?_
      rotate_left
      · rintro w' ⟨s0, s1, s2, s3, s4, s5, s6, s7, s8, s9⟩
        go_simp
        with_reducible rfl
      rotate_left
      · simp only [Act.put, s1_, s2_, s3_]
        rfl
      refine one_ (i := 6) (N := some 20) (mkM 42 129654325503) rfl rfl (by kernel_rfl) (by decide) (fun K hK => ?_)
      refine goes_ Try.func25 (by kernel_rfl) rfl #[.int .u64 start, .int .u64 time, .slice aa an ac] (by rfl) rfl rfl (by simp only [List.map_toArray, List.map_cons, List.map_nil]; rfl) ?_
      with_reducible refine (HC.out _ HB.out).mono ?_
      rintro e w2 ⟨rfl, hb⟩
      refine ⟨_, rfl, ?_⟩
      replace HB := Aside0.mk (below_next HB.out hb)
      replace HX := Aside0.mk (HX.out.below hb)
      clear hb
      refine hK.out _ _ ⟨HX.out.c0, HX.out.c1, HX.out.c2, HX.out.c3, HX.out.c6, HX.out.c7, HX.out.c8, HX.out.c9, HX.out.c10, HX.out.c11⟩ (fun hHeld => ?_)
      clear hK K
      refine norm_ (a' := ?_) ?_ ?_
      rotate_left
      · show Act.put _ (some 20) _ = _
        simp only [Act.put, s1_, s2_, s3_]
        rfl
      refine pure_ (i := 8) (N := some 22) (v := ?_) (a' := ?_) (mkM 42 129654325759) rfl rfl (by kernel_rfl) (fun _ _ _ h => h) (Or.inl ⟨by rfl, ?_⟩) ?_ ?_
      rotate_left
      · intro w'
        go_simp
        with_reducible rfl
      rotate_left
      · simp only [Act.put, s1_, s2_, s3_]
        rfl
      refine pure_ (i := 9) (N := some 23) (v := undef) (a' := ?_) (mkM 42 129654326271) rfl rfl (by kernel_rfl) (fun _ _ _ h => h) (Or.inr ⟨by rfl, rfl⟩) ?_ ?_
      rotate_left
      · simp only [Act.put, s1_, s2_, s3_]
        rfl
      refine pure_ (i := 10) (N := some 24) (v := undef) (a' := ?_) (mkM 42 129654327295) rfl rfl (by kernel_rfl) (fun _ _ _ h => h) (Or.inr ⟨by rfl, rfl⟩) ?_ ?_
      rotate_left
      · simp only [Act.put, s1_, s2_, s3_]
        rfl
      refine pure_ (i := 11) (N := some 25) (v := undef) (a' := ?_) (mkM 42 129654329343) rfl rfl (by kernel_rfl) (fun _ _ _ h => h) (Or.inr ⟨by rfl, rfl⟩) ?_ ?_
      rotate_left
      · simp only [Act.put, s1_, s2_, s3_]
        rfl
      refine pure_ (i := 12) (N := some 26) (v := undef) (a' := ?_) (mkM 42 129654333439) rfl rfl (by kernel_rfl) (fun _ _ _ h => h) (Or.inr ⟨by rfl, rfl⟩) ?_ ?_
      rotate_left
      · simp only [Act.put, s1_, s2_, s3_]
        rfl
      refine pure_ (i := 13) (N := some 27) (v := undef) (a' := ?_) (mkM 42 129654341631) rfl rfl (by kernel_rfl) (fun _ _ _ h => h) (Or.inr ⟨by rfl, rfl⟩) ?_ ?_
      rotate_left
      · simp only [Act.put, s1_, s2_, s3_]
        rfl
      refine pure_ (i := 14) (N := some 28) (v := undef) (a' := ?_) (mkM 42 129654358015) rfl rfl (by kernel_rfl) (fun _ _ _ h => h) (Or.inr ⟨by rfl, rfl⟩) ?_ ?_
      rotate_left
      · simp only [Act.put, s1_, s2_, s3_]
        rfl
      refine pure_ (i := 15) (N := some 29) (v := undef) (a' := ?_) (mkM 42 129654390783) rfl rfl (by kernel_rfl) (fun _ _ _ h => h) (Or.inr ⟨by rfl, rfl⟩) ?_ ?_
      rotate_left
      · simp only [Act.put, s1_, s2_, s3_]
        rfl
      refine pure_ (i := 16) (N := some 30) (v := undef) (a' := ?_) (mkM 42 129654456319) rfl rfl (by kernel_rfl) (fun _ _ _ h => h) (Or.inr ⟨by rfl, rfl⟩) ?_ ?_
      rotate_left
      · simp only [Act.put, s1_, s2_, s3_]
        rfl
      refine pure_ (i := 17) (N := some 31) (v := undef) (a' := ?_) (mkM 42 129654587391) rfl rfl (by kernel_rfl) (fun _ _ _ h => h) (Or.inr ⟨by rfl, rfl⟩) ?_ ?_
      rotate_left
      · simp only [Act.put, s1_, s2_, s3_]
        rfl
      refine pure_ (i := 18) (N := some 32) (v := undef) (a' := ?_) (mkM 42 129654849535) rfl rfl (by kernel_rfl) (fun _ _ _ h => h) (Or.inr ⟨by rfl, rfl⟩) ?_ ?_
      rotate_left
      · simp only [Act.put, s1_, s2_, s3_]
        rfl
      refine pure_ (i := 19) (N := some 33) (v := undef) (a' := ?_) (mkM 42 129655373823) rfl rfl (by kernel_rfl) (fun _ _ _ h => h) (Or.inr ⟨by rfl, rfl⟩) ?_ ?_
      rotate_left
      · simp only [Act.put, s1_, s2_, s3_]
        rfl
      refine pure_ (i := 20) (N := some 34) (v := undef) (a' := ?_) (mkM 42 129656422399) rfl rfl (by kernel_rfl) (fun _ _ _ h => h) (Or.inr ⟨by rfl, rfl⟩) ?_ ?_
      rotate_left
      · simp only [Act.put, s1_, s2_, s3_]
        rfl
      refine pure_ (i := 21) (N := some 35) (v := undef) (a' := ?_) (mkM 42 129658519551) rfl rfl (by kernel_rfl) (fun _ _ _ h => h) (Or.inr ⟨by rfl, rfl⟩) ?_ ?_
      rotate_left
      · simp only [Act.put, s1_, s2_, s3_]
        rfl
      refine pure_ (i := 22) (N := some 36) (v := undef) (a' := ?_) (mkM 42 129662713855) rfl rfl (by kernel_rfl) (fun _ _ _ h => h) (Or.inr ⟨by rfl, rfl⟩) ?_ ?_
      rotate_left
      · simp only [Act.put, s1_, s2_, s3_]
        rfl
      refine pure_ (i := 23) (N := some 37) (v := undef) (a' := ?_) (mkM 42 129671102463) rfl rfl (by kernel_rfl) (fun _ _ _ h => h) (Or.inr ⟨by rfl, rfl⟩) ?_ ?_
      rotate_left
      · simp only [Act.put, s1_, s2_, s3_]
        rfl
      refine pure_ (i := 24) (N := some 38) (v := undef) (a' := ?_) (mkM 42 129687879679) rfl rfl (by kernel_rfl) (fun _ _ _ h => h) (Or.inr ⟨by rfl, rfl⟩) ?_ ?_
      rotate_left
      · simp only [Act.put, s1_, s2_, s3_]
        rfl
      refine pure_ (i := 25) (N := some 39) (v := undef) (a' := ?_) (mkM 42 129721434111) rfl rfl (by kernel_rfl) (fun _ _ _ h => h) (Or.inr ⟨by rfl, rfl⟩) ?_ ?_
      rotate_left
      · simp only [Act.put, s1_, s2_, s3_]
        rfl
      refine pure_ (i := 26) (N := some 40) (v := ?_) (a' := ?_) (mkM 42 129788542975) rfl rfl (by kernel_rfl) (fun _ _ _ h => h) (Or.inl ⟨by rfl, ?_⟩) ?_ ?_
      rotate_left
      · intro w'
        go_simp
        with_reducible rfl
      rotate_left
      · simp only [Act.put, s1_, s2_, s3_]
        rfl
      refine one_ (i := 27) (N := some 41) (mkM 42 129922760703) rfl rfl (by kernel_rfl) (by decide) (fun K hK => ?_)
      refine goes_ Try.func26 (by kernel_rfl) rfl #[.bool false, .int .i64 8] (by rfl) rfl rfl (by simp only [List.map_toArray, List.map_cons, List.map_nil]; rfl) ?_
      with_reducible refine (when_b _ _ _).mono ?_
      rintro e w4 ⟨rfl, hb⟩
      refine ⟨_, rfl, ?_⟩
      replace HB := Aside0.mk (below_next HB.out hb)
      replace HX := Aside0.mk (HX.out.below hb)
      clear hb
      refine hK.out _ _ ⟨HX.out.c0, HX.out.c1, HX.out.c2, HX.out.c3, HX.out.c6, HX.out.c7, HX.out.c8, HX.out.c9, HX.out.c10, HX.out.c11⟩ (fun hHeld => ?_)
      clear hK K
      refine norm_ (a' := ?_) ?_ ?_
      rotate_left
      · show Act.put _ (some 41) _ = _
        simp only [Act.put, s1_, s2_, s3_]
        rfl
      refine one_ (i := 30) (N := some 44) (mkM 42 130996502527) rfl rfl (by kernel_rfl) (by decide) (fun K hK => ?_)
      refine goes_ Try.func28 (by kernel_rfl) rfl #[.slice ba 0 bc] (by rfl) rfl rfl (by simp only [List.map_toArray, List.map_cons, List.map_nil]; rfl) ?_
      with_reducible refine (HRI.out _ HB.out).mono ?_
      rintro e w5 ⟨rfl, hb⟩
      refine ⟨_, rfl, ?_⟩
      replace HB := Aside0.mk (below_next HB.out hb)
      replace HX := Aside0.mk (HX.out.below hb)
      clear hb
      refine hK.out _ _ ⟨HX.out.c0, HX.out.c1, HX.out.c2, HX.out.c3, HX.out.c6, HX.out.c7, HX.out.c8, HX.out.c9, HX.out.c10, HX.out.c11⟩ (fun hHeld => ?_)
      clear hK K
      refine norm_ (a' := ?_) ?_ ?_
      rotate_left
      · show Act.put _ (some 44) _ = _
        simp only [Act.put, s1_, s2_, s3_]
        rfl
      refine pure_ (i := 31) (N := some 45) (v := ?_) (a' := ?_) (mkM 42 133143986175) rfl rfl (by kernel_rfl) (fun _ _ _ h => h) (Or.inl ⟨by rfl, ?_⟩) ?_ ?_
      rotate_left
      · intro w'
        go_simp
        with_reducible rfl
      rotate_left
      · simp only [Act.put, s1_, s2_, s3_]
        rfl
      refine one_ (i := 32) (N := some 46) (mkM 42 137438953471) rfl rfl (by kernel_rfl) (by decide) (fun K hK => ?_)
      refine goes_ Try.func26 (by kernel_rfl) rfl #[.bool (!ri), .int .i64 9] (by rfl) rfl rfl (by simp only [List.map_toArray, List.map_cons, List.map_nil]; rfl) ?_
      with_reducible refine (when_b _ _ _).mono ?_
      rintro e w6 ⟨rfl, hb⟩
      refine ⟨_, rfl, ?_⟩
      replace HB := Aside0.mk (below_next HB.out hb)
      replace HX := Aside0.mk (HX.out.below hb)
      clear hb
      refine hK.out _ _ ⟨HX.out.c0, HX.out.c1, HX.out.c2, HX.out.c3, HX.out.c6, HX.out.c7, HX.out.c8, HX.out.c9, HX.out.c10, HX.out.c11⟩ (fun hHeld => ?_)
      clear hK K
      refine norm_ (a' := ?_) ?_ ?_
      rotate_left
      · show Act.put _ (some 46) _ = _
        simp only [Act.put, s1_, s2_, s3_]
        rfl
      refine one_ (i := 37) (N := some 51) (mkM 42 274877906943) rfl rfl (by kernel_rfl) (by decide) (fun K hK => ?_)
      refine goes_ Try.func29 (by kernel_rfl) rfl #[.agg #[.bool mnh, .int .u64 mnn], .agg #[.bool mxh, .int .u64 mxn]] (by rfl) rfl rfl (by simp only [List.map_toArray, List.map_cons, List.map_nil]; rfl) ?_
      with_reducible refine (up_any _ _ _ _ _).mono ?_
      rintro e w7 ⟨rfl, hb⟩
      refine ⟨_, rfl, ?_⟩
      replace HB := Aside0.mk (below_next HB.out hb)
      replace HX := Aside0.mk (HX.out.below hb)
      clear hb
      refine hK.out _ _ ⟨HX.out.c0, HX.out.c1, HX.out.c2, HX.out.c3, HX.out.c6, HX.out.c7, HX.out.c8, HX.out.c9, HX.out.c10, HX.out.c11⟩ (fun hHeld => ?_)
      clear hK K
      refine norm_ (a' := ?_) ?_ ?_
      rotate_left
      · show Act.put _ (some 51) _ = _
        simp only [Act.put, s1_, s2_, s3_]
        rfl
      refine one_ (i := 38) (N := some 52) (mkM 42 549755813887) rfl rfl (by kernel_rfl) (by decide) (fun K hK => ?_)
      refine goes_ Try.func26 (by kernel_rfl) rfl #[.bool (upB mnh mnn mxh mxn), .int .i64 11] (by rfl) rfl rfl (by simp only [List.map_toArray, List.map_cons, List.map_nil]; rfl) ?_
      with_reducible refine (when_b _ _ _).mono ?_
      rintro e w8 ⟨rfl, hb⟩
      refine ⟨_, rfl, ?_⟩
      replace HB := Aside0.mk (below_next HB.out hb)
      replace HX := Aside0.mk (HX.out.below hb)
      clear hb
      refine hK.out _ _ ⟨HX.out.c0, HX.out.c1, HX.out.c2, HX.out.c3, HX.out.c6, HX.out.c7, HX.out.c8, HX.out.c9, HX.out.c10, HX.out.c11⟩ (fun hHeld => ?_)
      clear hK K
      refine norm_ (a' := ?_) ?_ ?_
      rotate_left
      · show Act.put _ (some 52) _ = _
        simp only [Act.put, s1_, s2_, s3_]
        rfl
      refine one_ (i := 39) (N := some 53) (mkM 42 1099511627775) rfl rfl (by kernel_rfl) (by decide) (fun K hK => ?_)
      refine value_ (w1 := ?_) (v := ?_) (by rfl) rfl ?_ ?_
      rotate_left 2
      · go_simp
        constructor
        · rfl
        · rfl
      have hBA := fun o => (Below.refl w8.heap.size w8).alloc (Nat.le_refl _) o
      have HO4 := fun e => or4_any w8 cm (whn false 8) (whn (!ri) 9) (whn (upB mnh mnn mxh mxn) 11) e
      refine hK.out _ _ ⟨(HX.out.below (hBA _)).c0, (HX.out.below (hBA _)).c1, (HX.out.below (hBA _)).c2, (HX.out.below (hBA _)).c3, (HX.out.below (hBA _)).c6, (HX.out.below (hBA _)).c7, (HX.out.below (hBA _)).c8, (HX.out.below (hBA _)).c9, (HX.out.below (hBA _)).c10, (HX.out.below (hBA _)).c11⟩ (fun hHeld => ?_)
      clear hK K
      refine norm_ (a' := ?_) ?_ ?_
      rotate_left
      · show Act.put _ (some 53) _ = _
        simp only [Act.put, s1_, s2_, s3_]
        rfl
      refine one_ (i := 40) (N := some 54) (mkM 42 2199023255551) rfl rfl (by kernel_rfl) (by decide) (fun K hK => ?_)
      refine goes_ Try.func24 (by kernel_rfl) rfl #[.slice (some ⟨w8.heap.size, 0, none⟩) 4 4] (by rfl) rfl rfl (by simp only [List.map_toArray, List.map_cons, List.map_nil]; rfl) ?_
      with_reducible refine (HO4 _).mono ?_
      rintro e w9 ⟨rfl, hb⟩
      refine ⟨_, rfl, ?_⟩
      clear hBA HO4
      replace HB := Aside0.mk (below_next HB.out hb)
      replace HX := Aside0.mk (HX.out.below hb)
      clear hb
      refine hK.out _ _ ⟨HX.out.c0, HX.out.c1, HX.out.c2, HX.out.c3, HX.out.c6, HX.out.c7, HX.out.c8, HX.out.c9, HX.out.c10, HX.out.c11⟩ (fun hHeld => ?_)
      clear hK K
      refine norm_ (a' := ?_) ?_ ?_
      rotate_left
      · show Act.put _ (some 54) _ = _
        simp only [Act.put, s1_, s2_, s3_]
        rfl
      refine pure_ (i := 41) (N := some 2) (v := ?_) (a' := ?_) (mkM 42 4398046511103) rfl rfl (by kernel_rfl) (fun _ _ _ h => h) (Or.inl ⟨by rfl, ?_⟩) ?_ ?_
      rotate_left
      · intro w'
        go_simp
        with_reducible rfl
      rotate_left
      · simp only [Act.put, s1_, s2_, s3_]
        rfl
      refine done_ (by kernel_rfl) ?_
      clear hHeld
      go_wp2_with fail
      go_ret
      exact ⟨rfl, HB.out⟩
    · have hne : ((0 : Int) != wrap64 ((bn : Int) + 1)) = true := by simp only [bne_iff_ne]; unfold wrap64; omega
      have e3 : toldB 0 bn = true := by unfold toldB; simp; omega
      have e4 : misB 0 bn = true := by unfold misB; simp only [Bool.not_eq_true', decide_eq_false_iff_not]; simpa using hne
      have HNE := Aside0.mk hne
      rw [e3, e4]
      clear e3 e4 hne
      simp only [Bool.true_and, Bool.true_or]
      go_enter Try.func8, Try.ntmps8
      go_upto_region 1 with fail
      have hx1 : XH (w.alloc (.cells #[.slice aa an ac, .int .u64 start, .int .u64 time, .int .u64 count, .bool sh, .int .u64 sn, .bool mnh, .int .u64 mnn, .bool mxh, .int .u64 mxn, .slice ca 0 cc, .slice ba bn bc, .slice ea en ec, .int .u32 flags, .string unk] 30)) w.heap.size ⟨⟨aa, an, ac⟩, start, time, count, ⟨sh, sn⟩, ⟨mnh, mnn⟩, ⟨mxh, mxn⟩, ⟨ca, 0, cc⟩, ⟨ba, bn, bc⟩, ⟨ea, en, ec⟩, flags, unk⟩ := ⟨heap_alloc_new w _⟩
      have HX := Aside0.mk hx1
      have HB : Aside0 (Below w.heap.size w (w.alloc (.cells #[.slice aa an ac, .int .u64 start, .int .u64 time, .int .u64 count, .bool sh, .int .u64 sn, .bool mnh, .int .u64 mnn, .bool mxh, .int .u64 mxn, .slice ca 0 cc, .slice ba bn bc, .slice ea en ec, .int .u32 flags, .string unk] 30))) := ⟨(Below.refl w.heap.size w).alloc (Nat.le_refl _) _⟩
      have p10 := hx1.c10
      have p11 := hx1.c11
      clear hx1
      generalize w.alloc (.cells #[.slice aa an ac, .int .u64 start, .int .u64 time, .int .u64 count, .bool sh, .int .u64 sn, .bool mnh, .int .u64 mnn, .bool mxh, .int .u64 mxn, .slice ca 0 cc, .slice ba bn bc, .slice ea en ec, .int .u32 flags, .string unk] 30) = w1 at *
      generalize hgg : w.heap.size = g at HX p10 p11 ⊢
      have HGG := Aside0.mk hgg
      clear hgg
      go_wp2_with fail
      have HXn : Aside0 (XH w1.drew g ⟨⟨aa, an, ac⟩, start, time, count, ⟨sh, sn⟩, ⟨mnh, mnn⟩, ⟨mxh, mxn⟩, ⟨ca, 0, cc⟩, ⟨ba, bn, bc⟩, ⟨ea, en, ec⟩, flags, unk⟩) := ⟨⟨HX.out.blk⟩⟩
      have HBn : Aside0 (Below w.heap.size w w1.drew) := ⟨below_drew1 HB.out⟩
      clear HX HB p10 p11
      have HX := HXn
      have HB := HBn
      clear HXn HBn
      have z25 := Try.sizeOf25
      have hne := HNE.out
      refine start_ (n := 42) (S := fun w' => w'.cell? ⟨g, 0, none⟩ = some (.slice aa an ac) ∧ w'.cell? ⟨g, 1, none⟩ = some (.int .u64 start) ∧ w'.cell? ⟨g, 2, none⟩ = some (.int .u64 time) ∧ w'.cell? ⟨g, 3, none⟩ = some (.int .u64 count) ∧ w'.cell? ⟨g, 6, none⟩ = some (.bool mnh) ∧ w'.cell? ⟨g, 7, none⟩ = some (.int .u64 mnn) ∧ w'.cell? ⟨g, 8, none⟩ = some (.bool mxh) ∧ w'.cell? ⟨g, 9, none⟩ = some (.int .u64 mxn) ∧ w'.cell? ⟨g, 10, none⟩ = some (.slice ca 0 cc) ∧ w'.cell? ⟨g, 11, none⟩ = some (.slice ba bn bc)) (ds := []) #[false, false, false, false, false, false, false, false, false, false, false, false, false, false, false, false, false, false, false, false, false, false, false, false, false, false, false, false, false, false, false, false, false, false, false, false, false, false, false, false, false, false] (by kernel_rfl) rfl rfl ⟨HX.out.c0, HX.out.c1, HX.out.c2, HX.out.c3, HX.out.c6, HX.out.c7, HX.out.c8, HX.out.c9, HX.out.c10, HX.out.c11⟩ (fun hHeld => ?_)
      refine pure_ (i := 0) (N := some 14) (v := ?_) (a' := ?_) (mkM 42 1) rfl rfl (by kernel_rfl) (fun _ _ _ h => h) (Or.inl ⟨by rfl, ?_⟩) ?_ ?_
      rotate_left
      · intro w'
        go_simp
        with_reducible rfl
      rotate_left
      · simp only [Act.put, s1_, s2_, s3_]
        rfl
      refine pure_ (i := 2) (N := some 16) (v := ?_) (a' := ?_) (mkM 42 5) rfl rfl (by kernel_rfl) (fun _ _ _ h => h) (Or.inl ⟨by rfl, ?_⟩) ?_ ?_
      rotate_left
      · intro w'
        go_simp
        with_reducible rfl
      rotate_left
      · simp only [Act.put, s1_, s2_, s3_]
        rfl
      refine pure_ (i := 4) (N := some 18) (v := ?_) (a' := ?_) (mkM 42 21) rfl rfl (by kernel_rfl) (fun _ _ _ h => h) (Or.inl ⟨by rfl, ?_⟩) ?_ ?_
      rotate_left
      · intro w'
        go_simp
        with_reducible rfl
      rotate_left
      · simp only [Act.put, s1_, s2_, s3_]
        rfl
      refine pure_ (i := 7) (N := some 21) (v := ?_) (a' := ?_) (mkM 42 149) rfl rfl (by kernel_rfl) (fun _ _ _ h => h) (Or.inl ⟨by rfl, ?_⟩) ?_ ?_
      rotate_left
      · intro w'
        go_simp
        with_reducible rfl
      rotate_left
      · simp only [Act.put, s1_, s2_, s3_]
        rfl
      refine pure_ (i := 28) (N := some 42) (v := ?_) (a' := ?_) (mkM 42 268435605) rfl rfl (by kernel_rfl) (fun _ _ _ h => h) (Or.inl ⟨by rfl, ?_⟩) ?_ ?_
      rotate_left
      · intro w'
        go_simp
        with_reducible rfl
      rotate_left
      · simp only [Act.put, s1_, s2_, s3_]
        rfl
      refine pure_ (i := 33) (N := some 47) (v := ?_) (a' := ?_) (mkM 42 8858370197) rfl rfl (by kernel_rfl) (fun _ _ _ h => h) (Or.inl ⟨by rfl, ?_⟩) ?_ ?_
      rotate_left
      · intro w'
        go_simp
        with_reducible rfl
      rotate_left
      · simp only [Act.put, s1_, s2_, s3_]
        rfl
      refine pure_ (i := 35) (N := some 49) (v := ?_) (a' := ?_) (mkM 42 43218108565) rfl rfl (by kernel_rfl) (fun _ _ _ h => h) (Or.inl ⟨by rfl, ?_⟩) ?_ ?_
      rotate_left
      · intro w'
        go_simp
        with_reducible rfl
      rotate_left
      · simp only [Act.put, s1_, s2_, s3_]
        rfl
      refine take_ (i := 1) (N := some 15) (v := ?_) (a' := ?_) (mkM 42 43218108567) rfl rfl (by kernel_rfl) (fun _ _ _ h => h) (Or.inl ⟨by rfl, ?_⟩) hHeld ?_ ?_
      rotate_left
      · rintro w' ⟨s0, s1, s2, s3, s4, s5, s6, s7, s8, s9⟩
        go_simp
        with_reducible rfl
      rotate_left
      · simp only [Act.put, s1_, s2_, s3_]
        rfl
      refine take_ (i := 3) (N := some 17) (v := ?_) (a' := ?_) (mkM 42 43218108575) rfl rfl (by kernel_rfl) (fun _ _ _ h => h) (Or.inl ⟨by rfl, ?_⟩) hHeld ?_ ?_
      rotate_left
      · rintro w' ⟨s0, s1, s2, s3, s4, s5, s6, s7, s8, s9⟩
        go_simp
        with_reducible rfl
      rotate_left
      · simp only [Act.put, s1_, s2_, s3_]
        rfl
      refine take_ (i := 5) (N := some 19) (v := ?_) (a' := ?_) (mkM 42 43218108607) rfl rfl (by kernel_rfl) (fun _ _ _ h => h) (Or.inl ⟨by rfl, ?_⟩) hHeld ?_ ?_
      rotate_left
      · rintro w' ⟨s0, s1, s2, s3, s4, s5, s6, s7, s8, s9⟩
        go_simp
        with_reducible rfl
      rotate_left
      · simp only [Act.put, s1_, s2_, s3_]
        rfl
      refine take_ (i := 29) (N := some 43) (v := ?_) (a' := ?_) (mkM 42 43754979519) rfl rfl (by kernel_rfl) (fun _ _ _ h => h) (Or.inl ⟨by rfl, ?_⟩) hHeld ?_ ?_
      rotate_left
      · rintro w' ⟨s0, s1, s2, s3, s4, s5, s6, s7, s8, s9⟩
        go_simp
        with_reducible rfl
      rotate_left
      · simp only [Act.put, s1_, s2_, s3_]
        rfl
      refine take_ (i := 34) (N := some 48) (v := ?_) (a' := ?_) (mkM 42 60934848703) rfl rfl (by kernel_rfl) (fun _ _ _ h => h) (Or.inl ⟨by rfl, ?_⟩) hHeld ?_ ?_
      rotate_left
      · rintro w' ⟨s0, s1, s2, s3, s4, s5, s6, s7, s8, s9⟩
        go_simp
        with_reducible rfl
      rotate_left
      · simp only [Act.put, s1_, s2_, s3_]
        rfl
      refine take_ (i := 36) (N := some 50) (v := ?_) (a' := ?_) (mkM 42 129654325439) rfl rfl (by kernel_rfl) (fun _ _ _ h => h) (Or.inl ⟨by rfl, ?_⟩) hHeld ?_ ?_
      rotate_left
      · rintro w' ⟨s0, s1, s2, s3, s4, s5, s6, s7, s8, s9⟩
        go_simp
        with_reducible rfl
      rotate_left
      · simp only [Act.put, s1_, s2_, s3_]
        rfl
      refine one_ (i := 6) (N := some 20) (mkM 42 129654325503) rfl rfl (by kernel_rfl) (by decide) (fun K hK => ?_)
      refine goes_ Try.func25 (by kernel_rfl) rfl #[.int .u64 start, .int .u64 time, .slice aa an ac] (by rfl) rfl rfl (by simp only [List.map_toArray, List.map_cons, List.map_nil]; rfl) ?_
      with_reducible refine (HC.out _ HB.out).mono ?_
      rintro e w2 ⟨rfl, hb⟩
      refine ⟨_, rfl, ?_⟩
      replace HB := Aside0.mk (below_next HB.out hb)
      replace HX := Aside0.mk (HX.out.below hb)
      clear hb
      refine hK.out _ _ ⟨HX.out.c0, HX.out.c1, HX.out.c2, HX.out.c3, HX.out.c6, HX.out.c7, HX.out.c8, HX.out.c9, HX.out.c10, HX.out.c11⟩ (fun hHeld => ?_)
      clear hK K
      refine norm_ (a' := ?_) ?_ ?_
      rotate_left
      · show Act.put _ (some 20) _ = _
        simp only [Act.put, s1_, s2_, s3_]
        rfl
      refine pure_ (i := 8) (N := some 22) (v := ?_) (a' := ?_) (mkM 42 129654325759) rfl rfl (by kernel_rfl) (fun _ _ _ h => h) (Or.inl ⟨by rfl, ?_⟩) ?_ ?_
      rotate_left
      · intro w'
        go_simp
        with_reducible rfl
      rotate_left
      · simp only [Act.put, s1_, s2_, s3_]
        rfl
      refine pure_ (i := 9) (N := some 23) (v := ?_) (a' := ?_) (mkM 42 129654326271) rfl rfl (by kernel_rfl) (fun _ _ _ h => h) (Or.inl ⟨by rfl, ?_⟩) ?_ ?_
      rotate_left
      · intro w'
        go_simp
        with_reducible rfl
      rotate_left
      · simp only [Act.put, s1_, s2_, s3_]
        rfl
      refine pure_ (i := 12) (N := some 26) (v := ?_) (a' := ?_) (mkM 42 129654330367) rfl rfl (by kernel_rfl) (fun _ _ _ h => h) (Or.inl ⟨by rfl, ?_⟩) ?_ ?_
      rotate_left
      · intro w'
        go_simp
        with_reducible rfl
      rotate_left
      · simp only [Act.put, s1_, s2_, s3_]
        rfl
      refine take_ (i := 10) (N := some 24) (v := ?_) (a' := ?_) (mkM 42 129654331391) rfl rfl (by kernel_rfl) (fun _ _ _ h => h) (Or.inl ⟨by rfl, ?_⟩) hHeld ?_ ?_
      rotate_left
      · rintro w' ⟨s0, s1, s2, s3, s4, s5, s6, s7, s8, s9⟩
        go_simp
        with_reducible rfl
      rotate_left
      · simp only [Act.put, s1_, s2_, s3_]
        rfl
      refine pure_ (i := 11) (N := some 25) (v := ?_) (a' := ?_) (mkM 42 129654333439) rfl rfl (by kernel_rfl) (fun _ _ _ h => h) (Or.inl ⟨by rfl, ?_⟩) ?_ ?_
      rotate_left
      · intro w'
        go_simp
        with_reducible rfl
      rotate_left
      · simp only [Act.put, s1_, s2_, s3_]
        rfl
      refine take_ (i := 13) (N := some 27) (v := ?_) (a' := ?_) (mkM 42 129654341631) rfl rfl (by kernel_rfl) (fun _ _ _ h => h) (Or.inl ⟨by rfl, ?_⟩) hHeld ?_ ?_
      rotate_left
      · rintro w' ⟨s0, s1, s2, s3, s4, s5, s6, s7, s8, s9⟩
        go_simp
        with_reducible rfl
      rotate_left
      · simp only [Act.put, s1_, s2_, s3_]
        rfl
      refine pure_ (i := 14) (N := some 28) (v := ?_) (a' := ?_) (mkM 42 129654358015) rfl rfl (by kernel_rfl) (fun _ _ _ h => h) (Or.inl ⟨by rfl, ?_⟩) ?_ ?_
      rotate_left
      · intro w'
        go_simp
        with_reducible rfl
      rotate_left
      · simp only [Act.put, s1_, s2_, s3_]
        rfl
      refine pure_ (i := 15) (N := some 29) (v := ?_) (a' := ?_) (mkM 42 129654390783) rfl rfl (by kernel_rfl) (fun _ _ _ h => h) (Or.inl ⟨by rfl, ?_⟩) ?_ ?_
      rotate_left
      · intro w'
        go_simp
        with_reducible rfl
      rotate_left
      · simp only [Act.put, s1_, s2_, s3_, i64_w]
        rfl
      refine pure_ (i := 16) (N := some 30) (v := ?_) (a' := ?_) (mkM 42 129654456319) rfl rfl (by kernel_rfl) (fun _ _ _ h => h) (Or.inl ⟨by rfl, ?_⟩) ?_ ?_
      rotate_left
      · intro w'
        go_simp
        with_reducible rfl
      rotate_left
      · simp only [Act.put, s1_, s2_, s3_]
        rfl
      refine pure_ (i := 17) (N := some 31) (v := ?_) (a' := ?_) (mkM 42 129654587391) rfl rfl (by kernel_rfl) (fun _ _ _ h => h) (Or.inl ⟨by rfl, ?_⟩) ?_ ?_
      rotate_left
      · intro w'
        go_simp
        with_reducible rfl
      rotate_left
      · simp only [Act.put, s1_, s2_, s3_]
        rfl
      refine pure_ (i := 18) (N := some 32) (v := undef) (a' := ?_) (mkM 42 129654849535) rfl rfl (by kernel_rfl) (fun _ _ _ h => h) (Or.inr ⟨by rfl, rfl⟩) ?_ ?_
      rotate_left
      · simp only [Act.put, s1_, s2_, s3_]
        rfl
      refine pure_ (i := 19) (N := some 33) (v := undef) (a' := ?_) (mkM 42 129655373823) rfl rfl (by kernel_rfl) (fun _ _ _ h => h) (Or.inr ⟨by rfl, rfl⟩) ?_ ?_
      rotate_left
      · simp only [Act.put, s1_, s2_, s3_]
        rfl
      refine pure_ (i := 20) (N := some 34) (v := undef) (a' := ?_) (mkM 42 129656422399) rfl rfl (by kernel_rfl) (fun _ _ _ h => h) (Or.inr ⟨by rfl, rfl⟩) ?_ ?_
      rotate_left
      · simp only [Act.put, s1_, s2_, s3_]
        rfl
      refine pure_ (i := 21) (N := some 35) (v := undef) (a' := ?_) (mkM 42 129658519551) rfl rfl (by kernel_rfl) (fun _ _ _ h => h) (Or.inr ⟨by rfl, rfl⟩) ?_ ?_
      rotate_left
      · simp only [Act.put, s1_, s2_, s3_]
        rfl
      refine pure_ (i := 22) (N := some 36) (v := undef) (a' := ?_) (mkM 42 129662713855) rfl rfl (by kernel_rfl) (fun _ _ _ h => h) (Or.inr ⟨by rfl, rfl⟩) ?_ ?_
      rotate_left
      · simp only [Act.put, s1_, s2_, s3_]
        rfl
      refine pure_ (i := 23) (N := some 37) (v := undef) (a' := ?_) (mkM 42 129671102463) rfl rfl (by kernel_rfl) (fun _ _ _ h => h) (Or.inr ⟨by rfl, rfl⟩) ?_ ?_
      rotate_left
      · simp only [Act.put, s1_, s2_, s3_]
        rfl
      refine pure_ (i := 24) (N := some 38) (v := undef) (a' := ?_) (mkM 42 129687879679) rfl rfl (by kernel_rfl) (fun _ _ _ h => h) (Or.inr ⟨by rfl, rfl⟩) ?_ ?_
      rotate_left
      · simp only [Act.put, s1_, s2_, s3_]
        rfl
      refine pure_ (i := 25) (N := some 39) (v := ?_) (a' := ?_) (mkM 42 129721434111) rfl rfl (by kernel_rfl) (fun _ _ _ h => h) (Or.inl ⟨by rfl, ?_⟩) ?_ ?_
      rotate_left
      · intro w'
        go_simp
        with_reducible rfl
      rotate_left
      · simp only [Act.put, s1_, s2_, s3_]
        rfl
      refine pure_ (i := 26) (N := some 40) (v := ?_) (a' := ?_) (mkM 42 129788542975) rfl rfl (by kernel_rfl) (fun _ _ _ h => h) (Or.inl ⟨by rfl, ?_⟩) ?_ ?_
      rotate_left
      · intro w'
        go_simp
        with_reducible rfl
      rotate_left
      · simp only [Act.put, s1_, s2_, s3_]
        rfl
      refine one_ (i := 27) (N := some 41) (mkM 42 129922760703) rfl rfl (by kernel_rfl) (by decide) (fun K hK => ?_)
      refine goes_ Try.func26 (by kernel_rfl) rfl #[.bool true, .int .i64 8] (by rfl) rfl rfl (by simp only [List.map_toArray, List.map_cons, List.map_nil]; rfl) ?_
      with_reducible refine (when_b _ _ _).mono ?_
      rintro e w4 ⟨rfl, hb⟩
      refine ⟨_, rfl, ?_⟩
      replace HB := Aside0.mk (below_next HB.out hb)
      replace HX := Aside0.mk (HX.out.below hb)
      clear hb
      refine hK.out _ _ ⟨HX.out.c0, HX.out.c1, HX.out.c2, HX.out.c3, HX.out.c6, HX.out.c7, HX.out.c8, HX.out.c9, HX.out.c10, HX.out.c11⟩ (fun hHeld => ?_)
      clear hK K
      refine norm_ (a' := ?_) ?_ ?_
      rotate_left
      · show Act.put _ (some 41) _ = _
        simp only [Act.put, s1_, s2_, s3_]
        rfl
      refine one_ (i := 30) (N := some 44) (mkM 42 130996502527) rfl rfl (by kernel_rfl) (by decide) (fun K hK => ?_)
      refine goes_ Try.func28 (by kernel_rfl) rfl #[.slice ba bn bc] (by rfl) rfl rfl (by simp only [List.map_toArray, List.map_cons, List.map_nil]; rfl) ?_
      with_reducible refine (HRI.out _ HB.out).mono ?_
      rintro e w5 ⟨rfl, hb⟩
      refine ⟨_, rfl, ?_⟩
      replace HB := Aside0.mk (below_next HB.out hb)
      replace HX := Aside0.mk (HX.out.below hb)
      clear hb
      refine hK.out _ _ ⟨HX.out.c0, HX.out.c1, HX.out.c2, HX.out.c3, HX.out.c6, HX.out.c7, HX.out.c8, HX.out.c9, HX.out.c10, HX.out.c11⟩ (fun hHeld => ?_)
      clear hK K
      refine norm_ (a' := ?_) ?_ ?_
      rotate_left
      · show Act.put _ (some 44) _ = _
        simp only [Act.put, s1_, s2_, s3_]
        rfl
      refine pure_ (i := 31) (N := some 45) (v := ?_) (a' := ?_) (mkM 42 133143986175) rfl rfl (by kernel_rfl) (fun _ _ _ h => h) (Or.inl ⟨by rfl, ?_⟩) ?_ ?_
      rotate_left
      · intro w'
        go_simp
        with_reducible rfl
      rotate_left
      · simp only [Act.put, s1_, s2_, s3_]
        rfl
      refine one_ (i := 32) (N := some 46) (mkM 42 137438953471) rfl rfl (by kernel_rfl) (by decide) (fun K hK => ?_)
      refine goes_ Try.func26 (by kernel_rfl) rfl #[.bool (!ri), .int .i64 9] (by rfl) rfl rfl (by simp only [List.map_toArray, List.map_cons, List.map_nil]; rfl) ?_
      with_reducible refine (when_b _ _ _).mono ?_
      rintro e w6 ⟨rfl, hb⟩
      refine ⟨_, rfl, ?_⟩
      replace HB := Aside0.mk (below_next HB.out hb)
      replace HX := Aside0.mk (HX.out.below hb)
      clear hb
      refine hK.out _ _ ⟨HX.out.c0, HX.out.c1, HX.out.c2, HX.out.c3, HX.out.c6, HX.out.c7, HX.out.c8, HX.out.c9, HX.out.c10, HX.out.c11⟩ (fun hHeld => ?_)
      clear hK K
      refine norm_ (a' := ?_) ?_ ?_
      rotate_left
      · show Act.put _ (some 46) _ = _
        simp only [Act.put, s1_, s2_, s3_]
        rfl
      refine one_ (i := 37) (N := some 51) (mkM 42 274877906943) rfl rfl (by kernel_rfl) (by decide) (fun K hK => ?_)
      refine goes_ Try.func29 (by kernel_rfl) rfl #[.agg #[.bool mnh, .int .u64 mnn], .agg #[.bool mxh, .int .u64 mxn]] (by rfl) rfl rfl (by simp only [List.map_toArray, List.map_cons, List.map_nil]; rfl) ?_
      with_reducible refine (up_any _ _ _ _ _).mono ?_
      rintro e w7 ⟨rfl, hb⟩
      refine ⟨_, rfl, ?_⟩
      replace HB := Aside0.mk (below_next HB.out hb)
      replace HX := Aside0.mk (HX.out.below hb)
      clear hb
      refine hK.out _ _ ⟨HX.out.c0, HX.out.c1, HX.out.c2, HX.out.c3, HX.out.c6, HX.out.c7, HX.out.c8, HX.out.c9, HX.out.c10, HX.out.c11⟩ (fun hHeld => ?_)
      clear hK K
      refine norm_ (a' := ?_) ?_ ?_
      rotate_left
      · show Act.put _ (some 51) _ = _
        simp only [Act.put, s1_, s2_, s3_]
        rfl
      refine one_ (i := 38) (N := some 52) (mkM 42 549755813887) rfl rfl (by kernel_rfl) (by decide) (fun K hK => ?_)
      refine goes_ Try.func26 (by kernel_rfl) rfl #[.bool (upB mnh mnn mxh mxn), .int .i64 11] (by rfl) rfl rfl (by simp only [List.map_toArray, List.map_cons, List.map_nil]; rfl) ?_
      with_reducible refine (when_b _ _ _).mono ?_
      rintro e w8 ⟨rfl, hb⟩
      refine ⟨_, rfl, ?_⟩
      replace HB := Aside0.mk (below_next HB.out hb)
      replace HX := Aside0.mk (HX.out.below hb)
      clear hb
      refine hK.out _ _ ⟨HX.out.c0, HX.out.c1, HX.out.c2, HX.out.c3, HX.out.c6, HX.out.c7, HX.out.c8, HX.out.c9, HX.out.c10, HX.out.c11⟩ (fun hHeld => ?_)
      clear hK K
      refine norm_ (a' := ?_) ?_ ?_
      rotate_left
      · show Act.put _ (some 52) _ = _
        simp only [Act.put, s1_, s2_, s3_]
        rfl
      refine one_ (i := 39) (N := some 53) (mkM 42 1099511627775) rfl rfl (by kernel_rfl) (by decide) (fun K hK => ?_)
      refine value_ (w1 := ?_) (v := ?_) (by rfl) rfl ?_ ?_
      rotate_left 2
      · go_simp
        constructor
        · rfl
        · rfl
      have hBA := fun o => (Below.refl w8.heap.size w8).alloc (Nat.le_refl _) o
      have HO4 := fun e => or4_any w8 cm (whn true 8) (whn (!ri) 9) (whn (upB mnh mnn mxh mxn) 11) e
      refine hK.out _ _ ⟨(HX.out.below (hBA _)).c0, (HX.out.below (hBA _)).c1, (HX.out.below (hBA _)).c2, (HX.out.below (hBA _)).c3, (HX.out.below (hBA _)).c6, (HX.out.below (hBA _)).c7, (HX.out.below (hBA _)).c8, (HX.out.below (hBA _)).c9, (HX.out.below (hBA _)).c10, (HX.out.below (hBA _)).c11⟩ (fun hHeld => ?_)
      clear hK K
      refine norm_ (a' := ?_) ?_ ?_
      rotate_left
      · show Act.put _ (some 53) _ = _
        simp only [Act.put, s1_, s2_, s3_]
        rfl
      refine one_ (i := 40) (N := some 54) (mkM 42 2199023255551) rfl rfl (by kernel_rfl) (by decide) (fun K hK => ?_)
      refine goes_ Try.func24 (by kernel_rfl) rfl #[.slice (some ⟨w8.heap.size, 0, none⟩) 4 4] (by rfl) rfl rfl (by simp only [List.map_toArray, List.map_cons, List.map_nil]; rfl) ?_
      with_reducible refine (HO4 _).mono ?_
      rintro e w9 ⟨rfl, hb⟩
      refine ⟨_, rfl, ?_⟩
      clear hBA HO4
      replace HB := Aside0.mk (below_next HB.out hb)
      replace HX := Aside0.mk (HX.out.below hb)
      clear hb
      refine hK.out _ _ ⟨HX.out.c0, HX.out.c1, HX.out.c2, HX.out.c3, HX.out.c6, HX.out.c7, HX.out.c8, HX.out.c9, HX.out.c10, HX.out.c11⟩ (fun hHeld => ?_)
      clear hK K
      refine norm_ (a' := ?_) ?_ ?_
      rotate_left
      · show Act.put _ (some 54) _ = _
        simp only [Act.put, s1_, s2_, s3_]
        rfl
      refine pure_ (i := 41) (N := some 2) (v := ?_) (a' := ?_) (mkM 42 4398046511103) rfl rfl (by kernel_rfl) (fun _ _ _ h => h) (Or.inl ⟨by rfl, ?_⟩) ?_ ?_
      rotate_left
      · intro w'
        go_simp
        with_reducible rfl
      rotate_left
      · simp only [Act.put, s1_, s2_, s3_]
        rfl
      refine done_ (by kernel_rfl) ?_
      clear hHeld
      go_wp2_with fail
      go_ret
      exact ⟨rfl, HB.out⟩
  · have e3 : toldB cn bn = true := by unfold toldB; simp; omega
    rw [e3]
    clear e3
    cases hm : misB cn bn
    · have hne : ((cn : Int) != wrap64 ((bn : Int) + 1)) = false := by unfold misB at hm; simpa using hm
      have HNE := Aside0.mk hne
      clear hm hne
      simp only [Bool.true_and, Bool.false_or]
      go_enter Try.func8, Try.ntmps8
      go_upto_region 1 with fail
      have hx1 : XH (w.alloc (.cells #[.slice aa an ac, .int .u64 start, .int .u64 time, .int .u64 count, .bool sh, .int .u64 sn, .bool mnh, .int .u64 mnn, .bool mxh, .int .u64 mxn, .slice ca cn cc, .slice ba bn bc, .slice ea en ec, .int .u32 flags, .string unk] 30)) w.heap.size ⟨⟨aa, an, ac⟩, start, time, count, ⟨sh, sn⟩, ⟨mnh, mnn⟩, ⟨mxh, mxn⟩, ⟨ca, cn, cc⟩, ⟨ba, bn, bc⟩, ⟨ea, en, ec⟩, flags, unk⟩ := ⟨heap_alloc_new w _⟩
      have HX := Aside0.mk hx1
      have HB : Aside0 (Below w.heap.size w (w.alloc (.cells #[.slice aa an ac, .int .u64 start, .int .u64 time, .int .u64 count, .bool sh, .int .u64 sn, .bool mnh, .int .u64 mnn, .bool mxh, .int .u64 mxn, .slice ca cn cc, .slice ba bn bc, .slice ea en ec, .int .u32 flags, .string unk] 30))) := ⟨(Below.refl w.heap.size w).alloc (Nat.le_refl _) _⟩
      have p10 := hx1.c10
      have p11 := hx1.c11
      clear hx1
      generalize w.alloc (.cells #[.slice aa an ac, .int .u64 start, .int .u64 time, .int .u64 count, .bool sh, .int .u64 sn, .bool mnh, .int .u64 mnn, .bool mxh, .int .u64 mxn, .slice ca cn cc, .slice ba bn bc, .slice ea en ec, .int .u32 flags, .string unk] 30) = w1 at *
      generalize hgg : w.heap.size = g at HX p10 p11 ⊢
      have HGG := Aside0.mk hgg
      clear hgg
      go_wp2_with fail
      have HXn : Aside0 (XH w1.drew g ⟨⟨aa, an, ac⟩, start, time, count, ⟨sh, sn⟩, ⟨mnh, mnn⟩, ⟨mxh, mxn⟩, ⟨ca, cn, cc⟩, ⟨ba, bn, bc⟩, ⟨ea, en, ec⟩, flags, unk⟩) := ⟨⟨HX.out.blk⟩⟩
      have HBn : Aside0 (Below w.heap.size w w1.drew) := ⟨below_drew1 HB.out⟩
      clear HX HB p10 p11
      have HX := HXn
      have HB := HBn
      clear HXn HBn
      have z25 := Try.sizeOf25
      have hne := HNE.out
      refine start_ (n := 42) (S := fun w' => w'.cell? ⟨g, 0, none⟩ = some (.slice aa an ac) ∧ w'.cell? ⟨g, 1, none⟩ = some (.int .u64 start) ∧ w'.cell? ⟨g, 2, none⟩ = some (.int .u64 time) ∧ w'.cell? ⟨g, 3, none⟩ = some (.int .u64 count) ∧ w'.cell? ⟨g, 6, none⟩ = some (.bool mnh) ∧ w'.cell? ⟨g, 7, none⟩ = some (.int .u64 mnn) ∧ w'.cell? ⟨g, 8, none⟩ = some (.bool mxh) ∧ w'.cell? ⟨g, 9, none⟩ = some (.int .u64 mxn) ∧ w'.cell? ⟨g, 10, none⟩ = some (.slice ca cn cc) ∧ w'.cell? ⟨g, 11, none⟩ = some (.slice ba bn bc)) (ds := []) #[false, false, false, false, false, false, false, false, false, false, false, false, false, false, false, false, false, false, false, false, false, false, false, false, false, false, false, false, false, false, false, false, false, false, false, false, false, false, false, false, false, false] (by kernel_rfl) rfl rfl ⟨HX.out.c0, HX.out.c1, HX.out.c2, HX.out.c3, HX.out.c6, HX.out.c7, HX.out.c8, HX.out.c9, HX.out.c10, HX.out.c11⟩ (fun hHeld => ?_)
      refine pure_ (i := 0) (N := some 14) (v := ?_) (a' := ?_) (mkM 42 1) rfl rfl (by kernel_rfl) (fun _ _ _ h => h) (Or.inl ⟨by rfl, ?_⟩) ?_ ?_
      rotate_left
      · intro w'
        go_simp
        with_reducible rfl
      rotate_left
      · simp only [Act.put, s1_, s2_, s3_]
        rfl
      refine pure_ (i := 2) (N := some 16) (v := ?_) (a' := ?_) (mkM 42 5) rfl rfl (by kernel_rfl) (fun _ _ _ h => h) (Or.inl ⟨by rfl, ?_⟩) ?_ ?_
      rotate_left
      · intro w'
        go_simp
        with_reducible rfl
      rotate_left
      · simp only [Act.put, s1_, s2_, s3_]
        rfl
      refine pure_ (i := 4) (N := some 18) (v := ?_) (a' := ?_) (mkM 42 21) rfl rfl (by kernel_rfl) (fun _ _ _ h => h) (Or.inl ⟨by rfl, ?_⟩) ?_ ?_
      rotate_left
      · intro w'
        go_simp
        with_reducible rfl
      rotate_left
      · simp only [Act.put, s1_, s2_, s3_]
        rfl
      refine pure_ (i := 7) (N := some 21) (v := ?_) (a' := ?_) (mkM 42 149) rfl rfl (by kernel_rfl) (fun _ _ _ h => h) (Or.inl ⟨by rfl, ?_⟩) ?_ ?_
      rotate_left
      · intro w'
        go_simp
        with_reducible rfl
      rotate_left
      · simp only [Act.put, s1_, s2_, s3_]
        rfl
      refine pure_ (i := 28) (N := some 42) (v := ?_) (a' := ?_) (mkM 42 268435605) rfl rfl (by kernel_rfl) (fun _ _ _ h => h) (Or.inl ⟨by rfl, ?_⟩) ?_ ?_
      rotate_left
      · intro w'
        go_simp
        with_reducible rfl
      rotate_left
      · simp only [Act.put, s1_, s2_, s3_]
        rfl
      refine pure_ (i := 33) (N := some 47) (v := ?_) (a' := ?_) (mkM 42 8858370197) rfl rfl (by kernel_rfl) (fun _ _ _ h => h) (Or.inl ⟨by rfl, ?_⟩) ?_ ?_
      rotate_left
      · intro w'
        go_simp
        with_reducible rfl
      rotate_left
      · simp only [Act.put, s1_, s2_, s3_]
        rfl
      refine pure_ (i := 35) (N := some 49) (v := ?_) (a' := ?_) (mkM 42 43218108565) rfl rfl (by kernel_rfl) (fun _ _ _ h => h) (Or.inl ⟨by rfl, ?_⟩) ?_ ?_
      rotate_left
      · intro w'
        go_simp
        with_reducible rfl
      rotate_left
      · simp only [Act.put, s1_, s2_, s3_]
        rfl
      refine take_ (i := 1) (N := some 15) (v := ?_) (a' := ?_) (mkM 42 43218108567) rfl rfl (by kernel_rfl) (fun _ _ _ h => h) (Or.inl ⟨by rfl, ?_⟩) hHeld ?_ ?_
      rotate_left
      · rintro w' ⟨s0, s1, s2, s3, s4, s5, s6, s7, s8, s9⟩
        go_simp
        with_reducible rfl
      rotate_left
      · simp only [Act.put, s1_, s2_, s3_]
        rfl
      refine take_ (i := 3) (N := some 17) (v := ?_) (a' := ?_) (mkM 42 43218108575) rfl rfl (by kernel_rfl) (fun _ _ _ h => h) (Or.inl ⟨by rfl, ?_⟩) hHeld ?_ ?_
      rotate_left
      · rintro w' ⟨s0, s1, s2, s3, s4, s5, s6, s7, s8, s9⟩
        go_simp
        with_reducible rfl
      rotate_left
      · simp only [Act.put, s1_, s2_, s3_]
        rfl
      refine take_ (i := 5) (N := some 19) (v := ?_) (a' := ?_) (mkM 42 43218108607) rfl rfl (by kernel_rfl) (fun _ _ _ h => h) (Or.inl ⟨by rfl, ?_⟩) hHeld ?_ ?_
      rotate_left
      · rintro w' ⟨s0, s1, s2, s3, s4, s5, s6, s7, s8, s9⟩
        go_simp
        with_reducible rfl
      rotate_left
      · simp only [Act.put, s1_, s2_, s3_]
        rfl
      refine take_ (i := 29) (N := some 43) (v := ?_) (a' := ?_) (mkM 42 43754979519) rfl rfl (by kernel_rfl) (fun _ _ _ h => h) (Or.inl ⟨by rfl, ?_⟩) hHeld ?_ ?_
      rotate_left
      · rintro w' ⟨s0, s1, s2, s3, s4, s5, s6, s7, s8, s9⟩
        go_simp
        with_reducible rfl
      rotate_left
      · simp only [Act.put, s1_, s2_, s3_]
        rfl
      refine take_ (i := 34) (N := some 48) (v := ?_) (a' := ?_) (mkM 42 60934848703) rfl rfl (by kernel_rfl) (fun _ _ _ h => h) (Or.inl ⟨by rfl, ?_⟩) hHeld ?_ ?_
      rotate_left
      · rintro w' ⟨s0, s1, s2, s3, s4, s5, s6, s7, s8, s9⟩
        go_simp
        with_reducible rfl
      rotate_left
      · simp only [Act.put, s1_, s2_, s3_]
        rfl
      refine take_ (i := 36) (N := some 50) (v := ?_) (a' := ?_) (mkM 42 129654325439) rfl rfl (by kernel_rfl) (fun _ _ _ h => h) (Or.inl ⟨by rfl, ?_⟩) hHeld ?_ ?_
      rotate_left
      · rintro w' ⟨s0, s1, s2, s3, s4, s5, s6, s7, s8, s9⟩
        go_simp
        with_reducible rfl
      rotate_left
      · simp only [Act.put, s1_, s2_, s3_]
        rfl
      refine one_ (i := 6) (N := some 20) (mkM 42 129654325503) rfl rfl (by kernel_rfl) (by decide) (fun K hK => ?_)
      refine goes_ Try.func25 (by kernel_rfl) rfl #[.int .u64 start, .int .u64 time, .slice aa an ac] (by rfl) rfl rfl (by simp only [List.map_toArray, List.map_cons, List.map_nil]; rfl) ?_
      with_reducible refine (HC.out _ HB.out).mono ?_
      rintro e w2 ⟨rfl, hb⟩
      refine ⟨_, rfl, ?_⟩
      replace HB := Aside0.mk (below_next HB.out hb)
      replace HX := Aside0.mk (HX.out.below hb)
      clear hb
      refine hK.out _ _ ⟨HX.out.c0, HX.out.c1, HX.out.c2, HX.out.c3, HX.out.c6, HX.out.c7, HX.out.c8, HX.out.c9, HX.out.c10, HX.out.c11⟩ (fun hHeld => ?_)
      clear hK K
      refine norm_ (a' := ?_) ?_ ?_
      rotate_left
      · show Act.put _ (some 20) _ = _
        simp only [Act.put, s1_, s2_, s3_]
        rfl
      refine pure_ (i := 8) (N := some 22) (v := ?_) (a' := ?_) (mkM 42 129654325759) rfl rfl (by kernel_rfl) (fun _ _ _ h => h) (Or.inl ⟨by rfl, ?_⟩) ?_ ?_
      rotate_left
      · intro w'
        go_simp
        with_reducible rfl
      rotate_left
      · simp only [Act.put, s1_, s2_, s3_]
        rfl
      refine pure_ (i := 9) (N := some 23) (v := ?_) (a' := ?_) (mkM 42 129654326271) rfl rfl (by kernel_rfl) (fun _ _ _ h => h) (Or.inl ⟨by rfl, ?_⟩) ?_ ?_
      rotate_left
      · intro w'
        go_simp
        with_reducible rfl
      rotate_left
      · simp only [Act.put, s1_, s2_, s3_]
        rfl
      refine pure_ (i := 12) (N := some 26) (v := ?_) (a' := ?_) (mkM 42 129654330367) rfl rfl (by kernel_rfl) (fun _ _ _ h => h) (Or.inl ⟨by rfl, ?_⟩) ?_ ?_
      rotate_left
      · intro w'
        go_simp
        with_reducible rfl
      rotate_left
      · simp only [Act.put, s1_, s2_, s3_]
        rfl
      refine take_ (i := 10) (N := some 24) (v := ?_) (a' := ?_) (mkM 42 129654331391) rfl rfl (by kernel_rfl) (fun _ _ _ h => h) (Or.inl ⟨by rfl, ?_⟩) hHeld ?_ ?_
      rotate_left
      · rintro w' ⟨s0, s1, s2, s3, s4, s5, s6, s7, s8, s9⟩
        go_simp
        with_reducible rfl
      rotate_left
      · simp only [Act.put, s1_, s2_, s3_]
        rfl
      refine pure_ (i := 11) (N := some 25) (v := ?_) (a' := ?_) (mkM 42 129654333439) rfl rfl (by kernel_rfl) (fun _ _ _ h => h) (Or.inl ⟨by rfl, ?_⟩) ?_ ?_
      rotate_left
      · intro w'
        go_simp
        with_reducible rfl
      rotate_left
      · simp only [Act.put, s1_, s2_, s3_]
        rfl
      refine take_ (i := 13) (N := some 27) (v := ?_) (a' := ?_) (mkM 42 129654341631) rfl rfl (by kernel_rfl) (fun _ _ _ h => h) (Or.inl ⟨by rfl, ?_⟩) hHeld ?_ ?_
      rotate_left
      · rintro w' ⟨s0, s1, s2, s3, s4, s5, s6, s7, s8, s9⟩
        go_simp
        with_reducible rfl
      rotate_left
      · simp only [Act.put, s1_, s2_, s3_]
        rfl
      refine pure_ (i := 14) (N := some 28) (v := ?_) (a' := ?_) (mkM 42 129654358015) rfl rfl (by kernel_rfl) (fun _ _ _ h => h) (Or.inl ⟨by rfl, ?_⟩) ?_ ?_
      rotate_left
      · intro w'
        go_simp
        with_reducible rfl
      rotate_left
      · simp only [Act.put, s1_, s2_, s3_]
        rfl
      refine pure_ (i := 15) (N := some 29) (v := ?_) (a' := ?_) (mkM 42 129654390783) rfl rfl (by kernel_rfl) (fun _ _ _ h => h) (Or.inl ⟨by rfl, ?_⟩) ?_ ?_
      rotate_left
      · intro w'
        go_simp
        with_reducible rfl
      rotate_left
      · simp only [Act.put, s1_, s2_, s3_, i64_w]
        rfl
      refine pure_ (i := 16) (N := some 30) (v := ?_) (a' := ?_) (mkM 42 129654456319) rfl rfl (by kernel_rfl) (fun _ _ _ h => h) (Or.inl ⟨by rfl, ?_⟩) ?_ ?_
      rotate_left
      · intro w'
        go_simp
        with_reducible rfl
      rotate_left
      · simp only [Act.put, s1_, s2_, s3_]
        rfl
      refine pure_ (i := 17) (N := some 31) (v := ?_) (a' := ?_) (mkM 42 129654587391) rfl rfl (by kernel_rfl) (fun _ _ _ h => h) (Or.inl ⟨by rfl, ?_⟩) ?_ ?_
      rotate_left
      · intro w'
        go_simp
        with_reducible rfl
      rotate_left
      · simp only [Act.put, s1_, s2_, s3_]
        rfl
      refine pure_ (i := 18) (N := some 32) (v := ?_) (a' := ?_) (mkM 42 129654849535) rfl rfl (by kernel_rfl) (fun _ _ _ h => h) (Or.inl ⟨by rfl, ?_⟩) ?_ ?_
      rotate_left
      · intro w'
        go_simp
        with_reducible rfl
      rotate_left
      · simp only [Act.put, s1_, s2_, s3_]
        rfl
      refine pure_ (i := 20) (N := some 34) (v := ?_) (a' := ?_) (mkM 42 129655898111) rfl rfl (by kernel_rfl) (fun _ _ _ h => h) (Or.inl ⟨by rfl, ?_⟩) ?_ ?_
      rotate_left
      · intro w'
        go_simp
        with_reducible rfl
      rotate_left
      · simp only [Act.put, s1_, s2_, s3_]
        rfl
      refine take_ (i := 19) (N := some 33) (v := ?_) (a' := ?_) (mkM 42 129656422399) rfl rfl (by kernel_rfl) (fun _ _ _ h => h) (Or.inl ⟨by rfl, ?_⟩) hHeld ?_ ?_
      rotate_left
      · rintro w' ⟨s0, s1, s2, s3, s4, s5, s6, s7, s8, s9⟩
        go_simp
        with_reducible rfl
      rotate_left
      · simp only [Act.put, s1_, s2_, s3_]
        rfl
      refine take_ (i := 21) (N := some 35) (v := ?_) (a' := ?_) (mkM 42 129658519551) rfl rfl (by kernel_rfl) (fun _ _ _ h => h) (Or.inl ⟨by rfl, ?_⟩) hHeld ?_ ?_
      rotate_left
      · rintro w' ⟨s0, s1, s2, s3, s4, s5, s6, s7, s8, s9⟩
        go_simp
        with_reducible rfl
      rotate_left
      · simp only [Act.put, s1_, s2_, s3_]
        rfl
      refine one_ (i := 22) (N := some 36) (mkM 42 129662713855) rfl rfl (by kernel_rfl) (by decide) (fun K hK => ?_)
      refine value_ (w1 := ?_) (v := ?_) (by rfl) rfl ?_ ?_
      rotate_left 2
      · go_simp
        constructor
        · rfl
        · rfl
      have hBA := fun o => (Below.refl w2.heap.size w2).alloc (Nat.le_refl _) o
      refine hK.out _ _ ⟨(HX.out.below (hBA _)).c0, (HX.out.below (hBA _)).c1, (HX.out.below (hBA _)).c2, (HX.out.below (hBA _)).c3, (HX.out.below (hBA _)).c6, (HX.out.below (hBA _)).c7, (HX.out.below (hBA _)).c8, (HX.out.below (hBA _)).c9, (HX.out.below (hBA _)).c10, (HX.out.below (hBA _)).c11⟩ (fun hHeld => ?_)
      clear hK K
      refine norm_ (a' := ?_) ?_ ?_
      rotate_left
      · show Act.put _ (some 36) _ = _
        simp only [Act.put, s1_, s2_, s3_]
        rfl
      refine one_ (i := 23) (N := some 37) (mkM 42 129671102463) rfl rfl (by kernel_rfl) (by decide) (fun K hK => ?_)
      refine goes_ Try.func27 (by kernel_rfl) rfl #[.int .u64 count, .slice (some ⟨w2.heap.size, 0, none⟩) 1 1] (by rfl) rfl rfl (by simp only [List.map_toArray, List.map_cons, List.map_nil]; rfl) ?_
      with_reducible refine (HA.out _ HB.out _).mono ?_
      rintro e w3 ⟨rfl, hb⟩
      refine ⟨_, rfl, ?_⟩
      clear hBA
      replace HB := Aside0.mk (below_next HB.out hb)
      replace HX := Aside0.mk (HX.out.below hb)
      clear hb
      refine hK.out _ _ ⟨HX.out.c0, HX.out.c1, HX.out.c2, HX.out.c3, HX.out.c6, HX.out.c7, HX.out.c8, HX.out.c9, HX.out.c10, HX.out.c11⟩ (fun hHeld => ?_)
      clear hK K
      refine norm_ (a' := ?_) ?_ ?_
      rotate_left
      · show Act.put _ (some 37) _ = _
        simp only [Act.put, s1_, s2_, s3_]
        rfl
      refine pure_ (i := 24) (N := some 38) (v := ?_) (a' := ?_) (mkM 42 129687879679) rfl rfl (by kernel_rfl) (fun _ _ _ h => h) (Or.inl ⟨by rfl, ?_⟩) ?_ ?_
      rotate_left
      · intro w'
        go_simp
        with_reducible rfl
      rotate_left
      · simp only [Act.put, s1_, s2_, s3_]
        rfl
      refine pure_ (i := 25) (N := some 39) (v := ?_) (a' := ?_) (mkM 42 129721434111) rfl rfl (by kernel_rfl) (fun _ _ _ h => h) (Or.inl ⟨by rfl, ?_⟩) ?_ ?_
      rotate_left
      · intro w'
        go_simp
        with_reducible rfl
      rotate_left
      · simp only [Act.put, s1_, s2_, s3_]
        rfl
      refine pure_ (i := 26) (N := some 40) (v := ?_) (a' := ?_) (mkM 42 129788542975) rfl rfl (by kernel_rfl) (fun _ _ _ h => h) (Or.inl ⟨by rfl, ?_⟩) ?_ ?_
      rotate_left
      · intro w'
        go_simp
        with_reducible rfl
      rotate_left
      · simp only [Act.put, s1_, s2_, s3_]
        rfl
      refine one_ (i := 27) (N := some 41) (mkM 42 129922760703) rfl rfl (by kernel_rfl) (by decide) (fun K hK => ?_)
      refine goes_ Try.func26 (by kernel_rfl) rfl #[.bool (!ad), .int .i64 8] (by rfl) rfl rfl (by simp only [List.map_toArray, List.map_cons, List.map_nil]; rfl) ?_
      with_reducible refine (when_b _ _ _).mono ?_
      rintro e w4 ⟨rfl, hb⟩
      refine ⟨_, rfl, ?_⟩
      replace HB := Aside0.mk (below_next HB.out hb)
      replace HX := Aside0.mk (HX.out.below hb)
      clear hb
      refine hK.out _ _ ⟨HX.out.c0, HX.out.c1, HX.out.c2, HX.out.c3, HX.out.c6, HX.out.c7, HX.out.c8, HX.out.c9, HX.out.c10, HX.out.c11⟩ (fun hHeld => ?_)
      clear hK K
      refine norm_ (a' := ?_) ?_ ?_
      rotate_left
      · show Act.put _ (some 41) _ = _
        simp only [Act.put, s1_, s2_, s3_]
        rfl
      refine one_ (i := 30) (N := some 44) (mkM 42 130996502527) rfl rfl (by kernel_rfl) (by decide) (fun K hK => ?_)
      refine goes_ Try.func28 (by kernel_rfl) rfl #[.slice ba bn bc] (by rfl) rfl rfl (by simp only [List.map_toArray, List.map_cons, List.map_nil]; rfl) ?_
      with_reducible refine (HRI.out _ HB.out).mono ?_
      rintro e w5 ⟨rfl, hb⟩
      refine ⟨_, rfl, ?_⟩
      replace HB := Aside0.mk (below_next HB.out hb)
      replace HX := Aside0.mk (HX.out.below hb)
      clear hb
      refine hK.out _ _ ⟨HX.out.c0, HX.out.c1, HX.out.c2, HX.out.c3, HX.out.c6, HX.out.c7, HX.out.c8, HX.out.c9, HX.out.c10, HX.out.c11⟩ (fun hHeld => ?_)
      clear hK K
      refine norm_ (a' := ?_) ?_ ?_
      rotate_left
      · show Act.put _ (some 44) _ = _
        simp only [Act.put, s1_, s2_, s3_]
        rfl
      refine pure_ (i := 31) (N := some 45) (v := ?_) (a' := ?_) (mkM 42 133143986175) rfl rfl (by kernel_rfl) (fun _ _ _ h => h) (Or.inl ⟨by rfl, ?_⟩) ?_ ?_
      rotate_left
      · intro w'
        go_simp
        with_reducible rfl
      rotate_left
      · simp only [Act.put, s1_, s2_, s3_]
        rfl
      refine one_ (i := 32) (N := some 46) (mkM 42 137438953471) rfl rfl (by kernel_rfl) (by decide) (fun K hK => ?_)
      refine goes_ Try.func26 (by kernel_rfl) rfl #[.bool (!ri), .int .i64 9] (by rfl) rfl rfl (by simp only [List.map_toArray, List.map_cons, List.map_nil]; rfl) ?_
      with_reducible refine (when_b _ _ _).mono ?_
      rintro e w6 ⟨rfl, hb⟩
      refine ⟨_, rfl, ?_⟩
      replace HB := Aside0.mk (below_next HB.out hb)
      replace HX := Aside0.mk (HX.out.below hb)
      clear hb
      refine hK.out _ _ ⟨HX.out.c0, HX.out.c1, HX.out.c2, HX.out.c3, HX.out.c6, HX.out.c7, HX.out.c8, HX.out.c9, HX.out.c10, HX.out.c11⟩ (fun hHeld => ?_)
      clear hK K
      refine norm_ (a' := ?_) ?_ ?_
      rotate_left
      · show Act.put _ (some 46) _ = _
        simp only [Act.put, s1_, s2_, s3_]
        rfl
      refine one_ (i := 37) (N := some 51) (mkM 42 274877906943) rfl rfl (by kernel_rfl) (by decide) (fun K hK => ?_)
      refine goes_ Try.func29 (by kernel_rfl) rfl #[.agg #[.bool mnh, .int .u64 mnn], .agg #[.bool mxh, .int .u64 mxn]] (by rfl) rfl rfl (by simp only [List.map_toArray, List.map_cons, List.map_nil]; rfl) ?_
      with_reducible refine (up_any _ _ _ _ _).mono ?_
      rintro e w7 ⟨rfl, hb⟩
      refine ⟨_, rfl, ?_⟩
      replace HB := Aside0.mk (below_next HB.out hb)
      replace HX := Aside0.mk (HX.out.below hb)
      clear hb
      refine hK.out _ _ ⟨HX.out.c0, HX.out.c1, HX.out.c2, HX.out.c3, HX.out.c6, HX.out.c7, HX.out.c8, HX.out.c9, HX.out.c10, HX.out.c11⟩ (fun hHeld => ?_)
      clear hK K
      refine norm_ (a' := ?_) ?_ ?_
      rotate_left
      · show Act.put _ (some 51) _ = _
        simp only [Act.put, s1_, s2_, s3_]
        rfl
      refine one_ (i := 38) (N := some 52) (mkM 42 549755813887) rfl rfl (by kernel_rfl) (by decide) (fun K hK => ?_)
      refine goes_ Try.func26 (by kernel_rfl) rfl #[.bool (upB mnh mnn mxh mxn), .int .i64 11] (by rfl) rfl rfl (by simp only [List.map_toArray, List.map_cons, List.map_nil]; rfl) ?_
      with_reducible refine (when_b _ _ _).mono ?_
      rintro e w8 ⟨rfl, hb⟩
      refine ⟨_, rfl, ?_⟩
      replace HB := Aside0.mk (below_next HB.out hb)
      replace HX := Aside0.mk (HX.out.below hb)
      clear hb
      refine hK.out _ _ ⟨HX.out.c0, HX.out.c1, HX.out.c2, HX.out.c3, HX.out.c6, HX.out.c7, HX.out.c8, HX.out.c9, HX.out.c10, HX.out.c11⟩ (fun hHeld => ?_)
      clear hK K
      refine norm_ (a' := ?_) ?_ ?_
      rotate_left
      · show Act.put _ (some 52) _ = _
        simp only [Act.put, s1_, s2_, s3_]
        rfl
      refine one_ (i := 39) (N := some 53) (mkM 42 1099511627775) rfl rfl (by kernel_rfl) (by decide) (fun K hK => ?_)
      refine value_ (w1 := ?_) (v := ?_) (by rfl) rfl ?_ ?_
      rotate_left 2
      · go_simp
        constructor
        · rfl
        · rfl
      have hBA := fun o => (Below.refl w8.heap.size w8).alloc (Nat.le_refl _) o
      have HO4 := fun e => or4_any w8 cm (whn (!ad) 8) (whn (!ri) 9) (whn (upB mnh mnn mxh mxn) 11) e
      refine hK.out _ _ ⟨(HX.out.below (hBA _)).c0, (HX.out.below (hBA _)).c1, (HX.out.below (hBA _)).c2, (HX.out.below (hBA _)).c3, (HX.out.below (hBA _)).c6, (HX.out.below (hBA _)).c7, (HX.out.below (hBA _)).c8, (HX.out.below (hBA _)).c9, (HX.out.below (hBA _)).c10, (HX.out.below (hBA _)).c11⟩ (fun hHeld => ?_)
      clear hK K
      refine norm_ (a' := ?_) ?_ ?_
      rotate_left
      · show Act.put _ (some 53) _ = _
        simp only [Act.put, s1_, s2_, s3_]
        rfl
      refine one_ (i := 40) (N := some 54) (mkM 42 2199023255551) rfl rfl (by kernel_rfl) (by decide) (fun K hK => ?_)
      refine goes_ Try.func24 (by kernel_rfl) rfl #[.slice (some ⟨w8.heap.size, 0, none⟩) 4 4] (by rfl) rfl rfl (by simp only [List.map_toArray, List.map_cons, List.map_nil]; rfl) ?_
      with_reducible refine (HO4 _).mono ?_
      rintro e w9 ⟨rfl, hb⟩
      refine ⟨_, rfl, ?_⟩
      clear hBA HO4
      replace HB := Aside0.mk (below_next HB.out hb)
      replace HX := Aside0.mk (HX.out.below hb)
      clear hb
      refine hK.out _ _ ⟨HX.out.c0, HX.out.c1, HX.out.c2, HX.out.c3, HX.out.c6, HX.out.c7, HX.out.c8, HX.out.c9, HX.out.c10, HX.out.c11⟩ (fun hHeld => ?_)
      clear hK K
      refine norm_ (a' := ?_) ?_ ?_
      rotate_left
      · show Act.put _ (some 54) _ = _
        simp only [Act.put, s1_, s2_, s3_]
        rfl
      refine pure_ (i := 41) (N := some 2) (v := ?_) (a' := ?_) (mkM 42 4398046511103) rfl rfl (by kernel_rfl) (fun _ _ _ h => h) (Or.inl ⟨by rfl, ?_⟩) ?_ ?_
      rotate_left
      · intro w'
        go_simp
        with_reducible rfl
      rotate_left
      · simp only [Act.put, s1_, s2_, s3_]
        rfl
      refine done_ (by kernel_rfl) ?_
      clear hHeld
      go_wp2_with fail
      go_ret
      exact ⟨rfl, HB.out⟩
    · have hne : ((cn : Int) != wrap64 ((bn : Int) + 1)) = true := by unfold misB at hm; simpa using hm
      have HNE := Aside0.mk hne
      clear hm hne
      simp only [Bool.true_and, Bool.true_or]
      go_enter Try.func8, Try.ntmps8
      go_upto_region 1 with fail
      have hx1 : XH (w.alloc (.cells #[.slice aa an ac, .int .u64 start, .int .u64 time, .int .u64 count, .bool sh, .int .u64 sn, .bool mnh, .int .u64 mnn, .bool mxh, .int .u64 mxn, .slice ca cn cc, .slice ba bn bc, .slice ea en ec, .int .u32 flags, .string unk] 30)) w.heap.size ⟨⟨aa, an, ac⟩, start, time, count, ⟨sh, sn⟩, ⟨mnh, mnn⟩, ⟨mxh, mxn⟩, ⟨ca, cn, cc⟩, ⟨ba, bn, bc⟩, ⟨ea, en, ec⟩, flags, unk⟩ := ⟨heap_alloc_new w _⟩
      have HX := Aside0.mk hx1
      have HB : Aside0 (Below w.heap.size w (w.alloc (.cells #[.slice aa an ac, .int .u64 start, .int .u64 time, .int .u64 count, .bool sh, .int .u64 sn, .bool mnh, .int .u64 mnn, .bool mxh, .int .u64 mxn, .slice ca cn cc, .slice ba bn bc, .slice ea en ec, .int .u32 flags, .string unk] 30))) := ⟨(Below.refl w.heap.size w).alloc (Nat.le_refl _) _⟩
      have p10 := hx1.c10
      have p11 := hx1.c11
      clear hx1
      generalize w.alloc (.cells #[.slice aa an ac, .int .u64 start, .int .u64 time, .int .u64 count, .bool sh, .int .u64 sn, .bool mnh, .int .u64 mnn, .bool mxh, .int .u64 mxn, .slice ca cn cc, .slice ba bn bc, .slice ea en ec, .int .u32 flags, .string unk] 30) = w1 at *
      generalize hgg : w.heap.size = g at HX p10 p11 ⊢
      have HGG := Aside0.mk hgg
      clear hgg
      go_wp2_with fail
      have HXn : Aside0 (XH w1.drew g ⟨⟨aa, an, ac⟩, start, time, count, ⟨sh, sn⟩, ⟨mnh, mnn⟩, ⟨mxh, mxn⟩, ⟨ca, cn, cc⟩, ⟨ba, bn, bc⟩, ⟨ea, en, ec⟩, flags, unk⟩) := ⟨⟨HX.out.blk⟩⟩
      have HBn : Aside0 (Below w.heap.size w w1.drew) := ⟨below_drew1 HB.out⟩
      clear HX HB p10 p11
      have HX := HXn
      have HB := HBn
      clear HXn HBn
      have z25 := Try.sizeOf25
      have hne := HNE.out
      refine start_ (n := 42) (S := fun w' => w'.cell? ⟨g, 0, none⟩ = some (.slice aa an ac) ∧ w'.cell? ⟨g, 1, none⟩ = some (.int .u64 start) ∧ w'.cell? ⟨g, 2, none⟩ = some (.int .u64 time) ∧ w'.cell? ⟨g, 3, none⟩ = some (.int .u64 count) ∧ w'.cell? ⟨g, 6, none⟩ = some (.bool mnh) ∧ w'.cell? ⟨g, 7, none⟩ = some (.int .u64 mnn) ∧ w'.cell? ⟨g, 8, none⟩ = some (.bool mxh) ∧ w'.cell? ⟨g, 9, none⟩ = some (.int .u64 mxn) ∧ w'.cell? ⟨g, 10, none⟩ = some (.slice ca cn cc) ∧ w'.cell? ⟨g, 11, none⟩ = some (.slice ba bn bc)) (ds := []) #[false, false, false, false, false, false, false, false, false, false, false, false, false, false, false, false, false, false, false, false, false, false, false, false, false, false, false, false, false, false, false, false, false, false, false, false, false, false, false, false, false, false] (by kernel_rfl) rfl rfl ⟨HX.out.c0, HX.out.c1, HX.out.c2, HX.out.c3, HX.out.c6, HX.out.c7, HX.out.c8, HX.out.c9, HX.out.c10, HX.out.c11⟩ (fun hHeld => ?_)
      refine pure_ (i := 0) (N := some 14) (v := ?_) (a' := ?_) (mkM 42 1) rfl rfl (by kernel_rfl) (fun _ _ _ h => h) (Or.inl ⟨by rfl, ?_⟩) ?_ ?_
      rotate_left
      · intro w'
        go_simp
        with_reducible rfl
      rotate_left
      · simp only [Act.put, s1_, s2_, s3_]
        rfl
      refine pure_ (i := 2) (N := some 16) (v := ?_) (a' := ?_) (mkM 42 5) rfl rfl (by kernel_rfl) (fun _ _ _ h => h) (Or.inl ⟨by rfl, ?_⟩) ?_ ?_
      rotate_left
      · intro w'
        go_simp
        with_reducible rfl
      rotate_left
      · simp only [Act.put, s1_, s2_, s3_]
        rfl
      refine pure_ (i := 4) (N := some 18) (v := ?_) (a' := ?_) (mkM 42 21) rfl rfl (by kernel_rfl) (fun _ _ _ h => h) (Or.inl ⟨by rfl, ?_⟩) ?_ ?_
      rotate_left
      · intro w'
        go_simp
        with_reducible rfl
      rotate_left
      · simp only [Act.put, s1_, s2_, s3_]
        rfl
      refine pure_ (i := 7) (N := some 21) (v := ?_) (a' := ?_) (mkM 42 149) rfl rfl (by kernel_rfl) (fun _ _ _ h => h) (Or.inl ⟨by rfl, ?_⟩) ?_ ?_
      rotate_left
      · intro w'
        go_simp
        with_reducible rfl
      rotate_left
      · simp only [Act.put, s1_, s2_, s3_]
        rfl
      refine pure_ (i := 28) (N := some 42) (v := ?_) (a' := ?_) (mkM 42 268435605) rfl rfl (by kernel_rfl) (fun _ _ _ h => h) (Or.inl ⟨by rfl, ?_⟩) ?_ ?_
      rotate_left
      · intro w'
        go_simp
        with_reducible rfl
      rotate_left
      · simp only [Act.put, s1_, s2_, s3_]
        rfl
      refine pure_ (i := 33) (N := some 47) (v := ?_) (a' := ?_) (mkM 42 8858370197) rfl rfl (by kernel_rfl) (fun _ _ _ h => h) (Or.inl ⟨by rfl, ?_⟩) ?_ ?_
      rotate_left
      · intro w'
        go_simp
        with_reducible rfl
      rotate_left
      · simp only [Act.put, s1_, s2_, s3_]
        rfl
      refine pure_ (i := 35) (N := some 49) (v := ?_) (a' := ?_) (mkM 42 43218108565) rfl rfl (by kernel_rfl) (fun _ _ _ h => h) (Or.inl ⟨by rfl, ?_⟩) ?_ ?_
      rotate_left
      · intro w'
        go_simp
        with_reducible rfl
      rotate_left
      · simp only [Act.put, s1_, s2_, s3_]
        rfl
      refine take_ (i := 1) (N := some 15) (v := ?_) (a' := ?_) (mkM 42 43218108567) rfl rfl (by kernel_rfl) (fun _ _ _ h => h) (Or.inl ⟨by rfl, ?_⟩) hHeld ?_ ?_
      rotate_left
      · rintro w' ⟨s0, s1, s2, s3, s4, s5, s6, s7, s8, s9⟩
        go_simp
        with_reducible rfl
      rotate_left
      · simp only [Act.put, s1_, s2_, s3_]
        rfl
      refine take_ (i := 3) (N := some 17) (v := ?_) (a' := ?_) (mkM 42 43218108575) rfl rfl (by kernel_rfl) (fun _ _ _ h => h) (Or.inl ⟨by rfl, ?_⟩) hHeld ?_ ?_
      rotate_left
      · rintro w' ⟨s0, s1, s2, s3, s4, s5, s6, s7, s8, s9⟩
        go_simp
        with_reducible rfl
      rotate_left
      · simp only [Act.put, s1_, s2_, s3_]
        rfl
      refine take_ (i := 5) (N := some 19) (v := ?_) (a' := ?_) (mkM 42 43218108607) rfl rfl (by kernel_rfl) (fun _ _ _ h => h) (Or.inl ⟨by rfl, ?_⟩) hHeld ?_ ?_
      rotate_left
      · rintro w' ⟨s0, s1, s2, s3, s4, s5, s6, s7, s8, s9⟩
        go_simp
        with_reducible rfl
      rotate_left
      · simp only [Act.put, s1_, s2_, s3_]
        rfl
      refine take_ (i := 29) (N := some 43) (v := ?_) (a' := ?_) (mkM 42 43754979519) rfl rfl (by kernel_rfl) (fun _ _ _ h => h) (Or.inl ⟨by rfl, ?_⟩) hHeld ?_ ?_
      rotate_left
      · rintro w' ⟨s0, s1, s2, s3, s4, s5, s6, s7, s8, s9⟩
        go_simp
        with_reducible rfl
      rotate_left
      · simp only [Act.put, s1_, s2_, s3_]
        rfl
      refine take_ (i := 34) (N := some 48) (v := ?_) (a' := ?_) (mkM 42 60934848703) rfl rfl (by kernel_rfl) (fun _ _ _ h => h) (Or.inl ⟨by rfl, ?_⟩) hHeld ?_ ?_
      rotate_left
      · rintro w' ⟨s0, s1, s2, s3, s4, s5, s6, s7, s8, s9⟩
        go_simp
        with_reducible rfl
      rotate_left
      · simp only [Act.put, s1_, s2_, s3_]
        rfl
      refine take_ (i := 36) (N := some 50) (v := ?_) (a' := ?_) (mkM 42 129654325439) rfl rfl (by kernel_rfl) (fun _ _ _ h => h) (Or.inl ⟨by rfl, ?_⟩) hHeld ?_ ?_
      rotate_left
      · rintro w' ⟨s0, s1, s2, s3, s4, s5, s6, s7, s8, s9⟩
        go_simp
        with_reducible rfl
      rotate_left
      · simp only [Act.put, s1_, s2_, s3_]
        rfl
      refine one_ (i := 6) (N := some 20) (mkM 42 129654325503) rfl rfl (by kernel_rfl) (by decide) (fun K hK => ?_)
      refine goes_ Try.func25 (by kernel_rfl) rfl #[.int .u64 start, .int .u64 time, .slice aa an ac] (by rfl) rfl rfl (by simp only [List.map_toArray, List.map_cons, List.map_nil]; rfl) ?_
      with_reducible refine (HC.out _ HB.out).mono ?_
      rintro e w2 ⟨rfl, hb⟩
      refine ⟨_, rfl, ?_⟩
      replace HB := Aside0.mk (below_next HB.out hb)
      replace HX := Aside0.mk (HX.out.below hb)
      clear hb
      refine hK.out _ _ ⟨HX.out.c0, HX.out.c1, HX.out.c2, HX.out.c3, HX.out.c6, HX.out.c7, HX.out.c8, HX.out.c9, HX.out.c10, HX.out.c11⟩ (fun hHeld => ?_)
      clear hK K
      refine norm_ (a' := ?_) ?_ ?_
      rotate_left
      · show Act.put _ (some 20) _ = _
        simp only [Act.put, s1_, s2_, s3_]
        rfl
      refine pure_ (i := 8) (N := some 22) (v := ?_) (a' := ?_) (mkM 42 129654325759) rfl rfl (by kernel_rfl) (fun _ _ _ h => h) (Or.inl ⟨by rfl, ?_⟩) ?_ ?_
      rotate_left
      · intro w'
        go_simp
        with_reducible rfl
      rotate_left
      · simp only [Act.put, s1_, s2_, s3_]
        rfl
      refine pure_ (i := 9) (N := some 23) (v := ?_) (a' := ?_) (mkM 42 129654326271) rfl rfl (by kernel_rfl) (fun _ _ _ h => h) (Or.inl ⟨by rfl, ?_⟩) ?_ ?_
      rotate_left
      · intro w'
        go_simp
        with_reducible rfl
      rotate_left
      · simp only [Act.put, s1_, s2_, s3_]
        rfl
      refine pure_ (i := 12) (N := some 26) (v := ?_) (a' := ?_) (mkM 42 129654330367) rfl rfl (by kernel_rfl) (fun _ _ _ h => h) (Or.inl ⟨by rfl, ?_⟩) ?_ ?_
      rotate_left
      · intro w'
        go_simp
        with_reducible rfl
      rotate_left
      · simp only [Act.put, s1_, s2_, s3_]
        rfl
      refine take_ (i := 10) (N := some 24) (v := ?_) (a' := ?_) (mkM 42 129654331391) rfl rfl (by kernel_rfl) (fun _ _ _ h => h) (Or.inl ⟨by rfl, ?_⟩) hHeld ?_ ?_
      rotate_left
      · rintro w' ⟨s0, s1, s2, s3, s4, s5, s6, s7, s8, s9⟩
        go_simp
        with_reducible rfl
      rotate_left
      · simp only [Act.put, s1_, s2_, s3_]
        rfl
      refine pure_ (i := 11) (N := some 25) (v := ?_) (a' := ?_) (mkM 42 129654333439) rfl rfl (by kernel_rfl) (fun _ _ _ h => h) (Or.inl ⟨by rfl, ?_⟩) ?_ ?_
      rotate_left
      · intro w'
        go_simp
        with_reducible rfl
      rotate_left
      · simp only [Act.put, s1_, s2_, s3_]
        rfl
      refine take_ (i := 13) (N := some 27) (v := ?_) (a' := ?_) (mkM 42 129654341631) rfl rfl (by kernel_rfl) (fun _ _ _ h => h) (Or.inl ⟨by rfl, ?_⟩) hHeld ?_ ?_
      rotate_left
      · rintro w' ⟨s0, s1, s2, s3, s4, s5, s6, s7, s8, s9⟩
        go_simp
        with_reducible rfl
      rotate_left
      · simp only [Act.put, s1_, s2_, s3_]
        rfl
      refine pure_ (i := 14) (N := some 28) (v := ?_) (a' := ?_) (mkM 42 129654358015) rfl rfl (by kernel_rfl) (fun _ _ _ h => h) (Or.inl ⟨by rfl, ?_⟩) ?_ ?_
      rotate_left
      · intro w'
        go_simp
        with_reducible rfl
      rotate_left
      · simp only [Act.put, s1_, s2_, s3_]
        rfl
      refine pure_ (i := 15) (N := some 29) (v := ?_) (a' := ?_) (mkM 42 129654390783) rfl rfl (by kernel_rfl) (fun _ _ _ h => h) (Or.inl ⟨by rfl, ?_⟩) ?_ ?_
      rotate_left
      · intro w'
        go_simp
        with_reducible rfl
      rotate_left
      · simp only [Act.put, s1_, s2_, s3_, i64_w]
        rfl
      refine pure_ (i := 16) (N := some 30) (v := ?_) (a' := ?_) (mkM 42 129654456319) rfl rfl (by kernel_rfl) (fun _ _ _ h => h) (Or.inl ⟨by rfl, ?_⟩) ?_ ?_
      rotate_left
      · intro w'
        go_simp
        with_reducible rfl
      rotate_left
      · simp only [Act.put, s1_, s2_, s3_]
        rfl
      refine pure_ (i := 17) (N := some 31) (v := ?_) (a' := ?_) (mkM 42 129654587391) rfl rfl (by kernel_rfl) (fun _ _ _ h => h) (Or.inl ⟨by rfl, ?_⟩) ?_ ?_
      rotate_left
      · intro w'
        go_simp
        with_reducible rfl
      rotate_left
      · simp only [Act.put, s1_, s2_, s3_]
        rfl
      refine pure_ (i := 18) (N := some 32) (v := undef) (a' := ?_) (mkM 42 129654849535) rfl rfl (by kernel_rfl) (fun _ _ _ h => h) (Or.inr ⟨by rfl, rfl⟩) ?_ ?_
      rotate_left
      · simp only [Act.put, s1_, s2_, s3_]
        rfl
      refine pure_ (i := 19) (N := some 33) (v := undef) (a' := ?_) (mkM 42 129655373823) rfl rfl (by kernel_rfl) (fun _ _ _ h => h) (Or.inr ⟨by rfl, rfl⟩) ?_ ?_
      rotate_left
      · simp only [Act.put, s1_, s2_, s3_]
        rfl
      refine pure_ (i := 20) (N := some 34) (v := undef) (a' := ?_) (mkM 42 129656422399) rfl rfl (by kernel_rfl) (fun _ _ _ h => h) (Or.inr ⟨by rfl, rfl⟩) ?_ ?_
      rotate_left
      · simp only [Act.put, s1_, s2_, s3_]
        rfl
      refine pure_ (i := 21) (N := some 35) (v := undef) (a' := ?_) (mkM 42 129658519551) rfl rfl (by kernel_rfl) (fun _ _ _ h => h) (Or.inr ⟨by rfl, rfl⟩) ?_ ?_
      rotate_left
      · simp only [Act.put, s1_, s2_, s3_]
        rfl
      refine pure_ (i := 22) (N := some 36) (v := undef) (a' := ?_) (mkM 42 129662713855) rfl rfl (by kernel_rfl) (fun _ _ _ h => h) (Or.inr ⟨by rfl, rfl⟩) ?_ ?_
      rotate_left
      · simp only [Act.put, s1_, s2_, s3_]
        rfl
      refine pure_ (i := 23) (N := some 37) (v := undef) (a' := ?_) (mkM 42 129671102463) rfl rfl (by kernel_rfl) (fun _ _ _ h => h) (Or.inr ⟨by rfl, rfl⟩) ?_ ?_
      rotate_left
      · simp only [Act.put, s1_, s2_, s3_]
        rfl
      refine pure_ (i := 24) (N := some 38) (v := undef) (a' := ?_) (mkM 42 129687879679) rfl rfl (by kernel_rfl) (fun _ _ _ h => h) (Or.inr ⟨by rfl, rfl⟩) ?_ ?_
      rotate_left
      · simp only [Act.put, s1_, s2_, s3_]
        rfl
      refine pure_ (i := 25) (N := some 39) (v := ?_) (a' := ?_) (mkM 42 129721434111) rfl rfl (by kernel_rfl) (fun _ _ _ h => h) (Or.inl ⟨by rfl, ?_⟩) ?_ ?_
      rotate_left
      · intro w'
        go_simp
        with_reducible rfl
      rotate_left
      · simp only [Act.put, s1_, s2_, s3_]
        rfl
      refine pure_ (i := 26) (N := some 40) (v := ?_) (a' := ?_) (mkM 42 129788542975) rfl rfl (by kernel_rfl) (fun _ _ _ h => h) (Or.inl ⟨by rfl, ?_⟩) ?_ ?_
      rotate_left
      · intro w'
        go_simp
        with_reducible rfl
      rotate_left
      · simp only [Act.put, s1_, s2_, s3_]
        rfl
      refine one_ (i := 27) (N := some 41) (mkM 42 129922760703) rfl rfl (by kernel_rfl) (by decide) (fun K hK => ?_)
      refine goes_ Try.func26 (by kernel_rfl) rfl #[.bool true, .int .i64 8] (by rfl) rfl rfl (by simp only [List.map_toArray, List.map_cons, List.map_nil]; rfl) ?_
      with_reducible refine (when_b _ _ _).mono ?_
      rintro e w4 ⟨rfl, hb⟩
      refine ⟨_, rfl, ?_⟩
      replace HB := Aside0.mk (below_next HB.out hb)
      replace HX := Aside0.mk (HX.out.below hb)
      clear hb
      refine hK.out _ _ ⟨HX.out.c0, HX.out.c1, HX.out.c2, HX.out.c3, HX.out.c6, HX.out.c7, HX.out.c8, HX.out.c9, HX.out.c10, HX.out.c11⟩ (fun hHeld => ?_)
      clear hK K
      refine norm_ (a' := ?_) ?_ ?_
      rotate_left
      · show Act.put _ (some 41) _ = _
        simp only [Act.put, s1_, s2_, s3_]
        rfl
      refine one_ (i := 30) (N := some 44) (mkM 42 130996502527) rfl rfl (by kernel_rfl) (by decide) (fun K hK => ?_)
      refine goes_ Try.func28 (by kernel_rfl) rfl #[.slice ba bn bc] (by rfl) rfl rfl (by simp only [List.map_toArray, List.map_cons, List.map_nil]; rfl) ?_
      with_reducible refine (HRI.out _ HB.out).mono ?_
      rintro e w5 ⟨rfl, hb⟩
      refine ⟨_, rfl, ?_⟩
      replace HB := Aside0.mk (below_next HB.out hb)
      replace HX := Aside0.mk (HX.out.below hb)
      clear hb
      refine hK.out _ _ ⟨HX.out.c0, HX.out.c1, HX.out.c2, HX.out.c3, HX.out.c6, HX.out.c7, HX.out.c8, HX.out.c9, HX.out.c10, HX.out.c11⟩ (fun hHeld => ?_)
      clear hK K
      refine norm_ (a' := ?_) ?_ ?_
      rotate_left
      · show Act.put _ (some 44) _ = _
        simp only [Act.put, s1_, s2_, s3_]
        rfl
      refine pure_ (i := 31) (N := some 45) (v := ?_) (a' := ?_) (mkM 42 133143986175) rfl rfl (by kernel_rfl) (fun _ _ _ h => h) (Or.inl ⟨by rfl, ?_⟩) ?_ ?_
      rotate_left
      · intro w'
        go_simp
        with_reducible rfl
      rotate_left
      · simp only [Act.put, s1_, s2_, s3_]
        rfl
      refine one_ (i := 32) (N := some 46) (mkM 42 137438953471) rfl rfl (by kernel_rfl) (by decide) (fun K hK => ?_)
      refine goes_ Try.func26 (by kernel_rfl) rfl #[.bool (!ri), .int .i64 9] (by rfl) rfl rfl (by simp only [List.map_toArray, List.map_cons, List.map_nil]; rfl) ?_
      with_reducible refine (when_b _ _ _).mono ?_
      rintro e w6 ⟨rfl, hb⟩
      refine ⟨_, rfl, ?_⟩
      replace HB := Aside0.mk (below_next HB.out hb)
      replace HX := Aside0.mk (HX.out.below hb)
      clear hb
      refine hK.out _ _ ⟨HX.out.c0, HX.out.c1, HX.out.c2, HX.out.c3, HX.out.c6, HX.out.c7, HX.out.c8, HX.out.c9, HX.out.c10, HX.out.c11⟩ (fun hHeld => ?_)
      clear hK K
      refine norm_ (a' := ?_) ?_ ?_
      rotate_left
      · show Act.put _ (some 46) _ = _
        simp only [Act.put, s1_, s2_, s3_]
        rfl
      refine one_ (i := 37) (N := some 51) (mkM 42 274877906943) rfl rfl (by kernel_rfl) (by decide) (fun K hK => ?_)
      refine goes_ Try.func29 (by kernel_rfl) rfl #[.agg #[.bool mnh, .int .u64 mnn], .agg #[.bool mxh, .int .u64 mxn]] (by rfl) rfl rfl (by simp only [List.map_toArray, List.map_cons, List.map_nil]; rfl) ?_
      with_reducible refine (up_any _ _ _ _ _).mono ?_
      rintro e w7 ⟨rfl, hb⟩
      refine ⟨_, rfl, ?_⟩
      replace HB := Aside0.mk (below_next HB.out hb)
      replace HX := Aside0.mk (HX.out.below hb)
      clear hb
      refine hK.out _ _ ⟨HX.out.c0, HX.out.c1, HX.out.c2, HX.out.c3, HX.out.c6, HX.out.c7, HX.out.c8, HX.out.c9, HX.out.c10, HX.out.c11⟩ (fun hHeld => ?_)
      clear hK K
      refine norm_ (a' := ?_) ?_ ?_
      rotate_left
      · show Act.put _ (some 51) _ = _
        simp only [Act.put, s1_, s2_, s3_]
        rfl
      refine one_ (i := 38) (N := some 52) (mkM 42 549755813887) rfl rfl (by kernel_rfl) (by decide) (fun K hK => ?_)
      refine goes_ Try.func26 (by kernel_rfl) rfl #[.bool (upB mnh mnn mxh mxn), .int .i64 11] (by rfl) rfl rfl (by simp only [List.map_toArray, List.map_cons, List.map_nil]; rfl) ?_
      with_reducible refine (when_b _ _ _).mono ?_
      rintro e w8 ⟨rfl, hb⟩
      refine ⟨_, rfl, ?_⟩
      replace HB := Aside0.mk (below_next HB.out hb)
      replace HX := Aside0.mk (HX.out.below hb)
      clear hb
      refine hK.out _ _ ⟨HX.out.c0, HX.out.c1, HX.out.c2, HX.out.c3, HX.out.c6, HX.out.c7, HX.out.c8, HX.out.c9, HX.out.c10, HX.out.c11⟩ (fun hHeld => ?_)
      clear hK K
      refine norm_ (a' := ?_) ?_ ?_
      rotate_left
      · show Act.put _ (some 52) _ = _
        simp only [Act.put, s1_, s2_, s3_]
        rfl
      refine one_ (i := 39) (N := some 53) (mkM 42 1099511627775) rfl rfl (by kernel_rfl) (by decide) (fun K hK => ?_)
      refine value_ (w1 := ?_) (v := ?_) (by rfl) rfl ?_ ?_
      rotate_left 2
      · go_simp
        constructor
        · rfl
        · rfl
      have hBA := fun o => (Below.refl w8.heap.size w8).alloc (Nat.le_refl _) o
      have HO4 := fun e => or4_any w8 cm (whn true 8) (whn (!ri) 9) (whn (upB mnh mnn mxh mxn) 11) e
      refine hK.out _ _ ⟨(HX.out.below (hBA _)).c0, (HX.out.below (hBA _)).c1, (HX.out.below (hBA _)).c2, (HX.out.below (hBA _)).c3, (HX.out.below (hBA _)).c6, (HX.out.below (hBA _)).c7, (HX.out.below (hBA _)).c8, (HX.out.below (hBA _)).c9, (HX.out.below (hBA _)).c10, (HX.out.below (hBA _)).c11⟩ (fun hHeld => ?_)
      clear hK K
      refine norm_ (a' := ?_) ?_ ?_
      rotate_left
      · show Act.put _ (some 53) _ = _
        simp only [Act.put, s1_, s2_, s3_]
        rfl
      refine one_ (i := 40) (N := some 54) (mkM 42 2199023255551) rfl rfl (by kernel_rfl) (by decide) (fun K hK => ?_)
      refine goes_ Try.func24 (by kernel_rfl) rfl #[.slice (some ⟨w8.heap.size, 0, none⟩) 4 4] (by rfl) rfl rfl (by simp only [List.map_toArray, List.map_cons, List.map_nil]; rfl) ?_
      with_reducible refine (HO4 _).mono ?_
      rintro e w9 ⟨rfl, hb⟩
      refine ⟨_, rfl, ?_⟩
      clear hBA HO4
      replace HB := Aside0.mk (below_next HB.out hb)
      replace HX := Aside0.mk (HX.out.below hb)
      clear hb
      refine hK.out _ _ ⟨HX.out.c0, HX.out.c1, HX.out.c2, HX.out.c3, HX.out.c6, HX.out.c7, HX.out.c8, HX.out.c9, HX.out.c10, HX.out.c11⟩ (fun hHeld => ?_)
      clear hK K
      refine norm_ (a' := ?_) ?_ ?_
      rotate_left
      · show Act.put _ (some 54) _ = _
        simp only [Act.put, s1_, s2_, s3_]
        rfl
      refine pure_ (i := 41) (N := some 2) (v := ?_) (a' := ?_) (mkM 42 4398046511103) rfl rfl (by kernel_rfl) (fun _ _ _ h => h) (Or.inl ⟨by rfl, ?_⟩) ?_ ?_
      rotate_left
      · intro w'
        go_simp
        with_reducible rfl
      rotate_left
      · simp only [Act.put, s1_, s2_, s3_]
        rfl
      refine done_ (by kernel_rfl) ?_
      clear hHeld
      go_wp2_with fail
      go_ret
      exact ⟨rfl, HB.out⟩
end Go.Proofs.Ytdogokcoobpgdaa
namespace Go.Proofs.Ytdogokcoobpgdaa
open Go.RowKit Go.Proofs.YtdogokcoobpgdaaW.PrintWords Go.Proofs.YtdogokcoobpgdaaW.PrintLast Go.Proofs.YtdogokcoobpgdaaW.PrintMore

/-- What an exponential histogram's check tells. -/
def beyB (off : Int) (n : Nat) : Bool := decide (wrap64 (wrap64 (wrap64 off + (n : Int)) - 1) > 2147483647)
def scB (scale : Int) (bp bn : Bool) : Bool := if scale < -10 then true else if 20 < scale then true else bp || bn
def expI (cm : Int) (ad : Bool) (scale : Int) (bp bn up low : Bool) : Int := orL [cm, whn (!ad) 8, whn (scB scale bp bn) 10, whn (up || low) 11]
def lowB (thr : Int) : Bool := if classI thr = 4 then true else lessB thr 0
theorem ns_one (W : World) (z : Int) (e : TypeId) (hz : 0 ≤ z ∧ z < 18446744073709551616) : NsAt (W.alloc (.cells #[.int .u64 z] e)) ⟨some ⟨W.heap.size, 0, none⟩, 1, 1⟩ [z] :=
  ⟨rfl, Nat.le_refl _, (by decide : (1 : Nat) ≤ maxLen), C_lit W .u64 [z] e (by simp), fun x hx => by simp only [List.mem_singleton] at hx; subst hx; exact hz⟩
def LLAt (W : World) (g : Nat) (ls : List (List Int)) : Prop := Kd.C (Kd.slice 23 (Kd.int .u64)) W (some ⟨g, 0, none⟩) ls.length ls
theorem LLAt.below {W w : World} {g : Nat} {ls : List (List Int)} (h : LLAt W g ls) (hb : Below W.heap.size W w) : LLAt w g ls := Kd.C_below h hb
theorem ll_3 (W : World) (s1 s2 s3 : Sl) (l1 l2 l3 : List Int) (e : TypeId) (h1 : NsAt W s1 l1) (h2 : NsAt W s2 l2) (h3 : NsAt W s3 l3) : LLAt (W.alloc (.cells #[.slice s1.a s1.len s1.cap, .slice s2.a s2.len s2.cap, .slice s3.a s3.len s3.cap] e)) W.heap.size [l1, l2, l3] :=
  ll_lit W [s1, s2, s3] [l1, l2, l3] e rfl (by simp) (fun i hi => by
    simp only [List.length_cons, List.length_nil] at hi
    match i, hi with
    | 0, _ => exact h1
    | 1, _ => exact h2
    | 2, _ => exact h3)
theorem adds3_any (W : World) (g : Nat) (want : Int) (l1 l2 l3 : List Int) (hl : ∀ l ∈ [l1, l2, l3], l.length ≤ 9223372036854775807) (h : LLAt W g [l1, l2, l3]) : Calls Try.prog 27 #[.int .u64 want, .slice (some ⟨g, 0, none⟩) 3 3] W fun e w' => e = .returned (.bool (addsB want [l1, l2, l3])) ∧ Below W.heap.size W w' := by
  obtain ⟨k, hk⟩ := adds_f want [l1, l2, l3] (by simp) hl
  exact (CChk.check_adds.calls k want (some ⟨g, 0, none⟩) 3 [l1, l2, l3] _ _ h (Nat.le_refl _) hk).mono fun _ _ ⟨h1, h2⟩ => ⟨h1, h2.below⟩
theorem beyond_any (w : World) (off : Int) (s : Sl) (l : List Int) (u : ByteArray) (h : NsAt w s l) : Calls Try.prog 32 #[.agg #[.int .i32 off, .slice s.a s.len s.cap, .string u]] w fun e w' => e = .returned (.bool (beyB off l.length)) ∧ Below w.heap.size w w' := by
  rw [h.len]
  exact CChk.check_beyond.calls off s.a s.cap l u _ w h.c (by rw [← h.len]; exact h.cap) rfl
end Go.Proofs.Ytdogokcoobpgdaa
namespace Go.Proofs.Ytdogokcoobpgdaa
open Go.RowKit Go.Proofs.YtdogokcoobpgdaaW.PrintWords Go.Proofs.YtdogokcoobpgdaaW.PrintLast Go.Proofs.YtdogokcoobpgdaaW.PrintMore

/-! ### CheckOne's law: one thing that is wrong is told as it -/
theorem whn_0 {b : Bool} {r : Int} (hr : r ≠ 0) (h : whn b r = 0) : b = false := by
  cases b
  · rfl
  · exact absurd h hr
theorem orL_0 {a : Int} {l : List Int} (h : orL (a :: l) = 0) : a = 0 ∧ orL l = 0 := by
  unfold orL at h
  by_cases ha : a = 0
  · rw [if_pos ha] at h; exact ⟨ha, h⟩
  · rw [if_neg ha] at h; exact absurd h ha
theorem comm_0 {s t : Int} {d : Bool} (h : commI s t d = 0) : t ≠ 0 ∧ ¬ t < s ∧ d = false := by
  unfold commI at h
  obtain ⟨h1, h⟩ := orL_0 h
  obtain ⟨h2, h⟩ := orL_0 h
  obtain ⟨h3, h⟩ := orL_0 h
  have e1 := whn_0 (by decide) h1
  have e2 := whn_0 (by decide) h2
  exact ⟨by simpa using e1, by simpa using e2, whn_0 (by decide) h3⟩
theorem comm_dup {s t : Int} (h1 : t ≠ 0) (h2 : ¬ t < s) : commI s t true = 6 := by
  unfold commI
  have e1 : (t == 0) = false := by simpa using h1
  rw [e1, decide_eq_false h2]
  rfl
theorem comm_order {s t : Int} {d : Bool} (h1 : t ≠ 0) (h2 : t < s) : commI s t d = 5 := by
  unfold commI
  have e1 : (t == 0) = false := by simpa using h1
  rw [e1, decide_eq_true h2]
  rfl
theorem comm_time (s : Int) (d : Bool) : commI s 0 d = 4 := rfl
theorem hist_comm {s t c : Int} {d : Bool} {cl bl : List Int} {up : Bool} {r : Int} (h : commI s t d = r) (hr : r ≠ 0) : histI s t c d cl bl up = r := by
  unfold histI orL
  rw [h, if_neg hr]
theorem hist_0 {s t c : Int} {d : Bool} {cl bl : List Int} {up : Bool} (h : histI s t c d cl bl up = 0) : commI s t d = 0 ∧ (0 < cl.length → addsB c [cl] = true ∧ toldB cl.length bl.length = true) := by
  unfold histI at h
  obtain ⟨h1, h⟩ := orL_0 h
  obtain ⟨h2, h⟩ := orL_0 h
  refine ⟨h1, fun hl => ?_⟩
  have ht : toldB cl.length bl.length = true := by unfold toldB; simp; omega
  have e := whn_0 (by decide) h2
  rw [ht] at e
  simp only [Bool.true_and, Bool.or_eq_false_iff, Bool.not_eq_false'] at e
  exact ⟨e.2, ht⟩
theorem hist_total {s t c : Int} {d : Bool} {cl bl : List Int} {up : Bool} (h : commI s t d = 0) (ht : toldB cl.length bl.length = true) (ha : addsB c [cl] = false) : histI s t c d cl bl up = 8 := by
  unfold histI
  rw [h, ht, ha]
  simp [orL, whn]
theorem exp_0 {cm scale : Int} {ad bp bn up low : Bool} (h : expI cm ad scale bp bn up low = 0) : cm = 0 ∧ ad = true := by
  unfold expI at h
  obtain ⟨h1, h⟩ := orL_0 h
  obtain ⟨h2, h⟩ := orL_0 h
  have e := whn_0 (by decide) h2
  exact ⟨h1, by simpa using e⟩
theorem exp_total (scale : Int) (bp bn up low : Bool) : expI 0 false scale bp bn up low = 8 := by
  unfold expI
  simp [orL, whn]
theorem exp_scale (bp bn up low : Bool) : expI 0 true 21 bp bn up low = 10 := by
  unfold expI scB
  simp [orL, whn]
theorem dup_two (l : List Kv) (q q' : Kv) (h : q.key = q'.key) : dupK (l ++ [q, q']) = true := by
  unfold dupK
  simp only [Bool.not_eq_true', decide_eq_false_iff_not]
  intro hn
  rw [List.map_append, List.nodup_append] at hn
  have h2 := hn.2.1
  simp only [List.map_cons, List.map_nil, List.nodup_cons, List.mem_singleton] at h2
  exact h2.1 (by unfold kb; rw [h])
end Go.Proofs.Ytdogokcoobpgdaa
