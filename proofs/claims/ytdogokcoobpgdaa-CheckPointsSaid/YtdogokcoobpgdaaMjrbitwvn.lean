import Derived.Test.YtdogokcoobpgdaaMfcnvqwvf
namespace Go.Proofs.Ytdogokcoobpgdaa
set_option linter.unusedVariables false
set_option linter.unusedSimpArgs false
open Go.RowKit Go.Proofs.YtdogokcoobpgdaaW.PrintWords Go.Proofs.YtdogokcoobpgdaaW.PrintLast Go.Proofs.YtdogokcoobpgdaaW.PrintMore

set_option maxHeartbeats 4000000 in
set_option maxRecDepth 100000 in
theorem exp_lo00 (w : World) (aa : Option Addr) (an ac : Nat) (start time count : Int) (sh : Bool) (sn : Int) (mnh : Bool) (mnn : Int) (mxh : Bool) (mxn scale zero : Int) (hp : Bool) (po : Int) (pa : Option Addr) (pn pc : Nat) (pu : ByteArray) (hn : Bool) (no : Int) (na : Option Addr) (nn nc : Nat) (nu : ByteArray) (ea : Option Addr) (en ec : Nat) (flags thr : Int) (unk : ByteArray) (cm c : Int) (ad bp bn2 up lz : Bool)
    (HZ : Aside0 (0 ≤ zero ∧ zero < 18446744073709551616))
    (HC : Aside0 (∀ w', Below w.heap.size w w' → Calls Try.prog 25 #[.int .u64 start, .int .u64 time, .slice aa an ac] w' fun e w2 => e = .returned (.int .i64 cm) ∧ Below w'.heap.size w' w2))
    (ll : List (List Int))
    (HL : Aside0 (∀ w', Below w.heap.size w w' → ∀ g0, NsAt w' ⟨some ⟨g0, 0, none⟩, 1, 1⟩ [zero] → ∀ e, LLAt (w'.alloc (.cells #[.slice (some ⟨g0, 0, none⟩) 1 1, .slice pa pn pc, .slice na nn nc] e)) w'.heap.size ll))
    (HA : Aside0 (∀ w' g2, LLAt w' g2 ll → Calls Try.prog 27 #[.int .u64 count, .slice (some ⟨g2, 0, none⟩) 3 3] w' fun e w2 => e = .returned (.bool ad) ∧ Below w'.heap.size w' w2))
    (HP : Aside0 (∀ w', Below w.heap.size w w' → Calls Try.prog 32 #[.agg #[.int .i32 po, .slice pa pn pc, .string pu]] w' fun e w2 => e = .returned (.bool bp) ∧ Below w'.heap.size w' w2))
    (HN : Aside0 (∀ w', Below w.heap.size w w' → Calls Try.prog 32 #[.agg #[.int .i32 no, .slice na nn nc, .string nu]] w' fun e w2 => e = .returned (.bool bn2) ∧ Below w'.heap.size w' w2))
    (HU : Aside0 (∀ w', Calls Try.prog 29 #[.agg #[.bool mnh, .int .u64 mnn], .agg #[.bool mxh, .int .u64 mxn]] w' fun e w2 => e = .returned (.bool up) ∧ Below w'.heap.size w' w2))
    (HCL : Aside0 (∀ w', Calls Try.prog 30 #[.int .u64 thr] w' fun e w2 => e = .returned (.int .i64 c) ∧ Drawn0 w' w2)) (HLS : Aside0 (∀ w', Calls Try.prog 31 #[.int .u64 thr, .int .u64 0] w' fun e w2 => e = .returned (.bool lz) ∧ Drawn0 w' w2)) (hs : scale < -10) (hup : up = false) (hcl : ¬ c = 4) :
    Calls Try.prog 9 #[.agg (exqC ⟨⟨aa, an, ac⟩, start, time, count, ⟨sh, sn⟩, ⟨mnh, mnn⟩, ⟨mxh, mxn⟩, scale, zero, hp, ⟨po, ⟨pa, pn, pc⟩, pu⟩, hn, ⟨no, ⟨na, nn, nc⟩, nu⟩, ⟨ea, en, ec⟩, flags, thr, unk⟩).toArray] w fun e w' => e = .returned (.int .i64 (expI cm ad scale bp bn2 up (if c = 4 then true else lz))) ∧ Below w.heap.size w w' := by
  subst hup
  unfold expI scB
  rw [if_pos hs, if_neg hcl]
  simp only [Bool.true_or, Bool.false_or]
  have hce : (c == 4) = false := by simpa using hcl
  clear hcl
  have D : Aside0 (True ∧ scale < -10) := ⟨trivial, hs⟩
  clear hs
  unfold exqC Sl.v
  go_enter Try.func9, Try.ntmps9
  go_upto_region 1 with fail
  have hx1 : XQ (w.alloc (.cells #[.slice aa an ac, .int .u64 start, .int .u64 time, .int .u64 count, .bool sh, .int .u64 sn, .bool mnh, .int .u64 mnn, .bool mxh, .int .u64 mxn, .int .i32 scale, .int .u64 zero, .bool hp, .int .i32 po, .slice pa pn pc, .string pu, .bool hn, .int .i32 no, .slice na nn nc, .string nu, .slice ea en ec, .int .u32 flags, .int .u64 thr, .string unk] 34)) w.heap.size ⟨⟨aa, an, ac⟩, start, time, count, ⟨sh, sn⟩, ⟨mnh, mnn⟩, ⟨mxh, mxn⟩, scale, zero, hp, ⟨po, ⟨pa, pn, pc⟩, pu⟩, hn, ⟨no, ⟨na, nn, nc⟩, nu⟩, ⟨ea, en, ec⟩, flags, thr, unk⟩ := ⟨heap_alloc_new w _⟩
  have HX := Aside0.mk hx1
  have HB : Aside0 (Below w.heap.size w (w.alloc (.cells #[.slice aa an ac, .int .u64 start, .int .u64 time, .int .u64 count, .bool sh, .int .u64 sn, .bool mnh, .int .u64 mnn, .bool mxh, .int .u64 mxn, .int .i32 scale, .int .u64 zero, .bool hp, .int .i32 po, .slice pa pn pc, .string pu, .bool hn, .int .i32 no, .slice na nn nc, .string nu, .slice ea en ec, .int .u32 flags, .int .u64 thr, .string unk] 34))) := ⟨(Below.refl w.heap.size w).alloc (Nat.le_refl _) _⟩
  clear hx1
  generalize w.alloc (.cells #[.slice aa an ac, .int .u64 start, .int .u64 time, .int .u64 count, .bool sh, .int .u64 sn, .bool mnh, .int .u64 mnn, .bool mxh, .int .u64 mxn, .int .i32 scale, .int .u64 zero, .bool hp, .int .i32 po, .slice pa pn pc, .string pu, .bool hn, .int .i32 no, .slice na nn nc, .string nu, .slice ea en ec, .int .u32 flags, .int .u64 thr, .string unk] 34) = w1 at *
  generalize hgg : w.heap.size = g at HX ⊢
  have HGG := Aside0.mk hgg
  have p22 := HX.out.c22
  clear hgg
  go_wp2_with (first
    | (go_at_call 30; refine (HCL.out _).mono ?_; rintro e w' ⟨rfl, ⟨nd, rfl⟩⟩)
    | (go_at_call 31; refine (HLS.out _).mono ?_; rintro e w' ⟨rfl, ⟨nd', rfl⟩⟩))
  have HBn := Aside0.mk (show Below w.heap.size w _ from below_drew1 (pw_below_drewN HB.out (nd + nd')))
  have HXn : Aside0 (XQ (w1.drewN (nd + nd')).drew g ⟨⟨aa, an, ac⟩, start, time, count, ⟨sh, sn⟩, ⟨mnh, mnn⟩, ⟨mxh, mxn⟩, scale, zero, hp, ⟨po, ⟨pa, pn, pc⟩, pu⟩, hn, ⟨no, ⟨na, nn, nc⟩, nu⟩, ⟨ea, en, ec⟩, flags, thr, unk⟩) := ⟨⟨HX.out.blk⟩⟩
  clear HX HB p22
  have HX := HXn
  have HB := HBn
  clear HXn HBn
  generalize (w1.drewN (nd + nd')) = w1 at *
  have z25 := Try.sizeOf25
  have z32 := Try.sizeOf32
  have d1 : decide (scale < -10) = true := by have := D.out; simp; omega
  skip
  refine start_ (n := 53) (S := fun w' => w'.cell? ⟨g, 0, none⟩ = some (.slice aa an ac) ∧ w'.cell? ⟨g, 1, none⟩ = some (.int .u64 start) ∧ w'.cell? ⟨g, 2, none⟩ = some (.int .u64 time) ∧ w'.cell? ⟨g, 3, none⟩ = some (.int .u64 count) ∧ w'.cell? ⟨g, 6, none⟩ = some (.bool mnh) ∧ w'.cell? ⟨g, 7, none⟩ = some (.int .u64 mnn) ∧ w'.cell? ⟨g, 8, none⟩ = some (.bool mxh) ∧ w'.cell? ⟨g, 9, none⟩ = some (.int .u64 mxn) ∧ w'.cell? ⟨g, 10, none⟩ = some (.int .i32 scale) ∧ w'.cell? ⟨g, 11, none⟩ = some (.int .u64 zero) ∧ w'.cell? ⟨g, 13, none⟩ = some (.int .i32 po) ∧ w'.cell? ⟨g, 14, none⟩ = some (.slice pa pn pc) ∧ w'.cell? ⟨g, 15, none⟩ = some (.string pu) ∧ w'.cell? ⟨g, 17, none⟩ = some (.int .i32 no) ∧ w'.cell? ⟨g, 18, none⟩ = some (.slice na nn nc) ∧ w'.cell? ⟨g, 19, none⟩ = some (.string nu)) (ds := []) #[false, false, false, false, false, false, false, false, false, false, false, false, false, false, false, false, false, false, false, false, false, false, false, false, false, false, false, false, false, false, false, false, false, false, false, false, false, false, false, false, false, false, false, false, false, false, false, false, false, false, false, false, false] (by kernel_rfl) rfl rfl ⟨HX.out.c0, HX.out.c1, HX.out.c2, HX.out.c3, HX.out.c6, HX.out.c7, HX.out.c8, HX.out.c9, HX.out.c10, HX.out.c11, HX.out.c13, HX.out.c14, HX.out.c15, HX.out.c17, HX.out.c18, HX.out.c19⟩ (fun hHeld => ?_)
  refine pure_ (i := 0) (N := some 13) (v := ?_) (a' := ?_) (mkM 53 1) rfl rfl (by kernel_rfl) (fun _ _ _ h => h) (Or.inl ⟨by rfl, ?_⟩) ?_ ?_
  rotate_left
  · intro w'
    go_simp
    with_reducible rfl
  rotate_left
  · simp only [Act.put, s1_, s2_, s3_, i64_w, i32_w]
    rfl
  refine pure_ (i := 2) (N := some 15) (v := ?_) (a' := ?_) (mkM 53 5) rfl rfl (by kernel_rfl) (fun _ _ _ h => h) (Or.inl ⟨by rfl, ?_⟩) ?_ ?_
  rotate_left
  · intro w'
    go_simp
    with_reducible rfl
  rotate_left
  · simp only [Act.put, s1_, s2_, s3_, i64_w, i32_w]
    rfl
  refine pure_ (i := 4) (N := some 17) (v := ?_) (a' := ?_) (mkM 53 21) rfl rfl (by kernel_rfl) (fun _ _ _ h => h) (Or.inl ⟨by rfl, ?_⟩) ?_ ?_
  rotate_left
  · intro w'
    go_simp
    with_reducible rfl
  rotate_left
  · simp only [Act.put, s1_, s2_, s3_, i64_w, i32_w]
    rfl
  refine pure_ (i := 7) (N := some 20) (v := ?_) (a' := ?_) (mkM 53 149) rfl rfl (by kernel_rfl) (fun _ _ _ h => h) (Or.inl ⟨by rfl, ?_⟩) ?_ ?_
  rotate_left
  · intro w'
    go_simp
    with_reducible rfl
  rotate_left
  · simp only [Act.put, s1_, s2_, s3_, i64_w, i32_w]
    rfl
  refine pure_ (i := 9) (N := some 22) (v := ?_) (a' := ?_) (mkM 53 661) rfl rfl (by kernel_rfl) (fun _ _ _ h => h) (Or.inl ⟨by rfl, ?_⟩) ?_ ?_
  rotate_left
  · intro w'
    go_simp
    with_reducible rfl
  rotate_left
  · simp only [Act.put, s1_, s2_, s3_, i64_w, i32_w]
    rfl
  refine pure_ (i := 12) (N := some 25) (v := ?_) (a' := ?_) (mkM 53 4757) rfl rfl (by kernel_rfl) (fun _ _ _ h => h) (Or.inl ⟨by rfl, ?_⟩) ?_ ?_
  rotate_left
  · intro w'
    go_simp
    with_reducible rfl
  rotate_left
  · simp only [Act.put, s1_, s2_, s3_, i64_w, i32_w]
    rfl
  refine pure_ (i := 13) (N := some 26) (v := ?_) (a' := ?_) (mkM 53 12949) rfl rfl (by kernel_rfl) (fun _ _ _ h => h) (Or.inl ⟨by rfl, ?_⟩) ?_ ?_
  rotate_left
  · intro w'
    go_simp
    with_reducible rfl
  rotate_left
  · simp only [Act.put, s1_, s2_, s3_, i64_w, i32_w]
    rfl
  refine pure_ (i := 15) (N := some 28) (v := ?_) (a' := ?_) (mkM 53 45717) rfl rfl (by kernel_rfl) (fun _ _ _ h => h) (Or.inl ⟨by rfl, ?_⟩) ?_ ?_
  rotate_left
  · intro w'
    go_simp
    with_reducible rfl
  rotate_left
  · simp only [Act.put, s1_, s2_, s3_, i64_w, i32_w]
    rfl
  refine pure_ (i := 16) (N := some 29) (v := ?_) (a' := ?_) (mkM 53 111253) rfl rfl (by kernel_rfl) (fun _ _ _ h => h) (Or.inl ⟨by rfl, ?_⟩) ?_ ?_
  rotate_left
  · intro w'
    go_simp
    with_reducible rfl
  rotate_left
  · simp only [Act.put, s1_, s2_, s3_, i64_w, i32_w]
    rfl
  refine pure_ (i := 22) (N := some 35) (v := ?_) (a' := ?_) (mkM 53 4305557) rfl rfl (by kernel_rfl) (fun _ _ _ h => h) (Or.inl ⟨by rfl, ?_⟩) ?_ ?_
  rotate_left
  · intro w'
    go_simp
    with_reducible rfl
  rotate_left
  · simp only [Act.put, s1_, s2_, s3_, i64_w, i32_w]
    rfl
  refine pure_ (i := 41) (N := some 54) (v := ?_) (a' := ?_) (mkM 53 2199027561109) rfl rfl (by kernel_rfl) (fun _ _ _ h => h) (Or.inl ⟨by rfl, ?_⟩) ?_ ?_
  rotate_left
  · intro w'
    go_simp
    with_reducible rfl
  rotate_left
  · simp only [Act.put, s1_, s2_, s3_, i64_w, i32_w]
    rfl
  refine pure_ (i := 43) (N := some 56) (v := ?_) (a' := ?_) (mkM 53 10995120583317) rfl rfl (by kernel_rfl) (fun _ _ _ h => h) (Or.inl ⟨by rfl, ?_⟩) ?_ ?_
  rotate_left
  · intro w'
    go_simp
    with_reducible rfl
  rotate_left
  · simp only [Act.put, s1_, s2_, s3_, i64_w, i32_w]
    rfl
  refine take_ (i := 1) (N := some 14) (v := ?_) (a' := ?_) (mkM 53 10995120583319) rfl rfl (by kernel_rfl) (fun _ _ _ h => h) (Or.inl ⟨by rfl, ?_⟩) hHeld ?_ ?_
  rotate_left
  · rintro w' ⟨s0, s1, s2, s3, s4, s5, s6, s7, s8, s9, s10, s11, s12, s13, s14, s15⟩
    go_simp
    with_reducible rfl
  rotate_left
  · simp only [Act.put, s1_, s2_, s3_, i64_w, i32_w]
    rfl
  refine take_ (i := 3) (N := some 16) (v := ?_) (a' := ?_) (mkM 53 10995120583327) rfl rfl (by kernel_rfl) (fun _ _ _ h => h) (Or.inl ⟨by rfl, ?_⟩) hHeld ?_ ?_
  rotate_left
  · rintro w' ⟨s0, s1, s2, s3, s4, s5, s6, s7, s8, s9, s10, s11, s12, s13, s14, s15⟩
    go_simp
    with_reducible rfl
  rotate_left
  · simp only [Act.put, s1_, s2_, s3_, i64_w, i32_w]
    rfl
  refine take_ (i := 5) (N := some 18) (v := ?_) (a' := ?_) (mkM 53 10995120583359) rfl rfl (by kernel_rfl) (fun _ _ _ h => h) (Or.inl ⟨by rfl, ?_⟩) hHeld ?_ ?_
  rotate_left
  · rintro w' ⟨s0, s1, s2, s3, s4, s5, s6, s7, s8, s9, s10, s11, s12, s13, s14, s15⟩
    go_simp
    with_reducible rfl
  rotate_left
  · simp only [Act.put, s1_, s2_, s3_, i64_w, i32_w]
    rfl
  refine take_ (i := 8) (N := some 21) (v := ?_) (a' := ?_) (mkM 53 10995120583615) rfl rfl (by kernel_rfl) (fun _ _ _ h => h) (Or.inl ⟨by rfl, ?_⟩) hHeld ?_ ?_
  rotate_left
  · rintro w' ⟨s0, s1, s2, s3, s4, s5, s6, s7, s8, s9, s10, s11, s12, s13, s14, s15⟩
    go_simp
    with_reducible rfl
  rotate_left
  · simp only [Act.put, s1_, s2_, s3_, i64_w, i32_w]
    rfl
  refine take_ (i := 10) (N := some 23) (v := ?_) (a' := ?_) (mkM 53 10995120584639) rfl rfl (by kernel_rfl) (fun _ _ _ h => h) (Or.inl ⟨by rfl, ?_⟩) hHeld ?_ ?_
  rotate_left
  · rintro w' ⟨s0, s1, s2, s3, s4, s5, s6, s7, s8, s9, s10, s11, s12, s13, s14, s15⟩
    go_simp
    with_reducible rfl
  rotate_left
  · simp only [Act.put, s1_, s2_, s3_, i64_w, i32_w]
    rfl
  refine take_ (i := 14) (N := some 27) (v := ?_) (a' := ?_) (mkM 53 10995120601023) rfl rfl (by kernel_rfl) (fun _ _ _ h => h) (Or.inl ⟨by rfl, ?_⟩) hHeld ?_ ?_
  rotate_left
  · rintro w' ⟨s0, s1, s2, s3, s4, s5, s6, s7, s8, s9, s10, s11, s12, s13, s14, s15⟩
    go_simp
    with_reducible rfl
  rotate_left
  · simp only [Act.put, s1_, s2_, s3_, i64_w, i32_w]
    rfl
  refine take_ (i := 17) (N := some 30) (v := ?_) (a' := ?_) (mkM 53 10995120732095) rfl rfl (by kernel_rfl) (fun _ _ _ h => h) (Or.inl ⟨by rfl, ?_⟩) hHeld ?_ ?_
  rotate_left
  · rintro w' ⟨s0, s1, s2, s3, s4, s5, s6, s7, s8, s9, s10, s11, s12, s13, s14, s15⟩
    go_simp
    with_reducible rfl
  rotate_left
  · simp only [Act.put, s1_, s2_, s3_, i64_w, i32_w]
    rfl
  refine take_ (i := 23) (N := some 36) (v := ?_) (a' := ?_) (mkM 53 10995129120703) rfl rfl (by kernel_rfl) (fun _ _ _ h => h) (Or.inl ⟨by rfl, ?_⟩) hHeld ?_ ?_
  rotate_left
  · rintro w' ⟨s0, s1, s2, s3, s4, s5, s6, s7, s8, s9, s10, s11, s12, s13, s14, s15⟩
    go_simp
    with_reducible rfl
  rotate_left
  · simp only [Act.put, s1_, s2_, s3_, i64_w, i32_w]
    rfl
  refine pure_ (i := 24) (N := some 37) (v := ?_) (a' := ?_) (mkM 53 10995145897919) rfl rfl (by kernel_rfl) (fun _ _ _ h => h) (Or.inl ⟨by rfl, ?_⟩) ?_ ?_
  rotate_left
  · intro w'
    go_simp
    with_reducible rfl
  rotate_left
  · simp only [Act.put, s1_, s2_, s3_, i64_w, i32_w]
    rfl
  refine take_ (i := 42) (N := some 55) (v := ?_) (a' := ?_) (mkM 53 15393192409023) rfl rfl (by kernel_rfl) (fun _ _ _ h => h) (Or.inl ⟨by rfl, ?_⟩) hHeld ?_ ?_
  rotate_left
  · rintro w' ⟨s0, s1, s2, s3, s4, s5, s6, s7, s8, s9, s10, s11, s12, s13, s14, s15⟩
    go_simp
    with_reducible rfl
  rotate_left
  · simp only [Act.put, s1_, s2_, s3_, i64_w, i32_w]
    rfl
  refine take_ (i := 44) (N := some 57) (v := ?_) (a' := ?_) (mkM 53 32985378453439) rfl rfl (by kernel_rfl) (fun _ _ _ h => h) (Or.inl ⟨by rfl, ?_⟩) hHeld ?_ ?_
  rotate_left
  · rintro w' ⟨s0, s1, s2, s3, s4, s5, s6, s7, s8, s9, s10, s11, s12, s13, s14, s15⟩
    go_simp
    with_reducible rfl
  rotate_left
  · simp only [Act.put, s1_, s2_, s3_, i64_w, i32_w]
    rfl
  refine join_ (σ := Nat × Nat) 27 (mkM 53 32985378717695) (fun s => [(19, .int .i64 cm), (24, .slice (some ⟨s.1, 0, none⟩) 1 1), (31, .slice (some ⟨s.2, 0, none⟩) 3 3)]) (fun s w' => Below w.heap.size w w' ∧ XQ w' g ⟨⟨aa, an, ac⟩, start, time, count, ⟨sh, sn⟩, ⟨mnh, mnn⟩, ⟨mxh, mxn⟩, scale, zero, hp, ⟨po, ⟨pa, pn, pc⟩, pu⟩, hn, ⟨no, ⟨na, nn, nc⟩, nu⟩, ⟨ea, en, ec⟩, flags, thr, unk⟩ ∧ LLAt w' s.2 ll) ?_ ?_
  rotate_left
  · intro hCont
    refine two_ (i := 6) (j := 11) (Ni := some 19) (Nj := some 24) (mkM 53 32985378453503) (mkM 53 32985378455487) rfl rfl rfl rfl (by kernel_rfl) (by decide) (by decide) (fun K hK => ?_) (fun K hK => ?_)
    · skip
      refine goes_ Try.func25 (by kernel_rfl) rfl #[.int .u64 start, .int .u64 time, .slice aa an ac] (by rfl) rfl rfl (by simp only [List.map_toArray, List.map_cons, List.map_nil]; rfl) ?_
      with_reducible refine (HC.out _ HB.out).mono ?_
      rintro e w2 ⟨rfl, hb⟩
      refine ⟨_, rfl, ?_⟩
      replace HB := Aside0.mk (below_next HB.out hb)
      replace HX := Aside0.mk (HX.out.below hb)
      clear hb
      refine hK.out _ _ ⟨HX.out.c0, HX.out.c1, HX.out.c2, HX.out.c3, HX.out.c6, HX.out.c7, HX.out.c8, HX.out.c9, HX.out.c10, HX.out.c11, HX.out.c13, HX.out.c14, HX.out.c15, HX.out.c17, HX.out.c18, HX.out.c19⟩ (fun hHeld => ?_)
      clear hK K
      refine norm_ (a' := ?_) ?_ ?_
      rotate_left
      · show Act.put _ (some 19) _ = _
        simp only [Act.put, s1_, s2_, s3_, i64_w, i32_w]
        rfl
      refine one_ (i := 11) (N := some 24) (mkM 53 32985378455551) rfl rfl (by kernel_rfl) (by decide) (fun K hK => ?_)
      refine value_ (w1 := ?_) (v := ?_) (by rfl) rfl ?_ ?_
      rotate_left 2
      · go_simp
        constructor
        · rfl
        · rfl
      have hBA : Below w2.heap.size w2 (w2.alloc (.cells #[.int .u64 zero] 23)) := (Below.refl w2.heap.size w2).alloc (Nat.le_refl _) (.cells #[.int .u64 zero] 23)
      have HNZ := Aside0.mk (show NsAt (w2.alloc (.cells #[.int .u64 zero] 23)) ⟨some ⟨w2.heap.size, 0, none⟩, 1, 1⟩ [zero] from ns_one w2 zero 23 HZ.out)
      replace HB := Aside0.mk (below_next HB.out hBA)
      replace HX := Aside0.mk (HX.out.below hBA)
      clear hBA
      generalize (w2.alloc (.cells #[.int .u64 zero] 23)) = w3 at *
      refine hK.out _ _ ⟨HX.out.c0, HX.out.c1, HX.out.c2, HX.out.c3, HX.out.c6, HX.out.c7, HX.out.c8, HX.out.c9, HX.out.c10, HX.out.c11, HX.out.c13, HX.out.c14, HX.out.c15, HX.out.c17, HX.out.c18, HX.out.c19⟩ (fun hHeld => ?_)
      clear hK K
      refine norm_ (a' := ?_) ?_ ?_
      rotate_left
      · show Act.put _ (some 24) _ = _
        simp only [Act.put, s1_, s2_, s3_, i64_w, i32_w]
        rfl
      refine one_ (i := 18) (N := some 31) (mkM 53 32985378717695) rfl rfl (by kernel_rfl) (by decide) (fun K hK => ?_)
      refine value_ (w1 := ?_) (v := ?_) (by rfl) rfl ?_ ?_
      rotate_left 2
      · go_simp
        constructor
        · rfl
        · rfl
      have hBA : Below w3.heap.size w3 (w3.alloc (.cells #[.slice (some ⟨w2.heap.size, 0, none⟩) 1 1, .slice pa pn pc, .slice na nn nc] 26)) := (Below.refl _ _).alloc (Nat.le_refl _) _
      have HLL := Aside0.mk (HL.out _ HB.out _ HNZ.out 26)
      clear HNZ
      replace HB := Aside0.mk (below_next HB.out hBA)
      replace HX := Aside0.mk (HX.out.below hBA)
      clear hBA
      generalize (w3.alloc (.cells #[.slice (some ⟨w2.heap.size, 0, none⟩) 1 1, .slice pa pn pc, .slice na nn nc] 26)) = w4 at *
      refine hK.out _ _ ⟨HX.out.c0, HX.out.c1, HX.out.c2, HX.out.c3, HX.out.c6, HX.out.c7, HX.out.c8, HX.out.c9, HX.out.c10, HX.out.c11, HX.out.c13, HX.out.c14, HX.out.c15, HX.out.c17, HX.out.c18, HX.out.c19⟩ (fun hHeld => ?_)
      clear hK K
      refine norm_ (a' := ?_) ?_ ?_
      rotate_left
      · show Act.put _ (some 31) _ = _
        simp only [Act.put, s1_, s2_, s3_, i64_w, i32_w]
        rfl
      exact norm_ (by simp only [putAll, Act.put, s1_, s2_, s3_]) (hCont (w2.heap.size, w3.heap.size) _ ⟨HB.out, HX.out, HLL.out⟩)
    · skip
      refine value_ (w1 := ?_) (v := ?_) (by rfl) rfl ?_ ?_
      rotate_left 2
      · go_simp
        constructor
        · rfl
        · rfl
      have hBA : Below w1.drew.heap.size w1.drew (w1.alloc (.cells #[.int .u64 zero] 23)).drew := (Below.refl w1.drew.heap.size w1.drew).alloc (Nat.le_refl _) (.cells #[.int .u64 zero] 23)
      have HNZ := Aside0.mk (show NsAt (w1.alloc (.cells #[.int .u64 zero] 23)).drew ⟨some ⟨w1.heap.size, 0, none⟩, 1, 1⟩ [zero] from ns_one w1.drew zero 23 HZ.out)
      replace HB := Aside0.mk (below_next HB.out hBA)
      replace HX := Aside0.mk (HX.out.below hBA)
      clear hBA
      generalize (w1.alloc (.cells #[.int .u64 zero] 23)).drew = w3 at *
      refine hK.out _ _ ⟨HX.out.c0, HX.out.c1, HX.out.c2, HX.out.c3, HX.out.c6, HX.out.c7, HX.out.c8, HX.out.c9, HX.out.c10, HX.out.c11, HX.out.c13, HX.out.c14, HX.out.c15, HX.out.c17, HX.out.c18, HX.out.c19⟩ (fun hHeld => ?_)
      clear hK K
      refine norm_ (a' := ?_) ?_ ?_
      rotate_left
      · show Act.put _ (some 24) _ = _
        simp only [Act.put, s1_, s2_, s3_, i64_w, i32_w]
        rfl
      refine two_ (i := 6) (j := 18) (Ni := some 19) (Nj := some 31) (mkM 53 32985378455551) (mkM 53 32985378717631) rfl rfl rfl rfl (by kernel_rfl) (by decide) (by decide) (fun K hK => ?_) (fun K hK => ?_)
      · skip
        refine goes_ Try.func25 (by kernel_rfl) rfl #[.int .u64 start, .int .u64 time, .slice aa an ac] (by rfl) rfl rfl (by simp only [List.map_toArray, List.map_cons, List.map_nil]; rfl) ?_
        with_reducible refine (HC.out _ HB.out).mono ?_
        rintro e w2 ⟨rfl, hb⟩
        refine ⟨_, rfl, ?_⟩
        replace HNZ := Aside0.mk (HNZ.out.below hb)
        replace HB := Aside0.mk (below_next HB.out hb)
        replace HX := Aside0.mk (HX.out.below hb)
        clear hb
        refine hK.out _ _ ⟨HX.out.c0, HX.out.c1, HX.out.c2, HX.out.c3, HX.out.c6, HX.out.c7, HX.out.c8, HX.out.c9, HX.out.c10, HX.out.c11, HX.out.c13, HX.out.c14, HX.out.c15, HX.out.c17, HX.out.c18, HX.out.c19⟩ (fun hHeld => ?_)
        clear hK K
        refine norm_ (a' := ?_) ?_ ?_
        rotate_left
        · show Act.put _ (some 19) _ = _
          simp only [Act.put, s1_, s2_, s3_, i64_w, i32_w]
          rfl
        refine one_ (i := 18) (N := some 31) (mkM 53 32985378717695) rfl rfl (by kernel_rfl) (by decide) (fun K hK => ?_)
        refine value_ (w1 := ?_) (v := ?_) (by rfl) rfl ?_ ?_
        rotate_left 2
        · go_simp
          constructor
          · rfl
          · rfl
        have hBA : Below w2.heap.size w2 (w2.alloc (.cells #[.slice (some ⟨w1.heap.size, 0, none⟩) 1 1, .slice pa pn pc, .slice na nn nc] 26)) := (Below.refl _ _).alloc (Nat.le_refl _) _
        have HLL := Aside0.mk (HL.out _ HB.out _ HNZ.out 26)
        clear HNZ
        replace HB := Aside0.mk (below_next HB.out hBA)
        replace HX := Aside0.mk (HX.out.below hBA)
        clear hBA
        generalize (w2.alloc (.cells #[.slice (some ⟨w1.heap.size, 0, none⟩) 1 1, .slice pa pn pc, .slice na nn nc] 26)) = w4 at *
        refine hK.out _ _ ⟨HX.out.c0, HX.out.c1, HX.out.c2, HX.out.c3, HX.out.c6, HX.out.c7, HX.out.c8, HX.out.c9, HX.out.c10, HX.out.c11, HX.out.c13, HX.out.c14, HX.out.c15, HX.out.c17, HX.out.c18, HX.out.c19⟩ (fun hHeld => ?_)
        clear hK K
        refine norm_ (a' := ?_) ?_ ?_
        rotate_left
        · show Act.put _ (some 31) _ = _
          simp only [Act.put, s1_, s2_, s3_, i64_w, i32_w]
          rfl
        exact norm_ (by simp only [putAll, Act.put, s1_, s2_, s3_]) (hCont (w1.heap.size, w2.heap.size) _ ⟨HB.out, HX.out, HLL.out⟩)
      · skip
        refine value_ (w1 := ?_) (v := ?_) (by rfl) rfl ?_ ?_
        rotate_left 2
        · go_simp
          constructor
          · rfl
          · rfl
        have hBA : Below w3.heap.size w3 (w3.alloc (.cells #[.slice (some ⟨w1.heap.size, 0, none⟩) 1 1, .slice pa pn pc, .slice na nn nc] 26)) := (Below.refl _ _).alloc (Nat.le_refl _) _
        have HLL := Aside0.mk (HL.out _ HB.out _ HNZ.out 26)
        clear HNZ
        replace HB := Aside0.mk (below_next HB.out hBA)
        replace HX := Aside0.mk (HX.out.below hBA)
        clear hBA
        generalize (w3.alloc (.cells #[.slice (some ⟨w1.heap.size, 0, none⟩) 1 1, .slice pa pn pc, .slice na nn nc] 26)) = w4 at *
        refine hK.out _ _ ⟨HX.out.c0, HX.out.c1, HX.out.c2, HX.out.c3, HX.out.c6, HX.out.c7, HX.out.c8, HX.out.c9, HX.out.c10, HX.out.c11, HX.out.c13, HX.out.c14, HX.out.c15, HX.out.c17, HX.out.c18, HX.out.c19⟩ (fun hHeld => ?_)
        clear hK K
        refine norm_ (a' := ?_) ?_ ?_
        rotate_left
        · show Act.put _ (some 31) _ = _
          simp only [Act.put, s1_, s2_, s3_, i64_w, i32_w]
          rfl
        refine one_ (i := 6) (N := some 19) (mkM 53 32985378717695) rfl rfl (by kernel_rfl) (by decide) (fun K hK => ?_)
        refine goes_ Try.func25 (by kernel_rfl) rfl #[.int .u64 start, .int .u64 time, .slice aa an ac] (by rfl) rfl rfl (by simp only [List.map_toArray, List.map_cons, List.map_nil]; rfl) ?_
        with_reducible refine (HC.out _ HB.out).mono ?_
        rintro e w2 ⟨rfl, hb⟩
        refine ⟨_, rfl, ?_⟩
        replace HLL := Aside0.mk (HLL.out.below hb)
        replace HB := Aside0.mk (below_next HB.out hb)
        replace HX := Aside0.mk (HX.out.below hb)
        clear hb
        refine hK.out _ _ ⟨HX.out.c0, HX.out.c1, HX.out.c2, HX.out.c3, HX.out.c6, HX.out.c7, HX.out.c8, HX.out.c9, HX.out.c10, HX.out.c11, HX.out.c13, HX.out.c14, HX.out.c15, HX.out.c17, HX.out.c18, HX.out.c19⟩ (fun hHeld => ?_)
        clear hK K
        refine norm_ (a' := ?_) ?_ ?_
        rotate_left
        · show Act.put _ (some 19) _ = _
          simp only [Act.put, s1_, s2_, s3_, i64_w, i32_w]
          rfl
        exact norm_ (by simp only [putAll, Act.put, s1_, s2_, s3_]) (hCont (w1.heap.size, w3.heap.size) _ ⟨HB.out, HX.out, HLL.out⟩)
  rintro s w30 ⟨hb3, hx3, hz3⟩
  clear HB HX
  have HB := Aside0.mk hb3
  have HX := Aside0.mk hx3
  have HLL := Aside0.mk hz3
  clear hb3 hx3 hz3
  have hHeld : w30.cell? ⟨g, 0, none⟩ = some (.slice aa an ac) ∧ w30.cell? ⟨g, 1, none⟩ = some (.int .u64 start) ∧ w30.cell? ⟨g, 2, none⟩ = some (.int .u64 time) ∧ w30.cell? ⟨g, 3, none⟩ = some (.int .u64 count) ∧ w30.cell? ⟨g, 6, none⟩ = some (.bool mnh) ∧ w30.cell? ⟨g, 7, none⟩ = some (.int .u64 mnn) ∧ w30.cell? ⟨g, 8, none⟩ = some (.bool mxh) ∧ w30.cell? ⟨g, 9, none⟩ = some (.int .u64 mxn) ∧ w30.cell? ⟨g, 10, none⟩ = some (.int .i32 scale) ∧ w30.cell? ⟨g, 11, none⟩ = some (.int .u64 zero) ∧ w30.cell? ⟨g, 13, none⟩ = some (.int .i32 po) ∧ w30.cell? ⟨g, 14, none⟩ = some (.slice pa pn pc) ∧ w30.cell? ⟨g, 15, none⟩ = some (.string pu) ∧ w30.cell? ⟨g, 17, none⟩ = some (.int .i32 no) ∧ w30.cell? ⟨g, 18, none⟩ = some (.slice na nn nc) ∧ w30.cell? ⟨g, 19, none⟩ = some (.string nu) := ⟨HX.out.c0, HX.out.c1, HX.out.c2, HX.out.c3, HX.out.c6, HX.out.c7, HX.out.c8, HX.out.c9, HX.out.c10, HX.out.c11, HX.out.c13, HX.out.c14, HX.out.c15, HX.out.c17, HX.out.c18, HX.out.c19⟩
  refine norm_ (a' := ?_) ?_ ?_
  rotate_left
  · simp only [putAll, Act.put, s1_, s2_, s3_]
    rfl
  refine one_ (i := 19) (N := some 32) (mkM 53 32985379241983) rfl rfl (by kernel_rfl) (by decide) (fun K hK => ?_)
  refine goes_ Try.func27 (by kernel_rfl) rfl #[.int .u64 count, .slice (some ⟨s.2, 0, none⟩) 3 3] (by rfl) rfl rfl (by simp only [List.map_toArray, List.map_cons, List.map_nil]; rfl) ?_
  with_reducible refine (HA.out _ _ HLL.out).mono ?_
  rintro e w41 ⟨rfl, hb⟩
  refine ⟨_, rfl, ?_⟩
  clear HLL
  replace HB := Aside0.mk (below_next HB.out hb)
  replace HX := Aside0.mk (HX.out.below hb)
  clear hb
  refine hK.out _ _ ⟨HX.out.c0, HX.out.c1, HX.out.c2, HX.out.c3, HX.out.c6, HX.out.c7, HX.out.c8, HX.out.c9, HX.out.c10, HX.out.c11, HX.out.c13, HX.out.c14, HX.out.c15, HX.out.c17, HX.out.c18, HX.out.c19⟩ (fun hHeld => ?_)
  clear hK K
  refine norm_ (a' := ?_) ?_ ?_
  rotate_left
  · show Act.put _ (some 32) _ = _
    simp only [Act.put, s1_, s2_, s3_, i64_w, i32_w]
    rfl
  refine pure_ (i := 20) (N := some 33) (v := ?_) (a' := ?_) (mkM 53 32985380290559) rfl rfl (by kernel_rfl) (fun _ _ _ h => h) (Or.inl ⟨by rfl, ?_⟩) ?_ ?_
  rotate_left
  · intro w'
    go_simp
    with_reducible rfl
  rotate_left
  · simp only [Act.put, s1_, s2_, s3_, i64_w, i32_w]
    rfl
  refine one_ (i := 21) (N := some 34) (mkM 53 32985382387711) rfl rfl (by kernel_rfl) (by decide) (fun K hK => ?_)
  refine goes_ Try.func26 (by kernel_rfl) rfl #[.bool (!ad), .int .i64 8] (by rfl) rfl rfl (by simp only [List.map_toArray, List.map_cons, List.map_nil]; rfl) ?_
  with_reducible refine (when_b _ _ _).mono ?_
  rintro e w5 ⟨rfl, hb⟩
  refine ⟨_, rfl, ?_⟩
  replace HB := Aside0.mk (below_next HB.out hb)
  replace HX := Aside0.mk (HX.out.below hb)
  clear hb
  refine hK.out _ _ ⟨HX.out.c0, HX.out.c1, HX.out.c2, HX.out.c3, HX.out.c6, HX.out.c7, HX.out.c8, HX.out.c9, HX.out.c10, HX.out.c11, HX.out.c13, HX.out.c14, HX.out.c15, HX.out.c17, HX.out.c18, HX.out.c19⟩ (fun hHeld => ?_)
  clear hK K
  refine norm_ (a' := ?_) ?_ ?_
  rotate_left
  · show Act.put _ (some 34) _ = _
    simp only [Act.put, s1_, s2_, s3_, i64_w, i32_w]
    rfl
  refine pure_ (i := 25) (N := some 38) (v := ?_) (a' := ?_) (mkM 53 32985415942143) rfl rfl (by kernel_rfl) (fun _ _ _ h => h) (Or.inl ⟨by rfl, ?_⟩) ?_ ?_
  rotate_left
  · intro w'
    go_simp
    with_reducible rfl
  rotate_left
  · simp only [Act.put, s1_, s2_, s3_, i64_w, i32_w]
    rfl
  refine pure_ (i := 26) (N := some 39) (v := undef) (a' := ?_) (mkM 53 32985483051007) rfl rfl (by kernel_rfl) (fun _ _ _ h => h) (Or.inr ⟨by rfl, rfl⟩) ?_ ?_
  rotate_left
  · simp only [Act.put, s1_, s2_, s3_, i64_w, i32_w]
    rfl
  refine pure_ (i := 27) (N := some 40) (v := undef) (a' := ?_) (mkM 53 32985617268735) rfl rfl (by kernel_rfl) (fun _ _ _ h => h) (Or.inr ⟨by rfl, rfl⟩) ?_ ?_
  rotate_left
  · simp only [Act.put, s1_, s2_, s3_, i64_w, i32_w]
    rfl
  refine pure_ (i := 28) (N := some 41) (v := undef) (a' := ?_) (mkM 53 32985885704191) rfl rfl (by kernel_rfl) (fun _ _ _ h => h) (Or.inr ⟨by rfl, rfl⟩) ?_ ?_
  rotate_left
  · simp only [Act.put, s1_, s2_, s3_, i64_w, i32_w]
    rfl
  refine pure_ (i := 29) (N := some 42) (v := ?_) (a' := ?_) (mkM 53 32986422575103) rfl rfl (by kernel_rfl) (fun _ _ _ h => h) (Or.inl ⟨by rfl, ?_⟩) ?_ ?_
  rotate_left
  · intro w'
    go_simp
    with_reducible rfl
  rotate_left
  · simp only [Act.put, s1_, s2_, s3_, i64_w, i32_w]
    rfl
  refine pure_ (i := 30) (N := some 43) (v := ?_) (a' := ?_) (mkM 53 32987496316927) rfl rfl (by kernel_rfl) (fun _ _ _ h => h) (Or.inl ⟨by rfl, ?_⟩) ?_ ?_
  rotate_left
  · intro w'
    go_simp
    with_reducible rfl
  rotate_left
  · simp only [Act.put, s1_, s2_, s3_, i64_w, i32_w]
    rfl
  refine pure_ (i := 31) (N := some 44) (v := undef) (a' := ?_) (mkM 53 32989643800575) rfl rfl (by kernel_rfl) (fun _ _ _ h => h) (Or.inr ⟨by rfl, rfl⟩) ?_ ?_
  rotate_left
  · simp only [Act.put, s1_, s2_, s3_, i64_w, i32_w]
    rfl
  refine pure_ (i := 32) (N := some 45) (v := undef) (a' := ?_) (mkM 53 32993938767871) rfl rfl (by kernel_rfl) (fun _ _ _ h => h) (Or.inr ⟨by rfl, rfl⟩) ?_ ?_
  rotate_left
  · simp only [Act.put, s1_, s2_, s3_, i64_w, i32_w]
    rfl
  refine pure_ (i := 33) (N := some 46) (v := undef) (a' := ?_) (mkM 53 33002528702463) rfl rfl (by kernel_rfl) (fun _ _ _ h => h) (Or.inr ⟨by rfl, rfl⟩) ?_ ?_
  rotate_left
  · simp only [Act.put, s1_, s2_, s3_, i64_w, i32_w]
    rfl
  refine pure_ (i := 34) (N := some 47) (v := ?_) (a' := ?_) (mkM 53 33019708571647) rfl rfl (by kernel_rfl) (fun _ _ _ h => h) (Or.inl ⟨by rfl, ?_⟩) ?_ ?_
  rotate_left
  · intro w'
    go_simp
    with_reducible rfl
  rotate_left
  · simp only [Act.put, s1_, s2_, s3_, i64_w, i32_w]
    rfl
  refine pure_ (i := 35) (N := some 48) (v := ?_) (a' := ?_) (mkM 53 33054068310015) rfl rfl (by kernel_rfl) (fun _ _ _ h => h) (Or.inl ⟨by rfl, ?_⟩) ?_ ?_
  rotate_left
  · intro w'
    go_simp
    with_reducible rfl
  rotate_left
  · simp only [Act.put, s1_, s2_, s3_, i64_w, i32_w]
    rfl
  refine pure_ (i := 36) (N := some 49) (v := undef) (a' := ?_) (mkM 53 33122787786751) rfl rfl (by kernel_rfl) (fun _ _ _ h => h) (Or.inr ⟨by rfl, rfl⟩) ?_ ?_
  rotate_left
  · simp only [Act.put, s1_, s2_, s3_, i64_w, i32_w]
    rfl
  refine pure_ (i := 37) (N := some 50) (v := undef) (a' := ?_) (mkM 53 33260226740223) rfl rfl (by kernel_rfl) (fun _ _ _ h => h) (Or.inr ⟨by rfl, rfl⟩) ?_ ?_
  rotate_left
  · simp only [Act.put, s1_, s2_, s3_, i64_w, i32_w]
    rfl
  refine pure_ (i := 38) (N := some 51) (v := undef) (a' := ?_) (mkM 53 33535104647167) rfl rfl (by kernel_rfl) (fun _ _ _ h => h) (Or.inr ⟨by rfl, rfl⟩) ?_ ?_
  rotate_left
  · simp only [Act.put, s1_, s2_, s3_, i64_w, i32_w]
    rfl
  refine pure_ (i := 39) (N := some 52) (v := ?_) (a' := ?_) (mkM 53 34084860461055) rfl rfl (by kernel_rfl) (fun _ _ _ h => h) (Or.inl ⟨by rfl, ?_⟩) ?_ ?_
  rotate_left
  · intro w'
    go_simp
    with_reducible rfl
  rotate_left
  · simp only [Act.put, s1_, s2_, s3_, i64_w, i32_w]
    rfl
  refine one_ (i := 40) (N := some 53) (mkM 53 35184372088831) rfl rfl (by kernel_rfl) (by decide) (fun K hK => ?_)
  refine goes_ Try.func26 (by kernel_rfl) rfl #[.bool true, .int .i64 10] (by rfl) rfl rfl (by simp only [List.map_toArray, List.map_cons, List.map_nil]; rfl) ?_
  with_reducible refine (when_b _ _ _).mono ?_
  rintro e w6 ⟨rfl, hb⟩
  refine ⟨_, rfl, ?_⟩
  replace HB := Aside0.mk (below_next HB.out hb)
  replace HX := Aside0.mk (HX.out.below hb)
  clear hb
  refine hK.out _ _ ⟨HX.out.c0, HX.out.c1, HX.out.c2, HX.out.c3, HX.out.c6, HX.out.c7, HX.out.c8, HX.out.c9, HX.out.c10, HX.out.c11, HX.out.c13, HX.out.c14, HX.out.c15, HX.out.c17, HX.out.c18, HX.out.c19⟩ (fun hHeld => ?_)
  clear hK K
  refine norm_ (a' := ?_) ?_ ?_
  rotate_left
  · show Act.put _ (some 53) _ = _
    simp only [Act.put, s1_, s2_, s3_, i64_w, i32_w]
    rfl
  refine one_ (i := 45) (N := some 58) (mkM 53 70368744177663) rfl rfl (by kernel_rfl) (by decide) (fun K hK => ?_)
  refine goes_ Try.func29 (by kernel_rfl) rfl #[.agg #[.bool mnh, .int .u64 mnn], .agg #[.bool mxh, .int .u64 mxn]] (by rfl) rfl rfl (by simp only [List.map_toArray, List.map_cons, List.map_nil]; rfl) ?_
  with_reducible refine (HU.out _).mono ?_
  rintro e w7 ⟨rfl, hb⟩
  refine ⟨_, rfl, ?_⟩
  replace HB := Aside0.mk (below_next HB.out hb)
  replace HX := Aside0.mk (HX.out.below hb)
  clear hb
  refine hK.out _ _ ⟨HX.out.c0, HX.out.c1, HX.out.c2, HX.out.c3, HX.out.c6, HX.out.c7, HX.out.c8, HX.out.c9, HX.out.c10, HX.out.c11, HX.out.c13, HX.out.c14, HX.out.c15, HX.out.c17, HX.out.c18, HX.out.c19⟩ (fun hHeld => ?_)
  clear hK K
  refine norm_ (a' := ?_) ?_ ?_
  rotate_left
  · show Act.put _ (some 58) _ = _
    simp only [Act.put, s1_, s2_, s3_, i64_w, i32_w]
    rfl
  refine pure_ (i := 46) (N := some 59) (v := ?_) (a' := ?_) (mkM 53 140737488355327) rfl rfl (by kernel_rfl) (fun _ _ _ h => h) (Or.inl ⟨by rfl, ?_⟩) ?_ ?_
  rotate_left
  · intro w'
    go_simp
    with_reducible rfl
  rotate_left
  · simp only [Act.put, s1_, s2_, s3_, i64_w, i32_w]
    rfl
  refine pure_ (i := 47) (N := some 60) (v := ?_) (a' := ?_) (mkM 53 281474976710655) rfl rfl (by kernel_rfl) (fun _ _ _ h => h) (Or.inl ⟨by rfl, ?_⟩) ?_ ?_
  rotate_left
  · intro w'
    go_simp
    with_reducible rfl
  rotate_left
  · simp only [Act.put, s1_, s2_, s3_, i64_w, i32_w]
    rfl
  refine pure_ (i := 48) (N := some 61) (v := ?_) (a' := ?_) (mkM 53 562949953421311) rfl rfl (by kernel_rfl) (fun _ _ _ h => h) (Or.inl ⟨by rfl, ?_⟩) ?_ ?_
  rotate_left
  · intro w'
    go_simp
    with_reducible rfl
  rotate_left
  · simp only [Act.put, s1_, s2_, s3_, i64_w, i32_w]
    rfl
  refine one_ (i := 49) (N := some 62) (mkM 53 1125899906842623) rfl rfl (by kernel_rfl) (by decide) (fun K hK => ?_)
  refine goes_ Try.func26 (by kernel_rfl) rfl #[.bool lz, .int .i64 11] (by rfl) rfl rfl (by simp only [List.map_toArray, List.map_cons, List.map_nil]; rfl) ?_
  with_reducible refine (when_b _ _ _).mono ?_
  rintro e w8 ⟨rfl, hb⟩
  refine ⟨_, rfl, ?_⟩
  replace HB := Aside0.mk (below_next HB.out hb)
  replace HX := Aside0.mk (HX.out.below hb)
  clear hb
  refine hK.out _ _ ⟨HX.out.c0, HX.out.c1, HX.out.c2, HX.out.c3, HX.out.c6, HX.out.c7, HX.out.c8, HX.out.c9, HX.out.c10, HX.out.c11, HX.out.c13, HX.out.c14, HX.out.c15, HX.out.c17, HX.out.c18, HX.out.c19⟩ (fun hHeld => ?_)
  clear hK K
  refine norm_ (a' := ?_) ?_ ?_
  rotate_left
  · show Act.put _ (some 62) _ = _
    simp only [Act.put, s1_, s2_, s3_, i64_w, i32_w]
    rfl
  refine one_ (i := 50) (N := some 63) (mkM 53 2251799813685247) rfl rfl (by kernel_rfl) (by decide) (fun K hK => ?_)
  refine value_ (w1 := ?_) (v := ?_) (by rfl) rfl ?_ ?_
  rotate_left 2
  · go_simp
    constructor
    · rfl
    · rfl
  have hBA := fun o => (Below.refl w8.heap.size w8).alloc (Nat.le_refl _) o
  have HO4 := fun e => or4_any w8 cm (whn (!ad) 8) (whn true 10) (whn lz 11) e
  refine hK.out _ _ ⟨(HX.out.below (hBA _)).c0, (HX.out.below (hBA _)).c1, (HX.out.below (hBA _)).c2, (HX.out.below (hBA _)).c3, (HX.out.below (hBA _)).c6, (HX.out.below (hBA _)).c7, (HX.out.below (hBA _)).c8, (HX.out.below (hBA _)).c9, (HX.out.below (hBA _)).c10, (HX.out.below (hBA _)).c11, (HX.out.below (hBA _)).c13, (HX.out.below (hBA _)).c14, (HX.out.below (hBA _)).c15, (HX.out.below (hBA _)).c17, (HX.out.below (hBA _)).c18, (HX.out.below (hBA _)).c19⟩ (fun hHeld => ?_)
  clear hK K
  refine norm_ (a' := ?_) ?_ ?_
  rotate_left
  · show Act.put _ (some 63) _ = _
    simp only [Act.put, s1_, s2_, s3_, i64_w, i32_w]
    rfl
  refine one_ (i := 51) (N := some 64) (mkM 53 4503599627370495) rfl rfl (by kernel_rfl) (by decide) (fun K hK => ?_)
  refine goes_ Try.func24 (by kernel_rfl) rfl #[.slice (some ⟨w8.heap.size, 0, none⟩) 4 4] (by rfl) rfl rfl (by simp only [List.map_toArray, List.map_cons, List.map_nil]; rfl) ?_
  with_reducible refine (HO4 _).mono ?_
  rintro e w9 ⟨rfl, hb⟩
  refine ⟨_, rfl, ?_⟩
  clear hBA HO4
  replace HB := Aside0.mk (below_next HB.out hb)
  replace HX := Aside0.mk (HX.out.below hb)
  clear hb
  refine hK.out _ _ ⟨HX.out.c0, HX.out.c1, HX.out.c2, HX.out.c3, HX.out.c6, HX.out.c7, HX.out.c8, HX.out.c9, HX.out.c10, HX.out.c11, HX.out.c13, HX.out.c14, HX.out.c15, HX.out.c17, HX.out.c18, HX.out.c19⟩ (fun hHeld => ?_)
  clear hK K
  refine norm_ (a' := ?_) ?_ ?_
  rotate_left
  · show Act.put _ (some 64) _ = _
    simp only [Act.put, s1_, s2_, s3_, i64_w, i32_w]
    rfl
  refine pure_ (i := 52) (N := some 2) (v := ?_) (a' := ?_) (mkM 53 9007199254740991) rfl rfl (by kernel_rfl) (fun _ _ _ h => h) (Or.inl ⟨by rfl, ?_⟩) ?_ ?_
  rotate_left
  · intro w'
    go_simp
    with_reducible rfl
  rotate_left
  · simp only [Act.put, s1_, s2_, s3_, i64_w, i32_w]
    rfl
  refine done_ (by kernel_rfl) ?_
  clear hHeld
  go_wp2_with fail
  go_ret
  exact ⟨rfl, HB.out⟩
end Go.Proofs.Ytdogokcoobpgdaa
