import Derived.Test.YtdogokcoobpgdaaMkmtqyqlt
import Derived.Test.YtdogokcoobpgdaaMtbpuubyl
import Derived.Test.YtdogokcoobpgdaaMkavvajwh
import Derived.Test.YtdogokcoobpgdaaMuxfqxbdh
import Derived.Test.YtdogokcoobpgdaaMsihddxeb
namespace Go.Proofs.Ytdogokcoobpgdaa
open Go.RowKit Go.Proofs.YtdogokcoobpgdaaW.PrintWords Go.Proofs.YtdogokcoobpgdaaW.PrintLast Go.Proofs.YtdogokcoobpgdaaW.PrintMore Hy

noncomputable def ptsC : Code := (Try.f4.body).getD .skip
theorem ld_row {P : Program} {o : Oper} {a : Act} {w : World} (ty : TypeId) (x : Operand) (ho : o.op = .load ty x) (g : Nat) (hx : a.eval x = .pointer (some ⟨g, 0, none⟩)) (t : TypeId) (cs : Array Value) (fr : Nat × Nat) (d : TypeDesc) (hg : w.heap[g]? = some (.cells cs t fr))
    (hu : P.underlying ty = some d) (hd : (match d with | .struct _ | .array _ _ => true | _ => false) = true) (hi : (P.info? ty).map (·.size) = some cs.size) : (execOp a.eval o).run P w = .ok (.value (.agg cs)) w := by
  unfold execOp
  simp only [ho, hx, Instr.loadAt, Instr.sureAddr, Sem.run_bind, Sem.run_pure, Result.andThen_ok, run_loadVar_row w g t ty cs fr d hg hu hd hi]
set_option maxHeartbeats 4000000 in
set_option maxRecDepth 100000 in
theorem pts5 {w0 w : World} {K : Act → World → Prop} {x : Nmb} {y : Hst} {z : Exq} {s : Smm} {g1 g2 g3 g4 : Nat} {n1 n2 n3 n4 : Int} {u9 u10 u11 u12 u13 u14 u15 u16 u17 u18 u19 u20 u21 u22 u23 u24 u25 u26 u27 u28 u29 : Value} (h1 : XN w g1 x) (h2 : XH w g2 y) (h3 : XQ w g3 z) (h4 : XS w g4 s)
    (c1 : Ans w 12 (.agg (nmbC x).toArray) n1) (d1 : Ans w 13 (.agg (nmbC x).toArray) n1) (c2 : Ans w 8 (.agg (hstC y).toArray) n2) (d2 : Ans w 14 (.agg (hstC y).toArray) n2) (c3 : Ans w 9 (.agg (exqC z).toArray) n3) (d3 : Ans w 15 (.agg (exqC z).toArray) n3) (c4 : Ans w 16 (.agg (smmC s).toArray) n4) (d4 : Ans w 17 (.agg (smmC s).toArray) n4)
    (hK : ∀ (u30 u31 u32 u33 u34 u35 u36 u37 u38 u39 u40 u41 u42 u43 u44 u45 u46 u47 u48 u49 u50 u51 u52 u53 u54 u55 u56 u57 u58 : Value) (W : World), Below w.heap.size w W → K ⟨#[nmbA x, hstA y, exqA z, smmA s, .pointer (some ⟨g1, 0, none⟩), .pointer (some ⟨g2, 0, none⟩), .pointer (some ⟨g3, 0, none⟩), .pointer (some ⟨g4, 0, none⟩), .bool true, u9, u10, u11, u12, u13, u14, u15, u16, u17, u18, u19, u20, u21, u22, u23, u24, u25, u26, u27, u28, u29, u30, u31, u32, u33, u34, u35, u36, u37, u38, u39, u40, u41, u42, u43, u44, u45, u46, u47, u48, u49, u50, u51, u52, u53, u54, u55, u56, u57, u58], []⟩ W) :
    (headC (dropSeq 3 ptsC)).wp Try.prog (Exit.then K (bodyPost Try.prog Try.f4 (fun e w' => e = .returned (.bool true) ∧ Below w0.heap.size w0 w'))) ⟨#[nmbA x, hstA y, exqA z, smmA s, .pointer (some ⟨g1, 0, none⟩), .pointer (some ⟨g2, 0, none⟩), .pointer (some ⟨g3, 0, none⟩), .pointer (some ⟨g4, 0, none⟩), .bool false, u9, u10, u11, u12, u13, u14, u15, u16, u17, u18, u19, u20, u21, u22, u23, u24, u25, u26, u27, u28, u29, undef, undef, undef, undef, undef, undef, undef, undef, undef, undef, undef, undef, undef, undef, undef, undef, undef, undef, undef, undef, undef, undef, undef, undef, undef, undef, undef, undef, undef], []⟩ w := by
  have HK := Aside0.mk hK
  have H1 := Aside0.mk h1
  have H2 := Aside0.mk h2
  have H3 := Aside0.mk h3
  have H4 := Aside0.mk h4
  have C1 := Aside0.mk (fun W hb => c1.at_ W hb)
  have D1 := Aside0.mk (fun W hb => d1.at_ W hb)
  have C2 := Aside0.mk (fun W hb => c2.at_ W hb)
  have D2 := Aside0.mk (fun W hb => d2.at_ W hb)
  have C3 := Aside0.mk (fun W hb => c3.at_ W hb)
  have D3 := Aside0.mk (fun W hb => d3.at_ W hb)
  have C4 := Aside0.mk (fun W hb => c4.at_ W hb)
  have D4 := Aside0.mk (fun W hb => d4.at_ W hb)
  have HB := Aside0.mk (show Below w.heap.size w w.drew from below_drew1 (Below.refl _ _))
  clear hK h1 h2 h3 h4 c1 d1 c2 d2 c3 d3 c4 d4
  refine wp_reg rfl ?_
  refine start_ (n := 30) (S := fun w' => XN w' g1 x ∧ XH w' g2 y ∧ XQ w' g3 z ∧ XS w' g4 s) (ds := []) #[false, false, false, false, false, false, false, false, false, false, false, false, false, false, false, false, false, false, false, false, false, false, false, false, false, false, false, false, false, false] (by kernel_rfl) rfl rfl ⟨(XN.below H1.out HB.out), (XH.below H2.out HB.out), (XQ.below H3.out HB.out), (XS.below H4.out HB.out)⟩ (fun hHeld => ?_)
  refine one_ (i := 0) (N := some 30) (mkM 30 1) rfl rfl (by kernel_rfl) (by decide) (fun K hK => ?_)
  refine goes_ Try.func5 (by kernel_rfl) rfl #[] (by rfl) rfl rfl (by simp only [List.map_toArray, List.map_nil]) ?_
  with_reducible refine (first_any _).mono ?_
  rintro e w10 ⟨rfl, hb⟩
  refine ⟨_, rfl, ?_⟩
  have HBn := Aside0.mk (below_next HB.out hb)
  clear HB
  have HB := HBn
  clear HBn hb
  refine hK.out _ _ ⟨(XN.below H1.out HB.out), (XH.below H2.out HB.out), (XQ.below H3.out HB.out), (XS.below H4.out HB.out)⟩ (fun hHeld => ?_)
  clear hK K
  refine norm_ (a' := ?_) ?_ ?_
  rotate_left
  · show Act.put _ (some 30) _ = _
    simp only [Act.put, s1_, s2_, s3_]
    rfl
  refine pure_ (i := 1) (N := some 31) (v := ?_) (a' := ?_) (mkM 30 3) rfl rfl (by kernel_rfl) (fun _ _ _ h => h) (Or.inl ⟨by rfl, ?_⟩) ?_ ?_
  rotate_left
  · intro w'
    go_simp
    with_reducible rfl
  rotate_left
  · simp only [Act.put, s1_, s2_, s3_]
    rfl
  refine take_ (i := 2) (N := some 32) (v := ?_) (a' := ?_) (mkM 30 7) rfl rfl (by kernel_rfl) (fun _ _ _ h => h) (Or.inl ⟨by rfl, ?_⟩) hHeld ?_ ?_
  rotate_left
  · rintro w' ⟨s0, s1, s2, s3⟩
    refine ld_row 47 (.tmp 4) ?_ g1 ?_ 47 _ (0, 0) _ s0.blk Try.underlying47 ?_ ?_ <;> first | rfl | kernel_rfl
  rotate_left
  · simp only [Act.put, s1_, s2_, s3_]
    rfl
  refine take_ (i := 4) (N := some 34) (v := ?_) (a' := ?_) (mkM 30 23) rfl rfl (by kernel_rfl) (fun _ _ _ h => h) (Or.inl ⟨by rfl, ?_⟩) hHeld ?_ ?_
  rotate_left
  · rintro w' ⟨s0, s1, s2, s3⟩
    refine ld_row 47 (.tmp 4) ?_ g1 ?_ 47 _ (0, 0) _ s0.blk Try.underlying47 ?_ ?_ <;> first | rfl | kernel_rfl
  rotate_left
  · simp only [Act.put, s1_, s2_, s3_]
    rfl
  refine one_ (i := 3) (N := some 33) (mkM 30 31) rfl rfl (by kernel_rfl) (by decide) (fun K hK => ?_)
  refine goes_ Try.func12 (by kernel_rfl) rfl #[.agg (nmbC x).toArray] (by rfl) rfl rfl (by simp only [List.map_toArray, List.map_cons, List.map_nil]; rfl) ?_
  with_reducible refine (C1.out _ HB.out).mono ?_
  rintro e w11 ⟨rfl, hb⟩
  refine ⟨_, rfl, ?_⟩
  have HBn := Aside0.mk (below_next HB.out hb)
  clear HB
  have HB := HBn
  clear HBn hb
  refine hK.out _ _ ⟨(XN.below H1.out HB.out), (XH.below H2.out HB.out), (XQ.below H3.out HB.out), (XS.below H4.out HB.out)⟩ (fun hHeld => ?_)
  clear hK K
  refine norm_ (a' := ?_) ?_ ?_
  rotate_left
  · show Act.put _ (some 33) _ = _
    simp only [Act.put, s1_, s2_, s3_]
    rfl
  refine one_ (i := 5) (N := some 35) (mkM 30 63) rfl rfl (by kernel_rfl) (by decide) (fun K hK => ?_)
  refine goes_ Try.func13 (by kernel_rfl) rfl #[.agg (nmbC x).toArray] (by rfl) rfl rfl (by simp only [List.map_toArray, List.map_cons, List.map_nil]; rfl) ?_
  with_reducible refine (D1.out _ HB.out).mono ?_
  rintro e w12 ⟨rfl, hb⟩
  refine ⟨_, rfl, ?_⟩
  have HBn := Aside0.mk (below_next HB.out hb)
  clear HB
  have HB := HBn
  clear HBn hb
  refine hK.out _ _ ⟨(XN.below H1.out HB.out), (XH.below H2.out HB.out), (XQ.below H3.out HB.out), (XS.below H4.out HB.out)⟩ (fun hHeld => ?_)
  clear hK K
  refine norm_ (a' := ?_) ?_ ?_
  rotate_left
  · show Act.put _ (some 35) _ = _
    simp only [Act.put, s1_, s2_, s3_]
    rfl
  refine pure_ (i := 6) (N := some 36) (v := ?_) (a' := ?_) (mkM 30 127) rfl rfl (by kernel_rfl) (fun _ _ _ h => h) (Or.inl ⟨by rfl, ?_⟩) ?_ ?_
  rotate_left
  · intro w'
    go_simp
    with_reducible rfl
  rotate_left
  · simp only [Act.put, s1_, s2_, s3_]
    rfl
  refine pure_ (i := 7) (N := some 37) (v := ?_) (a' := ?_) (mkM 30 255) rfl rfl (by kernel_rfl) (fun _ _ _ h => h) (Or.inl ⟨by rfl, ?_⟩) ?_ ?_
  rotate_left
  · intro w'
    go_simp
    with_reducible rfl
  rotate_left
  · simp only [Act.put, s1_, s2_, s3_]
    rfl
  refine pure_ (i := 8) (N := some 38) (v := ?_) (a' := ?_) (mkM 30 511) rfl rfl (by kernel_rfl) (fun _ _ _ h => h) (Or.inl ⟨by rfl, ?_⟩) ?_ ?_
  rotate_left
  · intro w'
    go_simp
    with_reducible rfl
  rotate_left
  · simp only [Act.put, s1_, s2_, s3_]
    rfl
  refine take_ (i := 9) (N := some 39) (v := ?_) (a' := ?_) (mkM 30 1023) rfl rfl (by kernel_rfl) (fun _ _ _ h => h) (Or.inl ⟨by rfl, ?_⟩) hHeld ?_ ?_
  rotate_left
  · rintro w' ⟨s0, s1, s2, s3⟩
    refine ld_row 30 (.tmp 5) ?_ g2 ?_ 30 _ (0, 0) _ s1.blk Try.underlying30 ?_ ?_ <;> first | rfl | kernel_rfl
  rotate_left
  · simp only [Act.put, s1_, s2_, s3_]
    rfl
  refine take_ (i := 11) (N := some 41) (v := ?_) (a' := ?_) (mkM 30 3071) rfl rfl (by kernel_rfl) (fun _ _ _ h => h) (Or.inl ⟨by rfl, ?_⟩) hHeld ?_ ?_
  rotate_left
  · rintro w' ⟨s0, s1, s2, s3⟩
    refine ld_row 30 (.tmp 5) ?_ g2 ?_ 30 _ (0, 0) _ s1.blk Try.underlying30 ?_ ?_ <;> first | rfl | kernel_rfl
  rotate_left
  · simp only [Act.put, s1_, s2_, s3_]
    rfl
  refine one_ (i := 10) (N := some 40) (mkM 30 4095) rfl rfl (by kernel_rfl) (by decide) (fun K hK => ?_)
  refine goes_ Try.func8 (by kernel_rfl) rfl #[.agg (hstC y).toArray] (by rfl) rfl rfl (by simp only [List.map_toArray, List.map_cons, List.map_nil]; rfl) ?_
  with_reducible refine (C2.out _ HB.out).mono ?_
  rintro e w13 ⟨rfl, hb⟩
  refine ⟨_, rfl, ?_⟩
  have HBn := Aside0.mk (below_next HB.out hb)
  clear HB
  have HB := HBn
  clear HBn hb
  refine hK.out _ _ ⟨(XN.below H1.out HB.out), (XH.below H2.out HB.out), (XQ.below H3.out HB.out), (XS.below H4.out HB.out)⟩ (fun hHeld => ?_)
  clear hK K
  refine norm_ (a' := ?_) ?_ ?_
  rotate_left
  · show Act.put _ (some 40) _ = _
    simp only [Act.put, s1_, s2_, s3_]
    rfl
  refine one_ (i := 12) (N := some 42) (mkM 30 8191) rfl rfl (by kernel_rfl) (by decide) (fun K hK => ?_)
  refine goes_ Try.func14 (by kernel_rfl) rfl #[.agg (hstC y).toArray] (by rfl) rfl rfl (by simp only [List.map_toArray, List.map_cons, List.map_nil]; rfl) ?_
  with_reducible refine (D2.out _ HB.out).mono ?_
  rintro e w14 ⟨rfl, hb⟩
  refine ⟨_, rfl, ?_⟩
  have HBn := Aside0.mk (below_next HB.out hb)
  clear HB
  have HB := HBn
  clear HBn hb
  refine hK.out _ _ ⟨(XN.below H1.out HB.out), (XH.below H2.out HB.out), (XQ.below H3.out HB.out), (XS.below H4.out HB.out)⟩ (fun hHeld => ?_)
  clear hK K
  refine norm_ (a' := ?_) ?_ ?_
  rotate_left
  · show Act.put _ (some 42) _ = _
    simp only [Act.put, s1_, s2_, s3_]
    rfl
  refine pure_ (i := 13) (N := some 43) (v := ?_) (a' := ?_) (mkM 30 16383) rfl rfl (by kernel_rfl) (fun _ _ _ h => h) (Or.inl ⟨by rfl, ?_⟩) ?_ ?_
  rotate_left
  · intro w'
    go_simp
    with_reducible rfl
  rotate_left
  · simp only [Act.put, s1_, s2_, s3_]
    rfl
  refine pure_ (i := 14) (N := some 44) (v := ?_) (a' := ?_) (mkM 30 32767) rfl rfl (by kernel_rfl) (fun _ _ _ h => h) (Or.inl ⟨by rfl, ?_⟩) ?_ ?_
  rotate_left
  · intro w'
    go_simp
    with_reducible rfl
  rotate_left
  · simp only [Act.put, s1_, s2_, s3_]
    rfl
  refine pure_ (i := 15) (N := some 45) (v := ?_) (a' := ?_) (mkM 30 65535) rfl rfl (by kernel_rfl) (fun _ _ _ h => h) (Or.inl ⟨by rfl, ?_⟩) ?_ ?_
  rotate_left
  · intro w'
    go_simp
    with_reducible rfl
  rotate_left
  · simp only [Act.put, s1_, s2_, s3_]
    rfl
  refine take_ (i := 16) (N := some 46) (v := ?_) (a' := ?_) (mkM 30 131071) rfl rfl (by kernel_rfl) (fun _ _ _ h => h) (Or.inl ⟨by rfl, ?_⟩) hHeld ?_ ?_
  rotate_left
  · rintro w' ⟨s0, s1, s2, s3⟩
    refine ld_row 34 (.tmp 6) ?_ g3 ?_ 34 _ (0, 0) _ s2.blk Try.underlying34 ?_ ?_ <;> first | rfl | kernel_rfl
  rotate_left
  · simp only [Act.put, s1_, s2_, s3_]
    rfl
  refine take_ (i := 18) (N := some 48) (v := ?_) (a' := ?_) (mkM 30 393215) rfl rfl (by kernel_rfl) (fun _ _ _ h => h) (Or.inl ⟨by rfl, ?_⟩) hHeld ?_ ?_
  rotate_left
  · rintro w' ⟨s0, s1, s2, s3⟩
    refine ld_row 34 (.tmp 6) ?_ g3 ?_ 34 _ (0, 0) _ s2.blk Try.underlying34 ?_ ?_ <;> first | rfl | kernel_rfl
  rotate_left
  · simp only [Act.put, s1_, s2_, s3_]
    rfl
  refine one_ (i := 17) (N := some 47) (mkM 30 524287) rfl rfl (by kernel_rfl) (by decide) (fun K hK => ?_)
  refine goes_ Try.func9 (by kernel_rfl) rfl #[.agg (exqC z).toArray] (by rfl) rfl rfl (by simp only [List.map_toArray, List.map_cons, List.map_nil]; rfl) ?_
  with_reducible refine (C3.out _ HB.out).mono ?_
  rintro e w15 ⟨rfl, hb⟩
  refine ⟨_, rfl, ?_⟩
  have HBn := Aside0.mk (below_next HB.out hb)
  clear HB
  have HB := HBn
  clear HBn hb
  refine hK.out _ _ ⟨(XN.below H1.out HB.out), (XH.below H2.out HB.out), (XQ.below H3.out HB.out), (XS.below H4.out HB.out)⟩ (fun hHeld => ?_)
  clear hK K
  refine norm_ (a' := ?_) ?_ ?_
  rotate_left
  · show Act.put _ (some 47) _ = _
    simp only [Act.put, s1_, s2_, s3_]
    rfl
  refine one_ (i := 19) (N := some 49) (mkM 30 1048575) rfl rfl (by kernel_rfl) (by decide) (fun K hK => ?_)
  refine goes_ Try.func15 (by kernel_rfl) rfl #[.agg (exqC z).toArray] (by rfl) rfl rfl (by simp only [List.map_toArray, List.map_cons, List.map_nil]; rfl) ?_
  with_reducible refine (D3.out _ HB.out).mono ?_
  rintro e w16 ⟨rfl, hb⟩
  refine ⟨_, rfl, ?_⟩
  have HBn := Aside0.mk (below_next HB.out hb)
  clear HB
  have HB := HBn
  clear HBn hb
  refine hK.out _ _ ⟨(XN.below H1.out HB.out), (XH.below H2.out HB.out), (XQ.below H3.out HB.out), (XS.below H4.out HB.out)⟩ (fun hHeld => ?_)
  clear hK K
  refine norm_ (a' := ?_) ?_ ?_
  rotate_left
  · show Act.put _ (some 49) _ = _
    simp only [Act.put, s1_, s2_, s3_]
    rfl
  refine pure_ (i := 20) (N := some 50) (v := ?_) (a' := ?_) (mkM 30 2097151) rfl rfl (by kernel_rfl) (fun _ _ _ h => h) (Or.inl ⟨by rfl, ?_⟩) ?_ ?_
  rotate_left
  · intro w'
    go_simp
    with_reducible rfl
  rotate_left
  · simp only [Act.put, s1_, s2_, s3_]
    rfl
  refine pure_ (i := 21) (N := some 51) (v := ?_) (a' := ?_) (mkM 30 4194303) rfl rfl (by kernel_rfl) (fun _ _ _ h => h) (Or.inl ⟨by rfl, ?_⟩) ?_ ?_
  rotate_left
  · intro w'
    go_simp
    with_reducible rfl
  rotate_left
  · simp only [Act.put, s1_, s2_, s3_]
    rfl
  refine pure_ (i := 22) (N := some 52) (v := ?_) (a' := ?_) (mkM 30 8388607) rfl rfl (by kernel_rfl) (fun _ _ _ h => h) (Or.inl ⟨by rfl, ?_⟩) ?_ ?_
  rotate_left
  · intro w'
    go_simp
    with_reducible rfl
  rotate_left
  · simp only [Act.put, s1_, s2_, s3_]
    rfl
  refine take_ (i := 23) (N := some 53) (v := ?_) (a' := ?_) (mkM 30 16777215) rfl rfl (by kernel_rfl) (fun _ _ _ h => h) (Or.inl ⟨by rfl, ?_⟩) hHeld ?_ ?_
  rotate_left
  · rintro w' ⟨s0, s1, s2, s3⟩
    refine ld_row 50 (.tmp 7) ?_ g4 ?_ 50 _ (0, 0) _ s3.blk Try.underlying50 ?_ ?_ <;> first | rfl | kernel_rfl
  rotate_left
  · simp only [Act.put, s1_, s2_, s3_]
    rfl
  refine take_ (i := 25) (N := some 55) (v := ?_) (a' := ?_) (mkM 30 50331647) rfl rfl (by kernel_rfl) (fun _ _ _ h => h) (Or.inl ⟨by rfl, ?_⟩) hHeld ?_ ?_
  rotate_left
  · rintro w' ⟨s0, s1, s2, s3⟩
    refine ld_row 50 (.tmp 7) ?_ g4 ?_ 50 _ (0, 0) _ s3.blk Try.underlying50 ?_ ?_ <;> first | rfl | kernel_rfl
  rotate_left
  · simp only [Act.put, s1_, s2_, s3_]
    rfl
  refine one_ (i := 24) (N := some 54) (mkM 30 67108863) rfl rfl (by kernel_rfl) (by decide) (fun K hK => ?_)
  refine goes_ Try.func16 (by kernel_rfl) rfl #[.agg (smmC s).toArray] (by rfl) rfl rfl (by simp only [List.map_toArray, List.map_cons, List.map_nil]; rfl) ?_
  with_reducible refine (C4.out _ HB.out).mono ?_
  rintro e w17 ⟨rfl, hb⟩
  refine ⟨_, rfl, ?_⟩
  have HBn := Aside0.mk (below_next HB.out hb)
  clear HB
  have HB := HBn
  clear HBn hb
  refine hK.out _ _ ⟨(XN.below H1.out HB.out), (XH.below H2.out HB.out), (XQ.below H3.out HB.out), (XS.below H4.out HB.out)⟩ (fun hHeld => ?_)
  clear hK K
  refine norm_ (a' := ?_) ?_ ?_
  rotate_left
  · show Act.put _ (some 54) _ = _
    simp only [Act.put, s1_, s2_, s3_]
    rfl
  refine one_ (i := 26) (N := some 56) (mkM 30 134217727) rfl rfl (by kernel_rfl) (by decide) (fun K hK => ?_)
  refine goes_ Try.func17 (by kernel_rfl) rfl #[.agg (smmC s).toArray] (by rfl) rfl rfl (by simp only [List.map_toArray, List.map_cons, List.map_nil]; rfl) ?_
  with_reducible refine (D4.out _ HB.out).mono ?_
  rintro e w18 ⟨rfl, hb⟩
  refine ⟨_, rfl, ?_⟩
  have HBn := Aside0.mk (below_next HB.out hb)
  clear HB
  have HB := HBn
  clear HBn hb
  refine hK.out _ _ ⟨(XN.below H1.out HB.out), (XH.below H2.out HB.out), (XQ.below H3.out HB.out), (XS.below H4.out HB.out)⟩ (fun hHeld => ?_)
  clear hK K
  refine norm_ (a' := ?_) ?_ ?_
  rotate_left
  · show Act.put _ (some 56) _ = _
    simp only [Act.put, s1_, s2_, s3_]
    rfl
  refine pure_ (i := 27) (N := some 57) (v := ?_) (a' := ?_) (mkM 30 268435455) rfl rfl (by kernel_rfl) (fun _ _ _ h => h) (Or.inl ⟨by rfl, ?_⟩) ?_ ?_
  rotate_left
  · intro w'
    go_simp
    with_reducible rfl
  rotate_left
  · simp only [Act.put, s1_, s2_, s3_]
    rfl
  refine pure_ (i := 28) (N := some 58) (v := ?_) (a' := ?_) (mkM 30 536870911) rfl rfl (by kernel_rfl) (fun _ _ _ h => h) (Or.inl ⟨by rfl, ?_⟩) ?_ ?_
  rotate_left
  · intro w'
    go_simp
    with_reducible rfl
  rotate_left
  · simp only [Act.put, s1_, s2_, s3_]
    rfl
  refine pure_ (i := 29) (N := some 8) (v := ?_) (a' := ?_) (mkM 30 1073741823) rfl rfl (by kernel_rfl) (fun _ _ _ h => h) (Or.inl ⟨by rfl, ?_⟩) ?_ ?_
  rotate_left
  · intro w'
    go_simp
    with_reducible rfl
  rotate_left
  · simp only [Act.put, s1_, s2_, s3_]
    rfl
  refine done_ (by kernel_rfl) ?_
  exact HK.out _ _ _ _ _ _ _ _ _ _ _ _ _ _ _ _ _ _ _ _ _ _ _ _ _ _ _ _ _ _ HB.out
end Go.Proofs.Ytdogokcoobpgdaa
