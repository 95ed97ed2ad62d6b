import Derived.Test.YtdogokcoobpgdaaMkavvajwh
import Derived.Test.YtdogokcoobpgdaaMsihddxeb
import Derived.BigQuiet
namespace Go.Proofs.Ytdogokcoobpgdaa
open Go.RowKit Go.Proofs.YtdogokcoobpgdaaW.PrintWords Go.Proofs.YtdogokcoobpgdaaW.PrintLast Go.Proofs.YtdogokcoobpgdaaW.PrintMore Hy

theorem lit_one (W : World) (base : Nat) (z : Int) (hb : base ≤ W.heap.size) : (W.alloc (.cells #[.int .u64 z] 23)).ownsRow base 23 1 (.slice (some ⟨W.heap.size, 0, none⟩) 1 1) 1 (nums .u64 [z]) :=
  own_lit W base 23 .u64 [z] hb (by simp)
theorem u64_info : ∃ i z, Try.prog.info? 23 = some i ∧ i.zero = some z ∧ i.size = 1 ∧ i.bytes = 8 ∧ z.cells.size = 1 := by
  have h : ((Try.prog.info? 23).bind (fun i => i.zero.map fun z => (i.size, i.bytes, z.cells.size))) = some (1, 8, 1) := by kernel_rfl
  cases hi : Try.prog.info? 23 with
  | none => rw [hi] at h; simp at h
  | some i =>
    rw [hi] at h
    cases hz : i.zero with
    | none => simp [hz] at h
    | some z => simp [hz] at h; exact ⟨i, z, rfl, hz, h.1, h.2.1, h.2.2⟩
theorem u64s_case {W : World} {s : Sl} (h : Rd Try.prog W 26 [s.v]) : s = ⟨none, 0, 0⟩ ∨ ∃ a m c, s = ⟨some a, m, c⟩ := by
  obtain ⟨a, m, c⟩ := s
  rcases rd_slice Try.underlying26 h with h | ⟨a', len, cap, h, _⟩
  · have e := (List.cons.inj h).1
    unfold Sl.v at e
    injection e with e1 e2 e3
    simp only at e1 e2 e3
    exact .inl (by rw [e1, e2, e3])
  · have e := (List.cons.inj h).1
    unfold Sl.v at e
    injection e with e1 e2 e3
    simp only at e1 e2 e3
    exact .inr ⟨a', m, c, by rw [e1]⟩
theorem ns_news {w : World} {a : Addr} {m c : Nat} {l : List Int} (h : NsAt w ⟨some a, m, c⟩ l) : ∀ j u, (nums .u64 l)[j]? = some u → w.cell? (a.add j) = some u := by
  intro j u hu
  unfold nums at hu
  rw [List.getElem?_map] at hu
  obtain ⟨z, hz, rfl⟩ := Option.map_eq_some_iff.1 hu
  obtain ⟨hl, hz2⟩ := List.getElem?_eq_some_iff.1 hz
  obtain ⟨ad, e, hx⟩ := cellAt h.c j hl
  injection e with e
  subst e
  rw [hx, hz2]
theorem own1_some {w : World} {base e n : Nat} {v : Value} {xs : List Value} (h : w.ownsRow base e 1 v n xs) (hn : 0 < n) : ∃ b cap, v = .slice (some ⟨b, 0, none⟩) n cap ∧ n ≤ cap ∧ cap ≤ maxLen := by
  rcases h.2 with ⟨_, h0⟩ | ⟨g, cap, cur, hv, hb, _, h1, h2, _⟩
  · omega
  · exact ⟨g, cap, hv, h1, h2⟩
/-- append(v, l...) as one step of a region of open order. -/
theorem app_u64_step {ops : Array Oper} {Q : Exit → Act → World → Prop} {o : Oper} {a : Act} {w0 w : World} {K : Act → World → Prop} (base : Nat) (hw : Region.wanted o (yielded ops a.tmps) = true) (s x : Operand)
    (ho : o.op = .call { callee := .builtin .append, args := #[s, x], argTypes := #[26, 26] }) (b c n : Nat) (xs : List Int) (hs : a.eval s = .slice (some ⟨b, 0, none⟩) n c) (hown : w.ownsRow base 23 1 (.slice (some ⟨b, 0, none⟩) n c) n (nums .u64 xs)) (hB : Below base w0 w)
    (sl : Sl) (l : List Int) (hx : a.eval x = .slice sl.a sl.len sl.cap) (hn : NsAt w sl l) (hc : sl = ⟨none, 0, 0⟩ ∨ ∃ a m c, sl = ⟨some a, m, c⟩) (hf : 0 < n ∧ n ≤ 30000 ∧ l.length ≤ 12000 ∧ base ≤ w.heap.size)
    (h : ∀ b' c' w', w'.ownsRow base 23 1 (.slice (some ⟨b', 0, none⟩) (n + l.length) c') (n + l.length) (nums .u64 (xs ++ l)) → Below base w0 w' → (∀ g o, w.heap[g]? = some o → g ≠ b → w'.heap[g]? = some o) → K (a.put o.dst (.slice (some ⟨b', 0, none⟩) (n + l.length) c')) w') :
    if Region.wanted o (yielded ops a.tmps) = true then Oper.wp Try.prog o a w K Q else K (a.put o.dst undef) w := by
  rw [if_pos hw]
  obtain ⟨i, z, hi, hz, hsz, hby, hzs⟩ := u64_info
  rcases hc with rfl | ⟨ad, m, c2, rfl⟩
  · obtain rfl : l = [] := List.eq_nil_of_length_eq_zero hn.len.symm
    have hrun := run_append_owned_none (P := Try.prog) (w := w) base 26 o.type 23 i 1 Try.underlying26 hi _ n _ hown
    unfold Oper.wp
    simp [execOp, ho, resolve, invoke, builtin, hs, hx, hrun, Result.andThen]
    refine h b c w ?_ hB (fun g o hg _ => hg)
    rw [List.append_nil]
    exact hown
  · obtain rfl : m = l.length := hn.len
    refine wp_append_own w s x 26 ho base 23 i z 1 8 Try.underlying26 hi hz hsz hby hzs (by decide) _ n _ hs hown ad l.length c2 (nums .u64 l) hx (by unfold nums; simp) (ns_news hn) (by intro u hu; unfold nums at hu; obtain ⟨z, _, rfl⟩ := List.mem_map.1 hu; rfl) (by unfold maxLen; omega) (by omega) hf.2.2.2 ?_
    intro v' w' h1 h2 _
    obtain ⟨b', c', rfl, _, _⟩ := own1_some h1 (by omega)
    refine h b' c' w' ?_ (hB.grown h2 hf.2.2.2 (fun k e => by injection e with e; rw [← e]; exact (hown.lt b rfl).1)) (fun g o hg hne => (h2.block g (blk_lt hg) (fun e => hne (by simpa [Value.ownBlock] using e))).trans hg)
    unfold nums at h1 ⊢
    rw [List.map_append]
    exact h1
end Go.Proofs.Ytdogokcoobpgdaa
namespace Go.Proofs.Ytdogokcoobpgdaa
open Go.RowKit Go.Proofs.YtdogokcoobpgdaaW.PrintWords Go.Proofs.YtdogokcoobpgdaaW.PrintLast Go.Proofs.YtdogokcoobpgdaaW.PrintMore Hy

noncomputable def expC : Code := (Try.f15.body).getD .skip
set_option maxHeartbeats 2000000 in
set_option maxRecDepth 100000 in
theorem rx0 {w : World} {K : Act → World → Prop} {Q : Exit → Act → World → Prop} {x : Exq} (hK : K ⟨#[exqA x, .pointer (some ⟨w.heap.size, 0, none⟩), .int .i64 0, undef, undef, undef, undef, undef, undef, undef, undef, undef, undef, undef, undef, undef, undef, undef, undef, undef, undef, undef, undef, undef, undef, undef, undef, undef, undef, undef, undef, undef, undef, undef, undef, undef, undef, undef, undef, undef, undef, undef, undef, undef, undef, undef, undef, undef, undef, undef, undef, undef, undef, undef, undef, undef, undef, undef, undef, undef, undef, undef, undef, undef, undef, undef, undef, undef, undef], []⟩ (w.alloc (.cells (exqC x).toArray 34))) :
    (headC (dropSeq 0 expC)).wp Try.prog (Exit.then K Q) ⟨#[exqA x, undef, undef, undef, undef, undef, undef, undef, undef, undef, undef, undef, undef, undef, undef, undef, undef, undef, undef, undef, undef, undef, undef, undef, undef, undef, undef, undef, undef, undef, undef, undef, undef, undef, undef, undef, undef, undef, undef, undef, undef, undef, undef, undef, undef, undef, undef, undef, undef, undef, undef, undef, undef, undef, undef, undef, undef, undef, undef, undef, undef, undef, undef, undef, undef, undef, undef, undef, undef], []⟩ w := by
  have HK := Aside0.mk hK
  clear hK
  refine wp_reg rfl ?_
  go_wp2_with (refine Great.wpList_boxTo rfl 34 _ rfl _ rfl w.heap.size rfl (exqC x).toArray rfl ?_)
  exact HK.out
set_option maxHeartbeats 2000000 in
set_option maxRecDepth 100000 in
theorem rx1 {w : World} {K : Act → World → Prop} {Q : Exit → Act → World → Prop} {x : Exq} {g : Nat} {ks : List Kv} (hX : XQ w g x) (hk : KsAt w x.attrs ks)
    (hK : ∀ (u5 u6 u7 u8 u9 u10 u11 : Value) (W : World), Below w.heap.size w W → K ⟨#[exqA x, .pointer (some ⟨g, 0, none⟩), .int .i64 0, .int .i64 (commI x.start x.time (dupK ks)), undef, u5, u6, u7, u8, u9, u10, u11, undef, undef, undef, undef, undef, undef, undef, undef, undef, undef, undef, undef, undef, undef, undef, undef, undef, undef, undef, undef, undef, undef, undef, undef, undef, undef, undef, undef, undef, undef, undef, undef, undef, undef, undef, undef, undef, undef, undef, undef, undef, undef, undef, undef, undef, undef, undef, undef, undef, undef, undef, undef, undef, undef, undef, undef, undef], []⟩ W) :
    (headC (dropSeq 1 expC)).wp Try.prog (Exit.then K Q) ⟨#[exqA x, .pointer (some ⟨g, 0, none⟩), .int .i64 0, undef, undef, undef, undef, undef, undef, undef, undef, undef, undef, undef, undef, undef, undef, undef, undef, undef, undef, undef, undef, undef, undef, undef, undef, undef, undef, undef, undef, undef, undef, undef, undef, undef, undef, undef, undef, undef, undef, undef, undef, undef, undef, undef, undef, undef, undef, undef, undef, undef, undef, undef, undef, undef, undef, undef, undef, undef, undef, undef, undef, undef, undef, undef, undef, undef, undef], []⟩ w := by
  have HC := Aside0.mk (rbase_any w x.start x.time x.attrs ks hk)
  have HK := Aside0.mk hK
  have z0 := hX.c0
  have z1 := hX.c1
  have z2 := hX.c2
  clear hK hk
  refine wp_reg rfl ?_
  go_wp2_with (go_at_call 33; with_reducible refine (HC.out).mono ?_; rintro e w2 ⟨rfl, hb⟩; have HB := Aside0.mk hb; clear hb)
  exact HK.out _ _ _ _ _ _ _ _ HB.out
set_option maxHeartbeats 4000000 in
set_option maxRecDepth 100000 in
theorem rx2 {w : World} {K : Act → World → Prop} {R : Ending → World → Prop} {x : Exq} {g : Nat} {pl nl : List Int} {v3 u5 u6 u7 u8 u9 u10 u11 : Value} (hX : XQ w g x) (hp : NsAt w x.pos.counts pl) (hn : NsAt w x.neg.counts nl)
    (hcp : x.pos.counts = ⟨none, 0, 0⟩ ∨ ∃ a m c, x.pos.counts = ⟨some a, m, c⟩) (hcn : x.neg.counts = ⟨none, 0, 0⟩ ∨ ∃ a m c, x.neg.counts = ⟨some a, m, c⟩) (hf : pl.length ≤ 12000 ∧ nl.length ≤ 12000)
    (hK : ∀ (u12 u13 u14 u15 u16 u17 u18 u19 u20 u21 u22 : Value) (b c : Nat) (W : World), Below w.heap.size w W → W.ownsRow w.heap.size 23 1 (.slice (some ⟨b, 0, none⟩) (1 + pl.length + nl.length) c) (1 + pl.length + nl.length) (nums .u64 ([x.zero] ++ pl ++ nl)) → K ⟨#[exqA x, .pointer (some ⟨g, 0, none⟩), .int .i64 0, v3, .slice (some ⟨b, 0, none⟩) (1 + pl.length + nl.length) c, u5, u6, u7, u8, u9, u10, u11, u12, u13, u14, u15, u16, u17, u18, u19, u20, u21, u22, undef, undef, undef, undef, undef, undef, undef, undef, undef, undef, undef, undef, undef, undef, undef, undef, undef, undef, undef, undef, undef, undef, undef, undef, undef, undef, undef, undef, undef, undef, undef, undef, undef, undef, undef, undef, undef, undef, undef, undef, undef, undef, undef, undef, undef, undef], []⟩ W) :
    (headC (dropSeq 2 expC)).wp Try.prog (Exit.then K (bodyPost Try.prog Try.f15 R)) ⟨#[exqA x, .pointer (some ⟨g, 0, none⟩), .int .i64 0, v3, undef, u5, u6, u7, u8, u9, u10, u11, undef, undef, undef, undef, undef, undef, undef, undef, undef, undef, undef, undef, undef, undef, undef, undef, undef, undef, undef, undef, undef, undef, undef, undef, undef, undef, undef, undef, undef, undef, undef, undef, undef, undef, undef, undef, undef, undef, undef, undef, undef, undef, undef, undef, undef, undef, undef, undef, undef, undef, undef, undef, undef, undef, undef, undef, undef], []⟩ w := by
  have HK := Aside0.mk hK
  have HGL := Aside0.mk (blk_lt hX.blk)
  have HX : Aside0 (XQ w.drew g x) := ⟨⟨hX.blk⟩⟩
  have HNP := Aside0.mk (fun w' (h : Below w.heap.size w w') => hp.below h)
  have HNN := Aside0.mk (fun w' (h : Below w.heap.size w w') => hn.below h)
  have HCP := Aside0.mk hcp
  have HCN := Aside0.mk hcn
  have HF := Aside0.mk hf
  clear hK hX hp hn hcp hcn hf
  refine wp_reg rfl ?_
  refine start_ (n := 12) (S := fun w' => w'.cell? ⟨g, 11, none⟩ = some (.int .u64 x.zero) ∧ w'.cell? ⟨g, 14, none⟩ = some (.slice x.pos.counts.a x.pos.counts.len x.pos.counts.cap) ∧ w'.cell? ⟨g, 18, none⟩ = some (.slice x.neg.counts.a x.neg.counts.len x.neg.counts.cap)) (ds := []) #[false, false, false, false, false, false, false, false, false, false, false, false] (by kernel_rfl) rfl rfl ⟨HX.out.c11, HX.out.c14, HX.out.c18⟩ (fun hHeld => ?_)
  refine pure_ (i := 0) (N := some 12) (v := ?_) (a' := ?_) (mkM 12 1) rfl rfl (by kernel_rfl) (fun _ _ _ h => h) (Or.inl ⟨by rfl, ?_⟩) ?_ ?_
  rotate_left
  · intro w'
    go_simp
    with_reducible rfl
  rotate_left
  · simp only [Act.put, s1_, s2_, s3_]
    rfl
  refine pure_ (i := 3) (N := some 15) (v := ?_) (a' := ?_) (mkM 12 9) rfl rfl (by kernel_rfl) (fun _ _ _ h => h) (Or.inl ⟨by rfl, ?_⟩) ?_ ?_
  rotate_left
  · intro w'
    go_simp
    with_reducible rfl
  rotate_left
  · simp only [Act.put, s1_, s2_, s3_]
    rfl
  refine pure_ (i := 4) (N := some 16) (v := ?_) (a' := ?_) (mkM 12 25) rfl rfl (by kernel_rfl) (fun _ _ _ h => h) (Or.inl ⟨by rfl, ?_⟩) ?_ ?_
  rotate_left
  · intro w'
    go_simp
    with_reducible rfl
  rotate_left
  · simp only [Act.put, s1_, s2_, s3_]
    rfl
  refine pure_ (i := 7) (N := some 19) (v := ?_) (a' := ?_) (mkM 12 153) rfl rfl (by kernel_rfl) (fun _ _ _ h => h) (Or.inl ⟨by rfl, ?_⟩) ?_ ?_
  rotate_left
  · intro w'
    go_simp
    with_reducible rfl
  rotate_left
  · simp only [Act.put, s1_, s2_, s3_]
    rfl
  refine pure_ (i := 8) (N := some 20) (v := ?_) (a' := ?_) (mkM 12 409) rfl rfl (by kernel_rfl) (fun _ _ _ h => h) (Or.inl ⟨by rfl, ?_⟩) ?_ ?_
  rotate_left
  · intro w'
    go_simp
    with_reducible rfl
  rotate_left
  · simp only [Act.put, s1_, s2_, s3_]
    rfl
  refine take_ (i := 1) (N := some 13) (v := ?_) (a' := ?_) (mkM 12 411) rfl rfl (by kernel_rfl) (fun _ _ _ h => h) (Or.inl ⟨by rfl, ?_⟩) hHeld ?_ ?_
  rotate_left
  · rintro w' ⟨s0, s1, s2⟩
    go_simp
    with_reducible rfl
  rotate_left
  · simp only [Act.put, s1_, s2_, s3_]
    rfl
  refine take_ (i := 5) (N := some 17) (v := ?_) (a' := ?_) (mkM 12 443) rfl rfl (by kernel_rfl) (fun _ _ _ h => h) (Or.inl ⟨by rfl, ?_⟩) hHeld ?_ ?_
  rotate_left
  · rintro w' ⟨s0, s1, s2⟩
    go_simp
    with_reducible rfl
  rotate_left
  · simp only [Act.put, s1_, s2_, s3_]
    rfl
  refine take_ (i := 9) (N := some 21) (v := ?_) (a' := ?_) (mkM 12 955) rfl rfl (by kernel_rfl) (fun _ _ _ h => h) (Or.inl ⟨by rfl, ?_⟩) hHeld ?_ ?_
  rotate_left
  · rintro w' ⟨s0, s1, s2⟩
    go_simp
    with_reducible rfl
  rotate_left
  · simp only [Act.put, s1_, s2_, s3_]
    rfl
  refine one_ (i := 2) (N := some 14) (mkM 12 959) rfl rfl (by kernel_rfl) (by decide) (fun K hK => ?_)
  refine value_ (w1 := ?_) (v := ?_) (by rfl) rfl ?_ ?_
  rotate_left 2
  · go_simp
    constructor
    · rfl
    · rfl
  have HO := Aside0.mk (show (w.alloc (.cells #[.int .u64 x.zero] 23)).drew.ownsRow w.heap.size 23 1 (.slice (some ⟨w.heap.size, 0, none⟩) 1 1) 1 (nums .u64 [x.zero]) from lit_one w.drew w.heap.size x.zero (Nat.le_refl _))
  replace HX := Aside0.mk (show XQ (w.alloc (.cells #[.int .u64 x.zero] 23)).drew g x from XQ.below HX.out ((Below.refl w.drew.heap.size w.drew).alloc (Nat.le_refl _) (.cells #[.int .u64 x.zero] 23)))
  have HB := Aside0.mk (show Below w.heap.size w (w.alloc (.cells #[.int .u64 x.zero] 23)).drew from (below_drew1 (Below.refl w.heap.size w)).alloc (Nat.le_refl _) _)
  generalize (w.alloc (.cells #[.int .u64 x.zero] 23)).drew = w1 at *
  refine hK.out _ _ ⟨HX.out.c11, HX.out.c14, HX.out.c18⟩ (fun hHeld => ?_)
  clear hK K
  refine norm_ (a' := ?_) ?_ ?_
  rotate_left
  · show Act.put _ (some 14) _ = _
    simp only [Act.put, s1_, s2_, s3_]
    rfl
  refine one_ (i := 6) (N := some 18) (mkM 12 1023) rfl rfl (by kernel_rfl) (by decide) (fun K hK => ?_)
  refine app_u64_step (w0 := w) w.heap.size (by rfl) (.tmp 14) (.tmp 17) rfl w.heap.size _ 1 [x.zero] rfl HO.out HB.out x.pos.counts pl rfl (HNP.out _ HB.out) HCP.out (by have := HF.out; have := HB.out.size; omega) ?_
  intro b1 c1 wa ho hb hg
  replace HX := Aside0.mk (show XQ wa g x from ⟨hg _ _ HX.out.blk (by have h1 := (HO.out.lt w.heap.size rfl).1; have h2 := HGL.out; omega)⟩)
  replace HB := Aside0.mk hb
  have HOn := Aside0.mk ho
  clear HO
  have HO := HOn
  clear HOn ho hb hg
  refine hK.out _ _ ⟨HX.out.c11, HX.out.c14, HX.out.c18⟩ (fun hHeld => ?_)
  clear hK K
  refine norm_ (a' := ?_) ?_ ?_
  rotate_left
  · show Act.put _ (some 18) _ = _
    simp only [Act.put, s1_, s2_, s3_]
    rfl
  refine one_ (i := 10) (N := some 22) (mkM 12 2047) rfl rfl (by kernel_rfl) (by decide) (fun K hK => ?_)
  refine app_u64_step (w0 := w) w.heap.size (by rfl) (.tmp 18) (.tmp 21) rfl b1 _ (1 + pl.length) ([x.zero] ++ pl) rfl HO.out HB.out x.neg.counts nl rfl (HNN.out _ HB.out) HCN.out (by have := HF.out; have := HB.out.size; omega) ?_
  intro b2 c2 wa ho hb hg
  replace HX := Aside0.mk (show XQ wa g x from ⟨hg _ _ HX.out.blk (by have h1 := (HO.out.lt b1 rfl).1; have h2 := HGL.out; omega)⟩)
  replace HB := Aside0.mk hb
  have HOn := Aside0.mk ho
  clear HO
  have HO := HOn
  clear HOn ho hb hg
  refine hK.out _ _ ⟨HX.out.c11, HX.out.c14, HX.out.c18⟩ (fun hHeld => ?_)
  clear hK K
  refine norm_ (a' := ?_) ?_ ?_
  rotate_left
  · show Act.put _ (some 22) _ = _
    simp only [Act.put, s1_, s2_, s3_]
    rfl
  refine pure_ (i := 11) (N := some 4) (v := ?_) (a' := ?_) (mkM 12 4095) rfl rfl (by kernel_rfl) (fun _ _ _ h => h) (Or.inl ⟨by rfl, ?_⟩) ?_ ?_
  rotate_left
  · intro w'
    go_simp
    with_reducible rfl
  rotate_left
  · simp only [Act.put, s1_, s2_, s3_]
    rfl
  refine done_ (by kernel_rfl) ?_
  exact HK.out _ _ _ _ _ _ _ _ _ _ _ b2 c2 _ HB.out HO.out
end Go.Proofs.Ytdogokcoobpgdaa
