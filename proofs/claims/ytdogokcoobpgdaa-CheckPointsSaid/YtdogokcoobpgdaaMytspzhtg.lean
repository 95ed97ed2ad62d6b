import Derived.Test.YtdogokcoobpgdaaMbzwwllsw
import Derived.Test.YtdogokcoobpgdaaMopcckmpv
import Derived.Test.YtdogokcoobpgdaaMtxfbzfli
namespace Go.Proofs.Ytdogokcoobpgdaa
open Go.RowKit Go.Proofs.YtdogokcoobpgdaaW.PrintWords Go.Proofs.YtdogokcoobpgdaaW.PrintLast Go.Proofs.YtdogokcoobpgdaaW.PrintMore Hy

theorem qs_below {W w : World} {s : Sl} {l : List Qnt} (h : SlAt 3 qntC QntOk W s l) (hb : Below W.heap.size W w) : SlAt 3 qntC QntOk w s l :=
  ⟨h.1, h.2.1, h.2.2.1, fun hl => by
    obtain ⟨a, ha, hel⟩ := h.2.2.2 hl
    refine ⟨a, ha, fun i hi => ⟨fun j hj => ?_, ⟨(hel i hi).2.q, (hel i hi).2.v, (hel i hi).2.unk⟩⟩⟩
    have h1 := (hel i hi).1 j hj
    have hj2 : j < (qntC l[i]).length := hj
    rw [List.getElem?_eq_getElem hj2] at h1 ⊢
    exact pw_cell_below hb h1⟩
theorem ks_true {α : Type} {k : Nat} {c : α → List Value} {ok : World → α → Prop} {W : World} {s : Sl} {l : List α} (h : SlAt k c ok W s l) : SlAt k c (fun _ _ => True) W s l :=
  ⟨h.1, h.2.1, h.2.2.1, fun hl => by
    obtain ⟨a, ha, hel⟩ := h.2.2.2 hl
    exact ⟨a, ha, fun i hi => ⟨(hel i hi).1, trivial⟩⟩⟩
set_option maxHeartbeats 4000000 in
set_option maxRecDepth 100000 in
theorem pts0 {w : World} {K : Act → World → Prop} {Q : Exit → Act → World → Prop} {x : Nmb} {y : Hst} {z : Exq} {s : Smm}
    (hK : ∀ g2 g3 g4, g2 = w.heap.size + 1 → g3 = w.heap.size + 1 + 1 → g4 = w.heap.size + 1 + 1 + 1 → K ⟨#[nmbA x, hstA y, exqA z, smmA s, .pointer (some ⟨w.heap.size, 0, none⟩), .pointer (some ⟨g2, 0, none⟩), .pointer (some ⟨g3, 0, none⟩), .pointer (some ⟨g4, 0, none⟩), .bool false, undef, undef, undef, undef, undef, undef, undef, undef, undef, undef, undef, undef, undef, undef, undef, undef, undef, undef, undef, undef, undef, undef, undef, undef, undef, undef, undef, undef, undef, undef, undef, undef, undef, undef, undef, undef, undef, undef, undef, undef, undef, undef, undef, undef, undef, undef, undef, undef, undef, undef], []⟩ ((((w.alloc (.cells (nmbC x).toArray 47)).alloc (.cells (hstC y).toArray 30)).alloc (.cells (exqC z).toArray 34)).alloc (.cells (smmC s).toArray 50))) :
    (headC (dropSeq 0 ptsC)).wp Try.prog (Exit.then K Q) ⟨#[nmbA x, hstA y, exqA z, smmA s, undef, undef, undef, undef, undef, undef, undef, undef, undef, undef, undef, undef, undef, undef, undef, undef, undef, undef, undef, undef, undef, undef, undef, undef, undef, undef, undef, undef, undef, undef, undef, undef, undef, undef, undef, undef, undef, undef, undef, undef, undef, undef, undef, undef, undef, undef, undef, undef, undef, undef, undef, undef, undef, undef, undef], []⟩ w := by
  have HK := Aside0.mk hK
  clear hK
  refine wp_reg rfl ?_
  go_wp2_with (first
    | ((with_reducible refine gate_dst (N := 4) rfl ?_); refine Great.wpList_boxTo rfl 47 _ rfl _ rfl (w.heap.size) rfl (nmbC x).toArray rfl ?_)
    | ((with_reducible refine gate_dst (N := 5) rfl ?_); refine Great.wpList_boxTo rfl 30 _ rfl _ rfl (w.heap.size + 1) (by simp only [World.size_alloc]) (hstC y).toArray rfl ?_)
    | ((with_reducible refine gate_dst (N := 6) rfl ?_); refine Great.wpList_boxTo rfl 34 _ rfl _ rfl (w.heap.size + 1 + 1) (by simp only [World.size_alloc]) (exqC z).toArray rfl ?_)
    | ((with_reducible refine gate_dst (N := 7) rfl ?_); refine Great.wpList_boxTo rfl 50 _ rfl _ rfl (w.heap.size + 1 + 1 + 1) (by simp only [World.size_alloc]) (smmC s).toArray rfl ?_)
    | fail)
  exact HK.out _ _ _ rfl rfl rfl
set_option maxHeartbeats 4000000 in
set_option maxRecDepth 100000 in
theorem pts1 {w : World} {K : Act → World → Prop} {Q : Exit → Act → World → Prop} {x : Nmb} {y : Hst} {z : Exq} {s : Smm} {g1 g2 g3 g4 : Nat}
    (hK : ∀ W, Below w.heap.size w W → K ⟨#[nmbA x, hstA y, exqA z, smmA s, .pointer (some ⟨g1, 0, none⟩), .pointer (some ⟨g2, 0, none⟩), .pointer (some ⟨g3, 0, none⟩), .pointer (some ⟨g4, 0, none⟩), .bool false, .bool true, .bool false, undef, undef, undef, undef, undef, undef, undef, undef, undef, undef, undef, undef, undef, undef, undef, undef, undef, undef, undef, undef, undef, undef, undef, undef, undef, undef, undef, undef, undef, undef, undef, undef, undef, undef, undef, undef, undef, undef, undef, undef, undef, undef, undef, undef, undef, undef, undef, undef], []⟩ W) :
    (headC (dropSeq 1 ptsC)).wp Try.prog (Exit.then K Q) ⟨#[nmbA x, hstA y, exqA z, smmA s, .pointer (some ⟨g1, 0, none⟩), .pointer (some ⟨g2, 0, none⟩), .pointer (some ⟨g3, 0, none⟩), .pointer (some ⟨g4, 0, none⟩), .bool false, undef, undef, undef, undef, undef, undef, undef, undef, undef, undef, undef, undef, undef, undef, undef, undef, undef, undef, undef, undef, undef, undef, undef, undef, undef, undef, undef, undef, undef, undef, undef, undef, undef, undef, undef, undef, undef, undef, undef, undef, undef, undef, undef, undef, undef, undef, undef, undef, undef, undef], []⟩ w := by
  have HK := Aside0.mk hK
  have HF := Aside0.mk first_any
  clear hK
  refine wp_code rfl ?_
  go_wp2_with (go_at_call 5; with_reducible refine (HF.out _).mono ?_; rintro e w2 ⟨rfl, hb⟩; have HB := Aside0.mk hb; clear hb)
  exact HK.out _ HB.out
set_option maxHeartbeats 4000000 in
set_option maxRecDepth 100000 in
theorem pts_room {w0 w : World} {x : Nmb} {y : Hst} {z : Exq} {s : Smm} {g1 g2 g3 g4 : Nat} (hW : Below w0.heap.size w0 w) (h1 : XN w g1 x) (o1 : NmbOk w0 x) (s1 : ∀ a, x.attrs.a = some a → a.spot = none) (h2 : XH w g2 y) (o2 : HstOk w0 y) (s2 : ∀ a, y.attrs.a = some a → a.spot = none) (h3 : XQ w g3 z) (o3 : ExqOk w0 z) (s3 : ∀ a, z.attrs.a = some a → a.spot = none) (h4 : XS w g4 s) (o4 : SmmOk w0 s) (s4 : ∀ a, s.attrs.a = some a → a.spot = none)
    (hT : ∀ (k1 k2 k3 k4 : List Kv) (u9 u10 u11 u12 u13 u14 u15 u16 u17 u18 u19 u20 u21 u22 u23 u24 u25 u26 u27 u28 u29 : Value) (W : World), Below w.heap.size w W → KsAt w0 x.attrs k1 → KsAt w0 y.attrs k2 → KsAt w0 z.attrs k3 → KsAt w0 s.attrs k4 → (y.counts.len ≤ 12000 ∧ y.bounds.len ≤ 12000) → (z.pos.counts.len ≤ 12000 ∧ z.neg.counts.len ≤ 12000) →
      (dropSeq 3 ptsC).wp Try.prog (bodyPost Try.prog Try.f4 (fun e w' => e = .returned (.bool true) ∧ Below w0.heap.size w0 w')) ⟨#[nmbA x, hstA y, exqA z, smmA s, .pointer (some ⟨g1, 0, none⟩), .pointer (some ⟨g2, 0, none⟩), .pointer (some ⟨g3, 0, none⟩), .pointer (some ⟨g4, 0, none⟩), .bool false, u9, u10, u11, u12, u13, u14, u15, u16, u17, u18, u19, u20, u21, u22, u23, u24, u25, u26, u27, u28, u29, undef, undef, undef, undef, undef, undef, undef, undef, undef, undef, undef, undef, undef, undef, undef, undef, undef, undef, undef, undef, undef, undef, undef, undef, undef, undef, undef, undef, undef], []⟩ W) :
    (headC (dropSeq 2 ptsC)).wp Try.prog (Exit.then (fun a w => (dropSeq 3 ptsC).wp Try.prog (bodyPost Try.prog Try.f4 (fun e w' => e = .returned (.bool true) ∧ Below w0.heap.size w0 w')) a w) (bodyPost Try.prog Try.f4 (fun e w' => e = .returned (.bool true) ∧ Below w0.heap.size w0 w'))) ⟨#[nmbA x, hstA y, exqA z, smmA s, .pointer (some ⟨g1, 0, none⟩), .pointer (some ⟨g2, 0, none⟩), .pointer (some ⟨g3, 0, none⟩), .pointer (some ⟨g4, 0, none⟩), .bool false, .bool true, .bool false, undef, undef, undef, undef, undef, undef, undef, undef, undef, undef, undef, undef, undef, undef, undef, undef, undef, undef, undef, undef, undef, undef, undef, undef, undef, undef, undef, undef, undef, undef, undef, undef, undef, undef, undef, undef, undef, undef, undef, undef, undef, undef, undef, undef, undef, undef, undef, undef], []⟩ w := by
  have H1 := Aside0.mk h1
  have S1 := Aside0.mk s1
  have H2 := Aside0.mk h2
  have S2 := Aside0.mk s2
  have H3 := Aside0.mk h3
  have S3 := Aside0.mk s3
  have H4 := Aside0.mk h4
  have S4 := Aside0.mk s4
  have HW := Aside0.mk hW
  have HF := Aside0.mk first_any
  have HB := Aside0.mk (Below.refl w.heap.size w)
  have M1 := Aside0.mk (fun W (hb : Below w.heap.size w W) => rnum_any w0 W x (hW.trans (hb.mono hW.size)) o1)
  have M2 := Aside0.mk (fun W (hb : Below w.heap.size w W) => rhist_len w0 W y (hW.trans (hb.mono hW.size)) o2)
  have M3 := Aside0.mk (fun W (hb : Below w.heap.size w W) => rexp_len w0 W z (hW.trans (hb.mono hW.size)) o3)
  have M4 := Aside0.mk (fun W (hb : Below w.heap.size w W) => rsmm_any w0 W s (hW.trans (hb.mono hW.size)) o4)
  have HT := Aside0.mk hT
  clear hW hT h1 o1 s1 h2 o2 s2 h3 o3 s3 h4 o4 s4
  generalize hK : (fun a w => (dropSeq 3 ptsC).wp Try.prog (bodyPost Try.prog Try.f4 (fun e w' => e = .returned (.bool true) ∧ Below w0.heap.size w0 w')) a w) = KK
  have HKK := Aside0.mk hK
  clear hK
  refine wp_code rfl ?_
  unfold nmbA hstA exqA smmA
  go_wp2_with (refine wpList_load_rowG (by rfl) 47 _ rfl g1 rfl 47 (nmbC x).toArray (0, 0) _ (XN.below H1.out HB.out).blk Try.underlying47 rfl (by kernel_rfl) ?_)
  refine (M1.out _ HB.out).mono ?_
  rintro e v1 ⟨r1, k1, rfl, hks, hfew, hr1, hr2, hb⟩
  replace HB := Aside0.mk (below_next HB.out hb)
  clear hb
  by_cases c1 : r1 < 0
  · clear hks hfew
    go_wp2_with (first
      | (refine wpList_load_rowG (by rfl) 47 _ rfl g1 rfl 47 (nmbC x).toArray (0, 0) _ (XN.below H1.out HB.out).blk Try.underlying47 rfl (by kernel_rfl) ?_)
      | (refine wpList_load_rowG (by rfl) 30 _ rfl g2 rfl 30 (hstC y).toArray (0, 0) _ (XH.below H2.out HB.out).blk Try.underlying30 rfl (by kernel_rfl) ?_)
      | (refine wpList_load_rowG (by rfl) 34 _ rfl g3 rfl 34 (exqC z).toArray (0, 0) _ (XQ.below H3.out HB.out).blk Try.underlying34 rfl (by kernel_rfl) ?_)
      | (refine wpList_load_rowG (by rfl) 50 _ rfl g4 rfl 50 (smmC s).toArray (0, 0) _ (XS.below H4.out HB.out).blk Try.underlying50 rfl (by kernel_rfl) ?_)
      | (go_at_call 5; with_reducible refine (HF.out _).mono ?_; rintro e w9 ⟨rfl, hb9⟩; replace HB := Aside0.mk (below_next HB.out hb9); clear hb9))
    go_ret
    exact ⟨rfl, below_next HW.out HB.out⟩
  · have d1 : decide (r1 < 0) = false := decide_eq_false c1
    have K1 := Aside0.mk (show KsAt w0 x.attrs k1 from ⟨ks_true hks, S1.out, by have h_ := hfew (by omega); omega⟩)
    clear hks hfew
    go_wp2_with (first | (refine wpList_load_rowG (by rfl) 30 _ rfl g2 rfl 30 (hstC y).toArray (0, 0) _ (XH.below H2.out HB.out).blk Try.underlying30 rfl (by kernel_rfl) ?_) | ((simp only []); (refine wpList_load_rowG (by rfl) 30 _ rfl g2 rfl 30 (hstC y).toArray (0, 0) _ (XH.below H2.out HB.out).blk Try.underlying30 rfl (by kernel_rfl) ?_)))
    refine (M2.out _ HB.out).mono ?_
    rintro e v2 ⟨r2, k2, rfl, hks, hfew, hr1, hr2, hb⟩
    replace HB := Aside0.mk (below_next HB.out hb)
    clear hb
    by_cases c2 : r2 < 0
    · clear hks hfew
      go_wp2_with (first
        | (refine wpList_load_rowG (by rfl) 47 _ rfl g1 rfl 47 (nmbC x).toArray (0, 0) _ (XN.below H1.out HB.out).blk Try.underlying47 rfl (by kernel_rfl) ?_)
        | (refine wpList_load_rowG (by rfl) 30 _ rfl g2 rfl 30 (hstC y).toArray (0, 0) _ (XH.below H2.out HB.out).blk Try.underlying30 rfl (by kernel_rfl) ?_)
        | (refine wpList_load_rowG (by rfl) 34 _ rfl g3 rfl 34 (exqC z).toArray (0, 0) _ (XQ.below H3.out HB.out).blk Try.underlying34 rfl (by kernel_rfl) ?_)
        | (refine wpList_load_rowG (by rfl) 50 _ rfl g4 rfl 50 (smmC s).toArray (0, 0) _ (XS.below H4.out HB.out).blk Try.underlying50 rfl (by kernel_rfl) ?_)
        | (go_at_call 5; with_reducible refine (HF.out _).mono ?_; rintro e w9 ⟨rfl, hb9⟩; replace HB := Aside0.mk (below_next HB.out hb9); clear hb9))
      go_ret
      exact ⟨rfl, below_next HW.out HB.out⟩
    · have d2 : decide (r2 < 0) = false := decide_eq_false c2
      have K2 := Aside0.mk (show KsAt w0 y.attrs k2 from ⟨ks_true hks, S2.out, by have h_ := hfew (by omega); omega⟩)
      have E2 := Aside0.mk (hfew (by omega)).2
      clear hks hfew
      go_wp2_with (first | (refine wpList_load_rowG (by rfl) 34 _ rfl g3 rfl 34 (exqC z).toArray (0, 0) _ (XQ.below H3.out HB.out).blk Try.underlying34 rfl (by kernel_rfl) ?_) | ((simp only []); (refine wpList_load_rowG (by rfl) 34 _ rfl g3 rfl 34 (exqC z).toArray (0, 0) _ (XQ.below H3.out HB.out).blk Try.underlying34 rfl (by kernel_rfl) ?_)))
      refine (M3.out _ HB.out).mono ?_
      rintro e v3 ⟨r3, k3, rfl, hks, hfew, hr1, hr2, hb⟩
      replace HB := Aside0.mk (below_next HB.out hb)
      clear hb
      by_cases c3 : r3 < 0
      · clear hks hfew
        go_wp2_with (first
          | (refine wpList_load_rowG (by rfl) 47 _ rfl g1 rfl 47 (nmbC x).toArray (0, 0) _ (XN.below H1.out HB.out).blk Try.underlying47 rfl (by kernel_rfl) ?_)
          | (refine wpList_load_rowG (by rfl) 30 _ rfl g2 rfl 30 (hstC y).toArray (0, 0) _ (XH.below H2.out HB.out).blk Try.underlying30 rfl (by kernel_rfl) ?_)
          | (refine wpList_load_rowG (by rfl) 34 _ rfl g3 rfl 34 (exqC z).toArray (0, 0) _ (XQ.below H3.out HB.out).blk Try.underlying34 rfl (by kernel_rfl) ?_)
          | (refine wpList_load_rowG (by rfl) 50 _ rfl g4 rfl 50 (smmC s).toArray (0, 0) _ (XS.below H4.out HB.out).blk Try.underlying50 rfl (by kernel_rfl) ?_)
          | (go_at_call 5; with_reducible refine (HF.out _).mono ?_; rintro e w9 ⟨rfl, hb9⟩; replace HB := Aside0.mk (below_next HB.out hb9); clear hb9))
        go_ret
        exact ⟨rfl, below_next HW.out HB.out⟩
      · have d3 : decide (r3 < 0) = false := decide_eq_false c3
        have K3 := Aside0.mk (show KsAt w0 z.attrs k3 from ⟨ks_true hks, S3.out, by have h_ := hfew (by omega); omega⟩)
        have E3 := Aside0.mk (hfew (by omega)).2
        clear hks hfew
        go_wp2_with (first | (refine wpList_load_rowG (by rfl) 50 _ rfl g4 rfl 50 (smmC s).toArray (0, 0) _ (XS.below H4.out HB.out).blk Try.underlying50 rfl (by kernel_rfl) ?_) | ((simp only []); (refine wpList_load_rowG (by rfl) 50 _ rfl g4 rfl 50 (smmC s).toArray (0, 0) _ (XS.below H4.out HB.out).blk Try.underlying50 rfl (by kernel_rfl) ?_)))
        refine (M4.out _ HB.out).mono ?_
        rintro e v4 ⟨r4, k4, rfl, hks, hfew, hr1, hr2, hb⟩
        replace HB := Aside0.mk (below_next HB.out hb)
        clear hb
        by_cases c4 : r4 < 0
        · clear hks hfew
          go_wp2_with (first
            | (refine wpList_load_rowG (by rfl) 47 _ rfl g1 rfl 47 (nmbC x).toArray (0, 0) _ (XN.below H1.out HB.out).blk Try.underlying47 rfl (by kernel_rfl) ?_)
            | (refine wpList_load_rowG (by rfl) 30 _ rfl g2 rfl 30 (hstC y).toArray (0, 0) _ (XH.below H2.out HB.out).blk Try.underlying30 rfl (by kernel_rfl) ?_)
            | (refine wpList_load_rowG (by rfl) 34 _ rfl g3 rfl 34 (exqC z).toArray (0, 0) _ (XQ.below H3.out HB.out).blk Try.underlying34 rfl (by kernel_rfl) ?_)
            | (refine wpList_load_rowG (by rfl) 50 _ rfl g4 rfl 50 (smmC s).toArray (0, 0) _ (XS.below H4.out HB.out).blk Try.underlying50 rfl (by kernel_rfl) ?_)
            | (go_at_call 5; with_reducible refine (HF.out _).mono ?_; rintro e w9 ⟨rfl, hb9⟩; replace HB := Aside0.mk (below_next HB.out hb9); clear hb9))
          go_ret
          exact ⟨rfl, below_next HW.out HB.out⟩
        · have d4 : decide (r4 < 0) = false := decide_eq_false c4
          have K4 := Aside0.mk (show KsAt w0 s.attrs k4 from ⟨ks_true hks, S4.out, by have h_ := hfew (by omega); omega⟩)
          clear hks hfew
          go_wp2_with fail
          rw [← HKK.out]
          exact HT.out k1 k2 k3 k4 _ _ _ _ _ _ _ _ _ _ _ _ _ _ _ _ _ _ _ _ _ _ HB.out K1.out K2.out K3.out K4.out E2.out E3.out
set_option maxHeartbeats 4000000 in
set_option maxRecDepth 100000 in
theorem checkPoints_walk (x : Nmb) (y : Hst) (z : Exq) (s : Smm) (w : World) (o1 : NmbOk w x) (s1 : ∀ a, x.attrs.a = some a → a.spot = none) (o2 : HstOk w y) (s2 : ∀ a, y.attrs.a = some a → a.spot = none) (o3 : ExqOk w z) (s3 : ∀ a, z.attrs.a = some a → a.spot = none) (o4 : SmmOk w s) (s4 : ∀ a, s.attrs.a = some a → a.spot = none) :
    Calls Try.prog 4 #[nmbA x, hstA y, exqA z, smmA s] w fun e w' => e = .returned (.bool true) ∧ Below w.heap.size w w' := by
  obtain ⟨cl, hcl⟩ := rd_u64s o2.counts
  obtain ⟨bl, hbl⟩ := rd_u64s o2.bounds
  obtain ⟨pl, hpl⟩ := rd_u64s o3.pos.counts
  obtain ⟨nl, hnl⟩ := rd_u64s o3.neg.counts
  obtain ⟨qs, hqs⟩ := rd_qnts o4.qs
  go_enter Try.func4, Try.ntmps4
  show (dropSeq 0 ptsC).wp Try.prog _ _ w
  refine seq_step rfl (pts0 (fun g2 g3 g4 e2 e3 e4 => ?_))
  subst e2 e3 e4
  have hb0 : Below w.heap.size w ((((w.alloc (.cells (nmbC x).toArray 47)).alloc (.cells (hstC y).toArray 30)).alloc (.cells (exqC z).toArray 34)).alloc (.cells (smmC s).toArray 50)) := ((((Below.refl _ _).alloc (by first | exact Nat.le_refl _ | (simp only [World.size_alloc]; omega)) _).alloc (by first | exact Nat.le_refl _ | (simp only [World.size_alloc]; omega)) _).alloc (by first | exact Nat.le_refl _ | (simp only [World.size_alloc]; omega)) _).alloc (by first | exact Nat.le_refl _ | (simp only [World.size_alloc]; omega)) _
  have q1 : XN ((((w.alloc (.cells (nmbC x).toArray 47)).alloc (.cells (hstC y).toArray 30)).alloc (.cells (exqC z).toArray 34)).alloc (.cells (smmC s).toArray 50)) w.heap.size x := XN.below (XN.below (XN.below ⟨heap_alloc_new w _⟩ ((Below.refl (w.alloc (.cells (nmbC x).toArray 47)).heap.size (w.alloc (.cells (nmbC x).toArray 47))).alloc (Nat.le_refl _) _)) ((Below.refl ((w.alloc (.cells (nmbC x).toArray 47)).alloc (.cells (hstC y).toArray 30)).heap.size ((w.alloc (.cells (nmbC x).toArray 47)).alloc (.cells (hstC y).toArray 30))).alloc (Nat.le_refl _) _)) ((Below.refl (((w.alloc (.cells (nmbC x).toArray 47)).alloc (.cells (hstC y).toArray 30)).alloc (.cells (exqC z).toArray 34)).heap.size (((w.alloc (.cells (nmbC x).toArray 47)).alloc (.cells (hstC y).toArray 30)).alloc (.cells (exqC z).toArray 34))).alloc (Nat.le_refl _) _)
  have q2 : XH ((((w.alloc (.cells (nmbC x).toArray 47)).alloc (.cells (hstC y).toArray 30)).alloc (.cells (exqC z).toArray 34)).alloc (.cells (smmC s).toArray 50)) (w.heap.size + 1) y := XH.below (XH.below (show XH ((w.alloc (.cells (nmbC x).toArray 47)).alloc (.cells (hstC y).toArray 30)) (w.heap.size + 1) y from ⟨by have h := heap_alloc_new (w.alloc (.cells (nmbC x).toArray 47)) (.cells (hstC y).toArray 30); simp only [World.size_alloc] at h; exact h⟩) ((Below.refl ((w.alloc (.cells (nmbC x).toArray 47)).alloc (.cells (hstC y).toArray 30)).heap.size ((w.alloc (.cells (nmbC x).toArray 47)).alloc (.cells (hstC y).toArray 30))).alloc (Nat.le_refl _) _)) ((Below.refl (((w.alloc (.cells (nmbC x).toArray 47)).alloc (.cells (hstC y).toArray 30)).alloc (.cells (exqC z).toArray 34)).heap.size (((w.alloc (.cells (nmbC x).toArray 47)).alloc (.cells (hstC y).toArray 30)).alloc (.cells (exqC z).toArray 34))).alloc (Nat.le_refl _) _)
  have q3 : XQ ((((w.alloc (.cells (nmbC x).toArray 47)).alloc (.cells (hstC y).toArray 30)).alloc (.cells (exqC z).toArray 34)).alloc (.cells (smmC s).toArray 50)) (w.heap.size + 1 + 1) z := XQ.below (show XQ (((w.alloc (.cells (nmbC x).toArray 47)).alloc (.cells (hstC y).toArray 30)).alloc (.cells (exqC z).toArray 34)) (w.heap.size + 1 + 1) z from ⟨by have h := heap_alloc_new ((w.alloc (.cells (nmbC x).toArray 47)).alloc (.cells (hstC y).toArray 30)) (.cells (exqC z).toArray 34); simp only [World.size_alloc] at h; exact h⟩) ((Below.refl (((w.alloc (.cells (nmbC x).toArray 47)).alloc (.cells (hstC y).toArray 30)).alloc (.cells (exqC z).toArray 34)).heap.size (((w.alloc (.cells (nmbC x).toArray 47)).alloc (.cells (hstC y).toArray 30)).alloc (.cells (exqC z).toArray 34))).alloc (Nat.le_refl _) _)
  have q4 : XS ((((w.alloc (.cells (nmbC x).toArray 47)).alloc (.cells (hstC y).toArray 30)).alloc (.cells (exqC z).toArray 34)).alloc (.cells (smmC s).toArray 50)) (w.heap.size + 1 + 1 + 1) s := ⟨by have h := heap_alloc_new (((w.alloc (.cells (nmbC x).toArray 47)).alloc (.cells (hstC y).toArray 30)).alloc (.cells (exqC z).toArray 34)) (.cells (smmC s).toArray 50); simp only [World.size_alloc] at h; exact h⟩
  generalize ((((w.alloc (.cells (nmbC x).toArray 47)).alloc (.cells (hstC y).toArray 30)).alloc (.cells (exqC z).toArray 34)).alloc (.cells (smmC s).toArray 50)) = w1 at *
  refine seq_step rfl (pts1 (fun w2 hb2 => ?_))
  have hb := below_next hb0 hb2
  have p1 := XN.below q1 hb2
  have p2 := XH.below q2 hb2
  have p3 := XQ.below q3 hb2
  have p4 := XS.below q4 hb2
  refine seq_step rfl (pts_room hb p1 o1 s1 p2 o2 s2 p3 o3 s3 p4 o4 s4 (fun k1 k2 k3 k4 u9 u10 u11 u12 u13 u14 u15 u16 u17 u18 u19 u20 u21 u22 u23 u24 u25 u26 u27 u28 u29 W hbW j1 j2 j3 j4 m2 m3 => ?_))
  have hB := below_next hb hbW
  have c1 : Ans W 12 (.agg (nmbC x).toArray) (numI x.start x.time x.kind x.flags (dupK k1)) := fun V hv => by have b := below_next hB hv; exact number_any V x k1 (j1.below b)
  have d1 : Ans W 13 (.agg (nmbC x).toArray) (numI x.start x.time x.kind x.flags (dupK k1)) := fun V hv => by have b := below_next hB hv; exact rnumber_any V x k1 (j1.below b)
  have c2 : Ans W 8 (.agg (hstC y).toArray) (histI y.start y.time y.count (dupK k2) cl bl (upB y.mn.has y.mn.n y.mx.has y.mx.n)) := fun V hv => by have b := below_next hB hv; exact hist_any V y k2 cl bl (j2.below b) (hcl.below b) (hbl.below b)
  have d2 : Ans W 14 (.agg (hstC y).toArray) (histI y.start y.time y.count (dupK k2) cl bl (upB y.mn.has y.mn.n y.mx.has y.mx.n)) := fun V hv => by have b := below_next hB hv; exact rhst_any V y k2 cl bl (j2.below b) (hcl.below b) (hbl.below b) o2.count o2.mn.n o2.mx.n m2.1 m2.2
  have c3 : Ans W 9 (.agg (exqC z).toArray) (expI (commI z.start z.time (dupK k3)) (addsB z.count [[z.zero], pl, nl]) z.scale (beyB z.pos.off pl.length) (beyB z.neg.off nl.length) (upB z.mn.has z.mn.n z.mx.has z.mx.n) (lowB z.thr)) := fun V hv => by have b := below_next hB hv; exact exp_any V z k3 pl nl (j3.below b) (hpl.below b) (hnl.below b) o3.zero
  have d3 : Ans W 15 (.agg (exqC z).toArray) (expI (commI z.start z.time (dupK k3)) (addsB z.count [[z.zero], pl, nl]) z.scale (beyB z.pos.off pl.length) (beyB z.neg.off nl.length) (upB z.mn.has z.mn.n z.mx.has z.mx.n) (lowB z.thr)) := fun V hv => by have b := below_next hB hv; exact rexp18_any V z k3 pl nl (j3.below b) o3 (hpl.below b) (hnl.below b) m3.1 m3.2
  have c4 : Ans W 16 (.agg (smmC s).toArray) (sumI s.start s.time (dupK k4) qs) := fun V hv => by have b := below_next hB hv; exact summ_any V s k4 qs (j4.below b) (qs_below hqs b)
  have d4 : Ans W 17 (.agg (smmC s).toArray) (sumI s.start s.time (dupK k4) qs) := fun V hv => by have b := below_next hB hv; exact rsum_any V s k4 qs (j4.below b) (qs_below hqs b)
  refine seq_step rfl (pts5 (XN.below p1 hbW) (XH.below p2 hbW) (XQ.below p3 hbW) (XS.below p4 hbW) c1 d1 c2 d2 c3 d3 c4 d4 (fun u30 u31 u32 u33 u34 u35 u36 u37 u38 u39 u40 u41 u42 u43 u44 u45 u46 u47 u48 u49 u50 u51 u52 u53 u54 u55 u56 u57 u58 V hv => ?_))
  have HB := Aside0.mk (below_next hB hv)
  show Code.ret.wp _ _ _ _
  clear hB hv hb hbW hb0 hb2 q1 q2 q3 q4 p1 p2 p3 p4 c1 c2 c3 c4 d1 d2 d3 d4
  go_wp2_with fail
  go_ret
  exact ⟨rfl, HB.out⟩
end Go.Proofs.Ytdogokcoobpgdaa
