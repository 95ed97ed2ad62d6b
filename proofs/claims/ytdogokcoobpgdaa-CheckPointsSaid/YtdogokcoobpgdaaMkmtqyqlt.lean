import Derived.Test.YtdogokcoobpgdaaMaeomzwpp
set_option linter.unusedVariables false
namespace Go.Proofs.Ytdogokcoobpgdaa
open Go.RowKit Go.Proofs.YtdogokcoobpgdaaW.PrintWords Go.Proofs.YtdogokcoobpgdaaW.PrintLast Go.Proofs.YtdogokcoobpgdaaW.PrintMore Hy

set_option maxHeartbeats 2000000 in
set_option maxRecDepth 100000 in
theorem rxt_c {w0 w : World} {x : Exq} {g b c : Nat} {ks : List Kv} {pl nl : List Int} (u5 u6 u7 u8 u9 u10 u11 u12 u13 u14 u15 u16 u17 u18 u19 u20 u21 u22 : Value) (hB : Below w0.heap.size w0 w) (hX : XQ w g x) {W0 : World} (hx : ExqOk W0 x) (hmn : R64 x.mn.n) (hmx : R64 x.mx.n) (hp : NsAt w0 x.pos.counts pl) (hn : NsAt w0 x.neg.counts nl) (hs : NsAt w ⟨some ⟨b, 0, none⟩, 1 + pl.length + nl.length, c⟩ ([x.zero] ++ pl ++ nl)) (hp0 : 0 < commI x.start x.time (dupK ks)) :
    (dropSeq 3 expC).wp Try.prog (bodyPost Try.prog Try.f15 (fun e w' => e = .returned (.int .i64 (commI x.start x.time (dupK ks))) ∧ Below w0.heap.size w0 w')) ⟨#[exqA x, .pointer (some ⟨g, 0, none⟩), .int .i64 0, .int .i64 (commI x.start x.time (dupK ks)), .slice (some ⟨b, 0, none⟩) (1 + pl.length + nl.length) c, u5, u6, u7, u8, u9, u10, u11, u12, u13, u14, u15, u16, u17, u18, u19, u20, u21, u22, undef, undef, undef, undef, undef, undef, undef, undef, undef, undef, undef, undef, undef, undef, undef, undef, undef, undef, undef, undef, undef, undef, undef, undef, undef, undef, undef, undef, undef, undef, undef, undef, undef, undef, undef, undef, undef, undef, undef, undef, undef, undef, undef, undef, undef, undef], []⟩ w := by
  have HT := Aside0.mk (fun W (h : Below w0.heap.size w0 W) (h2 : NsAt W ⟨some ⟨b, 0, none⟩, 1 + pl.length + nl.length, c⟩ ([x.zero] ++ pl ++ nl)) => rtotal_any W x.count ⟨some ⟨b, 0, none⟩, 1 + pl.length + nl.length, c⟩ _ h2 hx.count)
  have e3 : addsB x.count [[x.zero] ++ pl ++ nl] = addsB x.count [[x.zero], pl, nl] := by rw [adds_one, adds_three]
  rw [e3] at HT
  clear e3
  have HFP := Aside0.mk (fun W (h : Below w0.heap.size w0 W) => rfar_any W x.pos.off x.pos.counts pl x.pos.unk (hp.below h))
  have HFN := Aside0.mk (fun W (h : Below w0.heap.size w0 W) => rfar_any W x.neg.off x.neg.counts nl x.neg.unk (hn.below h))
  have HU := Aside0.mk (fun W => rup_any W x.mn.has x.mn.n x.mx.has x.mx.n hmn hmx)
  have HCl := Aside0.mk (fun W => rclass_any W x.thr hx.thr)
  have HL := Aside0.mk (fun W => rless_any W x.thr 0 hx.thr ⟨by decide, by decide⟩)
  have HNS := Aside0.mk hs
  have HB := Aside0.mk hB
  have z3 := hX.c3
  have z6 := hX.c6
  have z7 := hX.c7
  have z8 := hX.c8
  have z9 := hX.c9
  have z10 := hX.c10
  have z13 := hX.c13
  have z14 := hX.c14
  have z15 := hX.c15
  have z17 := hX.c17
  have z18 := hX.c18
  have z19 := hX.c19
  have z22 := hX.c22
  have HX := Aside0.mk hX
  have z25 := Try.sizeOf25
  have z32 := Try.sizeOf32
  clear hB hX hx hmn hmx hp hn hs
  generalize commI x.start x.time (dupK ks) = cm at *
  generalize addsB x.count [[x.zero], pl, nl] = ad at *
  generalize beyB x.pos.off pl.length = fp at *
  generalize beyB x.neg.off nl.length = fn at *
  generalize upB x.mn.has x.mn.n x.mx.has x.mx.n = up at *
  generalize classI x.thr = cl at *
  generalize lessB x.thr 0 = ls at *
  have d0 : decide (cm > 0) = true := decide_eq_true hp0
  refine wp_code rfl ?_
  go_wp2_with (first
      | fail)
  go_ret
  exact ⟨rfl, HB.out⟩
set_option maxHeartbeats 2000000 in
set_option maxRecDepth 100000 in
theorem rxt_a {w0 w : World} {x : Exq} {g b c : Nat} {ks : List Kv} {pl nl : List Int} (u5 u6 u7 u8 u9 u10 u11 u12 u13 u14 u15 u16 u17 u18 u19 u20 u21 u22 : Value) (hB : Below w0.heap.size w0 w) (hX : XQ w g x) {W0 : World} (hx : ExqOk W0 x) (hmn : R64 x.mn.n) (hmx : R64 x.mx.n) (hp : NsAt w0 x.pos.counts pl) (hn : NsAt w0 x.neg.counts nl) (hs : NsAt w ⟨some ⟨b, 0, none⟩, 1 + pl.length + nl.length, c⟩ ([x.zero] ++ pl ++ nl)) (e0 : commI x.start x.time (dupK ks) = 0) (e1 : addsB x.count [[x.zero], pl, nl] = false) :
    (dropSeq 3 expC).wp Try.prog (bodyPost Try.prog Try.f15 (fun e w' => e = .returned (.int .i64 8) ∧ Below w0.heap.size w0 w')) ⟨#[exqA x, .pointer (some ⟨g, 0, none⟩), .int .i64 0, .int .i64 (commI x.start x.time (dupK ks)), .slice (some ⟨b, 0, none⟩) (1 + pl.length + nl.length) c, u5, u6, u7, u8, u9, u10, u11, u12, u13, u14, u15, u16, u17, u18, u19, u20, u21, u22, undef, undef, undef, undef, undef, undef, undef, undef, undef, undef, undef, undef, undef, undef, undef, undef, undef, undef, undef, undef, undef, undef, undef, undef, undef, undef, undef, undef, undef, undef, undef, undef, undef, undef, undef, undef, undef, undef, undef, undef, undef, undef, undef, undef, undef, undef], []⟩ w := by
  have HT := Aside0.mk (fun W (h : Below w0.heap.size w0 W) (h2 : NsAt W ⟨some ⟨b, 0, none⟩, 1 + pl.length + nl.length, c⟩ ([x.zero] ++ pl ++ nl)) => rtotal_any W x.count ⟨some ⟨b, 0, none⟩, 1 + pl.length + nl.length, c⟩ _ h2 hx.count)
  have e3 : addsB x.count [[x.zero] ++ pl ++ nl] = addsB x.count [[x.zero], pl, nl] := by rw [adds_one, adds_three]
  rw [e3] at HT
  clear e3
  have HFP := Aside0.mk (fun W (h : Below w0.heap.size w0 W) => rfar_any W x.pos.off x.pos.counts pl x.pos.unk (hp.below h))
  have HFN := Aside0.mk (fun W (h : Below w0.heap.size w0 W) => rfar_any W x.neg.off x.neg.counts nl x.neg.unk (hn.below h))
  have HU := Aside0.mk (fun W => rup_any W x.mn.has x.mn.n x.mx.has x.mx.n hmn hmx)
  have HCl := Aside0.mk (fun W => rclass_any W x.thr hx.thr)
  have HL := Aside0.mk (fun W => rless_any W x.thr 0 hx.thr ⟨by decide, by decide⟩)
  have HNS := Aside0.mk hs
  have HB := Aside0.mk hB
  have z3 := hX.c3
  have z6 := hX.c6
  have z7 := hX.c7
  have z8 := hX.c8
  have z9 := hX.c9
  have z10 := hX.c10
  have z13 := hX.c13
  have z14 := hX.c14
  have z15 := hX.c15
  have z17 := hX.c17
  have z18 := hX.c18
  have z19 := hX.c19
  have z22 := hX.c22
  have HX := Aside0.mk hX
  have z25 := Try.sizeOf25
  have z32 := Try.sizeOf32
  clear hB hX hx hmn hmx hp hn hs
  generalize commI x.start x.time (dupK ks) = cm at *
  generalize addsB x.count [[x.zero], pl, nl] = ad at *
  generalize beyB x.pos.off pl.length = fp at *
  generalize beyB x.neg.off nl.length = fn at *
  generalize upB x.mn.has x.mn.n x.mx.has x.mx.n = up at *
  generalize classI x.thr = cl at *
  generalize lessB x.thr 0 = ls at *
  subst e0 e1
  refine wp_code rfl ?_
  go_wp2_with (first
      | (go_at_call 34; with_reducible refine (HT.out _ HB.out HNS.out).mono ?_; rintro e w2 ⟨rfl, hb⟩; have n2_ := Aside0.mk (HNS.out.below hb); clear HNS; have HNS := n2_; clear n2_; clear z3 z6 z7 z8 z9 z10 z13 z14 z15 z17 z18 z19 z22; have n1_ := Aside0.mk (HX.out.below hb); have n0_ := Aside0.mk (below_next HB.out hb); clear HX HB hb; have HX := n1_; have HB := n0_; clear n0_ n1_; have z3 := HX.out.c3; have z6 := HX.out.c6; have z7 := HX.out.c7; have z8 := HX.out.c8; have z9 := HX.out.c9; have z10 := HX.out.c10; have z13 := HX.out.c13; have z14 := HX.out.c14; have z15 := HX.out.c15; have z17 := HX.out.c17; have z18 := HX.out.c18; have z19 := HX.out.c19; have z22 := HX.out.c22)
      | fail)
  go_ret
  exact ⟨rfl, HB.out⟩
set_option maxHeartbeats 2000000 in
set_option maxRecDepth 100000 in
theorem rxt_lo {w0 w : World} {x : Exq} {g b c : Nat} {ks : List Kv} {pl nl : List Int} (u5 u6 u7 u8 u9 u10 u11 u12 u13 u14 u15 u16 u17 u18 u19 u20 u21 u22 : Value) (hB : Below w0.heap.size w0 w) (hX : XQ w g x) {W0 : World} (hx : ExqOk W0 x) (hmn : R64 x.mn.n) (hmx : R64 x.mx.n) (hp : NsAt w0 x.pos.counts pl) (hn : NsAt w0 x.neg.counts nl) (hs : NsAt w ⟨some ⟨b, 0, none⟩, 1 + pl.length + nl.length, c⟩ ([x.zero] ++ pl ++ nl)) (e0 : commI x.start x.time (dupK ks) = 0) (e1 : addsB x.count [[x.zero], pl, nl] = true) (s1 : x.scale < -10) :
    (dropSeq 3 expC).wp Try.prog (bodyPost Try.prog Try.f15 (fun e w' => e = .returned (.int .i64 10) ∧ Below w0.heap.size w0 w')) ⟨#[exqA x, .pointer (some ⟨g, 0, none⟩), .int .i64 0, .int .i64 (commI x.start x.time (dupK ks)), .slice (some ⟨b, 0, none⟩) (1 + pl.length + nl.length) c, u5, u6, u7, u8, u9, u10, u11, u12, u13, u14, u15, u16, u17, u18, u19, u20, u21, u22, undef, undef, undef, undef, undef, undef, undef, undef, undef, undef, undef, undef, undef, undef, undef, undef, undef, undef, undef, undef, undef, undef, undef, undef, undef, undef, undef, undef, undef, undef, undef, undef, undef, undef, undef, undef, undef, undef, undef, undef, undef, undef, undef, undef, undef, undef], []⟩ w := by
  have HT := Aside0.mk (fun W (h : Below w0.heap.size w0 W) (h2 : NsAt W ⟨some ⟨b, 0, none⟩, 1 + pl.length + nl.length, c⟩ ([x.zero] ++ pl ++ nl)) => rtotal_any W x.count ⟨some ⟨b, 0, none⟩, 1 + pl.length + nl.length, c⟩ _ h2 hx.count)
  have e3 : addsB x.count [[x.zero] ++ pl ++ nl] = addsB x.count [[x.zero], pl, nl] := by rw [adds_one, adds_three]
  rw [e3] at HT
  clear e3
  have HFP := Aside0.mk (fun W (h : Below w0.heap.size w0 W) => rfar_any W x.pos.off x.pos.counts pl x.pos.unk (hp.below h))
  have HFN := Aside0.mk (fun W (h : Below w0.heap.size w0 W) => rfar_any W x.neg.off x.neg.counts nl x.neg.unk (hn.below h))
  have HU := Aside0.mk (fun W => rup_any W x.mn.has x.mn.n x.mx.has x.mx.n hmn hmx)
  have HCl := Aside0.mk (fun W => rclass_any W x.thr hx.thr)
  have HL := Aside0.mk (fun W => rless_any W x.thr 0 hx.thr ⟨by decide, by decide⟩)
  have HNS := Aside0.mk hs
  have HB := Aside0.mk hB
  have z3 := hX.c3
  have z6 := hX.c6
  have z7 := hX.c7
  have z8 := hX.c8
  have z9 := hX.c9
  have z10 := hX.c10
  have z13 := hX.c13
  have z14 := hX.c14
  have z15 := hX.c15
  have z17 := hX.c17
  have z18 := hX.c18
  have z19 := hX.c19
  have z22 := hX.c22
  have HX := Aside0.mk hX
  have z25 := Try.sizeOf25
  have z32 := Try.sizeOf32
  clear hB hX hx hmn hmx hp hn hs
  generalize commI x.start x.time (dupK ks) = cm at *
  generalize addsB x.count [[x.zero], pl, nl] = ad at *
  generalize beyB x.pos.off pl.length = fp at *
  generalize beyB x.neg.off nl.length = fn at *
  generalize upB x.mn.has x.mn.n x.mx.has x.mx.n = up at *
  generalize classI x.thr = cl at *
  generalize lessB x.thr 0 = ls at *
  subst e0 e1
  have d1 : decide (x.scale < -10) = true := decide_eq_true s1
  refine wp_code rfl ?_
  go_wp2_with (first
      | (go_at_call 34; with_reducible refine (HT.out _ HB.out HNS.out).mono ?_; rintro e w2 ⟨rfl, hb⟩; have n2_ := Aside0.mk (HNS.out.below hb); clear HNS; have HNS := n2_; clear n2_; clear z3 z6 z7 z8 z9 z10 z13 z14 z15 z17 z18 z19 z22; have n1_ := Aside0.mk (HX.out.below hb); have n0_ := Aside0.mk (below_next HB.out hb); clear HX HB hb; have HX := n1_; have HB := n0_; clear n0_ n1_; have z3 := HX.out.c3; have z6 := HX.out.c6; have z7 := HX.out.c7; have z8 := HX.out.c8; have z9 := HX.out.c9; have z10 := HX.out.c10; have z13 := HX.out.c13; have z14 := HX.out.c14; have z15 := HX.out.c15; have z17 := HX.out.c17; have z18 := HX.out.c18; have z19 := HX.out.c19; have z22 := HX.out.c22)
      | fail)
  go_ret
  exact ⟨rfl, HB.out⟩
set_option maxHeartbeats 2000000 in
set_option maxRecDepth 100000 in
theorem rxt_hi {w0 w : World} {x : Exq} {g b c : Nat} {ks : List Kv} {pl nl : List Int} (u5 u6 u7 u8 u9 u10 u11 u12 u13 u14 u15 u16 u17 u18 u19 u20 u21 u22 : Value) (hB : Below w0.heap.size w0 w) (hX : XQ w g x) {W0 : World} (hx : ExqOk W0 x) (hmn : R64 x.mn.n) (hmx : R64 x.mx.n) (hp : NsAt w0 x.pos.counts pl) (hn : NsAt w0 x.neg.counts nl) (hs : NsAt w ⟨some ⟨b, 0, none⟩, 1 + pl.length + nl.length, c⟩ ([x.zero] ++ pl ++ nl)) (e0 : commI x.start x.time (dupK ks) = 0) (e1 : addsB x.count [[x.zero], pl, nl] = true) (s1 : ¬ x.scale < -10) (s2 : x.scale > 20) :
    (dropSeq 3 expC).wp Try.prog (bodyPost Try.prog Try.f15 (fun e w' => e = .returned (.int .i64 10) ∧ Below w0.heap.size w0 w')) ⟨#[exqA x, .pointer (some ⟨g, 0, none⟩), .int .i64 0, .int .i64 (commI x.start x.time (dupK ks)), .slice (some ⟨b, 0, none⟩) (1 + pl.length + nl.length) c, u5, u6, u7, u8, u9, u10, u11, u12, u13, u14, u15, u16, u17, u18, u19, u20, u21, u22, undef, undef, undef, undef, undef, undef, undef, undef, undef, undef, undef, undef, undef, undef, undef, undef, undef, undef, undef, undef, undef, undef, undef, undef, undef, undef, undef, undef, undef, undef, undef, undef, undef, undef, undef, undef, undef, undef, undef, undef, undef, undef, undef, undef, undef, undef], []⟩ w := by
  have HT := Aside0.mk (fun W (h : Below w0.heap.size w0 W) (h2 : NsAt W ⟨some ⟨b, 0, none⟩, 1 + pl.length + nl.length, c⟩ ([x.zero] ++ pl ++ nl)) => rtotal_any W x.count ⟨some ⟨b, 0, none⟩, 1 + pl.length + nl.length, c⟩ _ h2 hx.count)
  have e3 : addsB x.count [[x.zero] ++ pl ++ nl] = addsB x.count [[x.zero], pl, nl] := by rw [adds_one, adds_three]
  rw [e3] at HT
  clear e3
  have HFP := Aside0.mk (fun W (h : Below w0.heap.size w0 W) => rfar_any W x.pos.off x.pos.counts pl x.pos.unk (hp.below h))
  have HFN := Aside0.mk (fun W (h : Below w0.heap.size w0 W) => rfar_any W x.neg.off x.neg.counts nl x.neg.unk (hn.below h))
  have HU := Aside0.mk (fun W => rup_any W x.mn.has x.mn.n x.mx.has x.mx.n hmn hmx)
  have HCl := Aside0.mk (fun W => rclass_any W x.thr hx.thr)
  have HL := Aside0.mk (fun W => rless_any W x.thr 0 hx.thr ⟨by decide, by decide⟩)
  have HNS := Aside0.mk hs
  have HB := Aside0.mk hB
  have z3 := hX.c3
  have z6 := hX.c6
  have z7 := hX.c7
  have z8 := hX.c8
  have z9 := hX.c9
  have z10 := hX.c10
  have z13 := hX.c13
  have z14 := hX.c14
  have z15 := hX.c15
  have z17 := hX.c17
  have z18 := hX.c18
  have z19 := hX.c19
  have z22 := hX.c22
  have HX := Aside0.mk hX
  have z25 := Try.sizeOf25
  have z32 := Try.sizeOf32
  clear hB hX hx hmn hmx hp hn hs
  generalize commI x.start x.time (dupK ks) = cm at *
  generalize addsB x.count [[x.zero], pl, nl] = ad at *
  generalize beyB x.pos.off pl.length = fp at *
  generalize beyB x.neg.off nl.length = fn at *
  generalize upB x.mn.has x.mn.n x.mx.has x.mx.n = up at *
  generalize classI x.thr = cl at *
  generalize lessB x.thr 0 = ls at *
  subst e0 e1
  have d1 : decide (x.scale < -10) = false := decide_eq_false s1
  have d2 : decide (x.scale > 20) = true := decide_eq_true s2
  refine wp_code rfl ?_
  go_wp2_with (first
      | (go_at_call 34; with_reducible refine (HT.out _ HB.out HNS.out).mono ?_; rintro e w2 ⟨rfl, hb⟩; have n2_ := Aside0.mk (HNS.out.below hb); clear HNS; have HNS := n2_; clear n2_; clear z3 z6 z7 z8 z9 z10 z13 z14 z15 z17 z18 z19 z22; have n1_ := Aside0.mk (HX.out.below hb); have n0_ := Aside0.mk (below_next HB.out hb); clear HX HB hb; have HX := n1_; have HB := n0_; clear n0_ n1_; have z3 := HX.out.c3; have z6 := HX.out.c6; have z7 := HX.out.c7; have z8 := HX.out.c8; have z9 := HX.out.c9; have z10 := HX.out.c10; have z13 := HX.out.c13; have z14 := HX.out.c14; have z15 := HX.out.c15; have z17 := HX.out.c17; have z18 := HX.out.c18; have z19 := HX.out.c19; have z22 := HX.out.c22)
      | fail)
  go_ret
  exact ⟨rfl, HB.out⟩
set_option maxHeartbeats 2000000 in
set_option maxRecDepth 100000 in
theorem rxt_po {w0 w : World} {x : Exq} {g b c : Nat} {ks : List Kv} {pl nl : List Int} (u5 u6 u7 u8 u9 u10 u11 u12 u13 u14 u15 u16 u17 u18 u19 u20 u21 u22 : Value) (hB : Below w0.heap.size w0 w) (hX : XQ w g x) {W0 : World} (hx : ExqOk W0 x) (hmn : R64 x.mn.n) (hmx : R64 x.mx.n) (hp : NsAt w0 x.pos.counts pl) (hn : NsAt w0 x.neg.counts nl) (hs : NsAt w ⟨some ⟨b, 0, none⟩, 1 + pl.length + nl.length, c⟩ ([x.zero] ++ pl ++ nl)) (e0 : commI x.start x.time (dupK ks) = 0) (e1 : addsB x.count [[x.zero], pl, nl] = true) (s1 : ¬ x.scale < -10) (s2 : ¬ x.scale > 20) (e2 : beyB x.pos.off pl.length = true) :
    (dropSeq 3 expC).wp Try.prog (bodyPost Try.prog Try.f15 (fun e w' => e = .returned (.int .i64 10) ∧ Below w0.heap.size w0 w')) ⟨#[exqA x, .pointer (some ⟨g, 0, none⟩), .int .i64 0, .int .i64 (commI x.start x.time (dupK ks)), .slice (some ⟨b, 0, none⟩) (1 + pl.length + nl.length) c, u5, u6, u7, u8, u9, u10, u11, u12, u13, u14, u15, u16, u17, u18, u19, u20, u21, u22, undef, undef, undef, undef, undef, undef, undef, undef, undef, undef, undef, undef, undef, undef, undef, undef, undef, undef, undef, undef, undef, undef, undef, undef, undef, undef, undef, undef, undef, undef, undef, undef, undef, undef, undef, undef, undef, undef, undef, undef, undef, undef, undef, undef, undef, undef], []⟩ w := by
  have HT := Aside0.mk (fun W (h : Below w0.heap.size w0 W) (h2 : NsAt W ⟨some ⟨b, 0, none⟩, 1 + pl.length + nl.length, c⟩ ([x.zero] ++ pl ++ nl)) => rtotal_any W x.count ⟨some ⟨b, 0, none⟩, 1 + pl.length + nl.length, c⟩ _ h2 hx.count)
  have e3 : addsB x.count [[x.zero] ++ pl ++ nl] = addsB x.count [[x.zero], pl, nl] := by rw [adds_one, adds_three]
  rw [e3] at HT
  clear e3
  have HFP := Aside0.mk (fun W (h : Below w0.heap.size w0 W) => rfar_any W x.pos.off x.pos.counts pl x.pos.unk (hp.below h))
  have HFN := Aside0.mk (fun W (h : Below w0.heap.size w0 W) => rfar_any W x.neg.off x.neg.counts nl x.neg.unk (hn.below h))
  have HU := Aside0.mk (fun W => rup_any W x.mn.has x.mn.n x.mx.has x.mx.n hmn hmx)
  have HCl := Aside0.mk (fun W => rclass_any W x.thr hx.thr)
  have HL := Aside0.mk (fun W => rless_any W x.thr 0 hx.thr ⟨by decide, by decide⟩)
  have HNS := Aside0.mk hs
  have HB := Aside0.mk hB
  have z3 := hX.c3
  have z6 := hX.c6
  have z7 := hX.c7
  have z8 := hX.c8
  have z9 := hX.c9
  have z10 := hX.c10
  have z13 := hX.c13
  have z14 := hX.c14
  have z15 := hX.c15
  have z17 := hX.c17
  have z18 := hX.c18
  have z19 := hX.c19
  have z22 := hX.c22
  have HX := Aside0.mk hX
  have z25 := Try.sizeOf25
  have z32 := Try.sizeOf32
  clear hB hX hx hmn hmx hp hn hs
  generalize commI x.start x.time (dupK ks) = cm at *
  generalize addsB x.count [[x.zero], pl, nl] = ad at *
  generalize beyB x.pos.off pl.length = fp at *
  generalize beyB x.neg.off nl.length = fn at *
  generalize upB x.mn.has x.mn.n x.mx.has x.mx.n = up at *
  generalize classI x.thr = cl at *
  generalize lessB x.thr 0 = ls at *
  subst e0 e1 e2
  have d1 : decide (x.scale < -10) = false := decide_eq_false s1
  have d2 : decide (x.scale > 20) = false := decide_eq_false s2
  refine wp_code rfl ?_
  go_wp2_with (first
      | (go_at_call 34; with_reducible refine (HT.out _ HB.out HNS.out).mono ?_; rintro e w2 ⟨rfl, hb⟩; have n2_ := Aside0.mk (HNS.out.below hb); clear HNS; have HNS := n2_; clear n2_; clear z3 z6 z7 z8 z9 z10 z13 z14 z15 z17 z18 z19 z22; have n1_ := Aside0.mk (HX.out.below hb); have n0_ := Aside0.mk (below_next HB.out hb); clear HX HB hb; have HX := n1_; have HB := n0_; clear n0_ n1_; have z3 := HX.out.c3; have z6 := HX.out.c6; have z7 := HX.out.c7; have z8 := HX.out.c8; have z9 := HX.out.c9; have z10 := HX.out.c10; have z13 := HX.out.c13; have z14 := HX.out.c14; have z15 := HX.out.c15; have z17 := HX.out.c17; have z18 := HX.out.c18; have z19 := HX.out.c19; have z22 := HX.out.c22)
      | (go_at_call 37; with_reducible refine (HFP.out _ HB.out).mono ?_; rintro e w2 ⟨rfl, hb⟩; clear z3 z6 z7 z8 z9 z10 z13 z14 z15 z17 z18 z19 z22; have n1_ := Aside0.mk (HX.out.below hb); have n0_ := Aside0.mk (below_next HB.out hb); clear HX HB hb; have HX := n1_; have HB := n0_; clear n0_ n1_; have z3 := HX.out.c3; have z6 := HX.out.c6; have z7 := HX.out.c7; have z8 := HX.out.c8; have z9 := HX.out.c9; have z10 := HX.out.c10; have z13 := HX.out.c13; have z14 := HX.out.c14; have z15 := HX.out.c15; have z17 := HX.out.c17; have z18 := HX.out.c18; have z19 := HX.out.c19; have z22 := HX.out.c22)
      | fail)
  go_ret
  exact ⟨rfl, HB.out⟩
set_option maxHeartbeats 2000000 in
set_option maxRecDepth 100000 in
theorem rxt_ne {w0 w : World} {x : Exq} {g b c : Nat} {ks : List Kv} {pl nl : List Int} (u5 u6 u7 u8 u9 u10 u11 u12 u13 u14 u15 u16 u17 u18 u19 u20 u21 u22 : Value) (hB : Below w0.heap.size w0 w) (hX : XQ w g x) {W0 : World} (hx : ExqOk W0 x) (hmn : R64 x.mn.n) (hmx : R64 x.mx.n) (hp : NsAt w0 x.pos.counts pl) (hn : NsAt w0 x.neg.counts nl) (hs : NsAt w ⟨some ⟨b, 0, none⟩, 1 + pl.length + nl.length, c⟩ ([x.zero] ++ pl ++ nl)) (e0 : commI x.start x.time (dupK ks) = 0) (e1 : addsB x.count [[x.zero], pl, nl] = true) (s1 : ¬ x.scale < -10) (s2 : ¬ x.scale > 20) (e2 : beyB x.pos.off pl.length = false) (e3 : beyB x.neg.off nl.length = true) :
    (dropSeq 3 expC).wp Try.prog (bodyPost Try.prog Try.f15 (fun e w' => e = .returned (.int .i64 10) ∧ Below w0.heap.size w0 w')) ⟨#[exqA x, .pointer (some ⟨g, 0, none⟩), .int .i64 0, .int .i64 (commI x.start x.time (dupK ks)), .slice (some ⟨b, 0, none⟩) (1 + pl.length + nl.length) c, u5, u6, u7, u8, u9, u10, u11, u12, u13, u14, u15, u16, u17, u18, u19, u20, u21, u22, undef, undef, undef, undef, undef, undef, undef, undef, undef, undef, undef, undef, undef, undef, undef, undef, undef, undef, undef, undef, undef, undef, undef, undef, undef, undef, undef, undef, undef, undef, undef, undef, undef, undef, undef, undef, undef, undef, undef, undef, undef, undef, undef, undef, undef, undef], []⟩ w := by
  have HT := Aside0.mk (fun W (h : Below w0.heap.size w0 W) (h2 : NsAt W ⟨some ⟨b, 0, none⟩, 1 + pl.length + nl.length, c⟩ ([x.zero] ++ pl ++ nl)) => rtotal_any W x.count ⟨some ⟨b, 0, none⟩, 1 + pl.length + nl.length, c⟩ _ h2 hx.count)
  have e3 : addsB x.count [[x.zero] ++ pl ++ nl] = addsB x.count [[x.zero], pl, nl] := by rw [adds_one, adds_three]
  rw [e3] at HT
  clear e3
  have HFP := Aside0.mk (fun W (h : Below w0.heap.size w0 W) => rfar_any W x.pos.off x.pos.counts pl x.pos.unk (hp.below h))
  have HFN := Aside0.mk (fun W (h : Below w0.heap.size w0 W) => rfar_any W x.neg.off x.neg.counts nl x.neg.unk (hn.below h))
  have HU := Aside0.mk (fun W => rup_any W x.mn.has x.mn.n x.mx.has x.mx.n hmn hmx)
  have HCl := Aside0.mk (fun W => rclass_any W x.thr hx.thr)
  have HL := Aside0.mk (fun W => rless_any W x.thr 0 hx.thr ⟨by decide, by decide⟩)
  have HNS := Aside0.mk hs
  have HB := Aside0.mk hB
  have z3 := hX.c3
  have z6 := hX.c6
  have z7 := hX.c7
  have z8 := hX.c8
  have z9 := hX.c9
  have z10 := hX.c10
  have z13 := hX.c13
  have z14 := hX.c14
  have z15 := hX.c15
  have z17 := hX.c17
  have z18 := hX.c18
  have z19 := hX.c19
  have z22 := hX.c22
  have HX := Aside0.mk hX
  have z25 := Try.sizeOf25
  have z32 := Try.sizeOf32
  clear hB hX hx hmn hmx hp hn hs
  generalize commI x.start x.time (dupK ks) = cm at *
  generalize addsB x.count [[x.zero], pl, nl] = ad at *
  generalize beyB x.pos.off pl.length = fp at *
  generalize beyB x.neg.off nl.length = fn at *
  generalize upB x.mn.has x.mn.n x.mx.has x.mx.n = up at *
  generalize classI x.thr = cl at *
  generalize lessB x.thr 0 = ls at *
  subst e0 e1 e2 e3
  have d1 : decide (x.scale < -10) = false := decide_eq_false s1
  have d2 : decide (x.scale > 20) = false := decide_eq_false s2
  refine wp_code rfl ?_
  go_wp2_with (first
      | (go_at_call 34; with_reducible refine (HT.out _ HB.out HNS.out).mono ?_; rintro e w2 ⟨rfl, hb⟩; have n2_ := Aside0.mk (HNS.out.below hb); clear HNS; have HNS := n2_; clear n2_; clear z3 z6 z7 z8 z9 z10 z13 z14 z15 z17 z18 z19 z22; have n1_ := Aside0.mk (HX.out.below hb); have n0_ := Aside0.mk (below_next HB.out hb); clear HX HB hb; have HX := n1_; have HB := n0_; clear n0_ n1_; have z3 := HX.out.c3; have z6 := HX.out.c6; have z7 := HX.out.c7; have z8 := HX.out.c8; have z9 := HX.out.c9; have z10 := HX.out.c10; have z13 := HX.out.c13; have z14 := HX.out.c14; have z15 := HX.out.c15; have z17 := HX.out.c17; have z18 := HX.out.c18; have z19 := HX.out.c19; have z22 := HX.out.c22)
      | (go_at_call 37; with_reducible refine (HFP.out _ HB.out).mono ?_; rintro e w2 ⟨rfl, hb⟩; clear z3 z6 z7 z8 z9 z10 z13 z14 z15 z17 z18 z19 z22; have n1_ := Aside0.mk (HX.out.below hb); have n0_ := Aside0.mk (below_next HB.out hb); clear HX HB hb; have HX := n1_; have HB := n0_; clear n0_ n1_; have z3 := HX.out.c3; have z6 := HX.out.c6; have z7 := HX.out.c7; have z8 := HX.out.c8; have z9 := HX.out.c9; have z10 := HX.out.c10; have z13 := HX.out.c13; have z14 := HX.out.c14; have z15 := HX.out.c15; have z17 := HX.out.c17; have z18 := HX.out.c18; have z19 := HX.out.c19; have z22 := HX.out.c22)
      | (go_at_call 37; with_reducible refine (HFN.out _ HB.out).mono ?_; rintro e w2 ⟨rfl, hb⟩; clear z3 z6 z7 z8 z9 z10 z13 z14 z15 z17 z18 z19 z22; have n1_ := Aside0.mk (HX.out.below hb); have n0_ := Aside0.mk (below_next HB.out hb); clear HX HB hb; have HX := n1_; have HB := n0_; clear n0_ n1_; have z3 := HX.out.c3; have z6 := HX.out.c6; have z7 := HX.out.c7; have z8 := HX.out.c8; have z9 := HX.out.c9; have z10 := HX.out.c10; have z13 := HX.out.c13; have z14 := HX.out.c14; have z15 := HX.out.c15; have z17 := HX.out.c17; have z18 := HX.out.c18; have z19 := HX.out.c19; have z22 := HX.out.c22)
      | fail)
  go_ret
  exact ⟨rfl, HB.out⟩
set_option maxHeartbeats 2000000 in
set_option maxRecDepth 100000 in
theorem rxt_u {w0 w : World} {x : Exq} {g b c : Nat} {ks : List Kv} {pl nl : List Int} (u5 u6 u7 u8 u9 u10 u11 u12 u13 u14 u15 u16 u17 u18 u19 u20 u21 u22 : Value) (hB : Below w0.heap.size w0 w) (hX : XQ w g x) {W0 : World} (hx : ExqOk W0 x) (hmn : R64 x.mn.n) (hmx : R64 x.mx.n) (hp : NsAt w0 x.pos.counts pl) (hn : NsAt w0 x.neg.counts nl) (hs : NsAt w ⟨some ⟨b, 0, none⟩, 1 + pl.length + nl.length, c⟩ ([x.zero] ++ pl ++ nl)) (e0 : commI x.start x.time (dupK ks) = 0) (e1 : addsB x.count [[x.zero], pl, nl] = true) (s1 : ¬ x.scale < -10) (s2 : ¬ x.scale > 20) (e2 : beyB x.pos.off pl.length = false) (e3 : beyB x.neg.off nl.length = false) (e4 : upB x.mn.has x.mn.n x.mx.has x.mx.n = true) :
    (dropSeq 3 expC).wp Try.prog (bodyPost Try.prog Try.f15 (fun e w' => e = .returned (.int .i64 11) ∧ Below w0.heap.size w0 w')) ⟨#[exqA x, .pointer (some ⟨g, 0, none⟩), .int .i64 0, .int .i64 (commI x.start x.time (dupK ks)), .slice (some ⟨b, 0, none⟩) (1 + pl.length + nl.length) c, u5, u6, u7, u8, u9, u10, u11, u12, u13, u14, u15, u16, u17, u18, u19, u20, u21, u22, undef, undef, undef, undef, undef, undef, undef, undef, undef, undef, undef, undef, undef, undef, undef, undef, undef, undef, undef, undef, undef, undef, undef, undef, undef, undef, undef, undef, undef, undef, undef, undef, undef, undef, undef, undef, undef, undef, undef, undef, undef, undef, undef, undef, undef, undef], []⟩ w := by
  have HT := Aside0.mk (fun W (h : Below w0.heap.size w0 W) (h2 : NsAt W ⟨some ⟨b, 0, none⟩, 1 + pl.length + nl.length, c⟩ ([x.zero] ++ pl ++ nl)) => rtotal_any W x.count ⟨some ⟨b, 0, none⟩, 1 + pl.length + nl.length, c⟩ _ h2 hx.count)
  have e3 : addsB x.count [[x.zero] ++ pl ++ nl] = addsB x.count [[x.zero], pl, nl] := by rw [adds_one, adds_three]
  rw [e3] at HT
  clear e3
  have HFP := Aside0.mk (fun W (h : Below w0.heap.size w0 W) => rfar_any W x.pos.off x.pos.counts pl x.pos.unk (hp.below h))
  have HFN := Aside0.mk (fun W (h : Below w0.heap.size w0 W) => rfar_any W x.neg.off x.neg.counts nl x.neg.unk (hn.below h))
  have HU := Aside0.mk (fun W => rup_any W x.mn.has x.mn.n x.mx.has x.mx.n hmn hmx)
  have HCl := Aside0.mk (fun W => rclass_any W x.thr hx.thr)
  have HL := Aside0.mk (fun W => rless_any W x.thr 0 hx.thr ⟨by decide, by decide⟩)
  have HNS := Aside0.mk hs
  have HB := Aside0.mk hB
  have z3 := hX.c3
  have z6 := hX.c6
  have z7 := hX.c7
  have z8 := hX.c8
  have z9 := hX.c9
  have z10 := hX.c10
  have z13 := hX.c13
  have z14 := hX.c14
  have z15 := hX.c15
  have z17 := hX.c17
  have z18 := hX.c18
  have z19 := hX.c19
  have z22 := hX.c22
  have HX := Aside0.mk hX
  have z25 := Try.sizeOf25
  have z32 := Try.sizeOf32
  clear hB hX hx hmn hmx hp hn hs
  generalize commI x.start x.time (dupK ks) = cm at *
  generalize addsB x.count [[x.zero], pl, nl] = ad at *
  generalize beyB x.pos.off pl.length = fp at *
  generalize beyB x.neg.off nl.length = fn at *
  generalize upB x.mn.has x.mn.n x.mx.has x.mx.n = up at *
  generalize classI x.thr = cl at *
  generalize lessB x.thr 0 = ls at *
  subst e0 e1 e2 e3 e4
  have d1 : decide (x.scale < -10) = false := decide_eq_false s1
  have d2 : decide (x.scale > 20) = false := decide_eq_false s2
  refine wp_code rfl ?_
  go_wp2_with (first
      | (go_at_call 34; with_reducible refine (HT.out _ HB.out HNS.out).mono ?_; rintro e w2 ⟨rfl, hb⟩; have n2_ := Aside0.mk (HNS.out.below hb); clear HNS; have HNS := n2_; clear n2_; clear z3 z6 z7 z8 z9 z10 z13 z14 z15 z17 z18 z19 z22; have n1_ := Aside0.mk (HX.out.below hb); have n0_ := Aside0.mk (below_next HB.out hb); clear HX HB hb; have HX := n1_; have HB := n0_; clear n0_ n1_; have z3 := HX.out.c3; have z6 := HX.out.c6; have z7 := HX.out.c7; have z8 := HX.out.c8; have z9 := HX.out.c9; have z10 := HX.out.c10; have z13 := HX.out.c13; have z14 := HX.out.c14; have z15 := HX.out.c15; have z17 := HX.out.c17; have z18 := HX.out.c18; have z19 := HX.out.c19; have z22 := HX.out.c22)
      | (go_at_call 37; with_reducible refine (HFP.out _ HB.out).mono ?_; rintro e w2 ⟨rfl, hb⟩; clear z3 z6 z7 z8 z9 z10 z13 z14 z15 z17 z18 z19 z22; have n1_ := Aside0.mk (HX.out.below hb); have n0_ := Aside0.mk (below_next HB.out hb); clear HX HB hb; have HX := n1_; have HB := n0_; clear n0_ n1_; have z3 := HX.out.c3; have z6 := HX.out.c6; have z7 := HX.out.c7; have z8 := HX.out.c8; have z9 := HX.out.c9; have z10 := HX.out.c10; have z13 := HX.out.c13; have z14 := HX.out.c14; have z15 := HX.out.c15; have z17 := HX.out.c17; have z18 := HX.out.c18; have z19 := HX.out.c19; have z22 := HX.out.c22)
      | (go_at_call 37; with_reducible refine (HFN.out _ HB.out).mono ?_; rintro e w2 ⟨rfl, hb⟩; clear z3 z6 z7 z8 z9 z10 z13 z14 z15 z17 z18 z19 z22; have n1_ := Aside0.mk (HX.out.below hb); have n0_ := Aside0.mk (below_next HB.out hb); clear HX HB hb; have HX := n1_; have HB := n0_; clear n0_ n1_; have z3 := HX.out.c3; have z6 := HX.out.c6; have z7 := HX.out.c7; have z8 := HX.out.c8; have z9 := HX.out.c9; have z10 := HX.out.c10; have z13 := HX.out.c13; have z14 := HX.out.c14; have z15 := HX.out.c15; have z17 := HX.out.c17; have z18 := HX.out.c18; have z19 := HX.out.c19; have z22 := HX.out.c22)
      | (go_at_call 36; with_reducible refine (HU.out _).mono ?_; rintro e w2 ⟨rfl, hb⟩; clear z3 z6 z7 z8 z9 z10 z13 z14 z15 z17 z18 z19 z22; have n1_ := Aside0.mk (HX.out.below hb); have n0_ := Aside0.mk (below_next HB.out hb); clear HX HB hb; have HX := n1_; have HB := n0_; clear n0_ n1_; have z3 := HX.out.c3; have z6 := HX.out.c6; have z7 := HX.out.c7; have z8 := HX.out.c8; have z9 := HX.out.c9; have z10 := HX.out.c10; have z13 := HX.out.c13; have z14 := HX.out.c14; have z15 := HX.out.c15; have z17 := HX.out.c17; have z18 := HX.out.c18; have z19 := HX.out.c19; have z22 := HX.out.c22)
      | fail)
  go_ret
  exact ⟨rfl, HB.out⟩
set_option maxHeartbeats 2000000 in
set_option maxRecDepth 100000 in
theorem rxt_k {w0 w : World} {x : Exq} {g b c : Nat} {ks : List Kv} {pl nl : List Int} (u5 u6 u7 u8 u9 u10 u11 u12 u13 u14 u15 u16 u17 u18 u19 u20 u21 u22 : Value) (hB : Below w0.heap.size w0 w) (hX : XQ w g x) {W0 : World} (hx : ExqOk W0 x) (hmn : R64 x.mn.n) (hmx : R64 x.mx.n) (hp : NsAt w0 x.pos.counts pl) (hn : NsAt w0 x.neg.counts nl) (hs : NsAt w ⟨some ⟨b, 0, none⟩, 1 + pl.length + nl.length, c⟩ ([x.zero] ++ pl ++ nl)) (e0 : commI x.start x.time (dupK ks) = 0) (e1 : addsB x.count [[x.zero], pl, nl] = true) (s1 : ¬ x.scale < -10) (s2 : ¬ x.scale > 20) (e2 : beyB x.pos.off pl.length = false) (e3 : beyB x.neg.off nl.length = false) (e4 : upB x.mn.has x.mn.n x.mx.has x.mx.n = false) (e5 : classI x.thr = 4) :
    (dropSeq 3 expC).wp Try.prog (bodyPost Try.prog Try.f15 (fun e w' => e = .returned (.int .i64 11) ∧ Below w0.heap.size w0 w')) ⟨#[exqA x, .pointer (some ⟨g, 0, none⟩), .int .i64 0, .int .i64 (commI x.start x.time (dupK ks)), .slice (some ⟨b, 0, none⟩) (1 + pl.length + nl.length) c, u5, u6, u7, u8, u9, u10, u11, u12, u13, u14, u15, u16, u17, u18, u19, u20, u21, u22, undef, undef, undef, undef, undef, undef, undef, undef, undef, undef, undef, undef, undef, undef, undef, undef, undef, undef, undef, undef, undef, undef, undef, undef, undef, undef, undef, undef, undef, undef, undef, undef, undef, undef, undef, undef, undef, undef, undef, undef, undef, undef, undef, undef, undef, undef], []⟩ w := by
  have HT := Aside0.mk (fun W (h : Below w0.heap.size w0 W) (h2 : NsAt W ⟨some ⟨b, 0, none⟩, 1 + pl.length + nl.length, c⟩ ([x.zero] ++ pl ++ nl)) => rtotal_any W x.count ⟨some ⟨b, 0, none⟩, 1 + pl.length + nl.length, c⟩ _ h2 hx.count)
  have e3 : addsB x.count [[x.zero] ++ pl ++ nl] = addsB x.count [[x.zero], pl, nl] := by rw [adds_one, adds_three]
  rw [e3] at HT
  clear e3
  have HFP := Aside0.mk (fun W (h : Below w0.heap.size w0 W) => rfar_any W x.pos.off x.pos.counts pl x.pos.unk (hp.below h))
  have HFN := Aside0.mk (fun W (h : Below w0.heap.size w0 W) => rfar_any W x.neg.off x.neg.counts nl x.neg.unk (hn.below h))
  have HU := Aside0.mk (fun W => rup_any W x.mn.has x.mn.n x.mx.has x.mx.n hmn hmx)
  have HCl := Aside0.mk (fun W => rclass_any W x.thr hx.thr)
  have HL := Aside0.mk (fun W => rless_any W x.thr 0 hx.thr ⟨by decide, by decide⟩)
  have HNS := Aside0.mk hs
  have HB := Aside0.mk hB
  have z3 := hX.c3
  have z6 := hX.c6
  have z7 := hX.c7
  have z8 := hX.c8
  have z9 := hX.c9
  have z10 := hX.c10
  have z13 := hX.c13
  have z14 := hX.c14
  have z15 := hX.c15
  have z17 := hX.c17
  have z18 := hX.c18
  have z19 := hX.c19
  have z22 := hX.c22
  have HX := Aside0.mk hX
  have z25 := Try.sizeOf25
  have z32 := Try.sizeOf32
  clear hB hX hx hmn hmx hp hn hs
  generalize commI x.start x.time (dupK ks) = cm at *
  generalize addsB x.count [[x.zero], pl, nl] = ad at *
  generalize beyB x.pos.off pl.length = fp at *
  generalize beyB x.neg.off nl.length = fn at *
  generalize upB x.mn.has x.mn.n x.mx.has x.mx.n = up at *
  generalize classI x.thr = cl at *
  generalize lessB x.thr 0 = ls at *
  subst e0 e1 e2 e3 e4 e5
  have d1 : decide (x.scale < -10) = false := decide_eq_false s1
  have d2 : decide (x.scale > 20) = false := decide_eq_false s2
  refine wp_code rfl ?_
  go_wp2_with (first
      | (go_at_call 34; with_reducible refine (HT.out _ HB.out HNS.out).mono ?_; rintro e w2 ⟨rfl, hb⟩; have n2_ := Aside0.mk (HNS.out.below hb); clear HNS; have HNS := n2_; clear n2_; clear z3 z6 z7 z8 z9 z10 z13 z14 z15 z17 z18 z19 z22; have n1_ := Aside0.mk (HX.out.below hb); have n0_ := Aside0.mk (below_next HB.out hb); clear HX HB hb; have HX := n1_; have HB := n0_; clear n0_ n1_; have z3 := HX.out.c3; have z6 := HX.out.c6; have z7 := HX.out.c7; have z8 := HX.out.c8; have z9 := HX.out.c9; have z10 := HX.out.c10; have z13 := HX.out.c13; have z14 := HX.out.c14; have z15 := HX.out.c15; have z17 := HX.out.c17; have z18 := HX.out.c18; have z19 := HX.out.c19; have z22 := HX.out.c22)
      | (go_at_call 37; with_reducible refine (HFP.out _ HB.out).mono ?_; rintro e w2 ⟨rfl, hb⟩; clear z3 z6 z7 z8 z9 z10 z13 z14 z15 z17 z18 z19 z22; have n1_ := Aside0.mk (HX.out.below hb); have n0_ := Aside0.mk (below_next HB.out hb); clear HX HB hb; have HX := n1_; have HB := n0_; clear n0_ n1_; have z3 := HX.out.c3; have z6 := HX.out.c6; have z7 := HX.out.c7; have z8 := HX.out.c8; have z9 := HX.out.c9; have z10 := HX.out.c10; have z13 := HX.out.c13; have z14 := HX.out.c14; have z15 := HX.out.c15; have z17 := HX.out.c17; have z18 := HX.out.c18; have z19 := HX.out.c19; have z22 := HX.out.c22)
      | (go_at_call 37; with_reducible refine (HFN.out _ HB.out).mono ?_; rintro e w2 ⟨rfl, hb⟩; clear z3 z6 z7 z8 z9 z10 z13 z14 z15 z17 z18 z19 z22; have n1_ := Aside0.mk (HX.out.below hb); have n0_ := Aside0.mk (below_next HB.out hb); clear HX HB hb; have HX := n1_; have HB := n0_; clear n0_ n1_; have z3 := HX.out.c3; have z6 := HX.out.c6; have z7 := HX.out.c7; have z8 := HX.out.c8; have z9 := HX.out.c9; have z10 := HX.out.c10; have z13 := HX.out.c13; have z14 := HX.out.c14; have z15 := HX.out.c15; have z17 := HX.out.c17; have z18 := HX.out.c18; have z19 := HX.out.c19; have z22 := HX.out.c22)
      | (go_at_call 36; with_reducible refine (HU.out _).mono ?_; rintro e w2 ⟨rfl, hb⟩; clear z3 z6 z7 z8 z9 z10 z13 z14 z15 z17 z18 z19 z22; have n1_ := Aside0.mk (HX.out.below hb); have n0_ := Aside0.mk (below_next HB.out hb); clear HX HB hb; have HX := n1_; have HB := n0_; clear n0_ n1_; have z3 := HX.out.c3; have z6 := HX.out.c6; have z7 := HX.out.c7; have z8 := HX.out.c8; have z9 := HX.out.c9; have z10 := HX.out.c10; have z13 := HX.out.c13; have z14 := HX.out.c14; have z15 := HX.out.c15; have z17 := HX.out.c17; have z18 := HX.out.c18; have z19 := HX.out.c19; have z22 := HX.out.c22)
      | (go_at_call 38; with_reducible refine (HCl.out _).mono ?_; rintro e w2 ⟨rfl, hb⟩; clear z3 z6 z7 z8 z9 z10 z13 z14 z15 z17 z18 z19 z22; have n1_ := Aside0.mk (HX.out.below hb); have n0_ := Aside0.mk (below_next HB.out hb); clear HX HB hb; have HX := n1_; have HB := n0_; clear n0_ n1_; have z3 := HX.out.c3; have z6 := HX.out.c6; have z7 := HX.out.c7; have z8 := HX.out.c8; have z9 := HX.out.c9; have z10 := HX.out.c10; have z13 := HX.out.c13; have z14 := HX.out.c14; have z15 := HX.out.c15; have z17 := HX.out.c17; have z18 := HX.out.c18; have z19 := HX.out.c19; have z22 := HX.out.c22)
      | fail)
  go_ret
  exact ⟨rfl, HB.out⟩
set_option maxHeartbeats 2000000 in
set_option maxRecDepth 100000 in
theorem rxt_l {w0 w : World} {x : Exq} {g b c : Nat} {ks : List Kv} {pl nl : List Int} (u5 u6 u7 u8 u9 u10 u11 u12 u13 u14 u15 u16 u17 u18 u19 u20 u21 u22 : Value) (hB : Below w0.heap.size w0 w) (hX : XQ w g x) {W0 : World} (hx : ExqOk W0 x) (hmn : R64 x.mn.n) (hmx : R64 x.mx.n) (hp : NsAt w0 x.pos.counts pl) (hn : NsAt w0 x.neg.counts nl) (hs : NsAt w ⟨some ⟨b, 0, none⟩, 1 + pl.length + nl.length, c⟩ ([x.zero] ++ pl ++ nl)) (e0 : commI x.start x.time (dupK ks) = 0) (e1 : addsB x.count [[x.zero], pl, nl] = true) (s1 : ¬ x.scale < -10) (s2 : ¬ x.scale > 20) (e2 : beyB x.pos.off pl.length = false) (e3 : beyB x.neg.off nl.length = false) (e4 : upB x.mn.has x.mn.n x.mx.has x.mx.n = false) (e5 : ¬ classI x.thr = 4) (e6 : lessB x.thr 0 = true) :
    (dropSeq 3 expC).wp Try.prog (bodyPost Try.prog Try.f15 (fun e w' => e = .returned (.int .i64 11) ∧ Below w0.heap.size w0 w')) ⟨#[exqA x, .pointer (some ⟨g, 0, none⟩), .int .i64 0, .int .i64 (commI x.start x.time (dupK ks)), .slice (some ⟨b, 0, none⟩) (1 + pl.length + nl.length) c, u5, u6, u7, u8, u9, u10, u11, u12, u13, u14, u15, u16, u17, u18, u19, u20, u21, u22, undef, undef, undef, undef, undef, undef, undef, undef, undef, undef, undef, undef, undef, undef, undef, undef, undef, undef, undef, undef, undef, undef, undef, undef, undef, undef, undef, undef, undef, undef, undef, undef, undef, undef, undef, undef, undef, undef, undef, undef, undef, undef, undef, undef, undef, undef], []⟩ w := by
  have HT := Aside0.mk (fun W (h : Below w0.heap.size w0 W) (h2 : NsAt W ⟨some ⟨b, 0, none⟩, 1 + pl.length + nl.length, c⟩ ([x.zero] ++ pl ++ nl)) => rtotal_any W x.count ⟨some ⟨b, 0, none⟩, 1 + pl.length + nl.length, c⟩ _ h2 hx.count)
  have e3 : addsB x.count [[x.zero] ++ pl ++ nl] = addsB x.count [[x.zero], pl, nl] := by rw [adds_one, adds_three]
  rw [e3] at HT
  clear e3
  have HFP := Aside0.mk (fun W (h : Below w0.heap.size w0 W) => rfar_any W x.pos.off x.pos.counts pl x.pos.unk (hp.below h))
  have HFN := Aside0.mk (fun W (h : Below w0.heap.size w0 W) => rfar_any W x.neg.off x.neg.counts nl x.neg.unk (hn.below h))
  have HU := Aside0.mk (fun W => rup_any W x.mn.has x.mn.n x.mx.has x.mx.n hmn hmx)
  have HCl := Aside0.mk (fun W => rclass_any W x.thr hx.thr)
  have HL := Aside0.mk (fun W => rless_any W x.thr 0 hx.thr ⟨by decide, by decide⟩)
  have HNS := Aside0.mk hs
  have HB := Aside0.mk hB
  have z3 := hX.c3
  have z6 := hX.c6
  have z7 := hX.c7
  have z8 := hX.c8
  have z9 := hX.c9
  have z10 := hX.c10
  have z13 := hX.c13
  have z14 := hX.c14
  have z15 := hX.c15
  have z17 := hX.c17
  have z18 := hX.c18
  have z19 := hX.c19
  have z22 := hX.c22
  have HX := Aside0.mk hX
  have z25 := Try.sizeOf25
  have z32 := Try.sizeOf32
  clear hB hX hx hmn hmx hp hn hs
  generalize commI x.start x.time (dupK ks) = cm at *
  generalize addsB x.count [[x.zero], pl, nl] = ad at *
  generalize beyB x.pos.off pl.length = fp at *
  generalize beyB x.neg.off nl.length = fn at *
  generalize upB x.mn.has x.mn.n x.mx.has x.mx.n = up at *
  generalize classI x.thr = cl at *
  generalize lessB x.thr 0 = ls at *
  subst e0 e1 e2 e3 e4 e6
  have d5 : (cl == 4) = false := by simpa using e5
  have d1 : decide (x.scale < -10) = false := decide_eq_false s1
  have d2 : decide (x.scale > 20) = false := decide_eq_false s2
  refine wp_code rfl ?_
  go_wp2_with (first
      | (go_at_call 34; with_reducible refine (HT.out _ HB.out HNS.out).mono ?_; rintro e w2 ⟨rfl, hb⟩; have n2_ := Aside0.mk (HNS.out.below hb); clear HNS; have HNS := n2_; clear n2_; clear z3 z6 z7 z8 z9 z10 z13 z14 z15 z17 z18 z19 z22; have n1_ := Aside0.mk (HX.out.below hb); have n0_ := Aside0.mk (below_next HB.out hb); clear HX HB hb; have HX := n1_; have HB := n0_; clear n0_ n1_; have z3 := HX.out.c3; have z6 := HX.out.c6; have z7 := HX.out.c7; have z8 := HX.out.c8; have z9 := HX.out.c9; have z10 := HX.out.c10; have z13 := HX.out.c13; have z14 := HX.out.c14; have z15 := HX.out.c15; have z17 := HX.out.c17; have z18 := HX.out.c18; have z19 := HX.out.c19; have z22 := HX.out.c22)
      | (go_at_call 37; with_reducible refine (HFP.out _ HB.out).mono ?_; rintro e w2 ⟨rfl, hb⟩; clear z3 z6 z7 z8 z9 z10 z13 z14 z15 z17 z18 z19 z22; have n1_ := Aside0.mk (HX.out.below hb); have n0_ := Aside0.mk (below_next HB.out hb); clear HX HB hb; have HX := n1_; have HB := n0_; clear n0_ n1_; have z3 := HX.out.c3; have z6 := HX.out.c6; have z7 := HX.out.c7; have z8 := HX.out.c8; have z9 := HX.out.c9; have z10 := HX.out.c10; have z13 := HX.out.c13; have z14 := HX.out.c14; have z15 := HX.out.c15; have z17 := HX.out.c17; have z18 := HX.out.c18; have z19 := HX.out.c19; have z22 := HX.out.c22)
      | (go_at_call 37; with_reducible refine (HFN.out _ HB.out).mono ?_; rintro e w2 ⟨rfl, hb⟩; clear z3 z6 z7 z8 z9 z10 z13 z14 z15 z17 z18 z19 z22; have n1_ := Aside0.mk (HX.out.below hb); have n0_ := Aside0.mk (below_next HB.out hb); clear HX HB hb; have HX := n1_; have HB := n0_; clear n0_ n1_; have z3 := HX.out.c3; have z6 := HX.out.c6; have z7 := HX.out.c7; have z8 := HX.out.c8; have z9 := HX.out.c9; have z10 := HX.out.c10; have z13 := HX.out.c13; have z14 := HX.out.c14; have z15 := HX.out.c15; have z17 := HX.out.c17; have z18 := HX.out.c18; have z19 := HX.out.c19; have z22 := HX.out.c22)
      | (go_at_call 36; with_reducible refine (HU.out _).mono ?_; rintro e w2 ⟨rfl, hb⟩; clear z3 z6 z7 z8 z9 z10 z13 z14 z15 z17 z18 z19 z22; have n1_ := Aside0.mk (HX.out.below hb); have n0_ := Aside0.mk (below_next HB.out hb); clear HX HB hb; have HX := n1_; have HB := n0_; clear n0_ n1_; have z3 := HX.out.c3; have z6 := HX.out.c6; have z7 := HX.out.c7; have z8 := HX.out.c8; have z9 := HX.out.c9; have z10 := HX.out.c10; have z13 := HX.out.c13; have z14 := HX.out.c14; have z15 := HX.out.c15; have z17 := HX.out.c17; have z18 := HX.out.c18; have z19 := HX.out.c19; have z22 := HX.out.c22)
      | (go_at_call 38; with_reducible refine (HCl.out _).mono ?_; rintro e w2 ⟨rfl, hb⟩; clear z3 z6 z7 z8 z9 z10 z13 z14 z15 z17 z18 z19 z22; have n1_ := Aside0.mk (HX.out.below hb); have n0_ := Aside0.mk (below_next HB.out hb); clear HX HB hb; have HX := n1_; have HB := n0_; clear n0_ n1_; have z3 := HX.out.c3; have z6 := HX.out.c6; have z7 := HX.out.c7; have z8 := HX.out.c8; have z9 := HX.out.c9; have z10 := HX.out.c10; have z13 := HX.out.c13; have z14 := HX.out.c14; have z15 := HX.out.c15; have z17 := HX.out.c17; have z18 := HX.out.c18; have z19 := HX.out.c19; have z22 := HX.out.c22)
      | (go_at_call 39; with_reducible refine (HL.out _).mono ?_; rintro e w2 ⟨rfl, hb⟩; clear z3 z6 z7 z8 z9 z10 z13 z14 z15 z17 z18 z19 z22; have n1_ := Aside0.mk (HX.out.below hb); have n0_ := Aside0.mk (below_next HB.out hb); clear HX HB hb; have HX := n1_; have HB := n0_; clear n0_ n1_; have z3 := HX.out.c3; have z6 := HX.out.c6; have z7 := HX.out.c7; have z8 := HX.out.c8; have z9 := HX.out.c9; have z10 := HX.out.c10; have z13 := HX.out.c13; have z14 := HX.out.c14; have z15 := HX.out.c15; have z17 := HX.out.c17; have z18 := HX.out.c18; have z19 := HX.out.c19; have z22 := HX.out.c22)
      | fail)
  go_ret
  exact ⟨rfl, HB.out⟩
set_option maxHeartbeats 2000000 in
set_option maxRecDepth 100000 in
theorem rxt_z {w0 w : World} {x : Exq} {g b c : Nat} {ks : List Kv} {pl nl : List Int} (u5 u6 u7 u8 u9 u10 u11 u12 u13 u14 u15 u16 u17 u18 u19 u20 u21 u22 : Value) (hB : Below w0.heap.size w0 w) (hX : XQ w g x) {W0 : World} (hx : ExqOk W0 x) (hmn : R64 x.mn.n) (hmx : R64 x.mx.n) (hp : NsAt w0 x.pos.counts pl) (hn : NsAt w0 x.neg.counts nl) (hs : NsAt w ⟨some ⟨b, 0, none⟩, 1 + pl.length + nl.length, c⟩ ([x.zero] ++ pl ++ nl)) (e0 : commI x.start x.time (dupK ks) = 0) (e1 : addsB x.count [[x.zero], pl, nl] = true) (s1 : ¬ x.scale < -10) (s2 : ¬ x.scale > 20) (e2 : beyB x.pos.off pl.length = false) (e3 : beyB x.neg.off nl.length = false) (e4 : upB x.mn.has x.mn.n x.mx.has x.mx.n = false) (e5 : ¬ classI x.thr = 4) (e6 : lessB x.thr 0 = false) :
    (dropSeq 3 expC).wp Try.prog (bodyPost Try.prog Try.f15 (fun e w' => e = .returned (.int .i64 0) ∧ Below w0.heap.size w0 w')) ⟨#[exqA x, .pointer (some ⟨g, 0, none⟩), .int .i64 0, .int .i64 (commI x.start x.time (dupK ks)), .slice (some ⟨b, 0, none⟩) (1 + pl.length + nl.length) c, u5, u6, u7, u8, u9, u10, u11, u12, u13, u14, u15, u16, u17, u18, u19, u20, u21, u22, undef, undef, undef, undef, undef, undef, undef, undef, undef, undef, undef, undef, undef, undef, undef, undef, undef, undef, undef, undef, undef, undef, undef, undef, undef, undef, undef, undef, undef, undef, undef, undef, undef, undef, undef, undef, undef, undef, undef, undef, undef, undef, undef, undef, undef, undef], []⟩ w := by
  have HT := Aside0.mk (fun W (h : Below w0.heap.size w0 W) (h2 : NsAt W ⟨some ⟨b, 0, none⟩, 1 + pl.length + nl.length, c⟩ ([x.zero] ++ pl ++ nl)) => rtotal_any W x.count ⟨some ⟨b, 0, none⟩, 1 + pl.length + nl.length, c⟩ _ h2 hx.count)
  have e3 : addsB x.count [[x.zero] ++ pl ++ nl] = addsB x.count [[x.zero], pl, nl] := by rw [adds_one, adds_three]
  rw [e3] at HT
  clear e3
  have HFP := Aside0.mk (fun W (h : Below w0.heap.size w0 W) => rfar_any W x.pos.off x.pos.counts pl x.pos.unk (hp.below h))
  have HFN := Aside0.mk (fun W (h : Below w0.heap.size w0 W) => rfar_any W x.neg.off x.neg.counts nl x.neg.unk (hn.below h))
  have HU := Aside0.mk (fun W => rup_any W x.mn.has x.mn.n x.mx.has x.mx.n hmn hmx)
  have HCl := Aside0.mk (fun W => rclass_any W x.thr hx.thr)
  have HL := Aside0.mk (fun W => rless_any W x.thr 0 hx.thr ⟨by decide, by decide⟩)
  have HNS := Aside0.mk hs
  have HB := Aside0.mk hB
  have z3 := hX.c3
  have z6 := hX.c6
  have z7 := hX.c7
  have z8 := hX.c8
  have z9 := hX.c9
  have z10 := hX.c10
  have z13 := hX.c13
  have z14 := hX.c14
  have z15 := hX.c15
  have z17 := hX.c17
  have z18 := hX.c18
  have z19 := hX.c19
  have z22 := hX.c22
  have HX := Aside0.mk hX
  have z25 := Try.sizeOf25
  have z32 := Try.sizeOf32
  clear hB hX hx hmn hmx hp hn hs
  generalize commI x.start x.time (dupK ks) = cm at *
  generalize addsB x.count [[x.zero], pl, nl] = ad at *
  generalize beyB x.pos.off pl.length = fp at *
  generalize beyB x.neg.off nl.length = fn at *
  generalize upB x.mn.has x.mn.n x.mx.has x.mx.n = up at *
  generalize classI x.thr = cl at *
  generalize lessB x.thr 0 = ls at *
  subst e0 e1 e2 e3 e4 e6
  have d5 : (cl == 4) = false := by simpa using e5
  have d1 : decide (x.scale < -10) = false := decide_eq_false s1
  have d2 : decide (x.scale > 20) = false := decide_eq_false s2
  refine wp_code rfl ?_
  go_wp2_with (first
      | (go_at_call 34; with_reducible refine (HT.out _ HB.out HNS.out).mono ?_; rintro e w2 ⟨rfl, hb⟩; have n2_ := Aside0.mk (HNS.out.below hb); clear HNS; have HNS := n2_; clear n2_; clear z3 z6 z7 z8 z9 z10 z13 z14 z15 z17 z18 z19 z22; have n1_ := Aside0.mk (HX.out.below hb); have n0_ := Aside0.mk (below_next HB.out hb); clear HX HB hb; have HX := n1_; have HB := n0_; clear n0_ n1_; have z3 := HX.out.c3; have z6 := HX.out.c6; have z7 := HX.out.c7; have z8 := HX.out.c8; have z9 := HX.out.c9; have z10 := HX.out.c10; have z13 := HX.out.c13; have z14 := HX.out.c14; have z15 := HX.out.c15; have z17 := HX.out.c17; have z18 := HX.out.c18; have z19 := HX.out.c19; have z22 := HX.out.c22)
      | (go_at_call 37; with_reducible refine (HFP.out _ HB.out).mono ?_; rintro e w2 ⟨rfl, hb⟩; clear z3 z6 z7 z8 z9 z10 z13 z14 z15 z17 z18 z19 z22; have n1_ := Aside0.mk (HX.out.below hb); have n0_ := Aside0.mk (below_next HB.out hb); clear HX HB hb; have HX := n1_; have HB := n0_; clear n0_ n1_; have z3 := HX.out.c3; have z6 := HX.out.c6; have z7 := HX.out.c7; have z8 := HX.out.c8; have z9 := HX.out.c9; have z10 := HX.out.c10; have z13 := HX.out.c13; have z14 := HX.out.c14; have z15 := HX.out.c15; have z17 := HX.out.c17; have z18 := HX.out.c18; have z19 := HX.out.c19; have z22 := HX.out.c22)
      | (go_at_call 37; with_reducible refine (HFN.out _ HB.out).mono ?_; rintro e w2 ⟨rfl, hb⟩; clear z3 z6 z7 z8 z9 z10 z13 z14 z15 z17 z18 z19 z22; have n1_ := Aside0.mk (HX.out.below hb); have n0_ := Aside0.mk (below_next HB.out hb); clear HX HB hb; have HX := n1_; have HB := n0_; clear n0_ n1_; have z3 := HX.out.c3; have z6 := HX.out.c6; have z7 := HX.out.c7; have z8 := HX.out.c8; have z9 := HX.out.c9; have z10 := HX.out.c10; have z13 := HX.out.c13; have z14 := HX.out.c14; have z15 := HX.out.c15; have z17 := HX.out.c17; have z18 := HX.out.c18; have z19 := HX.out.c19; have z22 := HX.out.c22)
      | (go_at_call 36; with_reducible refine (HU.out _).mono ?_; rintro e w2 ⟨rfl, hb⟩; clear z3 z6 z7 z8 z9 z10 z13 z14 z15 z17 z18 z19 z22; have n1_ := Aside0.mk (HX.out.below hb); have n0_ := Aside0.mk (below_next HB.out hb); clear HX HB hb; have HX := n1_; have HB := n0_; clear n0_ n1_; have z3 := HX.out.c3; have z6 := HX.out.c6; have z7 := HX.out.c7; have z8 := HX.out.c8; have z9 := HX.out.c9; have z10 := HX.out.c10; have z13 := HX.out.c13; have z14 := HX.out.c14; have z15 := HX.out.c15; have z17 := HX.out.c17; have z18 := HX.out.c18; have z19 := HX.out.c19; have z22 := HX.out.c22)
      | (go_at_call 38; with_reducible refine (HCl.out _).mono ?_; rintro e w2 ⟨rfl, hb⟩; clear z3 z6 z7 z8 z9 z10 z13 z14 z15 z17 z18 z19 z22; have n1_ := Aside0.mk (HX.out.below hb); have n0_ := Aside0.mk (below_next HB.out hb); clear HX HB hb; have HX := n1_; have HB := n0_; clear n0_ n1_; have z3 := HX.out.c3; have z6 := HX.out.c6; have z7 := HX.out.c7; have z8 := HX.out.c8; have z9 := HX.out.c9; have z10 := HX.out.c10; have z13 := HX.out.c13; have z14 := HX.out.c14; have z15 := HX.out.c15; have z17 := HX.out.c17; have z18 := HX.out.c18; have z19 := HX.out.c19; have z22 := HX.out.c22)
      | (go_at_call 39; with_reducible refine (HL.out _).mono ?_; rintro e w2 ⟨rfl, hb⟩; clear z3 z6 z7 z8 z9 z10 z13 z14 z15 z17 z18 z19 z22; have n1_ := Aside0.mk (HX.out.below hb); have n0_ := Aside0.mk (below_next HB.out hb); clear HX HB hb; have HX := n1_; have HB := n0_; clear n0_ n1_; have z3 := HX.out.c3; have z6 := HX.out.c6; have z7 := HX.out.c7; have z8 := HX.out.c8; have z9 := HX.out.c9; have z10 := HX.out.c10; have z13 := HX.out.c13; have z14 := HX.out.c14; have z15 := HX.out.c15; have z17 := HX.out.c17; have z18 := HX.out.c18; have z19 := HX.out.c19; have z22 := HX.out.c22)
      | fail)
  go_ret
  exact ⟨rfl, HB.out⟩
end Go.Proofs.Ytdogokcoobpgdaa
namespace Go.Proofs.Ytdogokcoobpgdaa
open Go.RowKit Go.Proofs.YtdogokcoobpgdaaW.PrintWords Go.Proofs.YtdogokcoobpgdaaW.PrintLast Go.Proofs.YtdogokcoobpgdaaW.PrintMore Hy

theorem own_ns {W : World} {base b N c : Nat} {l : List Int} (h : W.ownsRow base 23 1 (.slice (some ⟨b, 0, none⟩) N c) N (nums .u64 l)) (hl : N = l.length) (hw : ∀ x ∈ l, R64 x) (h0 : 0 < N) : NsAt W ⟨some ⟨b, 0, none⟩, N, c⟩ l := by
  obtain ⟨b', c', e, h1, h2⟩ := own1_some h h0
  injection e with _ _ e3
  subst e3
  refine ⟨hl, h1, h2, ?_, hw⟩
  have hr := own_reads' h
  rw [hl] at hr
  exact Kd.C_of_reads (d := (0 : Int)) (h1 := fun _ => rfl) hr
set_option maxHeartbeats 2000000 in
set_option maxRecDepth 100000 in
theorem rexp18_any (w : World) (x : Exq) (ks : List Kv) (pl nl : List Int) (hk : KsAt w x.attrs ks) {W0 : World} (hx : ExqOk W0 x) (hp : NsAt w x.pos.counts pl) (hn : NsAt w x.neg.counts nl) (lp : x.pos.counts.len ≤ 12000) (ln : x.neg.counts.len ≤ 12000) :
    Calls Try.prog 15 #[exqA x] w fun e w' => e = .returned (.int .i64 (expI (commI x.start x.time (dupK ks)) (addsB x.count [[x.zero], pl, nl]) x.scale (beyB x.pos.off pl.length) (beyB x.neg.off nl.length) (upB x.mn.has x.mn.n x.mx.has x.mx.n) (lowB x.thr))) ∧ Below w.heap.size w w' := by
  have hp0 := comm_pos x.start x.time (dupK ks)
  have l1 := hp.len
  have l2 := hn.len
  go_enter Try.func15, Try.ntmps15
  show (dropSeq 0 expC).wp Try.prog _ _ w
  refine seq_step rfl (rx0 ?_)
  have hX : XQ (w.alloc (.cells (exqC x).toArray 34)) w.heap.size x := ⟨heap_alloc_new w _⟩
  have hB : Below w.heap.size w (w.alloc (.cells (exqC x).toArray 34)) := (Below.refl _ _).alloc (Nat.le_refl _) _
  generalize w.alloc (.cells (exqC x).toArray 34) = w1 at *
  refine seq_step rfl (rx1 hX (hk.below hB) (fun u5 u6 u7 u8 u9 u10 u11 w2 hb2 => ?_))
  have hB2 := below_next hB hb2
  have hX2 := XQ.below hX hb2
  refine seq_step rfl (rx2 hX2 (hp.below hB2) (hn.below hB2) (u64s_case hx.pos.counts) (u64s_case hx.neg.counts) ⟨by omega, by omega⟩ (fun u12 u13 u14 u15 u16 u17 u18 u19 u20 u21 u22 b c w3 hb3 hown => ?_))
  have hB3 := below_next hB2 hb3
  have hX3 := XQ.below hX2 hb3
  have hs := own_ns hown (by simp only [List.length_append, List.length_cons, List.length_nil]) (by
    intro z hz
    simp only [List.mem_append, List.mem_singleton] at hz
    rcases hz with (rfl | hz) | hz
    · exact hx.zero
    · exact hp.wf z hz
    · exact hn.wf z hz) (by omega)
  unfold expI
  show (dropSeq 3 expC).wp _ _ _ _
  by_cases e0 : commI x.start x.time (dupK ks) = 0
  · have E : ∀ (a s r : Int), (a = 8 ∨ a = 0) → orL [commI x.start x.time (dupK ks), a, s, r] = orL [a, s, r] := fun a s r _ => by rw [e0, orL_z]
    rw [E _ _ _ (by cases addsB x.count [[x.zero], pl, nl] <;> simp [whn])]
    cases e1 : addsB x.count [[x.zero], pl, nl] with
    | false => exact rxt_a u5 u6 u7 u8 u9 u10 u11 u12 u13 u14 u15 u16 u17 u18 u19 u20 u21 u22 hB3 hX3 hx hx.mn.n hx.mx.n hp hn hs e0 e1
    | true =>
      rw [show ∀ s r : Int, orL [whn (!true) 8, s, r] = orL [s, r] from fun s r => by rw [show whn (!true) 8 = 0 from rfl, orL_z]]
      unfold scB
      by_cases s1 : x.scale < -10
      · rw [if_pos s1, whn_true, orL_ne (by decide)]
        exact rxt_lo u5 u6 u7 u8 u9 u10 u11 u12 u13 u14 u15 u16 u17 u18 u19 u20 u21 u22 hB3 hX3 hx hx.mn.n hx.mx.n hp hn hs e0 e1 s1
      · rw [if_neg s1]
        by_cases s2 : 20 < x.scale
        · rw [if_pos s2, whn_true, orL_ne (by decide)]
          exact rxt_hi u5 u6 u7 u8 u9 u10 u11 u12 u13 u14 u15 u16 u17 u18 u19 u20 u21 u22 hB3 hX3 hx hx.mn.n hx.mx.n hp hn hs e0 e1 s1 s2
        · rw [if_neg s2]
          cases e2 : beyB x.pos.off pl.length with
          | true =>
            rw [Bool.true_or, whn_true, orL_ne (by decide)]
            exact rxt_po u5 u6 u7 u8 u9 u10 u11 u12 u13 u14 u15 u16 u17 u18 u19 u20 u21 u22 hB3 hX3 hx hx.mn.n hx.mx.n hp hn hs e0 e1 s1 s2 e2
          | false =>
            cases e3 : beyB x.neg.off nl.length with
            | true =>
              rw [Bool.or_true, whn_true, orL_ne (by decide)]
              exact rxt_ne u5 u6 u7 u8 u9 u10 u11 u12 u13 u14 u15 u16 u17 u18 u19 u20 u21 u22 hB3 hX3 hx hx.mn.n hx.mx.n hp hn hs e0 e1 s1 s2 e2 e3
            | false =>
              rw [Bool.or_false, whn_false, orL_z]
              unfold lowB
              cases e4 : upB x.mn.has x.mn.n x.mx.has x.mx.n with
              | true =>
                rw [Bool.true_or, whn_true, orL_ne (by decide)]
                exact rxt_u u5 u6 u7 u8 u9 u10 u11 u12 u13 u14 u15 u16 u17 u18 u19 u20 u21 u22 hB3 hX3 hx hx.mn.n hx.mx.n hp hn hs e0 e1 s1 s2 e2 e3 e4
              | false =>
                by_cases e5 : classI x.thr = 4
                · rw [if_pos e5, Bool.or_true, whn_true, orL_ne (by decide)]
                  exact rxt_k u5 u6 u7 u8 u9 u10 u11 u12 u13 u14 u15 u16 u17 u18 u19 u20 u21 u22 hB3 hX3 hx hx.mn.n hx.mx.n hp hn hs e0 e1 s1 s2 e2 e3 e4 e5
                · rw [if_neg e5, Bool.false_or]
                  cases e6 : lessB x.thr 0 with
                  | true =>
                    rw [whn_true, orL_ne (by decide)]
                    exact rxt_l u5 u6 u7 u8 u9 u10 u11 u12 u13 u14 u15 u16 u17 u18 u19 u20 u21 u22 hB3 hX3 hx hx.mn.n hx.mx.n hp hn hs e0 e1 s1 s2 e2 e3 e4 e5 e6
                  | false =>
                    rw [whn_false, orL_z, orL_nil]
                    exact rxt_z u5 u6 u7 u8 u9 u10 u11 u12 u13 u14 u15 u16 u17 u18 u19 u20 u21 u22 hB3 hX3 hx hx.mn.n hx.mx.n hp hn hs e0 e1 s1 s2 e2 e3 e4 e5 e6
  · rw [orL_ne e0]
    exact rxt_c u5 u6 u7 u8 u9 u10 u11 u12 u13 u14 u15 u16 u17 u18 u19 u20 u21 u22 hB3 hX3 hx hx.mn.n hx.mx.n hp hn hs (by omega)
end Go.Proofs.Ytdogokcoobpgdaa
