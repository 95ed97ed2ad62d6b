import Derived.Test.YtdogokcoobpgdaaMjrbitwvn
import Derived.Test.YtdogokcoobpgdaaMgfsowthg
import Derived.Test.YtdogokcoobpgdaaMtgkdsjjz
import Derived.Test.YtdogokcoobpgdaaMecqypoen
import Derived.Test.YtdogokcoobpgdaaMdvfumbco
import Derived.Test.YtdogokcoobpgdaaMyridqwji
import Derived.Test.YtdogokcoobpgdaaMpkdmcxfl
import Derived.Test.YtdogokcoobpgdaaMadjfltxq
import Derived.Test.YtdogokcoobpgdaaMfvkwkbkm
import Derived.Test.YtdogokcoobpgdaaMzogxncaz
import Derived.Test.YtdogokcoobpgdaaMtocbkela
import Derived.Test.YtdogokcoobpgdaaMgkrypeli
import Derived.Test.YtdogokcoobpgdaaMqfxrortr
import Derived.Test.YtdogokcoobpgdaaMefeekizk
import Derived.Test.YtdogokcoobpgdaaMbtgvrbte
import Derived.Test.YtdogokcoobpgdaaMeqqprhfo
namespace Go.Proofs.Ytdogokcoobpgdaa
open Go.RowKit Go.Proofs.YtdogokcoobpgdaaW.PrintWords Go.Proofs.YtdogokcoobpgdaaW.PrintLast Go.Proofs.YtdogokcoobpgdaaW.PrintMore

set_option maxHeartbeats 2000000 in
theorem exp_any (w : World) (x : Exq) (ks : List Kv) (pl nl : List Int) (hk : KsAt w x.attrs ks) (hp : NsAt w x.pos.counts pl) (hn : NsAt w x.neg.counts nl) (hz : 0 ≤ x.zero ∧ x.zero < 18446744073709551616) :
    Calls Try.prog 9 #[exqA x] w fun e w' => e = .returned (.int .i64 (expI (commI x.start x.time (dupK ks)) (addsB x.count [[x.zero], pl, nl]) x.scale (beyB x.pos.off pl.length) (beyB x.neg.off nl.length) (upB x.mn.has x.mn.n x.mx.has x.mx.n) (lowB x.thr))) ∧ Below w.heap.size w w' := by
  obtain ⟨⟨aa, an, ac⟩, start, time, count, ⟨sh, sn⟩, ⟨mnh, mnn⟩, ⟨mxh, mxn⟩, scale, zero, hp, ⟨po, ⟨pa, pn, pc⟩, pu⟩, hn, ⟨no, ⟨na, nn, nc⟩, nu⟩, ⟨ea, en, ec⟩, flags, thr, unk⟩ := x
  simp only at hk hp hn hz ⊢
  have HZ := Aside0.mk hz
  have HC : Aside0 (∀ w', Below w.heap.size w w' → Calls Try.prog 25 #[.int .u64 start, .int .u64 time, .slice aa an ac] w' fun e w2 => e = .returned (.int .i64 (commI start time (dupK ks))) ∧ Below w'.heap.size w' w2) := ⟨fun w' h => common_any w' start time ⟨aa, an, ac⟩ ks (hk.below h)⟩
  have HL : Aside0 (∀ w', Below w.heap.size w w' → ∀ g0, NsAt w' ⟨some ⟨g0, 0, none⟩, 1, 1⟩ [zero] → ∀ e, LLAt (w'.alloc (.cells #[.slice (some ⟨g0, 0, none⟩) 1 1, .slice pa pn pc, .slice na nn nc] e)) w'.heap.size [[zero], pl, nl]) := ⟨fun w' h g0 h0 e => ll_3 w' ⟨some ⟨g0, 0, none⟩, 1, 1⟩ ⟨pa, pn, pc⟩ ⟨na, nn, nc⟩ [zero] pl nl e h0 (hp.below h) (hn.below h)⟩
  have HA : Aside0 (∀ w' g2, LLAt w' g2 [[zero], pl, nl] → Calls Try.prog 27 #[.int .u64 count, .slice (some ⟨g2, 0, none⟩) 3 3] w' fun e w2 => e = .returned (.bool (addsB count [[zero], pl, nl])) ∧ Below w'.heap.size w' w2) := ⟨fun w' g2 h => adds3_any w' g2 count [zero] pl nl (fun l hl => by
    have p1 := hp.len; have p2 := hp.cap; have p3 := hp.most
    have n1 := hn.len; have n2 := hn.cap; have n3 := hn.most
    unfold maxLen at p3 n3
    simp only at p1 p2 p3 n1 n2 n3
    simp only [List.mem_cons, List.not_mem_nil, or_false] at hl
    rcases hl with rfl | rfl | rfl
    · simp
    · omega
    · omega) h⟩
  have HP : Aside0 (∀ w', Below w.heap.size w w' → Calls Try.prog 32 #[.agg #[.int .i32 po, .slice pa pn pc, .string pu]] w' fun e w2 => e = .returned (.bool (beyB po pl.length)) ∧ Below w'.heap.size w' w2) := ⟨fun w' h => beyond_any w' po ⟨pa, pn, pc⟩ pl pu (hp.below h)⟩
  have HN : Aside0 (∀ w', Below w.heap.size w w' → Calls Try.prog 32 #[.agg #[.int .i32 no, .slice na nn nc, .string nu]] w' fun e w2 => e = .returned (.bool (beyB no nl.length)) ∧ Below w'.heap.size w' w2) := ⟨fun w' h => beyond_any w' no ⟨na, nn, nc⟩ nl nu (hn.below h)⟩
  have HU : Aside0 (∀ w', Calls Try.prog 29 #[.agg #[.bool mnh, .int .u64 mnn], .agg #[.bool mxh, .int .u64 mxn]] w' fun e w2 => e = .returned (.bool (upB mnh mnn mxh mxn)) ∧ Below w'.heap.size w' w2) := ⟨fun w' => up_any _ _ _ _ w'⟩
  have HCL : Aside0 (∀ w', Calls Try.prog 30 #[.int .u64 thr] w' fun e w2 => e = .returned (.int .i64 (classI thr)) ∧ Drawn0 w' w2) := ⟨fun w' => CChk.flt_Class.calls thr _ w' (class_f thr)⟩
  have HLS : Aside0 (∀ w', Calls Try.prog 31 #[.int .u64 thr, .int .u64 0] w' fun e w2 => e = .returned (.bool (lessB thr 0)) ∧ Drawn0 w' w2) := ⟨fun w' => less_any thr 0 w'⟩
  unfold exqA lowB
  clear hk hp hn hz
  generalize commI start time (dupK ks) = cm at *
  generalize addsB count [[zero], pl, nl] = ad at *
  generalize [[zero], pl, nl] = ll at *
  generalize beyB po pl.length = bp at *
  generalize beyB no nl.length = bn2 at *
  generalize upB mnh mnn mxh mxn = up at *
  generalize lessB thr 0 = lz at *
  generalize classI thr = c at *
  by_cases hcl : c = 4
  · rcases Bool.eq_false_or_eq_true up with hup | hup
    · by_cases hs : scale < -10
      · exact exp_lo11 _ _ _ _ _ _ _ _ _ _ _ _ _ _ _ _ _ _ _ _ _ _ _ _ _ _ _ _ _ _ _ _ _ _ _ _ _ _ _ _ HZ HC _ HL HA HP HN HU HCL HLS hs hup hcl
      · by_cases hs2 : 20 < scale
        · exact exp_hi11 _ _ _ _ _ _ _ _ _ _ _ _ _ _ _ _ _ _ _ _ _ _ _ _ _ _ _ _ _ _ _ _ _ _ _ _ _ _ _ _ HZ HC _ HL HA HP HN HU HCL HLS hs hs2 hup hcl
        · rcases Bool.eq_false_or_eq_true bp with hbp | hbp
          · exact exp_pos11 _ _ _ _ _ _ _ _ _ _ _ _ _ _ _ _ _ _ _ _ _ _ _ _ _ _ _ _ _ _ _ _ _ _ _ _ _ _ _ _ HZ HC _ HL HA HP HN HU HCL HLS hs hs2 hbp hup hcl
          · exact exp_neg11 _ _ _ _ _ _ _ _ _ _ _ _ _ _ _ _ _ _ _ _ _ _ _ _ _ _ _ _ _ _ _ _ _ _ _ _ _ _ _ _ HZ HC _ HL HA HP HN HU HCL HLS hs hs2 hbp hup hcl
    · by_cases hs : scale < -10
      · exact exp_lo01 _ _ _ _ _ _ _ _ _ _ _ _ _ _ _ _ _ _ _ _ _ _ _ _ _ _ _ _ _ _ _ _ _ _ _ _ _ _ _ _ HZ HC _ HL HA HP HN HU HCL HLS hs hup hcl
      · by_cases hs2 : 20 < scale
        · exact exp_hi01 _ _ _ _ _ _ _ _ _ _ _ _ _ _ _ _ _ _ _ _ _ _ _ _ _ _ _ _ _ _ _ _ _ _ _ _ _ _ _ _ HZ HC _ HL HA HP HN HU HCL HLS hs hs2 hup hcl
        · rcases Bool.eq_false_or_eq_true bp with hbp | hbp
          · exact exp_pos01 _ _ _ _ _ _ _ _ _ _ _ _ _ _ _ _ _ _ _ _ _ _ _ _ _ _ _ _ _ _ _ _ _ _ _ _ _ _ _ _ HZ HC _ HL HA HP HN HU HCL HLS hs hs2 hbp hup hcl
          · exact exp_neg01 _ _ _ _ _ _ _ _ _ _ _ _ _ _ _ _ _ _ _ _ _ _ _ _ _ _ _ _ _ _ _ _ _ _ _ _ _ _ _ _ HZ HC _ HL HA HP HN HU HCL HLS hs hs2 hbp hup hcl
  · rcases Bool.eq_false_or_eq_true up with hup | hup
    · by_cases hs : scale < -10
      · exact exp_lo10 _ _ _ _ _ _ _ _ _ _ _ _ _ _ _ _ _ _ _ _ _ _ _ _ _ _ _ _ _ _ _ _ _ _ _ _ _ _ _ _ HZ HC _ HL HA HP HN HU HCL HLS hs hup hcl
      · by_cases hs2 : 20 < scale
        · exact exp_hi10 _ _ _ _ _ _ _ _ _ _ _ _ _ _ _ _ _ _ _ _ _ _ _ _ _ _ _ _ _ _ _ _ _ _ _ _ _ _ _ _ HZ HC _ HL HA HP HN HU HCL HLS hs hs2 hup hcl
        · rcases Bool.eq_false_or_eq_true bp with hbp | hbp
          · exact exp_pos10 _ _ _ _ _ _ _ _ _ _ _ _ _ _ _ _ _ _ _ _ _ _ _ _ _ _ _ _ _ _ _ _ _ _ _ _ _ _ _ _ HZ HC _ HL HA HP HN HU HCL HLS hs hs2 hbp hup hcl
          · exact exp_neg10 _ _ _ _ _ _ _ _ _ _ _ _ _ _ _ _ _ _ _ _ _ _ _ _ _ _ _ _ _ _ _ _ _ _ _ _ _ _ _ _ HZ HC _ HL HA HP HN HU HCL HLS hs hs2 hbp hup hcl
    · by_cases hs : scale < -10
      · exact exp_lo00 _ _ _ _ _ _ _ _ _ _ _ _ _ _ _ _ _ _ _ _ _ _ _ _ _ _ _ _ _ _ _ _ _ _ _ _ _ _ _ _ HZ HC _ HL HA HP HN HU HCL HLS hs hup hcl
      · by_cases hs2 : 20 < scale
        · exact exp_hi00 _ _ _ _ _ _ _ _ _ _ _ _ _ _ _ _ _ _ _ _ _ _ _ _ _ _ _ _ _ _ _ _ _ _ _ _ _ _ _ _ HZ HC _ HL HA HP HN HU HCL HLS hs hs2 hup hcl
        · rcases Bool.eq_false_or_eq_true bp with hbp | hbp
          · exact exp_pos00 _ _ _ _ _ _ _ _ _ _ _ _ _ _ _ _ _ _ _ _ _ _ _ _ _ _ _ _ _ _ _ _ _ _ _ _ _ _ _ _ HZ HC _ HL HA HP HN HU HCL HLS hs hs2 hbp hup hcl
          · exact exp_neg00 _ _ _ _ _ _ _ _ _ _ _ _ _ _ _ _ _ _ _ _ _ _ _ _ _ _ _ _ _ _ _ _ _ _ _ _ _ _ _ _ HZ HC _ HL HA HP HN HU HCL HLS hs hs2 hbp hup hcl
end Go.Proofs.Ytdogokcoobpgdaa
