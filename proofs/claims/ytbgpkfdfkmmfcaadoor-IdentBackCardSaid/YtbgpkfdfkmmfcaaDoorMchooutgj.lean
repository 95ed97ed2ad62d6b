import Derived.Test.YtbgpkfdfkmmfcaaDoorMwsqrcqra
import Derived.Test.YtbgpkfdfkmmfcaaDoorMxwmxkske
namespace Go.Proofs.YtbgpkfdfkmmfcaaDoor
open Go.RowKit Go.Proofs.YtbgpkfdfkmmfcaaDoorW.PrintWords Go.Proofs.YtbgpkfdfkmmfcaaDoorW.PrintLast Go.Proofs.YtbgpkfdfkmmfcaaDoorW.PrintMore Hy

/-- A guarded operation that is wanted goes as one without a guard. -/
theorem strike_guard {P : Program} {ops : Array Oper} {Q : Exit → Act → World → Prop} {a : Act} {w : World} {rest : List Oper} {o : Oper} (hw : Region.wanted o (yielded ops a.tmps) = true) (h : wpList P ops Q ({ o with guard := none } :: rest) a w) : wpList P ops Q (o :: rest) a w := by
  unfold wpList at *
  rw [if_pos hw]
  rw [if_pos (by simp [Region.wanted])] at h
  exact h
theorem join_small (l : List ByteArray) (hl : l.length ≤ 300) (hs : sumZ l ≤ 20000) : (joinL (bsL l)).length ≤ 23000 := by
  have := joinL_sumZ l (fun x hx => by have := sumZ_mem hx; omega)
  omega
theorem joinL_okB (L : List ByteArray) : okB (joinL (bsL L)) := by
  intro x hx
  unfold joinL at hx
  obtain ⟨t, ht, h⟩ := List.mem_flatMap.1 hx
  unfold textL at h
  obtain ⟨u, _, rfl⟩ := List.mem_map.1 ht
  rcases List.mem_append.1 h with h | h
  · exact putL_ok _ x h
  · exact bs_ok u x h
theorem isParts_join (L : List ByteArray) : isParts (st (joinL (bsL L))) L := bs_st _ (joinL_okB L)
/-- What is known of both lists and their bytes. -/
structure Jn (l m : List ByteArray) (S T : ByteArray) : Prop where
  pl : isParts S l
  pm : isParts T m
  sz : S.size ≤ 23000
  tz : T.size ≤ 23000
theorem Jn.plm {l m : List ByteArray} {S T : ByteArray} (h : Jn l m S T) : isParts (S ++ T) (l ++ m) := by
  unfold isParts
  rw [bs_append, bsL_append, joinL_append, ← h.pl, ← h.pm]
theorem Jn.eq {l m : List ByteArray} {S T : ByteArray} (h : Jn l m S T) : S = T ↔ l = m := by
  constructor
  · rintro rfl
    exact isParts_uniq (by have := h.sz; omega) h.pl h.pm
  · rintro rfl
    exact bs_inj (h.pl.trans h.pm.symm)
theorem Jn.nil {l m : List ByteArray} {S T : ByteArray} (h : Jn l m S T) (h0 : S.size = 0) : l = [] := by
  have := h.pl
  unfold isParts at this
  cases l with
  | nil => rfl
  | cons t l =>
    rw [bsL_cons, joinL_cons] at this
    have h1 := congrArg List.length this
    rw [bs_length, h0, List.length_append] at h1
    have := textL_length (bs t)
    omega
theorem Jn.cut {l m M : List ByteArray} {S T : ByteArray} (h : Jn l m S T) (k : Nat) (hk : k < S.size) (hM : isParts (S.extract 0 k) M) : M.length < l.length := by
  have h1 := h.pl
  have hz := h.sz
  unfold isParts at h1 hM
  rw [bs_extract, List.drop_zero] at hM
  have e : bs S = joinL (bsL M) ++ (bs S).drop k := by rw [← hM, List.take_append_drop]
  have s1 := small_of (bsL M) (bs S) _ (by rw [bs_length]; omega) e
  have s2 := small_of (bsL l) (bs S) [] (by rw [bs_length]; omega) (by rw [List.append_nil]; exact h1)
  obtain ⟨L', e1, e2⟩ := joinL_front (bsL M) (bsL l) _ s1 s2 (h1.symm.trans e)
  have hl := congrArg List.length e1
  rw [List.length_append, bsL_length, bsL_length] at hl
  have : L' ≠ [] := by
    rintro rfl
    have := congrArg List.length e2
    rw [joinL_nil, List.length_drop, bs_length, List.length_nil] at this
    omega
  have := List.length_pos_iff.2 this
  omega
def RGb (w : World) (e : Ending) (w' : World) : Prop := e = .returned (.bool true) ∧ Below w.heap.size w w'
set_option maxHeartbeats 8000000 in
set_option maxRecDepth 100000 in
theorem identBack_walk (A : Option Addr) (cp : Nat) (l : List ByteArray) (A' : Option Addr) (cp' : Nat) (m : List ByteArray) (cut : Int) (w : World) (hr : Kd.C Kd.string w A l.length l) (hc : l.length ≤ cp) (_hl : l.length * 16 ≤ 140737488351232) (_hs : ∀ x ∈ l, x.size ≤ 9223372036854775807)
    (hr' : Kd.C Kd.string w A' m.length m) (hc' : m.length ≤ cp') (_hl' : m.length * 16 ≤ 140737488351232) (_hs' : ∀ x ∈ m, x.size ≤ 9223372036854775807) (hn0 : -9223372036854775808 ≤ cut) (hn1 : cut < 9223372036854775808) (hg : Laid w) :
    Calls Tryd.prog 4 #[.slice A l.length cp, .slice A' m.length cp', .int .i64 cut] w fun e w' => e = .returned (.bool true) ∧ Below w.heap.size w w' := by
  clear _hl _hs _hl' _hs'
  have HB := Aside0.mk (Below.refl w.heap.size w)
  have HR := Aside0.mk hr
  have HC := Aside0.mk hc
  have HR' := Aside0.mk hr'
  have HC' := Aside0.mk hc'
  have HG := Aside0.mk hg
  have HN0 := Aside0.mk hn0
  have HN1 := Aside0.mk hn1
  obtain ⟨r, hfew, hfew2⟩ := few_any l
  obtain ⟨r', hfew', hfew2'⟩ := few_any m
  clear hr hc hr' hc' hg hn0 hn1
  by_cases hgo : r = true ∧ r' = true ∧ 0 ≤ cut
  · obtain ⟨rfl, rfl, hcut⟩ := hgo
    obtain ⟨hl3, hl4⟩ := hfew2 rfl
    obtain ⟨hm3, hm4⟩ := hfew2' rfl
    obtain ⟨n, rfl⟩ := Int.eq_ofNat_of_zero_le hcut
    clear hfew2 hfew2' hcut
    have hjl := join_small l (by omega) hl4
    have hjm := join_small m (by omega) hm4
    obtain ⟨S, hS⟩ : ∃ S, st (joinL (bsL l)) = S := ⟨_, rfl⟩
    obtain ⟨T, hT⟩ : ∃ T, st (joinL (bsL m)) = T := ⟨_, rfl⟩
    have HJ : Aside0 (Jn l m S T) := ⟨⟨by rw [← hS]; exact isParts_join l, by rw [← hT]; exact isParts_join m, by rw [← hS, st_size]; exact hjl, by rw [← hT, st_size]; exact hjm⟩⟩
    have GI := fun w' (h : Kd.C Kd.string w' A l.length l) => ijoin_any A cp l w' h HC.out (by omega) (by omega)
    have GI' := fun w' (h : Kd.C Kd.string w' A' m.length m) => ijoin_any A' cp' m w' h HC'.out (by omega) (by omega)
    rw [hS] at GI
    rw [hT] at GI'
    have hsz := HJ.out.sz
    have htz := HJ.out.tz
    have P1 := fun w' => iparts_ok S l w' (by omega) HJ.out.pl
    have P2 := fun w' => iparts_ok (S ++ T) (l ++ m) w' (by rw [ByteArray.size_append]; omega) HJ.out.plm
    have hlm : (l ++ m).length = l.length + m.length := List.length_append
    have HLM := Aside0.mk hlm
    have hsum : S.size + T.size ≤ 9223372036854775807 := by omega
    clear hS hT hjl hjm hlm
    go_enter Tryd.func4, Tryd.ntmps4
    go_wp2_with (first
      | (go_at_call 5; refine (ident_first _ (HG.out.below (by repeat (first | (with_reducible exact HB.out) | apply below_alloc | apply pw_below_drewN | apply below_drew1)))).mono ?_; rintro e wb ⟨rfl, hb⟩; have HBn : Aside0 (Below w.heap.size w wb) := ⟨below_next (by repeat (first | (with_reducible exact HB.out) | apply below_alloc | apply pw_below_drewN | apply below_drew1)) hb⟩; clear HB hb; have HB := HBn; clear HBn))
    refine (hfew A cp _ (Kd.C_below HR.out HB.out) HC.out).mono ?_
    rintro e w2 ⟨rfl, hb2⟩
    have HB2 := Aside0.mk (below_next HB.out hb2)
    clear hb2 HB hfew
    go_wp2_with fail
    refine (hfew' A' cp' _ (Kd.C_below HR'.out HB2.out) HC'.out).mono ?_
    rintro e w3 ⟨rfl, hb3⟩
    have HB3 := Aside0.mk (below_next HB2.out hb3)
    clear hb3 HB2 hfew'
    go_wp2_with fail
    refine (GI _ (Kd.C_below HR.out HB3.out)).mono ?_
    rintro e w4 ⟨rfl, hb4⟩
    have HB4 := Aside0.mk (below_next HB3.out hb4)
    clear hb4 HB3 GI
    go_wp2_with fail
    refine (GI' _ (Kd.C_below HR'.out HB4.out)).mono ?_
    rintro e w5 ⟨rfl, hb5⟩
    have HB5 := Aside0.mk (below_next HB4.out hb5)
    clear hb5 HB4 GI'
    go_wp2_with fail
    refine (P1 _).mono ?_
    rintro e w6 ⟨A6, c6, rfl, hC6, hc6, hb6⟩
    have HB6 := Aside0.mk (below_next HB5.out hb6)
    have HC6 := Aside0.mk hC6
    have Hc6 := Aside0.mk hc6
    clear hb6 HB5 P1 hC6 hc6
    go_wp2_with fail
    refine (P2 _).mono ?_
    rintro e w7 ⟨A7, c7, rfl, hC7, hc7, hb7⟩
    obtain ⟨N, hN⟩ : ∃ N, (l ++ m).length = N := ⟨_, rfl⟩
    rw [hN] at hC7 hc7 ⊢
    have HN := Aside0.mk hN
    clear hN
    have HB7 := Aside0.mk (below_next HB6.out hb7)
    have HC7 := Aside0.mk hC7
    have Hc7 := Aside0.mk hc7
    have G1 := texts_same A6 c6 l A cp w7 (Kd.C_below HC6.out hb7) Hc6.out (Kd.C_below HR.out HB7.out) HC.out (by omega)
    clear hb7 HB6 P2 hC7 hc7 HC6 Hc6
    go_wp2_with fail
    refine G1.mono ?_
    rintro e w8 ⟨rfl, ⟨n8, rfl⟩⟩
    have hb8 := pw_below_drewN (Below.refl w7.heap.size w7) n8
    have HB8 := Aside0.mk (below_next HB7.out hb8)
    have HC8 := Aside0.mk (Kd.C_below HC7.out hb8)
    obtain ⟨w8, hw8⟩ : ∃ w8, w7.drewN n8 = w8 := ⟨_, rfl⟩
    rw [hw8] at hb8 HB8 HC8 ⊢
    have HB9 : Aside0 (Below w8.heap.size w8 (w8.alloc (.cells #[] 9))) := ⟨(Below.refl _ _).alloc (Nat.le_refl _) _⟩
    have HO9 : Aside0 (Kd.R Kd.string 9 (w8.alloc (.cells #[] 9)) w8.heap.size (fun _ => True) (.slice (some ⟨w8.heap.size, 0, none⟩) 0 0) []) := ⟨Kd.R_of_own (own_lit_of (enc := Value.string) w8 w8.heap.size 9 [] (Nat.le_refl _) (by simp)) (fun _ _ => trivial)⟩
    clear hb8 HB7 HC7 G1 hw8
    go_wp2_with (first
      | ((with_reducible refine gate_builtin (b := .append) (xs := #[.tmp 60, .tmp 61]) rfl ?_); at_builtin; refine strike_guard (by rfl) ?_; refine Kd.R_append_row Value.string ByteArray.empty (h1 := fun _ => rfl) (w0 := w8) w8.heap.size rfl (.tmp 60) (.tmp 61) 22 9 (.string ByteArray.empty) 16 rfl Tryd.underlying22 str_info rfl (by omega) (.slice (some ⟨w8.heap.size, 0, none⟩) 0 0) [] l A l.length cp (fun _ => True) rfl rfl (fun _ _ => trivial) HO9.out (Kd.C_below HR.out (below_next HB8.out HB9.out)) HB9.out HB9.out.size (by simp; omega) ?_; intro va wa ho hb hg hat; rw [List.nil_append] at ho; obtain ⟨Aa, ca, hva⟩ := Kd.R_slice ho; subst hva; have HOa := Aside0.mk ho; have HBa := Aside0.mk hb; clear ho hb hg hat)
      | ((with_reducible refine gate_builtin (b := .append) (xs := #[.tmp 62, .tmp 63]) rfl ?_); at_builtin; refine strike_guard (by rfl) ?_; refine Kd.R_append_row Value.string ByteArray.empty (h1 := fun _ => rfl) (w0 := w8) w8.heap.size rfl (.tmp 62) (.tmp 63) 22 9 (.string ByteArray.empty) 16 rfl Tryd.underlying22 str_info rfl (by omega) (.slice Aa l.length ca) l m A' m.length cp' (fun _ => True) rfl rfl (fun _ _ => trivial) HOa.out (Kd.C_below HR'.out (below_next HB8.out HBa.out)) HBa.out HBa.out.size (by omega) ?_; intro vb wb ho hb hg hat; obtain ⟨Ab, cb, hvb, hcb, hCb⟩ := Kd.R_reads ho; rw [HN.out] at hvb hcb hCb; subst hvb; have HCb := Aside0.mk hCb; have Hcb := Aside0.mk hcb; have HBb := Aside0.mk hb; clear ho hb hg hat hCb hcb))
    have GT := texts_same A7 c7 (l ++ m) Ab cb wb (by have h1 := Kd.C_below HC8.out HBb.out; rwa [HN.out]) (by rw [HN.out]; exact Hc7.out) (by rw [HN.out]; exact HCb.out) (by rw [HN.out]; exact Hcb.out) (by have := HLM.out; omega)
    rw [HN.out] at GT
    refine GT.mono ?_
    rintro e wc ⟨rfl, ⟨nc, rfl⟩⟩
    have HBc := Aside0.mk (below_next HB8.out (pw_below_drewN HBb.out nc))
    obtain ⟨wc, hwc⟩ : ∃ wc, wb.drewN nc = wc := ⟨_, rfl⟩
    rw [hwc] at HBc ⊢
    clear hwc
    clear HBb HB8 HC8 HCb Hcb HOa HBa HO9 HB9 GT
    have GE : ∀ w', Below w.heap.size w w' → Calls Tryd.prog 11 #[.slice A l.length cp, .slice A' m.length cp'] w' fun e w'' => e = .returned (.bool (S.toList == T.toList)) ∧ Drawn0 w' w'' := fun w' hb => by
      by_cases hlm : l = m
      · have hST := HJ.out.eq.2 hlm
        rw [hST, beq_self_eq_true]
        subst hlm
        exact texts_same A cp l A' cp' w' (Kd.C_below HR.out hb) HC.out (Kd.C_below HR'.out hb) HC'.out (by omega)
      · have hST : ¬ S = T := fun e => hlm (HJ.out.eq.1 e)
        rw [beq_eq_false_iff_ne.2 (str_ne hST)]
        exact texts_other A cp l A' cp' m w' (Kd.C_below HR.out hb) HC.out (Kd.C_below HR'.out hb) HC'.out (by omega) hlm
    obtain ⟨bq, hbq⟩ : ∃ b, (S.toList == T.toList) = b := ⟨_, rfl⟩
    rw [hbq] at GE
    have hbb : (bq != bq) = false := bne_self_eq_false _
    go_wp2_with fail
    refine (GE _ HBc.out).mono ?_
    rintro e wd ⟨rfl, ⟨nd, rfl⟩⟩
    have HBd := Aside0.mk (pw_below_drewN HBc.out nd)
    obtain ⟨wd, hwd⟩ : ∃ wd, wc.drewN nd = wd := ⟨_, rfl⟩
    rw [hwd] at HBd ⊢
    clear hwd
    clear GE hbq HBc
    by_cases hS0 : S.size = 0
    · have hl0 : l.length = 0 := by rw [HJ.out.nil hS0]; rfl
      have hs1 : ((S.size : Int) == 0) = true := by rw [beq_iff_eq]; omega
      have hs2 : ((l.length : Int) == 0) = true := by rw [beq_iff_eq]; omega
      clear hS0 hl0
      go_wp2_with fail
      refine (ident_first _ (HG.out.below HBd.out)).mono ?_
      rintro e we ⟨rfl, hbe⟩
      have HBe := Aside0.mk (below_next HBd.out hbe)
      clear hbe HBd
      go_wp2_with fail
      go_ret
      exact ⟨rfl, HBe.out⟩
    · have hs1 : ((S.size : Int) == 0) = false := by rw [beq_eq_false_iff_ne]; omega
      have hs2 : ¬ (S.size : Int) = 0 := by omega
      have hs3 : 0 < S.size := by omega
      have hs4 : (0 : Int) < (S.size : Int) := by omega
      have hk : n % S.size < S.size := Nat.mod_lt _ hs3
      have hkm : (n : Int) % (S.size : Int) = ((n % S.size : Nat) : Int) := (Int.natCast_emod n S.size).symm
      generalize n % S.size = k at *
      have hk2 : (k : Int) ≤ (S.size : Int) := by omega
      have hk3 : (0 : Int) ≤ (k : Int) := by omega
      obtain ⟨X, hX⟩ : ∃ X, S.extract 0 k = X := ⟨_, rfl⟩
      have hXz : X.size ≤ 4000000000 := by rw [← hX, ByteArray.size_extract]; omega
      have G : ∀ w', Calls Tryd.prog 7 #[.string X] w' fun e w'' => (∃ M, M.length < l.length ∧ IGood w' M e w'') ∨ IErr w' none e w'' := fun w' => by
        refine (iparts_any X none (fun k hk => by cases hk) w' hXz).mono ?_
        rintro e w'' (⟨M, hM, hg⟩ | ⟨_, hn⟩)
        · exact .inl ⟨M, HJ.out.cut k hk (by rw [hX]; exact hM), hg⟩
        · exact .inr hn
      have HX := Aside0.mk hX
      have HK := Aside0.mk hk
      clear hS0 hk
      go_wp2_with fail
      refine (G _).mono ?_
      clear hX hkm
      rintro e we (⟨M, hM, Ae, ce, rfl, _, _, hbe⟩ | ⟨Te, xe, Ee, rfl, _, _, hbe⟩)
      · have HBe := Aside0.mk (below_next HBd.out hbe)
        have d1 : decide ((M.length : Int) < (l.length : Int)) = true := decide_eq_true (by omega)
        have d2 : decide (M.length < l.length) = true := decide_eq_true hM
        clear hbe HBd G
        go_wp2_with fail
        refine (ident_first _ (HG.out.below HBe.out)).mono ?_
        rintro e wf ⟨rfl, hbf⟩
        have HBf := Aside0.mk (below_next HBe.out hbf)
        clear hbf HBe
        go_wp2_with fail
        go_ret
        exact ⟨rfl, HBf.out⟩
      · have HBe := Aside0.mk (below_next HBd.out hbe)
        clear hbe HBd G
        go_wp2_with fail
        refine (ident_first _ (HG.out.below HBe.out)).mono ?_
        rintro e wf ⟨rfl, hbf⟩
        have HBf := Aside0.mk (below_next HBe.out hbf)
        clear hbf HBe
        go_wp2_with fail
        go_ret
        exact ⟨rfl, HBf.out⟩
  · cases r with
    | true =>
      cases r' with
      | true =>
        have hcut : cut < 0 := by
          rcases Int.lt_or_le cut 0 with h | h
          · exact h
          · exact absurd ⟨rfl, rfl, h⟩ hgo
        clear hgo hfew2 hfew2'
        go_enter Tryd.func4, Tryd.ntmps4
        go_wp2_with (first
          | (go_at_call 5; refine (ident_first _ (HG.out.below (by repeat (first | (with_reducible exact HB.out) | apply below_alloc | apply pw_below_drewN | apply below_drew1)))).mono ?_; rintro e wb ⟨rfl, hb⟩; have HBn : Aside0 (Below w.heap.size w wb) := ⟨below_next (by repeat (first | (with_reducible exact HB.out) | apply below_alloc | apply pw_below_drewN | apply below_drew1)) hb⟩; clear HB hb; have HB := HBn; clear HBn))
        refine (hfew A cp _ (Kd.C_below HR.out HB.out) HC.out).mono ?_
        rintro e w2 ⟨rfl, hb2⟩
        have HB2 := Aside0.mk (below_next HB.out hb2)
        clear hb2 HB hfew
        have HB := HB2
        clear HB2
        go_wp2_with fail
        refine (hfew' A' cp' _ (Kd.C_below HR'.out HB.out) HC'.out).mono ?_
        rintro e w3 ⟨rfl, hb3⟩
        have HB3 := Aside0.mk (below_next HB.out hb3)
        clear hb3 HB hfew'
        have HB := HB3
        clear HB3
        go_wp2_with (first
          | (go_at_call 5; refine (ident_first _ (HG.out.below (by repeat (first | (with_reducible exact HB.out) | apply below_alloc | apply pw_below_drewN | apply below_drew1)))).mono ?_; rintro e wb ⟨rfl, hb⟩; have HBn : Aside0 (Below w.heap.size w wb) := ⟨below_next (by repeat (first | (with_reducible exact HB.out) | apply below_alloc | apply pw_below_drewN | apply below_drew1)) hb⟩; clear HB hb; have HB := HBn; clear HBn))
        go_ret
        exact ⟨rfl, (by repeat (first | (with_reducible exact HB.out) | apply below_alloc | apply pw_below_drewN | apply below_drew1))⟩
      | false =>
        clear hgo hfew2 hfew2'
        go_enter Tryd.func4, Tryd.ntmps4
        go_wp2_with (first
          | (go_at_call 5; refine (ident_first _ (HG.out.below (by repeat (first | (with_reducible exact HB.out) | apply below_alloc | apply pw_below_drewN | apply below_drew1)))).mono ?_; rintro e wb ⟨rfl, hb⟩; have HBn : Aside0 (Below w.heap.size w wb) := ⟨below_next (by repeat (first | (with_reducible exact HB.out) | apply below_alloc | apply pw_below_drewN | apply below_drew1)) hb⟩; clear HB hb; have HB := HBn; clear HBn))
        refine (hfew A cp _ (Kd.C_below HR.out HB.out) HC.out).mono ?_
        rintro e w2 ⟨rfl, hb2⟩
        have HB2 := Aside0.mk (below_next HB.out hb2)
        clear hb2 HB hfew
        have HB := HB2
        clear HB2
        go_wp2_with fail
        refine (hfew' A' cp' _ (Kd.C_below HR'.out HB.out) HC'.out).mono ?_
        rintro e w3 ⟨rfl, hb3⟩
        have HB3 := Aside0.mk (below_next HB.out hb3)
        clear hb3 HB hfew'
        have HB := HB3
        clear HB3
        go_wp2_with (first
          | (go_at_call 5; refine (ident_first _ (HG.out.below (by repeat (first | (with_reducible exact HB.out) | apply below_alloc | apply pw_below_drewN | apply below_drew1)))).mono ?_; rintro e wb ⟨rfl, hb⟩; have HBn : Aside0 (Below w.heap.size w wb) := ⟨below_next (by repeat (first | (with_reducible exact HB.out) | apply below_alloc | apply pw_below_drewN | apply below_drew1)) hb⟩; clear HB hb; have HB := HBn; clear HBn))
        go_ret
        exact ⟨rfl, (by repeat (first | (with_reducible exact HB.out) | apply below_alloc | apply pw_below_drewN | apply below_drew1))⟩
    | false =>
      clear hgo hfew2 hfew2'
      go_enter Tryd.func4, Tryd.ntmps4
      go_wp2_with (first
        | (go_at_call 5; refine (ident_first _ (HG.out.below (by repeat (first | (with_reducible exact HB.out) | apply below_alloc | apply pw_below_drewN | apply below_drew1)))).mono ?_; rintro e wb ⟨rfl, hb⟩; have HBn : Aside0 (Below w.heap.size w wb) := ⟨below_next (by repeat (first | (with_reducible exact HB.out) | apply below_alloc | apply pw_below_drewN | apply below_drew1)) hb⟩; clear HB hb; have HB := HBn; clear HBn))
      refine (hfew A cp _ (Kd.C_below HR.out HB.out) HC.out).mono ?_
      rintro e w2 ⟨rfl, hb2⟩
      have HB2 := Aside0.mk (below_next HB.out hb2)
      clear hb2 HB hfew
      have HB := HB2
      clear HB2
      go_wp2_with (first
        | (go_at_call 5; refine (ident_first _ (HG.out.below (by repeat (first | (with_reducible exact HB.out) | apply below_alloc | apply pw_below_drewN | apply below_drew1)))).mono ?_; rintro e wb ⟨rfl, hb⟩; have HBn : Aside0 (Below w.heap.size w wb) := ⟨below_next (by repeat (first | (with_reducible exact HB.out) | apply below_alloc | apply pw_below_drewN | apply below_drew1)) hb⟩; clear HB hb; have HB := HBn; clear HBn))
      go_ret
      exact ⟨rfl, (by repeat (first | (with_reducible exact HB.out) | apply below_alloc | apply pw_below_drewN | apply below_drew1))⟩
end Go.Proofs.YtbgpkfdfkmmfcaaDoor
