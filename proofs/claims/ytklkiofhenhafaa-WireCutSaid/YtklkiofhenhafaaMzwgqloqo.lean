import Derived.Test.YtklkiofhenhafaaMbplcrxxk
import Derived.Test.YtklkiofhenhafaaMcdlnwmbt
import Derived.Test.YtklkiofhenhafaaMbwsbjcua
import Derived.Test.YtklkiofhenhafaaWApart
namespace Go.Proofs.Ytklkiofhenhafaa
open Go.RowKit Go.Proofs.YtklkiofhenhafaaW.PrintWords Go.Proofs.YtklkiofhenhafaaW.PrintLast Go.Proofs.YtklkiofhenhafaaW.PrintMore Hy

/-! ### groups within groups -/
def RestAt (s : ByteArray) (m : Nat) : Prop := ∀ (W : World) (r x n t a p : Nat) (dp : Int), RW W r s a .nilIface dp → XW W x (n : Int) (t : Int) 0 ByteArray.empty ByteArray.empty → x ≠ r → a ≤ s.size → p ≤ s.size → s.size - a = m → -9223372036854775808 ≤ dp → dp < 9223372036854775808 →
  (∀ k, rst dp.toNat n t ((bs s).drop a) = some k → Calls Try.prog 23 #[.pointer (some ⟨r, 0, none⟩), .pointer (some ⟨x, 0, none⟩), .int .i64 (p : Int)] W (ROk r x s (a + k) dp (n : Int) (t : Int) (numV t ((bs s).drop a) : Int) (st (strV t ((bs s).drop a))) W)) ∧
  (rst dp.toNat n t ((bs s).drop a) = none → Calls Try.prog 23 #[.pointer (some ⟨r, 0, none⟩), .pointer (some ⟨x, 0, none⟩), .int .i64 (p : Int)] W (RBad W r x s dp))
def grpD (dp : Int) (n : Nat) (b : List Nat) : Option Nat := if dp < 1 then none else grp (dp - 1).toNat n b
def GOk (r : Nat) (s : ByteArray) (b : Nat) (dp : Int) (W : World) (e : Ending) (W' : World) : Prop := e = .returned (.tuple #[]) ∧ RW W' r s b .nilIface dp ∧ Kp (fun k => k = r) W W'
def GBad (r : Nat) (s : ByteArray) (dp : Int) (W : World) (e : Ending) (W' : World) : Prop := e = .returned (.tuple #[]) ∧ WBad W r s dp W'
/-- What stands while a group is read. -/
def GSt (w : World) (r : Nat) (s : ByteArray) (a : Nat) (d : Int) (n kq : Nat) (w' : World) : Prop := Kp (fun k => k = r) w w' ∧
  ((∃ b, RW w' r s b .nilIface d ∧ a ≤ b ∧ b ≤ s.size ∧ kq = s.size - b + 1 ∧ grp d.toNat n ((bs s).drop a) = (grp d.toNat n ((bs s).drop b)).map ((b - a) + ·)) ∨
   (∃ a' T v E, a' ≤ s.size ∧ RW w' r s a' (.iface T v) d ∧ IsE w' E (.iface T v) ∧ WE s E ∧ kq = 0 ∧ grp d.toNat n ((bs s).drop a) = none))
theorem IsE.rxkp {w w' : World} {e : Err} {v : Value} {r x' : Nat} {s : ByteArray} {a : Nat} {u : Value} {dp n t N : Int} {S raw : ByteArray} (hr : RW w r s a u dp) (hx : XW w x' n t N S raw) (hv : IsE w e v) (hk : Kp (RX r x') w w') : IsE w' e v :=
  hv.kp hk (fun k c hc e => by
    rcases e with e | e
    · subst e
      unfold RW at hr
      rw [hr] at hc
      injection hc with hc
      injection hc with _ hc
      exact absurd hc (by decide)
    · subst e
      unfold XW at hx
      rw [hx] at hc
      injection hc with hc
      injection hc with _ hc
      exact absurd hc (by decide))
theorem kp_box {w w2 w4 : World} {r : Nat} (h1 : Kp (fun k => k = r) w w2) (o : Obj) (h2 : Kp (RX r w2.heap.size) (w2.alloc o) w4) : Kp (fun k => k = r) w w4 := by
  have hk9 : Kp (fun k => k = r ∨ w.heap.size ≤ k) w w4 := ((h1.alloc o).mono (fun _ e => .inl e)).trans (h2.mono (fun k e => e.elim .inl (fun e => .inr (by rw [e]; exact h1.size))))
  exact ⟨hk9.os, hk9.tape, hk9.output, hk9.size, fun k hk hn => hk9.block k hk (fun e => e.elim hn (fun e => absurd e (Nat.not_le.2 hk)))⟩
theorem wgroup_low (w : World) (r n : Nat) (s : ByteArray) (a : Nat) (dp : Int) (h : RW w r s a .nilIface dp) (ha : a ≤ s.size) (hdp : dp < 1) :
    Calls Try.prog 27 #[.pointer (some ⟨r, 0, none⟩), .int .i64 (n : Int)] w (GBad r s dp w) := by
  have c1 := h.c1
  have c3 := h.c3
  have G := wfails_new w r s a dp (a : Int) 6 h
  clear h
  go_enter Try.func27, Try.ntmps27
  go_wp2_with fail
  refine G.mono ?_
  rintro e w2 ⟨rfl, T, xv, hr2, hu2, hk2⟩
  have HR2 := Aside0.mk hr2
  have HU2 := Aside0.mk hu2
  have HK2 := Aside0.mk hk2
  clear hr2 hu2 hk2 G
  go_wp2_with fail
  refine bodyPost_ret (results_none rfl _ _ _) rfl ?_
  exact ⟨rfl, a, T, xv, _, ha, HR2.out, HU2.out, ⟨a, 6, rfl, ha, .inr (.inr (.inr rfl))⟩, HK2.out⟩
set_option maxHeartbeats 8000000 in
set_option maxRecDepth 100000 in
theorem wgroup_go (w : World) (r n : Nat) (s : ByteArray) (a : Nat) (d : Int) (h : RW w r s a .nilIface (d + 1)) (ha : a ≤ s.size) (hs : s.size ≤ 140737488351232) (hd0 : 0 ≤ d) (hd1 : d + 1 < 9223372036854775808) (IH : ∀ m, m < s.size - a → RestAt s m) :
    Calls Try.prog 27 #[.pointer (some ⟨r, 0, none⟩), .int .i64 (n : Int)] w fun e w' => (∀ k, grp d.toNat n ((bs s).drop a) = some k → GOk r s (a + k) (d + 1) w e w') ∧ (grp d.toNat n ((bs s).drop a) = none → GBad r s (d + 1) w e w') := by
  have c3 := h.c3
  have f3 := h.fz 3
  have HI := Aside0.mk IH
  have hdp : ¬ d + 1 < 1 := by omega
  have hr2 := h.dep d
  have hk2 := kp_r (r := r) (Kp.refl (fun k => k = r) w) 3 (.int .i64 d)
  have HS := Aside0.mk (show GSt w r s a d n (s.size - a + 1) (w.setCell ⟨r, 3, none⟩ (.int .i64 d)) from ⟨hk2, .inl ⟨a, hr2, Nat.le_refl _, ha, rfl, by rw [Nat.sub_self]; cases grp d.toNat n ((bs s).drop a) <;> simp⟩⟩)
  clear h hr2 hk2 IH
  go_enter Try.func27, Try.ntmps27
  go_wp2_with fail
  generalize w.setCell ⟨r, 3, none⟩ (.int .i64 d) = W at *
  go_loopg [4] (s.size - a + 1) (fun kq _ w' => Aside0 (GSt w r s a d n kq w'))
  case atStart => exact HS
  case round =>
    clear HS
    obtain ⟨hk, ⟨b, hr, hab, hb, hkq, hg⟩ | ⟨a', T, v, E, ha', hr, hu, hE, hkq, hg⟩⟩ := hrel.out
    · have c2 := hr.c2
      have c1 := hr.c1
      have HK := Aside0.mk hk
      have HGN := Aside0.mk hg
      cases ht : tagL ((bs s).drop b) with
      | none =>
        have G := wtag_bad wr r s b d hr hb hs ht
        have HN := Aside0.mk (show grp d.toNat n ((bs s).drop a) = none by rw [hg, grp_none ht]; rfl)
        clear hr hk hg hrel ht
        go_wp2_with fail
        refine G.mono ?_
        rintro e w2 ⟨m', t', ht0, ht8, rfl, a', T, v, E, ha', hr2, hu2, hE2, hk2⟩
        have c2 := hr2.c2
        have HR2 := Aside0.mk hr2
        have HU2 := Aside0.mk hu2
        have HK2 := Aside0.mk (HK.out.trans hk2)
        clear hr2 hu2 hk2 G
        go_wp2_with fail
        have hx3 : XW (w2.alloc (.cells #[.int .i64 m', .int .i64 t', .int .u64 0, .string ⟨#[]⟩, .string ⟨#[]⟩] 30)) w2.heap.size m' t' 0 ByteArray.empty ByteArray.empty := heap_alloc_new w2 _
        have hb3 : Below w2.heap.size w2 (w2.alloc (.cells #[.int .i64 m', .int .i64 t', .int .u64 0, .string ⟨#[]⟩, .string ⟨#[]⟩] 30)) := (Below.refl _ _).alloc (Nat.le_refl _) _
        have hr3 := HR2.out.below hb3
        have hu3 := HU2.out.below hb3
        have hlt := blk_lt HR2.out
        refine (wrest_old _ r _ s a' m' t' (b : Int) d T v hr3 hx3 (by omega) (by omega) (by omega)).mono ?_
        rintro e w4 ⟨rfl, hr4, hk4⟩
        have HR4 := Aside0.mk hr4
        have HU4 := Aside0.mk (IsE.rxkp hr3 hx3 hu3 hk4)
        have HK4 := Aside0.mk (kp_box HK2.out _ hk4)
        clear hx3 hb3 hr3 hu3 hlt hr4 hk4
        go_wp2_with fail
        go_roundg 0
        case measure => omega
        case rel => exact ⟨HK4.out, .inr ⟨a', T, v, E, ha', HR4.out, HU4.out, hE2, rfl, HN.out⟩⟩
      | some q =>
        obtain ⟨m, t, k⟩ := q
        obtain ⟨p1, p2, p3, p4, p5⟩ := tagL_pos ht
        rw [List.length_drop, bs_length] at p2
        have G := wtag_ok wr r s b m t k d hr hb hs ht
        have HT := Aside0.mk ht
        clear hr hk hg hrel ht
        by_cases h4 : t = 4
        · subst h4
          by_cases hmn : m = n
          · subst hmn
            have he : grp d.toNat m ((bs s).drop a) = some (b - a + k) := by rw [HGN.out, grp_end HT.out, if_pos rfl]; rfl
            have HE := Aside0.mk he
            clear he
            go_wp2_with fail
            refine G.mono ?_
            rintro e w2 ⟨rfl, hr2, hk2⟩
            have c2 := hr2.c2
            have c3 := hr2.c3
            have f3 := hr2.fz 3
            have HR2 := Aside0.mk hr2
            have HK2 := Aside0.mk (HK.out.trans hk2)
            clear hr2 hk2 G
            go_wp2_with fail
            go_end0
            refine ⟨fun k0 e => ?_, fun e => absurd (e.symm.trans HE.out) (by simp)⟩
            have e2 : k0 = b - a + k := by have := e.symm.trans HE.out; injection this
            refine ⟨rfl, ?_, kp_r HK2.out _ _⟩
            rw [e2, show a + (b - a + k) = b + k by omega]
            exact HR2.out.dep _
          · have he : grp d.toNat n ((bs s).drop a) = none := by rw [HGN.out, grp_end HT.out, if_neg hmn]; rfl
            have HE := Aside0.mk he
            have hmi : ¬ (m : Int) = (n : Int) := by omega
            clear he
            go_wp2_with fail
            refine G.mono ?_
            rintro e w2 ⟨rfl, hr2, hk2⟩
            have c2 := hr2.c2
            have G2 := wfails_new w2 r s (b + k) d (b : Int) 3 hr2
            have HK2 := Aside0.mk (HK.out.trans hk2)
            clear hr2 hk2 G
            go_wp2_with fail
            refine G2.mono ?_
            rintro e w3 ⟨rfl, T, xv, hr3, hu3, hk3⟩
            have c3 := hr3.c3
            have f3 := hr3.fz 3
            have HR3 := Aside0.mk hr3
            have HU3 := Aside0.mk hu3
            have HK3 := Aside0.mk (HK2.out.trans hk3)
            clear hr3 hu3 hk3 G2
            go_wp2_with fail
            go_end0
            refine ⟨fun k0 e => absurd (e.symm.trans HE.out) (by simp), fun _ => ⟨rfl, b + k, T, xv, _, by omega, HR3.out.dep _, HU3.out.rset HR3.out _ _, ⟨b, 3, rfl, hb, .inr (.inl rfl)⟩, kp_r HK3.out _ _⟩⟩
        · have h4i : ¬ (t : Int) = 4 := by omega
          have hI := HI.out (s.size - (b + k)) (by omega)
          have HII := Aside0.mk hI
          clear hI
          go_wp2_with fail
          refine G.mono ?_
          rintro e w2 ⟨rfl, hr2, hk2⟩
          have c2 := hr2.c2
          have HR2 := Aside0.mk hr2
          have HK2 := Aside0.mk (HK.out.trans hk2)
          clear hr2 hk2 G
          go_wp2_with fail
          have hx3 : XW (w2.alloc (.cells #[.int .i64 (m : Int), .int .i64 (t : Int), .int .u64 0, .string ⟨#[]⟩, .string ⟨#[]⟩] 30)) w2.heap.size (m : Int) (t : Int) 0 ByteArray.empty ByteArray.empty := heap_alloc_new w2 _
          have hb3 : Below w2.heap.size w2 (w2.alloc (.cells #[.int .i64 (m : Int), .int .i64 (t : Int), .int .u64 0, .string ⟨#[]⟩, .string ⟨#[]⟩] 30)) := (Below.refl _ _).alloc (Nat.le_refl _) _
          have hr3 := HR2.out.below hb3
          have hlt := blk_lt HR2.out
          have hQ := HII.out _ r _ m t (b + k) b d hr3 hx3 (by omega) (by omega) hb rfl (by omega) (by omega)
          have hdr : ((bs s).drop b).drop k = (bs s).drop (b + k) := by rw [List.drop_drop]
          cases hrs : rst d.toNat m t ((bs s).drop (b + k)) with
          | none =>
            have he : grp d.toNat n ((bs s).drop a) = none := by rw [HGN.out, grp_fall HT.out h4 (by rw [hdr]; exact hrs)]; rfl
            have HE := Aside0.mk he
            clear he
            refine (hQ.2 hrs).mono ?_
            rintro e w4 ⟨rfl, a', T, v, E, ha', hr4, hu4, hE4, hk4⟩
            have HR4 := Aside0.mk hr4
            have HU4 := Aside0.mk hu4
            have HK4 := Aside0.mk (kp_box HK2.out _ hk4)
            clear hx3 hb3 hr3 hQ hlt hr4 hu4 hk4 hdr hrs
            go_wp2_with fail
            go_roundg 0
            case measure => omega
            case rel => exact ⟨HK4.out, .inr ⟨a', T, v, E, ha', HR4.out, HU4.out, hE4, rfl, HE.out⟩⟩
          | some k2 =>
            have hk2l := rst_le hrs
            rw [List.length_drop, bs_length] at hk2l
            have he : grp d.toNat n ((bs s).drop a) = (grp d.toNat n ((bs s).drop (b + k + k2))).map ((b + k + k2 - a) + ·) := by
              rw [HGN.out, grp_on HT.out h4 (by rw [hdr]; exact hrs), List.drop_drop, ← Nat.add_assoc, Option.map_map]
              congr 1
              funext q
              show b - a + (k + k2 + q) = b + k + k2 - a + q
              omega
            have HE := Aside0.mk he
            clear he
            refine (hQ.1 k2 hrs).mono ?_
            rintro e w4 ⟨rfl, hr4, _, hk4⟩
            have HR4 := Aside0.mk hr4
            have HK4 := Aside0.mk (kp_box HK2.out _ hk4)
            clear hx3 hb3 hr3 hQ hlt hr4 hk4 hdr hrs
            go_wp2_with fail
            go_roundg (s.size - (b + k + k2) + 1)
            case measure => omega
            case rel => exact ⟨HK4.out, .inl ⟨b + k + k2, HR4.out, by omega, by omega, rfl, HE.out⟩⟩
    · have c2 := hr.c2
      have c3 := hr.c3
      have f3 := hr.fz 3
      have HR := Aside0.mk hr
      have HU := Aside0.mk hu
      have HK := Aside0.mk hk
      have HGN := Aside0.mk hg
      clear hr hu hk hg hrel
      go_wp2_with fail
      go_end0
      refine ⟨fun k e => absurd (e.symm.trans HGN.out) (by simp), fun _ => ⟨rfl, a', T, v, E, ha', HR.out.dep _, HU.out.rset HR.out _ _, hE, kp_r HK.out _ _⟩⟩
end Go.Proofs.Ytklkiofhenhafaa
namespace Go.Proofs.Ytklkiofhenhafaa
open Go.RowKit Go.Proofs.YtklkiofhenhafaaW.PrintWords Go.Proofs.YtklkiofhenhafaaW.PrintLast Go.Proofs.YtklkiofhenhafaaW.PrintMore Hy

theorem grp_at (s : ByteArray) (m : Nat) (hs : s.size ≤ 140737488351232) (IH : ∀ q, q < m → RestAt s q) (W : World) (r n a : Nat) (dp : Int) (h : RW W r s a .nilIface dp) (ha : a ≤ s.size) (hm : s.size - a = m) (_hd0 : -9223372036854775808 ≤ dp) (hd1 : dp < 9223372036854775808) :
    (∀ k, grpD dp n ((bs s).drop a) = some k → Calls Try.prog 27 #[.pointer (some ⟨r, 0, none⟩), .int .i64 (n : Int)] W (GOk r s (a + k) dp W)) ∧
    (grpD dp n ((bs s).drop a) = none → Calls Try.prog 27 #[.pointer (some ⟨r, 0, none⟩), .int .i64 (n : Int)] W (GBad r s dp W)) := by
  unfold grpD
  by_cases hlow : dp < 1
  · rw [if_pos hlow]
    exact ⟨fun k e => (by cases e), fun _ => wgroup_low W r n s a dp h ha hlow⟩
  · rw [if_neg hlow]
    obtain ⟨d, hd⟩ : ∃ d, dp = d + 1 := ⟨dp - 1, by omega⟩
    subst hd
    rw [show d + 1 - 1 = d by omega]
    have G := wgroup_go W r n s a d h ha hs (by omega) hd1 (by rw [hm]; exact IH)
    exact ⟨fun k e => G.mono (fun _ _ hh => hh.1 k e), fun e => G.mono (fun _ _ hh => hh.2 e)⟩
theorem st_nil : st ([] : List Nat) = ByteArray.empty := rfl
theorem rest_all (s : ByteArray) (hs : s.size ≤ 140737488351232) : ∀ m, RestAt s m := by
  intro m
  induction m using Nat.strongRecOn with
  | ind m IH =>
    intro W r x n t a p dp h hx hxr ha hp hm hd0 hd1
    by_cases t0 : t = 0
    · subst t0
      rw [rst_0]
      cases hd : dec 0 ((bs s).drop a) with
      | inl c => exact ⟨fun k e => (by cases e), fun _ => wrest_bad0 W r x s a n p dp h hx hxr ha hs c hd⟩
      | inr q =>
        obtain ⟨v, k⟩ := q
        refine ⟨fun k' e => ?_, fun e => (by cases e)⟩
        simp only [Option.some.injEq] at e
        subst e
        have e1 : numV 0 ((bs s).drop a) = v := by unfold numV; rw [if_pos rfl, hd]
        have e2 : strV 0 ((bs s).drop a) = [] := rfl
        rw [e1, e2, st_nil]
        exact wrest_0 W r x s a v k n p dp h hx hxr ha hs hd
    by_cases t1 : t = 1
    · subst t1
      rw [rst_1, List.length_drop, bs_length]
      by_cases h8 : 8 ≤ s.size - a
      · rw [if_pos h8]
        refine ⟨fun k' e => ?_, fun e => (by cases e)⟩
        simp only [Option.some.injEq] at e
        subst e
        exact wrest_ok1 W r x s a n p dp h hx hxr ha hs (by omega)
      · rw [if_neg h8]
        exact ⟨fun k e => (by cases e), fun _ => wrest_bad1 W r x s a n p dp h hx hxr ha hs (by omega)⟩
    by_cases t5 : t = 5
    · subst t5
      rw [rst_5, List.length_drop, bs_length]
      by_cases h8 : 4 ≤ s.size - a
      · rw [if_pos h8]
        refine ⟨fun k' e => ?_, fun e => (by cases e)⟩
        simp only [Option.some.injEq] at e
        subst e
        exact wrest_ok5 W r x s a n p dp h hx hxr ha hs (by omega)
      · rw [if_neg h8]
        exact ⟨fun k e => (by cases e), fun _ => wrest_bad5 W r x s a n p dp h hx hxr ha hs (by omega)⟩
    by_cases t2 : t = 2
    · subst t2
      rw [rst_2]
      cases hd : dec 0 ((bs s).drop a) with
      | inl c => exact ⟨fun k e => (by cases e), fun _ => wrest_bad2 W r x s a n p dp h hx hxr ha hs c hd⟩
      | inr q =>
        obtain ⟨v, k⟩ := q
        have hk := dec_pos _ _ _ _ hd
        rw [List.length_drop, bs_length] at hk
        simp only [List.length_drop, bs_length]
        by_cases hv : v ≤ s.size - a - k
        · rw [if_pos hv]
          refine ⟨fun k' e => ?_, fun e => (by cases e)⟩
          simp only [Option.some.injEq] at e
          subst e
          have e1 : numV 2 ((bs s).drop a) = 0 := rfl
          have e2 : st (strV 2 ((bs s).drop a)) = s.extract (a + k) (a + k + v) := by
            have e3 : strV 2 ((bs s).drop a) = (((bs s).drop a).drop k).take v := by unfold strV; rw [if_pos rfl, hd]
            rw [e3, List.drop_drop]
            apply bs_inj
            rw [bs_st _ (okB_take (okB_drop (bs_ok s) _) _), bs_extract, List.drop_take]
            congr 1
            omega
          rw [e1, e2]
          exact wrest_ok2 W r x s a n p dp h hx hxr ha hs v k hd (by omega)
        · rw [if_neg hv]
          exact ⟨fun k e => (by cases e), fun _ => wrest_bad2t W r x s a n p dp h hx hxr ha hs v k hd (by omega)⟩
    by_cases t3 : t = 3
    · subst t3
      rw [rst_3]
      have hG := grp_at s m hs IH W r n a dp h ha hm hd0 hd1
      have hgd : grpD dp n ((bs s).drop a) = if dp.toNat = 0 then none else grp (dp.toNat - 1) n ((bs s).drop a) := by
        unfold grpD
        by_cases hlow : dp < 1
        · rw [if_pos hlow, if_pos (by omega)]
        · rw [if_neg hlow, if_neg (by omega), show (dp - 1).toNat = dp.toNat - 1 by omega]
      rw [hgd] at hG
      exact ⟨fun k e => wrest_ok3 W r x s a n p dp h hx hxr ha hs (a + k) (hG.1 k e), fun e => wrest_bad3 W r x s a n p dp h hx hxr ha hs (hG.2 e)⟩
    · rw [rst_other t0 t1 t2 t3 t5]
      exact ⟨fun k e => (by cases e), fun _ => wrest_badx W r x s a n dp h ha t (by omega) (by omega) (by omega) (by omega) (by omega) p hp hx⟩
theorem record_ok (s : ByteArray) (hs : s.size ≤ 140737488351232) (W : World) (r a k : Nat) (R : RecL) (dp : Int) (h : RW W r s a .nilIface dp) (ha : a ≤ s.size) (hd0 : -9223372036854775808 ≤ dp) (hd1 : dp < 9223372036854775808) (hr : recL dp.toNat ((bs s).drop a) = some (R, k)) :
    Calls Try.prog 16 #[.pointer (some ⟨r, 0, none⟩)] W fun e w' => e = .returned (recV (R.num : Int) (R.type : Int) (R.n : Int) (st R.s) (st R.raw)) ∧ RW w' r s (a + k) .nilIface dp ∧ Kp (fun k => k = r) W w' := by
  have hle := recL_le hr
  rw [List.length_drop, bs_length] at hle
  cases ht : tagL ((bs s).drop a) with
  | none => rw [rec_none ht] at hr; cases hr
  | some q =>
    obtain ⟨m, t, k1⟩ := q
    obtain ⟨p1, p2, _⟩ := tagL_pos ht
    rw [List.length_drop, bs_length] at p2
    rw [rec_rst ht, List.drop_drop] at hr
    cases hrs : rst dp.toNat m t ((bs s).drop (a + k1)) with
    | none => rw [hrs] at hr; cases hr
    | some k2 =>
      rw [hrs] at hr
      simp only [Option.map_some, Option.some.injEq, Prod.mk.injEq] at hr
      obtain ⟨rfl, rfl⟩ := hr
      have hraw : st (((bs s).drop a).take (k1 + k2)) = s.extract a (a + (k1 + k2)) := by
        apply bs_inj
        rw [bs_st _ (okB_take (okB_drop (bs_ok s) _) _), bs_extract, List.drop_take]
        congr 1
        omega
      show Calls _ _ _ _ fun e w' => e = .returned (recV (m : Int) (t : Int) (numV t ((bs s).drop (a + k1)) : Int) (st (strV t ((bs s).drop (a + k1)))) (st (((bs s).drop a).take (k1 + k2)))) ∧ _
      rw [hraw]
      exact wrecord_ok W r s a m t k1 (a + (k1 + k2)) dp (numV t ((bs s).drop (a + k1)) : Int) (st (strV t ((bs s).drop (a + k1)))) h ha (by omega) (by omega) hs ht (fun W' x hW hx hxr => by
        have := (rest_all s hs (s.size - (a + k1)) W' r x m t (a + k1) a dp hW hx hxr (by omega) ha rfl hd0 hd1).1 k2 hrs
        rw [show a + (k1 + k2) = a + k1 + k2 by omega]
        exact this)
end Go.Proofs.Ytklkiofhenhafaa
namespace Go.Proofs.Ytklkiofhenhafaa
open Go.RowKit Go.Proofs.YtklkiofhenhafaaW.PrintWords Go.Proofs.YtklkiofhenhafaaW.PrintLast Go.Proofs.YtklkiofhenhafaaW.PrintMore Hy

theorem IsE.xkp {w w' : World} {e : Err} {v : Value} {x' : Nat} {n t N : Int} {S raw : ByteArray} (hv : IsE w e v) (hx : XW w x' n t N S raw) (hk : Kp (fun k => k = x') w w') : IsE w' e v :=
  hv.kp hk (fun k c hc e => by
    subst e
    unfold XW at hx
    rw [hx] at hc
    injection hc with hc
    injection hc with _ hc
    exact absurd hc (by decide))
set_option maxHeartbeats 4000000 in
set_option maxRecDepth 100000 in
theorem wrecord_tagbad (w : World) (r : Nat) (s : ByteArray) (a : Nat) (dp : Int) (h : RW w r s a .nilIface dp) (ha : a ≤ s.size) (hs : s.size ≤ 140737488351232) (ht : tagL ((bs s).drop a) = none) :
    Calls Try.prog 16 #[.pointer (some ⟨r, 0, none⟩)] w fun e w' => e = .returned (recV 0 0 0 ByteArray.empty ByteArray.empty) ∧ WBad w r s dp w' := by
  have hq := blk_lt h
  have hr1 : RW (w.alloc (.cells #[.int .i64 0, .int .i64 0, .int .u64 0, .string ⟨#[]⟩, .string ⟨#[]⟩] 30)) r s a .nilIface dp := h.below ((Below.refl _ _).alloc (Nat.le_refl _) _)
  have hz1 : XW (w.alloc (.cells #[.int .i64 0, .int .i64 0, .int .u64 0, .string ⟨#[]⟩, .string ⟨#[]⟩] 30)) w.heap.size 0 0 0 ByteArray.empty ByteArray.empty := heap_alloc_new w _
  have hk1 : Kp (fun k => k = r) w (w.alloc (.cells #[.int .i64 0, .int .i64 0, .int .u64 0, .string ⟨#[]⟩, .string ⟨#[]⟩] 30)) := (Kp.refl _ w).alloc _
  have hsz : (w.alloc (.cells #[.int .i64 0, .int .i64 0, .int .u64 0, .string ⟨#[]⟩, .string ⟨#[]⟩] 30)).heap.size = w.heap.size + 1 := Array.size_push _
  have c1 := hr1.c1
  have HR1 := Aside0.mk hr1
  have HZ1 := Aside0.mk hz1
  have HK1 := Aside0.mk hk1
  have G := fun W (hW : RW W r s a .nilIface dp) => wtag_bad W r s a dp hW ha hs ht
  clear h ht hr1 hz1 hk1
  go_enter Try.func16, Try.ntmps16
  go_wp2_with fail
  generalize w.alloc (.cells #[.int .i64 0, .int .i64 0, .int .u64 0, .string ⟨#[]⟩, .string ⟨#[]⟩] 30) = W1 at *
  have hr2 : RW (W1.alloc (.cells #[.int .i64 0, .int .i64 0, .int .u64 0, .string ⟨#[]⟩, .string ⟨#[]⟩] 30)) r s a .nilIface dp := HR1.out.below ((Below.refl _ _).alloc (Nat.le_refl _) _)
  have hz2 : XW (W1.alloc (.cells #[.int .i64 0, .int .i64 0, .int .u64 0, .string ⟨#[]⟩, .string ⟨#[]⟩] 30)) W1.heap.size 0 0 0 ByteArray.empty ByteArray.empty := heap_alloc_new W1 _
  rw [hsz] at hz2
  have hz3 : XW (W1.alloc (.cells #[.int .i64 0, .int .i64 0, .int .u64 0, .string ⟨#[]⟩, .string ⟨#[]⟩] 30)) w.heap.size 0 0 0 ByteArray.empty ByteArray.empty := blk_below HZ1.out ((Below.refl _ _).alloc (Nat.le_refl _) _)
  have HK2 := Aside0.mk (HK1.out.alloc (.cells #[.int .i64 0, .int .i64 0, .int .u64 0, .string ⟨#[]⟩, .string ⟨#[]⟩] 30))
  have HZ2 := Aside0.mk hz2
  have HZ3 := Aside0.mk hz3
  clear hsz
  generalize hg : w.heap.size = g at *
  generalize hx : g + 1 = x at *
  refine (G _ hr2).mono ?_
  rintro e w2 ⟨m', t', _, _, rfl, a', T, v, E, ha', hr3, hu3, hE3, hk3⟩
  have hxr : x ≠ r := by omega
  have hgr : g ≠ r := by omega
  have hgx : g ≠ x := by omega
  have HX3 := Aside0.mk (HZ2.out.kp hk3 hxr)
  have HZ4 := Aside0.mk (HZ3.out.kp hk3 hgr)
  have HR3 := Aside0.mk hr3
  have HK3 := Aside0.mk (HK2.out.trans hk3)
  have q0 := HX3.out.c0
  have q1 := (HX3.out.set0 m').c1
  have f0 := HX3.out.fz 0
  have f1 := (HX3.out.set0 m').fz 1
  have hk4 : Kp (fun k => k = x) w2 ((w2.setCell ⟨x, 0, none⟩ (.int .i64 m')).setCell ⟨x, 1, none⟩ (.int .i64 t')) := (((Kp.refl (fun k => k = x) w2).set (p := ⟨x, 0, none⟩) rfl _)).set (p := ⟨x, 1, none⟩) rfl _
  have hr4 := hr3.kp hk4 (fun e => hxr e.symm)
  have q2 := hr4.c2
  have HR4 := Aside0.mk hr4
  have HX4 := Aside0.mk ((HX3.out.set0 m').set1 t')
  have HZ5 := Aside0.mk (HZ4.out.kp hk4 hgx)
  have HK4 := Aside0.mk hk4
  have hu4 := (hu3.xset HX3.out 0 (.int .i64 m')).xset (HX3.out.set0 m') 1 (.int .i64 t')
  have HU4 := Aside0.mk hu4
  clear hr2 hz2 hz3 hk3 hr3 hr4 hk4 hu3 hu4 c1 HZ2 HZ3 HX3 HZ4 HR1 HZ1 HK1 HK2 G HR3
  have hk5 : Kp (fun k => k = r ∨ w.heap.size ≤ k) w ((w2.setCell ⟨x, 0, none⟩ (.int .i64 m')).setCell ⟨x, 1, none⟩ (.int .i64 t')) := (HK3.out.mono (fun _ e => .inl e)).trans (HK4.out.mono (fun k e => .inr (by omega)))
  have HK7 := Aside0.mk hk5
  have HR7 := HR4
  have HZ7 := HZ5
  have HU7 := HU4
  have hE := hE3
  clear hk5 HR4 HZ5 HU4 HX4 HK4 HK3 q2 hE3
  have z0 := HZ7.out.c0
  have z1 := HZ7.out.c1
  have z2 := HZ7.out.c2
  have z3 := HZ7.out.c3
  have z4 := HZ7.out.c4
  have zf := fun i => HZ7.out.fz i
  have q2 := HR7.out.c2
  generalize hW7 : (w2.setCell ⟨x, 0, none⟩ (.int .i64 m')).setCell ⟨x, 1, none⟩ (.int .i64 t') = W7 at *
  trace_state
  go_wp2_with fail
  refine bodyPost_ret (results_cell_row rfl _ _ g 30 #[.int .i64 0, .int .i64 0, .int .u64 0, .string ByteArray.empty, .string ByteArray.empty] (0, 0) _ rfl (HZ7.out.all 0 0 0 ByteArray.empty ByteArray.empty) Try.underlying30 rfl (by kernel_rfl)) rfl ?_
  have hk7 := kp_all W7 g (.int .i64 0) (.int .i64 0) (.int .u64 0) (.string ByteArray.empty) (.string ByteArray.empty)
  refine ⟨rfl, a', T, v, E, ha', HR7.out.kp hk7 (fun e => hgr e.symm), HU7.out.xkp HZ7.out hk7, hE, ?_⟩
  have hk9 : Kp (fun k => k = r ∨ w.heap.size ≤ k) w _ := HK7.out.trans (hk7.mono (fun k e => .inr (by omega)))
  exact ⟨hk9.os, hk9.tape, hk9.output, hk9.size, fun k hk hn => hk9.block k hk (fun e => e.elim hn (fun e => absurd e (Nat.not_le.2 hk)))⟩
set_option maxHeartbeats 4000000 in
set_option maxRecDepth 100000 in
theorem wrecord_restbad (w : World) (r : Nat) (s : ByteArray) (a : Nat) (dp : Int) (h : RW w r s a .nilIface dp) (ha : a ≤ s.size) (hs : s.size ≤ 140737488351232) (n t k : Nat) (ht : tagL ((bs s).drop a) = some (n, t, k))
    (HQ : ∀ W x, RW W r s (a + k) .nilIface dp → XW W x n t 0 ByteArray.empty ByteArray.empty → x ≠ r → Calls Try.prog 23 #[.pointer (some ⟨r, 0, none⟩), .pointer (some ⟨x, 0, none⟩), .int .i64 (a : Int)] W (RBad W r x s dp)) :
    Calls Try.prog 16 #[.pointer (some ⟨r, 0, none⟩)] w fun e w' => e = .returned (recV 0 0 0 ByteArray.empty ByteArray.empty) ∧ WBad w r s dp w' := by
  have hq := blk_lt h
  have hr1 : RW (w.alloc (.cells #[.int .i64 0, .int .i64 0, .int .u64 0, .string ⟨#[]⟩, .string ⟨#[]⟩] 30)) r s a .nilIface dp := h.below ((Below.refl _ _).alloc (Nat.le_refl _) _)
  have hz1 : XW (w.alloc (.cells #[.int .i64 0, .int .i64 0, .int .u64 0, .string ⟨#[]⟩, .string ⟨#[]⟩] 30)) w.heap.size 0 0 0 ByteArray.empty ByteArray.empty := heap_alloc_new w _
  have hk1 : Kp (fun k => k = r) w (w.alloc (.cells #[.int .i64 0, .int .i64 0, .int .u64 0, .string ⟨#[]⟩, .string ⟨#[]⟩] 30)) := (Kp.refl _ w).alloc _
  have hsz : (w.alloc (.cells #[.int .i64 0, .int .i64 0, .int .u64 0, .string ⟨#[]⟩, .string ⟨#[]⟩] 30)).heap.size = w.heap.size + 1 := Array.size_push _
  have c1 := hr1.c1
  have HR1 := Aside0.mk hr1
  have HZ1 := Aside0.mk hz1
  have HK1 := Aside0.mk hk1
  have G := fun W (hW : RW W r s a .nilIface dp) => wtag_ok W r s a n t k dp hW ha hs ht
  have HG := Aside0.mk HQ
  clear h ht HQ hr1 hz1 hk1
  go_enter Try.func16, Try.ntmps16
  go_wp2_with fail
  generalize w.alloc (.cells #[.int .i64 0, .int .i64 0, .int .u64 0, .string ⟨#[]⟩, .string ⟨#[]⟩] 30) = W1 at *
  have hr2 : RW (W1.alloc (.cells #[.int .i64 0, .int .i64 0, .int .u64 0, .string ⟨#[]⟩, .string ⟨#[]⟩] 30)) r s a .nilIface dp := HR1.out.below ((Below.refl _ _).alloc (Nat.le_refl _) _)
  have hz2 : XW (W1.alloc (.cells #[.int .i64 0, .int .i64 0, .int .u64 0, .string ⟨#[]⟩, .string ⟨#[]⟩] 30)) W1.heap.size 0 0 0 ByteArray.empty ByteArray.empty := heap_alloc_new W1 _
  rw [hsz] at hz2
  have hz3 : XW (W1.alloc (.cells #[.int .i64 0, .int .i64 0, .int .u64 0, .string ⟨#[]⟩, .string ⟨#[]⟩] 30)) w.heap.size 0 0 0 ByteArray.empty ByteArray.empty := blk_below HZ1.out ((Below.refl _ _).alloc (Nat.le_refl _) _)
  have HK2 := Aside0.mk (HK1.out.alloc (.cells #[.int .i64 0, .int .i64 0, .int .u64 0, .string ⟨#[]⟩, .string ⟨#[]⟩] 30))
  have HZ2 := Aside0.mk hz2
  have HZ3 := Aside0.mk hz3
  clear hsz
  generalize hg : w.heap.size = g at *
  generalize hx : g + 1 = x at *
  refine (G _ hr2).mono ?_
  rintro e w2 ⟨rfl, hr3, hk3⟩
  have hxr : x ≠ r := by omega
  have hgr : g ≠ r := by omega
  have hgx : g ≠ x := by omega
  have HX3 := Aside0.mk (HZ2.out.kp hk3 hxr)
  have HZ4 := Aside0.mk (HZ3.out.kp hk3 hgr)
  have HR3 := Aside0.mk hr3
  have HK3 := Aside0.mk (HK2.out.trans hk3)
  have q0 := HX3.out.c0
  have q1 := (HX3.out.set0 (n : Int)).c1
  have f0 := HX3.out.fz 0
  have f1 := (HX3.out.set0 (n : Int)).fz 1
  have hk4 : Kp (fun k => k = x) w2 ((w2.setCell ⟨x, 0, none⟩ (.int .i64 (n : Int))).setCell ⟨x, 1, none⟩ (.int .i64 (t : Int))) := (((Kp.refl (fun k => k = x) w2).set (p := ⟨x, 0, none⟩) rfl _)).set (p := ⟨x, 1, none⟩) rfl _
  have hr4 := hr3.kp hk4 (fun e => hxr e.symm)
  have q2 := hr4.c2
  have HR4 := Aside0.mk hr4
  have HX4 := Aside0.mk ((HX3.out.set0 (n : Int)).set1 (t : Int))
  have HZ5 := Aside0.mk (HZ4.out.kp hk4 hgx)
  have HK4 := Aside0.mk hk4
  clear hr2 hz2 hz3 hk3 hr3 hr4 hk4 c1 HZ2 HZ3 HX3 HZ4 HR1 HZ1 HK1 HK2 G HR3
  go_wp2_with fail
  generalize (w2.setCell ⟨x, 0, none⟩ (.int .i64 (n : Int))).setCell ⟨x, 1, none⟩ (.int .i64 (t : Int)) = W4 at *
  refine (HG.out W4 x HR4.out HX4.out hxr).mono ?_
  rintro e W7 ⟨rfl, a', T, v, E, ha', hr5, hu5, hE, hk5⟩
  have HR7 := Aside0.mk hr5
  have HU7 := Aside0.mk hu5
  have HZ7 := Aside0.mk (HZ5.out.kp hk5 (fun e => e.elim hgr hgx))
  have hk6 : Kp (fun k => k = r ∨ w.heap.size ≤ k) w W7 := ((HK3.out.mono (fun _ e => .inl e)).trans (HK4.out.mono (fun k e => .inr (by omega)))).trans (hk5.mono (fun k e => e.elim .inl (fun e => .inr (by omega))))
  have HK7 := Aside0.mk hk6
  clear hr5 hu5 hk5 hk6 q0 q1 f0 f1 HG HR4 HX4 HZ5 HK4 HK3
  have z0 := HZ7.out.c0
  have z1 := HZ7.out.c1
  have z2 := HZ7.out.c2
  have z3 := HZ7.out.c3
  have z4 := HZ7.out.c4
  have zf := fun i => HZ7.out.fz i
  have q2 := HR7.out.c2
  go_wp2_with fail
  refine bodyPost_ret (results_cell_row rfl _ _ g 30 #[.int .i64 0, .int .i64 0, .int .u64 0, .string ByteArray.empty, .string ByteArray.empty] (0, 0) _ rfl (HZ7.out.all 0 0 0 ByteArray.empty ByteArray.empty) Try.underlying30 rfl (by kernel_rfl)) rfl ?_
  have hk7 := kp_all W7 g (.int .i64 0) (.int .i64 0) (.int .u64 0) (.string ByteArray.empty) (.string ByteArray.empty)
  refine ⟨rfl, a', T, v, E, ha', HR7.out.kp hk7 (fun e => hgr e.symm), HU7.out.xkp HZ7.out hk7, hE, ?_⟩
  have hk9 : Kp (fun k => k = r ∨ w.heap.size ≤ k) w _ := HK7.out.trans (hk7.mono (fun k e => .inr (by omega)))
  exact ⟨hk9.os, hk9.tape, hk9.output, hk9.size, fun k hk hn => hk9.block k hk (fun e => e.elim hn (fun e => absurd e (Nat.not_le.2 hk)))⟩
end Go.Proofs.Ytklkiofhenhafaa
namespace Go.Proofs.Ytklkiofhenhafaa
open Go.RowKit Go.Proofs.YtklkiofhenhafaaW.PrintWords Go.Proofs.YtklkiofhenhafaaW.PrintLast Go.Proofs.YtklkiofhenhafaaW.PrintMore Hy

theorem record_bad (s : ByteArray) (hs : s.size ≤ 140737488351232) (W : World) (r a : Nat) (dp : Int) (h : RW W r s a .nilIface dp) (ha : a ≤ s.size) (hd0 : -9223372036854775808 ≤ dp) (hd1 : dp < 9223372036854775808) (hr : recL dp.toNat ((bs s).drop a) = none) :
    Calls Try.prog 16 #[.pointer (some ⟨r, 0, none⟩)] W fun e w' => e = .returned (recV 0 0 0 ByteArray.empty ByteArray.empty) ∧ WBad W r s dp w' := by
  cases ht : tagL ((bs s).drop a) with
  | none => exact wrecord_tagbad W r s a dp h ha hs ht
  | some q =>
    obtain ⟨m, t, k1⟩ := q
    obtain ⟨p1, p2, _⟩ := tagL_pos ht
    rw [List.length_drop, bs_length] at p2
    rw [rec_rst ht, List.drop_drop] at hr
    cases hrs : rst dp.toNat m t ((bs s).drop (a + k1)) with
    | some k2 => rw [hrs] at hr; cases hr
    | none =>
      exact wrecord_restbad W r s a dp h ha hs m t k1 ht (fun W' x hW hx hxr => (rest_all s hs (s.size - (a + k1)) W' r x m t (a + k1) a dp hW hx hxr (by omega) ha rfl hd0 hd1).2 hrs)

/-! ### rows of records -/
def recC (x : RecL) : List Value := [.int .i64 (x.num : Int), .int .i64 (x.type : Int), .int .u64 (x.n : Int), .string (st x.s), .string (st x.raw)]
def Rc : Kd RecL := Kd.iso (Kd.raw 5) recC
theorem recC_one (x : RecL) : ∀ u ∈ recC x, u.oneCell' = true := by
  intro u hu
  simp only [recC, List.mem_cons, List.not_mem_nil, or_false] at hu
  rcases hu with rfl | rfl | rfl | rfl | rfl <;> rfl
theorem info_rec : (Try.prog.info? 30).map (fun i => (i.zero, i.size, i.bytes)) = some (some (.agg #[.int .i64 0, .int .i64 0, .int .u64 0, .string ⟨#[]⟩, .string ⟨#[]⟩]), 5, 56) := by kernel_rfl
theorem rc_sz : Rc.sz = 5 := rfl
theorem info_rc : (Try.prog.info? 30).map (fun i => (i.zero, i.size, i.bytes)) = some (some (.agg #[.int .i64 0, .int .i64 0, .int .u64 0, .string ⟨#[]⟩, .string ⟨#[]⟩]), Rc.sz, 56) := by rw [rc_sz]; exact info_rec
theorem zero_rc : (Value.agg #[.int .i64 0, .int .i64 0, .int .u64 0, .string ⟨#[]⟩, .string ⟨#[]⟩]).cells.size = Rc.sz := by rw [rc_sz]; kernel_rfl
theorem rc_pos : 0 < Rc.sz := by rw [rc_sz]; decide
theorem rc_M (w : World) (base : Nat) (R : RecL) (f0 f1 f2 : Int) (f3 f4 : ByteArray) (h : recC R = [.int .i64 f0, .int .i64 f1, .int .u64 f2, .string f3, .string f4]) : Rc.M w base (fun _ => False) R [.int .i64 f0, .int .i64 f1, .int .u64 f2, .string f3, .string f4] := ⟨h.symm, rfl, by have := recC_one R; rwa [h] at this⟩
def AllOk (s : ByteArray) (dp : Int) (w : World) (e : Ending) (w' : World) : Prop :=
  (∃ L A c, recsL dp.toNat (bs s) = some L ∧ e = .returned (.tuple #[.slice A L.length c, .nilIface]) ∧ Kd.C Rc w' A L.length L ∧ L.length ≤ c ∧ Below w.heap.size w w') ∨
  (recsL dp.toNat (bs s) = none ∧ ∃ T v E, e = .returned (.tuple #[.slice none 0 0, .iface T v]) ∧ IsE w' E (.iface T v) ∧ WE s E ∧ Below w.heap.size w w')
set_option maxHeartbeats 4000000 in
set_option maxRecDepth 100000 in
theorem wall_any (w : World) (s : ByteArray) (dp : Int) (hs : s.size ≤ 100000) (hd0 : -9223372036854775808 ≤ dp) (hd1 : dp < 9223372036854775808) :
    Calls Try.prog 6 #[.string s, .int .i64 dp] w (AllOk s dp w) := by
  have HB0 := Aside0.mk (Below.refl w.heap.size w)
  go_enter Try.func6, Try.ntmps6
  go_wp2_with fail
  have hr1 : RW (w.alloc (.cells #[.string s, .int .i64 0, .nilIface, .int .i64 dp] 45)) w.heap.size s 0 .nilIface dp := heap_alloc_new w _
  have HB1 := Aside0.mk (HB0.out.alloc (Nat.le_refl _) (.cells #[.string s, .int .i64 0, .nilIface, .int .i64 dp] 45))
  have HR1 := Aside0.mk hr1
  clear hr1 HB0
  generalize w.alloc (.cells #[.string s, .int .i64 0, .nilIface, .int .i64 dp] 45) = W1 at *
  generalize hrr : w.heap.size = r at HR1 ⊢
  have HRR := Aside0.mk hrr
  clear hrr
  go_loopg [6] s.size (fun kq v6 w' => ∃ (D : List RecL) (A : Option Addr) (c b : Nat), v6 = .slice A D.length c ∧ b ≤ s.size ∧ kq = s.size - b ∧ D.length ≤ b ∧ Aside0 (RW w' r s b .nilIface dp) ∧ Aside0 (Kd.R Rc 30 w' w.heap.size (fun k => k ≠ r) (.slice A D.length c) D) ∧ Aside0 (Below w.heap.size w w') ∧ Aside0 (recsL dp.toNat (bs s) = (recsL dp.toNat ((bs s).drop b)).map (D ++ ·)))
  case atStart => exact ⟨[], none, 0, 0, rfl, Nat.zero_le _, by omega, Nat.le_refl _, HR1, ⟨Kd.R_nil _ _ _ _ _⟩, HB1, ⟨by rw [List.drop_zero]; cases recsL dp.toNat (bs s) <;> simp⟩⟩
  case round =>
    clear HR1 HB1
    obtain ⟨D, A, c, b, rfl, hb, hkq, hDb, HR, HO, HB, HL⟩ := hrel
    have q1 := HR.out.c1
    have HKQ := Aside0.mk hkq
    clear hkq
    by_cases hlt : b < s.size
    · have d1 : (b : Int) < (s.size : Int) := by omega
      have hne : (bs s).drop b ≠ [] := by
        intro e
        have := congrArg List.length e
        rw [List.length_drop, bs_length] at this
        simp at this
        omega
      cases hrec : recL dp.toNat ((bs s).drop b) with
      | none =>
        have HN := Aside0.mk (show recsL dp.toNat (bs s) = none by rw [HL.out, recsL_step _ _ hne, hrec]; rfl)
        have G := record_bad s (by omega) wr r b dp HR.out hb hd0 hd1 hrec
        clear hrec hne
        go_wp2_with fail
        refine G.mono ?_
        rintro e w2 ⟨rfl, a', T, v, E, ha', hr2, hu2, hE2, hk2⟩
        unfold recV
        have HR2 := Aside0.mk hr2
        have HU2 := Aside0.mk hu2
        have HB2 := Aside0.mk (HB.out.trans (hk2.toBelow HB.out.size (fun k e => by rw [e, HRR.out]; exact Nat.le_refl r)))
        clear hr2 hu2 hk2 G HB HO HR q1
        go_wp2_with (first
          | ((with_reducible refine gate_dst (N := 8) rfl ?_); refine box_event ?hg (N := 8) ?hd (cs := #[.int .i64 0, .int .i64 0, .int .u64 0, .string ⟨#[]⟩, .string ⟨#[]⟩]) (t := 30) ?hr ?_; (case hd => rfl); (case hg => rfl); (case hr => first | (go_simp; done) | (go_simp; rfl)); intro x hx w4 hx4 hb4
             have hx4 : XW w4 x 0 0 0 ByteArray.empty ByteArray.empty := hx4
             have hlt2 := blk_lt HR2.out
             have hxr : x ≠ r := by omega
             have hbx : w.heap.size ≤ x := by have := HB2.out.size; omega
             clear hx
             have HR4 := Aside0.mk (HR2.out.below hb4)
             have hu4 := HU2.out.below hb4
             have HB4 := Aside0.mk (HB2.out.trans (hb4.mono HB2.out.size))
             have z0 := hx4.c0
             have z1 := hx4.c1
             have z2 := hx4.c2
             have z3 := hx4.c3
             have z4 := hx4.c4
             have zf := fun i => hx4.fz i
             have k5 := kp_all w4 x (.int .i64 0) (.int .i64 0) (.int .u64 0) (.string ByteArray.empty) (.string ByteArray.empty)
             have hr5 := HR4.out.kp k5 (fun e => hxr e.symm)
             have HB5 := Aside0.mk (HB4.out.trans (k5.toBelow HB4.out.size (fun k e => by rw [e]; exact hbx)))
             have HU5 := Aside0.mk (hu4.xkp hx4 k5)
             have q2 := hr5.c2
             clear hx4 k5 hr5 hb4 hu4))
        go_quiet (fail)
        go_wp2_with fail
        go_ret2
        exact .inr ⟨HN.out, T, v, E, rfl, HU5.out.below (by apply pw_below_drewN; exact Below.refl _ _), hE2, by rw [HRR.out]; have h := HB5.out; rw [HRR.out] at h; apply pw_below_drewN; exact h⟩
      | some q =>
        obtain ⟨R, k⟩ := q
        obtain ⟨hk1, hk2, _, _⟩ := recL_le hrec
        rw [List.length_drop, bs_length] at hk2
        have HN := Aside0.mk (show recsL dp.toNat (bs s) = (recsL dp.toNat ((bs s).drop (b + k))).map ((D ++ [R]) ++ ·) by
          rw [HL.out, recsL_step _ _ hne, hrec]
          show Option.map _ (match recsL dp.toNat (((bs s).drop b).drop k) with | none => none | some l => some (R :: l)) = _
          rw [List.drop_drop]
          cases recsL dp.toNat ((bs s).drop (b + k)) with
          | none => rfl
          | some l => simp)
        have G := record_ok s (by omega) wr r b k R dp HR.out hb hd0 hd1 hrec
        have hC : recC R = [.int .i64 (R.num : Int), .int .i64 (R.type : Int), .int .u64 (R.n : Int), .string (st R.s), .string (st R.raw)] := rfl
        generalize (R.num : Int) = f0 at *
        generalize (R.type : Int) = f1 at *
        generalize (R.n : Int) = f2 at *
        generalize st R.s = f3 at *
        generalize st R.raw = f4 at *
        have HC := Aside0.mk hC
        clear hrec hne hC
        go_wp2_with fail
        refine G.mono ?_
        rintro e w2 ⟨rfl, hr2, hk2⟩
        unfold recV
        have HR2 := Aside0.mk hr2
        have HB2 := Aside0.mk (HB.out.trans (hk2.toBelow HB.out.size (fun k e => by rw [e, HRR.out]; exact Nat.le_refl r)))
        have HO2 := Aside0.mk (hk2.row HO.out (fun k hk => hk))
        clear hr2 hk2 G HB HO HR q1
        go_wp2_with (first
          | ((with_reducible refine gate_dst (N := 8) rfl ?_); refine box_event ?hg (N := 8) ?hd (cs := #[.int .i64 0, .int .i64 0, .int .u64 0, .string ⟨#[]⟩, .string ⟨#[]⟩]) (t := 30) ?hr ?_; (case hd => rfl); (case hg => rfl); (case hr => first | (go_simp; done) | (go_simp; rfl)); intro x hx w4 hx4 hb4
             have hx4 : XW w4 x 0 0 0 ByteArray.empty ByteArray.empty := hx4
             have hlt2 := blk_lt HR2.out
             have hxr : x ≠ r := by omega
             have hbx : w.heap.size ≤ x := by have := HB2.out.size; omega
             have hxw : w2.heap.size ≤ x := by omega
             clear hx
             have HR4 := Aside0.mk (HR2.out.below hb4)
             have HB4 := Aside0.mk (HB2.out.trans (hb4.mono HB2.out.size))
             have ho4 := Kd.R_below (Kd.R_bound HO2.out) hb4
             have z0 := hx4.c0
             have z1 := hx4.c1
             have z2 := hx4.c2
             have z3 := hx4.c3
             have z4 := hx4.c4
             have zf := fun i => hx4.fz i
             have k5 := kp_all w4 x (.int .i64 f0) (.int .i64 f1) (.int .u64 f2) (.string f3) (.string f4)
             have hr5 := HR4.out.kp k5 (fun e => hxr e.symm)
             have hx5 := hx4.all f0 f1 f2 f3 f4
             have HB5 := Aside0.mk (HB4.out.trans (k5.toBelow HB4.out.size (fun k e => by rw [e]; exact hbx)))
             have HR5 := Aside0.mk hr5
             have HO5 := Aside0.mk (Kd.R_mono (k5.row ho4 (fun k hk e => by have := hk.2.2.1; omega)) (fun k hk => hk.1))
             have hlt5 := blk_lt hr5
             have HRL := Aside0.mk hlt5
             have q2 := hr5.c2
             have HX5 := Aside0.mk hx5
             clear hx4 k5 hr5 hx5 hb4 ho4 hlt5)
          | ((with_reducible refine gate_dst (N := 32) rfl ?_); refine wpList_load_row rfl 30 (.tmp 8) rfl x rfl 30 #[.int .i64 f0, .int .i64 f1, .int .u64 f2, .string f3, .string f4] (0, 0) _ HX5.out Try.underlying30 rfl (by kernel_rfl) ?_; generalize ((((w4.setCell ⟨x, 0, none⟩ (.int .i64 f0)).setCell ⟨x, 1, none⟩ (.int .i64 f1)).setCell ⟨x, 2, none⟩ (.int .u64 f2)).setCell ⟨x, 3, none⟩ (.string f3)).setCell ⟨x, 4, none⟩ (.string f4) = w5 at *)
          | ((with_reducible refine gate_builtin (b := .append) (xs := #[.tmp 31, .tmp 33]) rfl ?_); at_builtin; refine Kd.R_append Rc (w0 := w) w.heap.size rfl (.tmp 31) (.tmp 33) 23 30 (.agg #[.int .i64 0, .int .i64 0, .int .u64 0, .string ⟨#[]⟩, .string ⟨#[]⟩]) 56 rfl Try.underlying23 info_rc zero_rc rc_pos (by decide) (.slice A D.length c) D R [.int .i64 f0, .int .i64 f1, .int .u64 f2, .string f3, .string f4] (fun k => k ≠ r) (fun _ => False) rfl rfl ?aP (fun _ hk => hk.elim) ?aF ?aO ?aB ?aS ?aL ?_; (case aP => exact rc_M _ _ R _ _ _ _ _ HC.out); (case aB => exact HB5.out); (case aF => exact (fun k hk e => by have := HRL.out; omega)); (case aO => exact HO5.out); (case aS => exact HB5.out.size); (case aL => omega)
             intro va wa ho hb hg hat
             have HB6 := Aside0.mk hb
             have HR6 := Aside0.mk (HR5.out.grown hg HO5.out.1)
             obtain ⟨A', c', hva⟩ := Kd.R_slice ho
             subst hva
             have HO6 := Aside0.mk ho
             clear ho hb hg hat))
        have hlD : (D ++ [R]).length = D.length + 1 := by simp
        go_roundg (s.size - (b + k))
        case measure => have := HKQ.out; omega
        case rel => exact ⟨D ++ [R], A', c', b + k, by rw [hlD], by omega, rfl, by rw [hlD]; omega, HR6, HO6, HB6, HN⟩
    · have hbe : b = s.size := by omega
      have hd : (bs s).drop b = [] := List.drop_of_length_le (by rw [bs_length]; omega)
      have HN := Aside0.mk (show recsL dp.toNat (bs s) = some D by rw [HL.out, hd, recsL_nil]; simp)
      have d1 : ¬ (b : Int) < (s.size : Int) := by omega
      clear hbe hd hlt
      obtain ⟨hC, _, hc⟩ := R_Cw HO.out
      have HC := Aside0.mk hC
      have Hc := Aside0.mk hc
      clear hC hc
      go_wp2_with fail
      go_ret2
      exact .inl ⟨D, A, c, HN.out, rfl, HC.out, Hc.out, by rw [HRR.out]; have := HB.out; rwa [HRR.out] at this⟩
end Go.Proofs.Ytklkiofhenhafaa
