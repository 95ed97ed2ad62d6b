import Derived.Test.YtbgpkfdfkmmfcaaDoorMwsqrcqra
import Derived.Test.YtbgpkfdfkmmfcaaDoorMxwmxkske
import Derived.Test.YtbgpkfdfkmmfcaaDoorMtlklijdl
namespace Go.Proofs.YtbgpkfdfkmmfcaaDoor
open Go.RowKit Go.Proofs.YtbgpkfdfkmmfcaaDoorW.PrintWords Go.Proofs.YtbgpkfdfkmmfcaaDoorW.PrintLast Go.Proofs.YtbgpkfdfkmmfcaaDoorW.PrintMore Hy

theorem join_small (l : List ByteArray) (hl : l.length ≤ 300) (hs : sumZ l ≤ 20000) : (joinL (bsL l)).length ≤ 23000 := by
  have := joinL_sumZ l (fun x hx => by have := sumZ_mem hx; omega)
  omega
set_option maxHeartbeats 4000000 in
theorem identParts_walk (A : Option Addr) (cp : Nat) (l : List ByteArray) (s : ByteArray) (w : World) (hr : Kd.C Kd.string w A l.length l) (hc : l.length ≤ cp) (_hl : l.length * 16 ≤ 140737488351232) (_hs : ∀ x ∈ l, x.size ≤ 9223372036854775807) (hs : s.size ≤ 140737488351232) (hg : Laid w) :
    Calls Tryd.prog 3 #[.slice A l.length cp, .string s] w fun e w' => e = .returned (.bool true) ∧ Below w.heap.size w w' := by
  clear _hl _hs
  have HB := Aside0.mk (Below.refl w.heap.size w)
  have HR := Aside0.mk hr
  have HC := Aside0.mk hc
  have HG := Aside0.mk hg
  obtain ⟨r, hfew, hfew2⟩ := few_any l
  clear hr hc hg
  by_cases hgo : r = true ∧ s.size ≤ 4000
  · obtain ⟨rfl, hz⟩ := hgo
    obtain ⟨hl3, hl4⟩ := hfew2 rfl
    clear hfew2 hs
    have hjl := join_small l (by omega) hl4
    obtain ⟨J, hJ⟩ : ∃ J, st (joinL (bsL l)) = J := ⟨_, rfl⟩
    have GI := fun w' (h : Kd.C Kd.string w' A l.length l) => ijoin_any A cp l w' h HC.out (by omega) (by omega)
    have GR := fun w' (h : Kd.C Kd.string w' A l.length l) => rjoin_any A cp l w' h HC.out (by omega) (by omega)
    rw [hJ] at GI GR
    have hJJ : (J.toList == J.toList) = true := beq_self_eq_true _
    clear hJ hjl
    by_cases hP : ∃ L, isParts s L
    · obtain ⟨L, hL⟩ := hP
      have A1 := fun w => iparts_ok s L w (by omega) hL
      have A2 : ∀ w', Calls Tryd.prog 8 #[.string s] w' fun e w'' => ∃ A c, e = .returned (.tuple #[.slice A L.length c, .bool true]) ∧ Kd.C Kd.string w'' A L.length L ∧ L.length ≤ c ∧ Below w'.heap.size w' w'' := fun w' => by
        refine (rparts_any s w' (by omega)).mono ?_
        rintro e w'' ⟨v, M, b, rfl, hM, hb, (⟨rfl, hP⟩ | ⟨rfl, rfl, hno⟩)⟩
        · obtain ⟨A, c, rfl, hc, hC⟩ := Kd.R_reads hM
          rw [isParts_uniq (by omega) hL hP]
          exact ⟨A, c, rfl, hC, hc, hb⟩
        · exact absurd hL (hno L)
      have hLl : L.length ≤ 4000 := by
        have h1 := congrArg List.length hL
        rw [bs_length] at h1
        have := joinL_length (bsL L)
        rw [bsL_length] at this; omega
      clear hL
      go_enter Tryd.func3, Tryd.ntmps3
      go_wp2_with (first
        | (go_at_call 5; refine (ident_first _ (HG.out.below (by repeat (first | (with_reducible exact HB.out) | apply below_alloc | apply pw_below_drewN | apply below_drew1)))).mono ?_; rintro e wb ⟨rfl, hb⟩; have HBn : Aside0 (Below w.heap.size w wb) := ⟨below_next (by repeat (first | (with_reducible exact HB.out) | apply below_alloc | apply pw_below_drewN | apply below_drew1)) hb⟩; clear HB hb; have HB := HBn; clear HBn))
      refine (hfew A cp _ (Kd.C_below HR.out HB.out) HC.out).mono ?_
      rintro e w2 ⟨rfl, hb2⟩
      have HB2 := Aside0.mk (below_next HB.out hb2)
      clear hb2 HB hfew
      go_wp2_with fail
      refine (A1 _).mono ?_
      rintro e w3 ⟨A3, c3, rfl, hC3, hc3, hb3⟩
      have HB3 := Aside0.mk (below_next HB2.out hb3)
      have HC3 := Aside0.mk hC3
      have Hc3 := Aside0.mk hc3
      clear hb3 hC3 hc3 HB2 A1
      go_wp2_with fail
      refine (A2 _).mono ?_
      rintro e w4 ⟨A4, c4, rfl, hC4, hc4, hb4⟩
      have HB4 := Aside0.mk (below_next HB3.out hb4)
      have HC4 := Aside0.mk hC4
      have Hc4 := Aside0.mk hc4
      have HC34 := Aside0.mk (Kd.C_below HC3.out hb4)
      clear hb4 hC4 hc4 HB3 A2 HC3
      go_wp2_with fail
      refine (ident_first _ (HG.out.below HB4.out)).mono ?_
      rintro e w5 ⟨rfl, hb5⟩
      have HB5 := Aside0.mk (below_next HB4.out hb5)
      have HC5 := Aside0.mk (Kd.C_below HC4.out hb5)
      have HC35 := Aside0.mk (Kd.C_below HC34.out hb5)
      clear hb5 HB4 HC4 HC34
      go_wp2_with fail
      refine (GI _ (Kd.C_below HR.out HB5.out)).mono ?_
      rintro e w6 ⟨rfl, hb6⟩
      have HB6 := Aside0.mk (below_next HB5.out hb6)
      have HC6 := Aside0.mk (Kd.C_below HC5.out hb6)
      have HC36 := Aside0.mk (Kd.C_below HC35.out hb6)
      clear hb6 HB5 HC5 HC35 GI
      go_wp2_with fail
      refine (GR _ (Kd.C_below HR.out HB6.out)).mono ?_
      rintro e w7 ⟨rfl, hb7⟩
      have HB7 := Aside0.mk (below_next HB6.out hb7)
      have G := texts_same A3 c3 L A4 c4 w7 (Kd.C_below HC36.out hb7) Hc3.out (Kd.C_below HC6.out hb7) Hc4.out (by omega)
      clear hb7 HB6 HC6 HC36 GR
      go_wp2_with fail
      refine G.mono ?_
      rintro e w8 ⟨rfl, ⟨n8, rfl⟩⟩
      go_wp2_with fail
      go_ret
      exact ⟨rfl, pw_below_drewN HB7.out _⟩
    · have hno : ∀ L, ¬ isParts s L := fun L h => hP ⟨L, h⟩
      have A1 := fun w => iparts_no s w (by omega) hno
      have A2 : ∀ w', Calls Tryd.prog 8 #[.string s] w' fun e w'' => ∃ A c, e = .returned (.tuple #[.slice A 0 c, .bool false]) ∧ Below w'.heap.size w' w'' := fun w' => by
        refine (rparts_any s w' (by omega)).mono ?_
        rintro e w'' ⟨v, M, b, rfl, hM, hb, (⟨rfl, hP⟩ | ⟨rfl, rfl, _⟩)⟩
        · exact absurd hP (hno M)
        · obtain ⟨A, c, rfl⟩ := Kd.R_slice hM
          exact ⟨A, c, rfl, hb⟩
      have G : ∀ (A : Option Addr) (c : Nat) (w' : World), Calls Tryd.prog 11 #[.slice none 0 0, .slice A 0 c] w' fun e w'' => e = .returned (.bool true) ∧ Drawn0 w' w'' := fun A c w' => texts_same none 0 [] A c w' (Kd.C_nil _ _) (by simp) ⟨rfl, by simp, fun h => absurd h (Nat.lt_irrefl 0)⟩ (by simp) (by simp)
      clear hno hP
      go_enter Tryd.func3, Tryd.ntmps3
      go_wp2_with (first
        | (go_at_call 5; refine (ident_first _ (HG.out.below (by repeat (first | (with_reducible exact HB.out) | apply below_alloc | apply pw_below_drewN | apply below_drew1)))).mono ?_; rintro e wb ⟨rfl, hb⟩; have HBn : Aside0 (Below w.heap.size w wb) := ⟨below_next (by repeat (first | (with_reducible exact HB.out) | apply below_alloc | apply pw_below_drewN | apply below_drew1)) hb⟩; clear HB hb; have HB := HBn; clear HBn))
      refine (hfew A cp _ (Kd.C_below HR.out HB.out) HC.out).mono ?_
      rintro e w2 ⟨rfl, hb2⟩
      have HB2 := Aside0.mk (below_next HB.out hb2)
      clear hb2 HB hfew
      go_wp2_with fail
      refine (A1 _).mono ?_
      rintro e w3 ⟨T3, x3, E3, rfl, _, _, hb3⟩
      have HB3 := Aside0.mk (below_next HB2.out hb3)
      clear hb3 HB2 A1
      go_wp2_with fail
      refine (A2 _).mono ?_
      rintro e w4 ⟨A4, c4, rfl, hb4⟩
      have HB4 := Aside0.mk (below_next HB3.out hb4)
      clear hb4 HB3 A2
      go_wp2_with fail
      refine (ident_first _ (HG.out.below HB4.out)).mono ?_
      rintro e w5 ⟨rfl, hb5⟩
      have HB5 := Aside0.mk (below_next HB4.out hb5)
      clear hb5 HB4
      go_wp2_with fail
      refine (GI _ (Kd.C_below HR.out HB5.out)).mono ?_
      rintro e w6 ⟨rfl, hb6⟩
      have HB6 := Aside0.mk (below_next HB5.out hb6)
      clear hb6 HB5 GI
      go_wp2_with fail
      refine (GR _ (Kd.C_below HR.out HB6.out)).mono ?_
      rintro e w7 ⟨rfl, hb7⟩
      have HB7 := Aside0.mk (below_next HB6.out hb7)
      clear hb7 HB6 GR
      go_wp2_with fail
      refine (G _ _ _).mono ?_
      rintro e w8 ⟨rfl, ⟨n8, rfl⟩⟩
      go_wp2_with fail
      go_ret
      exact ⟨rfl, pw_below_drewN HB7.out _⟩
  · cases r with
    | true =>
      have hz : 4000 < s.size := by
        rcases Nat.lt_or_ge 4000 s.size with h | h
        · exact h
        · exact absurd ⟨rfl, h⟩ hgo
      clear hgo hfew2
      go_enter Tryd.func3, Tryd.ntmps3
      go_wp2_with (first
        | (go_at_call 5; refine (ident_first _ (HG.out.below (by repeat (first | (with_reducible exact HB.out) | apply below_alloc | apply pw_below_drewN | apply below_drew1)))).mono ?_; rintro e wb ⟨rfl, hb⟩; have HBn : Aside0 (Below w.heap.size w wb) := ⟨below_next (by repeat (first | (with_reducible exact HB.out) | apply below_alloc | apply pw_below_drewN | apply below_drew1)) hb⟩; clear HB hb; have HB := HBn; clear HBn))
      refine (hfew A cp _ (Kd.C_below HR.out HB.out) HC.out).mono ?_
      rintro e w2 ⟨rfl, hb2⟩
      have HB2 := Aside0.mk (below_next HB.out hb2)
      clear hb2 HB hfew
      have HB := HB2
      clear HB2
      go_wp2_with (first
        | (go_at_call 5; refine (ident_first _ (HG.out.below (by repeat (first | (with_reducible exact HB.out) | apply below_alloc | apply pw_below_drewN | apply below_drew1)))).mono ?_; rintro e wb ⟨rfl, hb⟩; have HBn : Aside0 (Below w.heap.size w wb) := ⟨below_next (by repeat (first | (with_reducible exact HB.out) | apply below_alloc | apply pw_below_drewN | apply below_drew1)) hb⟩; clear HB hb; have HB := HBn; clear HBn))
      go_ret
      exact ⟨rfl, (by repeat (first | (with_reducible exact HB.out) | apply below_alloc | apply pw_below_drewN | apply below_drew1))⟩
    | false =>
      clear hgo hfew2
      go_enter Tryd.func3, Tryd.ntmps3
      go_wp2_with (first
        | (go_at_call 5; refine (ident_first _ (HG.out.below (by repeat (first | (with_reducible exact HB.out) | apply below_alloc | apply pw_below_drewN | apply below_drew1)))).mono ?_; rintro e wb ⟨rfl, hb⟩; have HBn : Aside0 (Below w.heap.size w wb) := ⟨below_next (by repeat (first | (with_reducible exact HB.out) | apply below_alloc | apply pw_below_drewN | apply below_drew1)) hb⟩; clear HB hb; have HB := HBn; clear HBn))
      refine (hfew A cp _ (Kd.C_below HR.out HB.out) HC.out).mono ?_
      rintro e w2 ⟨rfl, hb2⟩
      have HB2 := Aside0.mk (below_next HB.out hb2)
      clear hb2 HB hfew
      have HB := HB2
      clear HB2
      go_wp2_with (first
        | (go_at_call 5; refine (ident_first _ (HG.out.below (by repeat (first | (with_reducible exact HB.out) | apply below_alloc | apply pw_below_drewN | apply below_drew1)))).mono ?_; rintro e wb ⟨rfl, hb⟩; have HBn : Aside0 (Below w.heap.size w wb) := ⟨below_next (by repeat (first | (with_reducible exact HB.out) | apply below_alloc | apply pw_below_drewN | apply below_drew1)) hb⟩; clear HB hb; have HB := HBn; clear HBn))
      go_ret
      exact ⟨rfl, (by repeat (first | (with_reducible exact HB.out) | apply below_alloc | apply pw_below_drewN | apply below_drew1))⟩
end Go.Proofs.YtbgpkfdfkmmfcaaDoor
