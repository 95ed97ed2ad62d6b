-- PRINTED BY print.sh 35421559b90ae4d0a3588c463048766b98c2df88dd9212a6774a882060cdf62d: not written by this session
import Derived.Test.YtdgbcokakmonfaaDoorPRunsPutsx0
import Derived.Test.YtdgbcokakmonfaaDoorPRunsPutsx1
namespace Go.Proofs.YtdgbcokakmonfaaDoor.PRunsPuts
open Go.RowKit Go.Proofs.YtdgbcokakmonfaaDoorW.PrintWords Go.Proofs.YtdgbcokakmonfaaDoorW.PrintLast Go.Proofs.YtdgbcokakmonfaaDoorW.PrintMore
attribute [local go_sem] max2_int min2_int max_two min_two max_three min_three max_four min_four   -- for this text's walks alone
set_option linter.unusedVariables false
set_option linter.unusedSimpArgs false

/-! ### hygref18_PutRuns: function 9 -/
mutual
def hygref18_PutRuns.l0 : Nat → List Int → ByteArray → Int → Option (ByteArray × Int)
  | 0, _, _, _ => none
  | k + 1, x0, x4, x5 => if x5 < (x0.length : Int) then (hygref18_PutRuns.l1 k x0 x4 x5 1) else (some (x4, 0))
def hygref18_PutRuns.l1 : Nat → List Int → ByteArray → Int → Int → Option (ByteArray × Int)
  | 0, _, _, _, _ => none
  | k + 1, x0, x4, x5, x6 => if (wrap64 (x5 + x6)) < (x0.length : Int) then (if 0 ≤ (wrap64 (x5 + x6)) then (if 0 ≤ x5 then (if x5 < (x0.length : Int) then (if (rd x0 (wrap64 (x5 + x6))) = (rd x0 x5) then (hygref18_PutRuns.l1 k x0 x4 x5 (wrap64 (x6 + 1))) else ((hygref2_Varint.f k (rd x0 x5)).bind fun t128 => ((hygref2_Varint.f k (IntKind.u64.wrap (wrap64 (x6 - 1)))).bind fun t129 => (if t128.size + t129.size ≤ 9223372036854775807 then (if x4.size + (t128 ++ t129).size ≤ 9223372036854775807 then (hygref18_PutRuns.l0 k x0 (x4 ++ (t128 ++ t129)) (wrap64 (x5 + x6))) else (none)) else (none))))) else (none)) else (none)) else (none)) else (if 0 ≤ x5 then (if x5 < (x0.length : Int) then ((hygref2_Varint.f k (rd x0 x5)).bind fun t131 => ((hygref2_Varint.f k (IntKind.u64.wrap (wrap64 (x6 - 1)))).bind fun t132 => (if t131.size + t132.size ≤ 9223372036854775807 then (if x4.size + (t131 ++ t132).size ≤ 9223372036854775807 then (hygref18_PutRuns.l0 k x0 (x4 ++ (t131 ++ t132)) (wrap64 (x5 + x6))) else (none)) else (none)))) else (none)) else (none))
end
def hygref18_PutRuns.f (k : Nat) (l0 : List Int) : Option (ByteArray × Int) := if (l0.length : Int) > 20000 then (some ((⟨#[]⟩ : ByteArray), 9)) else (hygref18_PutRuns.l0 k l0 (⟨#[]⟩ : ByteArray) 0)
theorem hygref18_PutRuns.mono_l : ∀ k, (∀ y0 y1 y2, LeO (hygref18_PutRuns.l0 k y0 y1 y2) (hygref18_PutRuns.l0 (k + 1) y0 y1 y2)) ∧ (∀ y0 y1 y2 y3, LeO (hygref18_PutRuns.l1 k y0 y1 y2 y3) (hygref18_PutRuns.l1 (k + 1) y0 y1 y2 y3))
  | 0 => ⟨fun _ _ _ r h => by simp [hygref18_PutRuns.l0] at h, fun _ _ _ _ r h => by simp [hygref18_PutRuns.l1] at h⟩
  | k + 1 => by
    obtain ⟨ih0, ih1⟩ := hygref18_PutRuns.mono_l k
    refine ⟨?_, ?_⟩
    · intro y0 y1 y2
      unfold hygref18_PutRuns.l0
      repeat' first
      | (with_reducible exact ih0 _ _ _)
      | (with_reducible exact ih1 _ _ _ _)
      | (with_reducible exact hygref2_Varint.mono _ _)
      | (with_reducible exact LeO.refl _)
      | (with_reducible exact LeO.none _)
      | (with_reducible refine LeO.ite ?_ ?_)
      | (with_reducible refine LeO.bind ?_ (fun _ => ?_))
      | exact ih0 _ _ _
      | exact ih1 _ _ _ _
      | exact hygref2_Varint.mono _ _
      | exact LeO.none _
      | refine LeO.ite ?_ ?_
      | refine LeO.bind ?_ (fun _ => ?_)
    · intro y0 y1 y2 y3
      unfold hygref18_PutRuns.l1
      repeat' first
      | (with_reducible exact ih0 _ _ _)
      | (with_reducible exact ih1 _ _ _ _)
      | (with_reducible exact hygref2_Varint.mono _ _)
      | (with_reducible exact LeO.refl _)
      | (with_reducible exact LeO.none _)
      | (with_reducible refine LeO.ite ?_ ?_)
      | (with_reducible refine LeO.bind ?_ (fun _ => ?_))
      | exact ih0 _ _ _
      | exact ih1 _ _ _ _
      | exact hygref2_Varint.mono _ _
      | exact LeO.none _
      | refine LeO.ite ?_ ?_
      | refine LeO.bind ?_ (fun _ => ?_)
theorem hygref18_PutRuns.mono : ∀ a0 k, LeO (hygref18_PutRuns.f k a0) (hygref18_PutRuns.f (k + 1) a0) := by
  intro a0 k
  obtain ⟨ih0, ih1⟩ := hygref18_PutRuns.mono_l k
  unfold hygref18_PutRuns.f
  repeat' first
      | (with_reducible exact ih0 _ _ _)
      | (with_reducible exact ih1 _ _ _ _)
      | (with_reducible exact hygref2_Varint.mono _ _)
      | (with_reducible exact LeO.refl _)
      | (with_reducible exact LeO.none _)
      | (with_reducible refine LeO.ite ?_ ?_)
      | (with_reducible refine LeO.bind ?_ (fun _ => ?_))
      | exact ih0 _ _ _
      | exact ih1 _ _ _ _
      | exact hygref2_Varint.mono _ _
      | exact LeO.none _
      | refine LeO.ite ?_ ?_
      | refine LeO.bind ?_ (fun _ => ?_)
set_option maxHeartbeats 8000000 in
set_option maxRecDepth 100000 in
theorem hygref18_PutRuns.calls (k : Nat) (A0 : Option Addr) (c0 : Nat) (l0 : List Int) (r1 : ByteArray) (r2 : Int) (w : World) (hr0 : Kd.C (Kd.int .u64) w A0 l0.length l0) (hc0 : l0.length ≤ c0) (h : hygref18_PutRuns.f k l0 = some (r1, r2)) :
    Calls Tryd.prog 9 #[.slice A0 l0.length c0] w fun e w' => e = .returned (.tuple #[.string r1, .int .i64 r2]) ∧ Below w.heap.size w w' := by
  have HR0 := Aside0.mk hr0
  have HC0 := Aside0.mk hc0
  clear hr0 hc0
  have HB := Aside0.mk (Below.refl w.heap.size w)
  have H : (if (l0.length : Int) > 20000 then (some ((⟨#[]⟩ : ByteArray), 9)) else (hygref18_PutRuns.l0 k l0 (⟨#[]⟩ : ByteArray) 0)) = some (r1, r2) := h
  clear h
  by_cases c2 : (l0.length : Int) > 20000
  · rw [if_pos c2] at H
    have c2b0 : decide (20000 < (l0.length : Int)) = true := decide_eq_true c2
    have c2b1 : decide (20000 < l0.length) = true := decide_eq_true (by omega)
    clear c2
    simp only [Option.some.injEq, Prod.mk.injEq] at H
    obtain ⟨rfl, rfl⟩ := H
    go_enter Tryd.func9, Tryd.ntmps9
    go_wp2
    repeat (go_quiet (fail); try go_wp2)
    go_ret2
    exact ⟨by first | rfl | (simp [errW_none, errW_some] <;> rfl) | (simp [*, errW_none, errW_some] <;> rfl), by repeat (first | (with_reducible first | exact HB.out | apply below_alloc | apply pw_below_drewN | apply below_drew1) | exact HB.out)⟩
  · rw [if_neg c2] at H
    have c2b0 : decide (20000 < (l0.length : Int)) = false := decide_eq_false c2
    have c2b1 : decide (20000 < l0.length) = false := decide_eq_false (by omega)
    clear c2
    have H' := Aside0.mk H
    clear H
    go_enter Tryd.func9, Tryd.ntmps9
    go_wp2
    repeat (go_quiet (fail); try go_wp2)
    go_loopg [4, 5] k (fun kq v4 v5 w' => ∃ (x4_1 : ByteArray) (x5_1 : Int), v4 = .string x4_1 ∧ v5 = .int .i64 x5_1 ∧ Aside0 (hygref18_PutRuns.l0 kq l0 x4_1 x5_1 = some (r1, r2)) ∧ Aside0 (kq ≤ k) ∧ Aside0 (Below w.heap.size w w'))
    case atStart => exact ⟨((⟨#[]⟩ : ByteArray)), (0), (by first | rfl | (simp; done) | (simp [*]; done)), (by first | rfl | (simp; done) | (simp [*]; done)), H', ⟨Nat.le_refl _⟩, ⟨by repeat (first | (with_reducible first | exact HB.out | apply below_alloc | apply pw_below_drewN | apply below_drew1) | exact HB.out)⟩⟩
    case round =>
      clear H'
      try clear c2
      try clear c2b0
      try clear c2b1
      try clear p2
      obtain ⟨x4_1, x5_1, rfl, rfl, HA, HK1, HB⟩ := hrel
      cases gk with
      | zero => exact absurd HA.out (by simp [hygref18_PutRuns.l0])
      | succ k1 =>
        have H := HA.out
        clear HA
        simp only [hygref18_PutRuns.l0] at H
        by_cases c3 : x5_1 < (l0.length : Int)
        · rw [if_pos c3] at H
          have c3b0 : decide (x5_1 < (l0.length : Int)) = true := decide_eq_true c3
          clear c3
          have H' := Aside0.mk H
          clear H
          go_wp2
          repeat (go_quiet (fail); try go_wp2)
          go_loopg [6] k1 (fun kq v6 w' => ∃ (x6_2 : Int), v6 = .int .i64 x6_2 ∧ Aside0 (hygref18_PutRuns.l1 kq l0 x4_1 x5_1 x6_2 = some (r1, r2)) ∧ Aside0 (kq ≤ k1) ∧ Aside0 (Below w.heap.size w w'))
          case atStart => exact ⟨(1), (by first | rfl | (simp; done) | (simp [*]; done)), H', ⟨Nat.le_refl _⟩, ⟨by repeat (first | (with_reducible first | exact HB.out | apply below_alloc | apply pw_below_drewN | apply below_drew1) | exact HB.out)⟩⟩
          case round =>
            clear H'
            try clear c2
            try clear c2b0
            try clear c2b1
            try clear p2
            try clear c3
            try clear c3b0
            try clear p2
            obtain ⟨x6_2, rfl, HA, HK2, HB⟩ := hrel
            cases gk with
            | zero => exact absurd HA.out (by simp [hygref18_PutRuns.l1])
            | succ k2 =>
              have H := HA.out
              clear HA
              simp only [hygref18_PutRuns.l1] at H
              by_cases c4 : (wrap64 (x5_1 + x6_2)) < (l0.length : Int)
              · rw [if_pos c4] at H
                have c4b0 : decide ((wrap64 (x5_1 + x6_2)) < (l0.length : Int)) = true := decide_eq_true c4
                clear c4
                obtain ⟨ji5, hji5⟩ : ∃ j_ : Int, (wrap64 (x5_1 + x6_2)) = j_ := ⟨_, rfl⟩
                replace H : (if 0 ≤ (ji5) then (if 0 ≤ x5_1 then (if x5_1 < (l0.length : Int) then (if (rd l0 (ji5)) = (rd l0 x5_1) then (hygref18_PutRuns.l1 k2 l0 x4_1 x5_1 (wrap64 (x6_2 + 1))) else ((hygref2_Varint.f k2 (rd l0 x5_1)).bind fun t128 => ((hygref2_Varint.f k2 (IntKind.u64.wrap (wrap64 (x6_2 - 1)))).bind fun t129 => (if t128.size + t129.size ≤ 9223372036854775807 then (if x4_1.size + (t128 ++ t129).size ≤ 9223372036854775807 then (hygref18_PutRuns.l0 k2 l0 (x4_1 ++ (t128 ++ t129)) ji5) else (none)) else (none))))) else (none)) else (none)) else (none)) = some (r1, r2) := by first | (rw [hji5] at H; exact H) | (simp only [hji5] at H ⊢; exact H)
                (try rw [hji5] at c4b0)
                have hji5w : (IntKind.i64.wrap (x5_1 + x6_2)) = ji5 := (i64_w _).trans hji5
                by_cases c6 : 0 ≤ (ji5)
                · rw [if_pos c6] at H
                  have c6b0 : decide (0 ≤ (ji5)) = true := decide_eq_true c6
                  clear c6
                  by_cases c7 : 0 ≤ x5_1
                  · rw [if_pos c7] at H
                    have c7b0 : decide (0 ≤ x5_1) = true := decide_eq_true c7
                    clear c7
                    by_cases c8 : x5_1 < (l0.length : Int)
                    · rw [if_pos c8] at H
                      have c8b0 : decide (x5_1 < (l0.length : Int)) = true := decide_eq_true c8
                      clear c8
                      by_cases c9 : (rd l0 (ji5)) = (rd l0 x5_1)
                      · rw [if_pos c9] at H
                        have c9b0 : ((rd l0 (ji5)) == (rd l0 x5_1)) = true := beq_iff_eq.mpr c9
                        have c9b1 : ((rd l0 (ji5)) != (rd l0 x5_1)) = false := bne_eq_false_iff_eq.mpr c9
                        clear c9
                        have H' := Aside0.mk H
                        clear H
                        have p125 : 0 ≤ ((ji5) : Int) := of_decide_eq_true (by first | (with_reducible assumption) | assumption)
                        have q125 : (ji5) < (l0.length : Int) := of_decide_eq_true (by first | (with_reducible assumption) | assumption)
                        obtain ⟨ad125, e125, hx125_0⟩ := Kd.at_int HR0.out (ji5) p125 q125
                        cases e125
                        replace hx125_0 := (HB.out.cell (World.block_lt_of_cell? w _ hx125_0)).trans hx125_0
                        replace p125 := eq_true p125
                        replace q125 := eq_true q125
                        have p126 : 0 ≤ (x5_1 : Int) := of_decide_eq_true (by first | (with_reducible assumption) | assumption)
                        have q126 : x5_1 < (l0.length : Int) := of_decide_eq_true (by first | (with_reducible assumption) | assumption)
                        obtain ⟨ad126, e126, hx126_0⟩ := Kd.at_int HR0.out x5_1 p126 q126
                        obtain rfl : ad125 = ad126 := (by injection e126)
                        replace hx126_0 := (HB.out.cell (World.block_lt_of_cell? w _ hx126_0)).trans hx126_0
                        replace p126 := eq_true p126
                        replace q126 := eq_true q126
                        go_wp2
                        repeat (go_quiet (fail); try go_wp2)
                        go_roundg k2
                        case measure => have := HK1.out; have := HK2.out; omega
                        case rel => exact ⟨(wrap64 (x6_2 + 1)), (by first | rfl | (simp; done) | (simp [*]; done)), H', ⟨by have := HK1.out; have := HK2.out; omega⟩, ⟨by repeat (first | (with_reducible first | exact HB.out | apply below_alloc | apply pw_below_drewN | apply below_drew1) | exact HB.out)⟩⟩
                      · rw [if_neg c9] at H
                        have c9b0 : ((rd l0 (ji5)) == (rd l0 x5_1)) = false := beq_eq_false_iff_ne.mpr c9
                        have c9b1 : ((rd l0 (ji5)) != (rd l0 x5_1)) = true := bne_iff_ne.mpr c9
                        replace H := Option.bind_eq_some_iff.mp H
                        obtain ⟨t128, A100, H⟩ := H
                        replace H : ((hygref2_Varint.f k2 (IntKind.u64.wrap (wrap64 (x6_2 - 1)))).bind fun t129 => (if t128.size + t129.size ≤ 9223372036854775807 then (if x4_1.size + (t128 ++ t129).size ≤ 9223372036854775807 then (hygref18_PutRuns.l0 k2 l0 (x4_1 ++ (t128 ++ t129)) ji5) else (none)) else (none))) = some (r1, r2) := H
                        have A10 := Aside0.mk A100
                        clear A100
                        replace H := Option.bind_eq_some_iff.mp H
                        obtain ⟨t129, A110, H⟩ := H
                        replace H : (if t128.size + t129.size ≤ 9223372036854775807 then (if x4_1.size + (t128 ++ t129).size ≤ 9223372036854775807 then (hygref18_PutRuns.l0 k2 l0 (x4_1 ++ (t128 ++ t129)) ji5) else (none)) else (none)) = some (r1, r2) := H
                        have A11 := Aside0.mk A110
                        clear A110
                        by_cases c12 : t128.size + t129.size ≤ 9223372036854775807
                        · rw [if_pos c12] at H
                          have c12b0 := eq_true c12
                          have c12b1 : decide (t128.size + t129.size ≤ 9223372036854775807) = true := decide_eq_true c12
                          try have c12b2 : (9223372036854775807 < t128.size + t129.size) = False := eq_false (Nat.not_lt.2 c12)
                          by_cases c13 : x4_1.size + (t128 ++ t129).size ≤ 9223372036854775807
                          · rw [if_pos c13] at H
                            have c13b0 := eq_true c13
                            have c13b1 : decide (x4_1.size + (t128 ++ t129).size ≤ 9223372036854775807) = true := decide_eq_true c13
                            try have c13b2 : (9223372036854775807 < x4_1.size + (t128 ++ t129).size) = False := eq_false (Nat.not_lt.2 c13)
                            have H' := Aside0.mk H
                            clear H
                            have p125 : 0 ≤ ((ji5) : Int) := of_decide_eq_true (by first | (with_reducible assumption) | assumption)
                            have q125 : (ji5) < (l0.length : Int) := of_decide_eq_true (by first | (with_reducible assumption) | assumption)
                            obtain ⟨ad125, e125, hx125_0⟩ := Kd.at_int HR0.out (ji5) p125 q125
                            cases e125
                            replace hx125_0 := (HB.out.cell (World.block_lt_of_cell? w _ hx125_0)).trans hx125_0
                            replace p125 := eq_true p125
                            replace q125 := eq_true q125
                            have p126 : 0 ≤ (x5_1 : Int) := of_decide_eq_true (by first | (with_reducible assumption) | assumption)
                            have q126 : x5_1 < (l0.length : Int) := of_decide_eq_true (by first | (with_reducible assumption) | assumption)
                            obtain ⟨ad126, e126, hx126_0⟩ := Kd.at_int HR0.out x5_1 p126 q126
                            obtain rfl : ad125 = ad126 := (by injection e126)
                            replace hx126_0 := (HB.out.cell (World.block_lt_of_cell? w _ hx126_0)).trans hx126_0
                            replace p126 := eq_true p126
                            replace q126 := eq_true q126
                            have p127 : 0 ≤ (x5_1 : Int) := of_decide_eq_true (by first | (with_reducible assumption) | assumption)
                            have q127 : x5_1 < (l0.length : Int) := of_decide_eq_true (by first | (with_reducible assumption) | assumption)
                            obtain ⟨ad127, e127, hx127_0⟩ := Kd.at_int HR0.out x5_1 p127 q127
                            obtain rfl : ad125 = ad127 := (by injection e127)
                            replace hx127_0 := (HB.out.cell (World.block_lt_of_cell? w _ hx127_0)).trans hx127_0
                            replace p127 := eq_true p127
                            replace q127 := eq_true q127
                            go_wp2_with (first | (go_at_call 17; (with_reducible refine (hygref2_Varint.calls k2 (rd l0 x5_1) t128 _ A10.out).mono ?_); rintro e w14 ⟨rfl, hb⟩; have n0_ := Aside0.mk (below_step (by repeat (first | (with_reducible first | exact HB.out | apply below_alloc | apply pw_below_drewN | apply below_drew1) | exact HB.out)) hb); clear HB; have HB := n0_; clear n0_; (try clear hb); (try clear hb2); (try clear hk); (try clear hi)) | (go_at_call 17; (with_reducible refine (hygref2_Varint.calls k2 (IntKind.u64.wrap (wrap64 (x6_2 - 1))) t129 _ A11.out).mono ?_); rintro e w15 ⟨rfl, hb⟩; have n0_ := Aside0.mk (below_step (by repeat (first | (with_reducible first | exact HB.out | apply below_alloc | apply pw_below_drewN | apply below_drew1) | exact HB.out)) hb); clear HB; have HB := n0_; clear n0_; (try clear hb); (try clear hb2); (try clear hk); (try clear hi)))
                            repeat (go_quiet (first | (go_at_call 17; (with_reducible refine (hygref2_Varint.calls k2 (rd l0 x5_1) t128 _ A10.out).mono ?_); rintro e w14 ⟨rfl, hb⟩; have n0_ := Aside0.mk (below_step (by repeat (first | (with_reducible first | exact HB.out | apply below_alloc | apply pw_below_drewN | apply below_drew1) | exact HB.out)) hb); clear HB; have HB := n0_; clear n0_; (try clear hb); (try clear hb2); (try clear hk); (try clear hi)) | (go_at_call 17; (with_reducible refine (hygref2_Varint.calls k2 (IntKind.u64.wrap (wrap64 (x6_2 - 1))) t129 _ A11.out).mono ?_); rintro e w15 ⟨rfl, hb⟩; have n0_ := Aside0.mk (below_step (by repeat (first | (with_reducible first | exact HB.out | apply below_alloc | apply pw_below_drewN | apply below_drew1) | exact HB.out)) hb); clear HB; have HB := n0_; clear n0_; (try clear hb); (try clear hb2); (try clear hk); (try clear hi))); try go_wp2_with (first | (go_at_call 17; (with_reducible refine (hygref2_Varint.calls k2 (rd l0 x5_1) t128 _ A10.out).mono ?_); rintro e w14 ⟨rfl, hb⟩; have n0_ := Aside0.mk (below_step (by repeat (first | (with_reducible first | exact HB.out | apply below_alloc | apply pw_below_drewN | apply below_drew1) | exact HB.out)) hb); clear HB; have HB := n0_; clear n0_; (try clear hb); (try clear hb2); (try clear hk); (try clear hi)) | (go_at_call 17; (with_reducible refine (hygref2_Varint.calls k2 (IntKind.u64.wrap (wrap64 (x6_2 - 1))) t129 _ A11.out).mono ?_); rintro e w15 ⟨rfl, hb⟩; have n0_ := Aside0.mk (below_step (by repeat (first | (with_reducible first | exact HB.out | apply below_alloc | apply pw_below_drewN | apply below_drew1) | exact HB.out)) hb); clear HB; have HB := n0_; clear n0_; (try clear hb); (try clear hb2); (try clear hk); (try clear hi))))
                            go_roundg k2
                            case measure => have := HK1.out; have := HK2.out; omega
                            case rel => exact ⟨(x4_1 ++ (t128 ++ t129)), (ji5), (by first | rfl | (simp; done) | (simp [*]; done)), (by first | rfl | (simp; done) | (simp only [← hji5] <;> (first | rfl | simp)) | (simp [*]; done)), H', ⟨by have := HK1.out; have := HK2.out; omega⟩, ⟨by repeat (first | (with_reducible first | exact HB.out | apply below_alloc | apply pw_below_drewN | apply below_drew1) | exact HB.out)⟩⟩
                          · rw [if_neg c13] at H
                            exact absurd H (by simp)
                        · rw [if_neg c12] at H
                          exact absurd H (by simp)
                    · rw [if_neg c8] at H
                      exact absurd H (by simp)
                  · rw [if_neg c7] at H
                    exact absurd H (by simp)
                · rw [if_neg c6] at H
                  exact absurd H (by simp)
              · rw [if_neg c4] at H
                have c4b0 : decide ((wrap64 (x5_1 + x6_2)) < (l0.length : Int)) = false := decide_eq_false c4
                clear c4
                by_cases c16 : 0 ≤ x5_1
                · rw [if_pos c16] at H
                  have c16b0 : decide (0 ≤ x5_1) = true := decide_eq_true c16
                  clear c16
                  by_cases c17 : x5_1 < (l0.length : Int)
                  · rw [if_pos c17] at H
                    have c17b0 : decide (x5_1 < (l0.length : Int)) = true := decide_eq_true c17
                    clear c17
                    replace H := Option.bind_eq_some_iff.mp H
                    obtain ⟨t131, A180, H⟩ := H
                    replace H : ((hygref2_Varint.f k2 (IntKind.u64.wrap (wrap64 (x6_2 - 1)))).bind fun t132 => (if t131.size + t132.size ≤ 9223372036854775807 then (if x4_1.size + (t131 ++ t132).size ≤ 9223372036854775807 then (hygref18_PutRuns.l0 k2 l0 (x4_1 ++ (t131 ++ t132)) (wrap64 (x5_1 + x6_2))) else (none)) else (none))) = some (r1, r2) := H
                    have A18 := Aside0.mk A180
                    clear A180
                    replace H := Option.bind_eq_some_iff.mp H
                    obtain ⟨t132, A190, H⟩ := H
                    replace H : (if t131.size + t132.size ≤ 9223372036854775807 then (if x4_1.size + (t131 ++ t132).size ≤ 9223372036854775807 then (hygref18_PutRuns.l0 k2 l0 (x4_1 ++ (t131 ++ t132)) (wrap64 (x5_1 + x6_2))) else (none)) else (none)) = some (r1, r2) := H
                    have A19 := Aside0.mk A190
                    clear A190
                    by_cases c20 : t131.size + t132.size ≤ 9223372036854775807
                    · rw [if_pos c20] at H
                      have c20b0 := eq_true c20
                      have c20b1 : decide (t131.size + t132.size ≤ 9223372036854775807) = true := decide_eq_true c20
                      try have c20b2 : (9223372036854775807 < t131.size + t132.size) = False := eq_false (Nat.not_lt.2 c20)
                      by_cases c21 : x4_1.size + (t131 ++ t132).size ≤ 9223372036854775807
                      · rw [if_pos c21] at H
                        have c21b0 := eq_true c21
                        have c21b1 : decide (x4_1.size + (t131 ++ t132).size ≤ 9223372036854775807) = true := decide_eq_true c21
                        try have c21b2 : (9223372036854775807 < x4_1.size + (t131 ++ t132).size) = False := eq_false (Nat.not_lt.2 c21)
                        have H' := Aside0.mk H
                        clear H
                        have p130 : 0 ≤ (x5_1 : Int) := of_decide_eq_true (by first | (with_reducible assumption) | assumption)
                        have q130 : x5_1 < (l0.length : Int) := of_decide_eq_true (by first | (with_reducible assumption) | assumption)
                        obtain ⟨ad130, e130, hx130_0⟩ := Kd.at_int HR0.out x5_1 p130 q130
                        cases e130
                        replace hx130_0 := (HB.out.cell (World.block_lt_of_cell? w _ hx130_0)).trans hx130_0
                        replace p130 := eq_true p130
                        replace q130 := eq_true q130
                        go_wp2_with (first | (go_at_call 17; (with_reducible refine (hygref2_Varint.calls k2 (rd l0 x5_1) t131 _ A18.out).mono ?_); rintro e w22 ⟨rfl, hb⟩; have n0_ := Aside0.mk (below_step (by repeat (first | (with_reducible first | exact HB.out | apply below_alloc | apply pw_below_drewN | apply below_drew1) | exact HB.out)) hb); clear HB; have HB := n0_; clear n0_; (try clear hb); (try clear hb2); (try clear hk); (try clear hi)) | (go_at_call 17; (with_reducible refine (hygref2_Varint.calls k2 (IntKind.u64.wrap (wrap64 (x6_2 - 1))) t132 _ A19.out).mono ?_); rintro e w23 ⟨rfl, hb⟩; have n0_ := Aside0.mk (below_step (by repeat (first | (with_reducible first | exact HB.out | apply below_alloc | apply pw_below_drewN | apply below_drew1) | exact HB.out)) hb); clear HB; have HB := n0_; clear n0_; (try clear hb); (try clear hb2); (try clear hk); (try clear hi)))
                        repeat (go_quiet (first | (go_at_call 17; (with_reducible refine (hygref2_Varint.calls k2 (rd l0 x5_1) t131 _ A18.out).mono ?_); rintro e w22 ⟨rfl, hb⟩; have n0_ := Aside0.mk (below_step (by repeat (first | (with_reducible first | exact HB.out | apply below_alloc | apply pw_below_drewN | apply below_drew1) | exact HB.out)) hb); clear HB; have HB := n0_; clear n0_; (try clear hb); (try clear hb2); (try clear hk); (try clear hi)) | (go_at_call 17; (with_reducible refine (hygref2_Varint.calls k2 (IntKind.u64.wrap (wrap64 (x6_2 - 1))) t132 _ A19.out).mono ?_); rintro e w23 ⟨rfl, hb⟩; have n0_ := Aside0.mk (below_step (by repeat (first | (with_reducible first | exact HB.out | apply below_alloc | apply pw_below_drewN | apply below_drew1) | exact HB.out)) hb); clear HB; have HB := n0_; clear n0_; (try clear hb); (try clear hb2); (try clear hk); (try clear hi))); try go_wp2_with (first | (go_at_call 17; (with_reducible refine (hygref2_Varint.calls k2 (rd l0 x5_1) t131 _ A18.out).mono ?_); rintro e w22 ⟨rfl, hb⟩; have n0_ := Aside0.mk (below_step (by repeat (first | (with_reducible first | exact HB.out | apply below_alloc | apply pw_below_drewN | apply below_drew1) | exact HB.out)) hb); clear HB; have HB := n0_; clear n0_; (try clear hb); (try clear hb2); (try clear hk); (try clear hi)) | (go_at_call 17; (with_reducible refine (hygref2_Varint.calls k2 (IntKind.u64.wrap (wrap64 (x6_2 - 1))) t132 _ A19.out).mono ?_); rintro e w23 ⟨rfl, hb⟩; have n0_ := Aside0.mk (below_step (by repeat (first | (with_reducible first | exact HB.out | apply below_alloc | apply pw_below_drewN | apply below_drew1) | exact HB.out)) hb); clear HB; have HB := n0_; clear n0_; (try clear hb); (try clear hb2); (try clear hk); (try clear hi))))
                        go_roundg k2
                        case measure => have := HK1.out; have := HK2.out; omega
                        case rel => exact ⟨(x4_1 ++ (t131 ++ t132)), (wrap64 (x5_1 + x6_2)), (by first | rfl | (simp; done) | (simp [*]; done)), (by first | rfl | (simp; done) | (simp [*]; done)), H', ⟨by have := HK1.out; have := HK2.out; omega⟩, ⟨by repeat (first | (with_reducible first | exact HB.out | apply below_alloc | apply pw_below_drewN | apply below_drew1) | exact HB.out)⟩⟩
                      · rw [if_neg c21] at H
                        exact absurd H (by simp)
                    · rw [if_neg c20] at H
                      exact absurd H (by simp)
                  · rw [if_neg c17] at H
                    exact absurd H (by simp)
                · rw [if_neg c16] at H
                  exact absurd H (by simp)
        · rw [if_neg c3] at H
          have c3b0 : decide (x5_1 < (l0.length : Int)) = false := decide_eq_false c3
          clear c3
          simp only [Option.some.injEq, Prod.mk.injEq] at H
          obtain ⟨rfl, rfl⟩ := H
          go_wp2
          repeat (go_quiet (fail); try go_wp2)
          go_ret2
          exact ⟨by first | rfl | (simp [errW_none, errW_some] <;> rfl) | (simp [*, errW_none, errW_some] <;> rfl), by repeat (first | (with_reducible first | exact HB.out | apply below_alloc | apply pw_below_drewN | apply below_drew1) | exact HB.out)⟩

-- NOT PRINTED: function 23 (reflectlite_ValueOf)

-- NOT PRINTED: function 24 (reflectlite_Value_Type)

-- NOT PRINTED: function 25 (reflectlite_Value_IsNil)

-- NOT PRINTED: function 31 (reflectlite_TypeOf)

-- NOT PRINTED: function 32 (reflectlite_Value_Elem)

-- NOT PRINTED: function 33 (reflectlite_Value_Set)

-- NOT PRINTED: function 26 (errors_as)

-- NOT PRINTED: function 18 (errors_As)

-- NOT PRINTED: function 10 (blame_Code)

-- NOT PRINTED: function 3 (hyglaw22_RunsPuts)

end Go.Proofs.YtdgbcokakmonfaaDoor.PRunsPuts
