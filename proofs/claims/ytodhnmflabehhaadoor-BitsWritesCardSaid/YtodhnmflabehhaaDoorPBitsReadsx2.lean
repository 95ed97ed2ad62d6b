-- PRINTED BY print.sh 35421559b90ae4d0a3588c463048766b98c2df88dd9212a6774a882060cdf62d: not written by this session
import Derived.Test.YtodhnmflabehhaaDoorPBitsReadsx0
import Derived.Test.YtodhnmflabehhaaDoorPBitsReadsx1
namespace Go.Proofs.YtodhnmflabehhaaDoor.PBitsReads
open Go.RowKit Go.Proofs.YtodhnmflabehhaaDoorW.PrintWords Go.Proofs.YtodhnmflabehhaaDoorW.PrintLast Go.Proofs.YtodhnmflabehhaaDoorW.PrintMore
attribute [local go_sem] max2_int min2_int max_two min_two max_three min_three max_four min_four   -- for this text's walks alone
set_option linter.unusedVariables false
set_option linter.unusedSimpArgs false

/-! ### hygref2_Reader_End: function 26 -/
def hygref2_Reader_End.l0 : Nat → Int → ByteArray → Int → Option (Int × ByteArray × Int)
  | 0, _, _, _ => none
  | k + 1, x3, x1000, x1001 => if x3 < (wrap64 (8 * (x1000.size : Int))) then (if 0 ≤ (wrap64 (Int.tdiv x3 8)) then (if (wrap64 (Int.tdiv x3 8)) < (x1000.size : Int) then (if 0 ≤ (IntKind.u64.wrap (wrap64 (7 - (Int.tmod x3 8)))) then (if (Go.bits .and .u8 (shr .u8 (bt x1000 (wrap64 (Int.tdiv x3 8))) (IntKind.u64.wrap (wrap64 (7 - (Int.tmod x3 8))))) 1) = 1 then (some (3, x1000, x1001)) else (hygref2_Reader_End.l0 k (wrap64 (x3 + 1)) x1000 x1001)) else (none)) else (none)) else (none)) else (some (0, x1000, x1001))
def hygref2_Reader_End.f (k : Nat) (s0_0 : ByteArray) (s0_1 : Int) : Option (Int × ByteArray × Int) := if (wrap64 ((wrap64 (8 * (s0_0.size : Int))) - s0_1)) ≥ 8 then (some (2, s0_0, s0_1)) else (hygref2_Reader_End.l0 k s0_1 s0_0 s0_1)
theorem hygref2_Reader_End.mono_l : ∀ k, (∀ y0 y1 y2, LeO (hygref2_Reader_End.l0 k y0 y1 y2) (hygref2_Reader_End.l0 (k + 1) y0 y1 y2))
  | 0 => fun _ _ _ r h => by simp [hygref2_Reader_End.l0] at h
  | k + 1 => by
    have ih0 := hygref2_Reader_End.mono_l k
    · intro y0 y1 y2
      unfold hygref2_Reader_End.l0
      repeat' first
      | (with_reducible exact ih0 _ _ _)
      | (with_reducible exact LeO.refl _)
      | (with_reducible exact LeO.none _)
      | (with_reducible refine LeO.ite ?_ ?_)
      | (with_reducible refine LeO.bind ?_ (fun _ => ?_))
      | exact ih0 _ _ _
      | exact LeO.none _
      | refine LeO.ite ?_ ?_
      | refine LeO.bind ?_ (fun _ => ?_)
theorem hygref2_Reader_End.mono : ∀ a0 a1 k, LeO (hygref2_Reader_End.f k a0 a1) (hygref2_Reader_End.f (k + 1) a0 a1) := by
  intro a0 a1 k
  have ih0 := hygref2_Reader_End.mono_l k
  unfold hygref2_Reader_End.f
  repeat' first
      | (with_reducible exact ih0 _ _ _)
      | (with_reducible exact LeO.refl _)
      | (with_reducible exact LeO.none _)
      | (with_reducible refine LeO.ite ?_ ?_)
      | (with_reducible refine LeO.bind ?_ (fun _ => ?_))
      | exact ih0 _ _ _
      | exact LeO.none _
      | refine LeO.ite ?_ ?_
      | refine LeO.bind ?_ (fun _ => ?_)
set_option maxHeartbeats 8000000 in
set_option maxRecDepth 100000 in
theorem hygref2_Reader_End.calls (k : Nat) (g : Nat) (s0_0 : ByteArray) (s0_1 : Int) (r1 : Int) (r2 : ByteArray) (r3 : Int) (w0 w : World) (hI : IsS53 w0 w g s0_0 s0_1) (hB : Below w0.heap.size w0 w) (h : hygref2_Reader_End.f k s0_0 s0_1 = some (r1, r2, r3)) :
    Calls Tryd.prog 26 #[.pointer (some ⟨g, 0, none⟩)] w fun e w' => e = .returned (.int .i64 r1) ∧ IsS53 w0 w' g r2 r3 ∧ Below w0.heap.size w0 w' ∧ KeepBut w w' g none := by
  have HI0 := Aside0.mk hI
  have HK := Aside0.mk (KeepBut.refl w g none)
  have HL := Aside0.mk hB.size
  clear hI
  have HW0 := Aside0.mk hB.size
  have HB := Aside0.mk hB
  clear hB
  have H : (if (wrap64 ((wrap64 (8 * (s0_0.size : Int))) - s0_1)) ≥ 8 then (some (2, s0_0, s0_1)) else (hygref2_Reader_End.l0 k s0_1 s0_0 s0_1)) = some (r1, r2, r3) := h
  clear h
  by_cases c2 : (wrap64 ((wrap64 (8 * (s0_0.size : Int))) - s0_1)) ≥ 8
  · rw [if_pos c2] at H
    have c2b0 : decide (8 ≤ (wrap64 ((wrap64 (8 * (s0_0.size : Int))) - s0_1))) = true := decide_eq_true c2
    clear c2
    simp only [Option.some.injEq, Prod.mk.injEq] at H
    obtain ⟨rfl, rfl, rfl⟩ := H
    obtain ⟨HGz3, hgz3⟩ := HI0.out
    have hcz3_0 := cellS53_0 HGz3
    have hcz3_1 := cellS53_1 HGz3
    have hfz3_0 := blk_frozen HGz3 0
    have hfz3_1 := blk_frozen HGz3 1
    clear HGz3 hgz3
    go_enter Tryd.func26, Tryd.ntmps26
    go_wp2
    repeat (go_quiet (fail); try go_wp2)
    go_ret
    exact ⟨by first | rfl | (simp [errW_none, errW_some] <;> rfl) | (simp [*, errW_none, errW_some] <;> rfl), by repeat (first | (with_reducible first | exact HI0.out | apply IsS53.alloc | apply IsS53.drewN | apply IsS53.drew | apply IsS53.set_0 | apply IsS53.set_1) | exact HI0.out), by repeat (first | (with_reducible first | exact HB.out | apply below_alloc | apply pw_below_drewN | apply below_drew1 | refine below_set ?_ (IsS53.ge HI0.out)) | exact HB.out), by repeat (first | (with_reducible first | exact HK.out | apply KeepBut.set_ | apply keep_drewN | apply keep_drew | apply keep_alloc) | exact HK.out)⟩
  · rw [if_neg c2] at H
    have c2b0 : decide (8 ≤ (wrap64 ((wrap64 (8 * (s0_0.size : Int))) - s0_1))) = false := decide_eq_false c2
    clear c2
    have H' := Aside0.mk H
    clear H
    obtain ⟨HGz4, hgz4⟩ := HI0.out
    have hcz4_0 := cellS53_0 HGz4
    have hcz4_1 := cellS53_1 HGz4
    have hfz4_0 := blk_frozen HGz4 0
    have hfz4_1 := blk_frozen HGz4 1
    clear HGz4 hgz4
    go_enter Tryd.func26, Tryd.ntmps26
    go_wp2
    repeat (go_quiet (fail); try go_wp2)
    go_loopg [3] k (fun kq v3 w' => ∃ (x3_1 : Int), v3 = .int .i64 x3_1 ∧ Aside0 (hygref2_Reader_End.l0 kq x3_1 s0_0 s0_1 = some (r1, r2, r3)) ∧ Aside0 (kq ≤ k) ∧ Aside0 (IsS53 w0 w' g s0_0 s0_1) ∧ Aside0 (KeepBut w w' g none) ∧ Aside0 (Below w0.heap.size w0 w'))
    case atStart => exact ⟨(s0_1), (by first | rfl | (simp; done) | (simp [*]; done)), H', ⟨Nat.le_refl _⟩, ⟨by repeat (first | (with_reducible first | exact HI0.out | apply IsS53.alloc | apply IsS53.drewN | apply IsS53.drew | apply IsS53.set_0 | apply IsS53.set_1) | exact HI0.out)⟩, ⟨by repeat (first | (with_reducible first | exact HK.out | apply KeepBut.set_ | apply keep_drewN | apply keep_drew | apply keep_alloc) | exact HK.out)⟩, ⟨by repeat (first | (with_reducible first | exact HB.out | apply below_alloc | apply pw_below_drewN | apply below_drew1 | refine below_set ?_ (IsS53.ge HI0.out)) | exact HB.out)⟩⟩
    case round =>
      clear H'
      try clear c2
      try clear c2b0
      try clear p2
      try clear hcz3_0
      try clear hcz3_1
      try clear hcz4_0
      try clear hcz4_1
      try clear hfz3_0
      try clear hfz3_1
      try clear hfz4_0
      try clear hfz4_1
      obtain ⟨x3_1, rfl, HA, HK1, HI0, HK, HB⟩ := hrel
      cases gk with
      | zero => exact absurd HA.out (by simp [hygref2_Reader_End.l0])
      | succ k1 =>
        have H := HA.out
        clear HA
        simp only [hygref2_Reader_End.l0] at H
        by_cases c5 : x3_1 < (wrap64 (8 * (s0_0.size : Int)))
        · rw [if_pos c5] at H
          have c5b0 : decide (x3_1 < (wrap64 (8 * (s0_0.size : Int)))) = true := decide_eq_true c5
          clear c5
          obtain ⟨ji6, hji6⟩ : ∃ j_ : Int, (wrap64 (Int.tdiv x3_1 8)) = j_ := ⟨_, rfl⟩
          replace H : (if 0 ≤ (ji6) then (if (ji6) < (s0_0.size : Int) then (if 0 ≤ (IntKind.u64.wrap (wrap64 (7 - (Int.tmod x3_1 8)))) then (if (Go.bits .and .u8 (shr .u8 (bt s0_0 (ji6)) (IntKind.u64.wrap (wrap64 (7 - (Int.tmod x3_1 8))))) 1) = 1 then (some (3, s0_0, s0_1)) else (hygref2_Reader_End.l0 k1 (wrap64 (x3_1 + 1)) s0_0 s0_1)) else (none)) else (none)) else (none)) = some (r1, r2, r3) := by first | (rw [hji6] at H; exact H) | (simp only [hji6] at H ⊢; exact H)
          have hji6w : (IntKind.i64.wrap (Int.tdiv x3_1 8)) = ji6 := (i64_w _).trans hji6
          by_cases c7 : 0 ≤ (ji6)
          · rw [if_pos c7] at H
            have c7b0 : decide (0 ≤ (ji6)) = true := decide_eq_true c7
            clear c7
            by_cases c8 : (ji6) < (s0_0.size : Int)
            · rw [if_pos c8] at H
              have c8b0 : decide ((ji6) < (s0_0.size : Int)) = true := decide_eq_true c8
              clear c8
              obtain ⟨ji10, hji10⟩ : ∃ j_ : Int, (IntKind.u64.wrap (wrap64 (7 - (Int.tmod x3_1 8)))) = j_ := ⟨_, rfl⟩
              replace H : (if 0 ≤ (ji10) then (if (Go.bits .and .u8 (shr .u8 (bt s0_0 (ji6)) (ji10)) 1) = 1 then (some (3, s0_0, s0_1)) else (hygref2_Reader_End.l0 k1 (wrap64 (x3_1 + 1)) s0_0 s0_1)) else (none)) = some (r1, r2, r3) := by first | (rw [hji10] at H; exact H) | (simp only [hji10] at H ⊢; exact H)
              by_cases c11 : 0 ≤ (ji10)
              · rw [if_pos c11] at H
                have c11b0 := eq_true c11
                have c11b1 : decide (0 ≤ (ji10)) = true := decide_eq_true c11
                clear c11
                obtain ⟨ji12, hji12⟩ : ∃ j_ : Int, (shr .u8 (bt s0_0 (ji6)) (ji10)) = j_ := ⟨_, rfl⟩
                replace H : (if (Go.bits .and .u8 (ji12) 1) = 1 then (some (3, s0_0, s0_1)) else (hygref2_Reader_End.l0 k1 (wrap64 (x3_1 + 1)) s0_0 s0_1)) = some (r1, r2, r3) := by first | (rw [hji12] at H; exact H) | (simp only [hji12] at H ⊢; exact H)
                have hji12_ : ((bt s0_0 (ji6)) / 2 ^ min (ji10).toNat 8) = ji12 := hji12
                have hji12z : (ji10) ≤ 8 → ((bt s0_0 (ji6)) / 2 ^ (ji10).toNat) = ji12 := shr_small hji12
                by_cases c13 : (Go.bits .and .u8 (ji12) 1) = 1
                · rw [if_pos c13] at H
                  have c13b0 : ((Go.bits .and .u8 (ji12) 1) == 1) = true := beq_iff_eq.mpr c13
                  have c13b1 : ((Go.bits .and .u8 (ji12) 1) != 1) = false := bne_eq_false_iff_eq.mpr c13
                  clear c13
                  simp only [Option.some.injEq, Prod.mk.injEq] at H
                  obtain ⟨rfl, rfl, rfl⟩ := H
                  obtain ⟨HGz14, hgz14⟩ := HI0.out
                  have hcz14_0 := cellS53_0 HGz14
                  have hcz14_1 := cellS53_1 HGz14
                  have hfz14_0 := blk_frozen HGz14 0
                  have hfz14_1 := blk_frozen HGz14 1
                  clear HGz14 hgz14
                  have p9 : 0 ≤ ((ji6) : Int) := of_decide_eq_true (by first | (with_reducible assumption) | assumption)
                  have q9 : (ji6) < (s0_0.size : Int) := of_decide_eq_true (by first | (with_reducible assumption) | assumption)
                  have hx9 := bt_at s0_0 (ji6)
                  replace p9 := eq_true p9
                  replace q9 := eq_true q9
                  go_wp2
                  repeat (go_quiet (fail); try go_wp2)
                  go_ret
                  exact ⟨by first | rfl | (simp [errW_none, errW_some] <;> rfl) | (simp only [← hji6, ← hji10, ← hji12]; first | rfl | (simp [errW_none, errW_some] <;> rfl)) | (simp [*, errW_none, errW_some] <;> rfl), by repeat (first | (with_reducible first | exact HI0.out | apply IsS53.alloc | apply IsS53.drewN | apply IsS53.drew | apply IsS53.set_0 | apply IsS53.set_1) | exact HI0.out), by repeat (first | (with_reducible first | exact HB.out | apply below_alloc | apply pw_below_drewN | apply below_drew1 | refine below_set ?_ (IsS53.ge HI0.out)) | exact HB.out), by repeat (first | (with_reducible first | exact HK.out | apply KeepBut.set_ | apply keep_drewN | apply keep_drew | apply keep_alloc) | exact HK.out)⟩
                · rw [if_neg c13] at H
                  have c13b0 : ((Go.bits .and .u8 (ji12) 1) == 1) = false := beq_eq_false_iff_ne.mpr c13
                  have c13b1 : ((Go.bits .and .u8 (ji12) 1) != 1) = true := bne_iff_ne.mpr c13
                  have H' := Aside0.mk H
                  clear H
                  obtain ⟨HGz15, hgz15⟩ := HI0.out
                  have hcz15_0 := cellS53_0 HGz15
                  have hcz15_1 := cellS53_1 HGz15
                  have hfz15_0 := blk_frozen HGz15 0
                  have hfz15_1 := blk_frozen HGz15 1
                  clear HGz15 hgz15
                  have p9 : 0 ≤ ((ji6) : Int) := of_decide_eq_true (by first | (with_reducible assumption) | assumption)
                  have q9 : (ji6) < (s0_0.size : Int) := of_decide_eq_true (by first | (with_reducible assumption) | assumption)
                  have hx9 := bt_at s0_0 (ji6)
                  replace p9 := eq_true p9
                  replace q9 := eq_true q9
                  go_wp2
                  repeat (go_quiet (fail); try go_wp2)
                  go_roundg k1
                  case measure => have := HK1.out; omega
                  case rel => exact ⟨(wrap64 (x3_1 + 1)), (by first | rfl | (simp; done) | (simp [*]; done)), H', ⟨by have := HK1.out; omega⟩, ⟨by repeat (first | (with_reducible first | exact HI0.out | apply IsS53.alloc | apply IsS53.drewN | apply IsS53.drew | apply IsS53.set_0 | apply IsS53.set_1) | exact HI0.out)⟩, ⟨by repeat (first | (with_reducible first | exact HK.out | apply KeepBut.set_ | apply keep_drewN | apply keep_drew | apply keep_alloc) | exact HK.out)⟩, ⟨by repeat (first | (with_reducible first | exact HB.out | apply below_alloc | apply pw_below_drewN | apply below_drew1 | refine below_set ?_ (IsS53.ge HI0.out)) | exact HB.out)⟩⟩
              · rw [if_neg c11] at H
                exact absurd H (by simp)
            · rw [if_neg c8] at H
              exact absurd H (by simp)
          · rw [if_neg c7] at H
            exact absurd H (by simp)
        · rw [if_neg c5] at H
          have c5b0 : decide (x3_1 < (wrap64 (8 * (s0_0.size : Int)))) = false := decide_eq_false c5
          clear c5
          simp only [Option.some.injEq, Prod.mk.injEq] at H
          obtain ⟨rfl, rfl, rfl⟩ := H
          obtain ⟨HGz16, hgz16⟩ := HI0.out
          have hcz16_0 := cellS53_0 HGz16
          have hcz16_1 := cellS53_1 HGz16
          have hfz16_0 := blk_frozen HGz16 0
          have hfz16_1 := blk_frozen HGz16 1
          clear HGz16 hgz16
          go_wp2
          repeat (go_quiet (fail); try go_wp2)
          go_ret
          exact ⟨by first | rfl | (simp [errW_none, errW_some] <;> rfl) | (simp [*, errW_none, errW_some] <;> rfl), by repeat (first | (with_reducible first | exact HI0.out | apply IsS53.alloc | apply IsS53.drewN | apply IsS53.drew | apply IsS53.set_0 | apply IsS53.set_1) | exact HI0.out), by repeat (first | (with_reducible first | exact HB.out | apply below_alloc | apply pw_below_drewN | apply below_drew1 | refine below_set ?_ (IsS53.ge HI0.out)) | exact HB.out), by repeat (first | (with_reducible first | exact HK.out | apply KeepBut.set_ | apply keep_drewN | apply keep_drew | apply keep_alloc) | exact HK.out)⟩

-- NOT PRINTED: function 5 (hyglaw5_BitsReads)

end Go.Proofs.YtodhnmflabehhaaDoor.PBitsReads
