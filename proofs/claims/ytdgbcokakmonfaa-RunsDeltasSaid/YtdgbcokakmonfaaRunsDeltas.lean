import Derived.Test.YtdgbcokakmonfaaRunsFirst
import Derived.Test.YtdgbcokakmonfaaVarR
namespace Go.Proofs.Ytdgbcokakmonfaa
open Go.RowKit Go.Proofs.YtdgbcokakmonfaaW.PrintWords Go.Proofs.YtdgbcokakmonfaaW.PrintLast Go.Proofs.YtdgbcokakmonfaaW.PrintMore Hy

/-! ### differences -/
def delt : Int → List Int → List Int
  | _, [] => []
  | last, n :: l => zig (wrap64 ((n - last) % 18446744073709551616)) :: delt n l
def undelt : Int → List Int → List Int
  | _, [] => []
  | last, v :: l => (last + zag v % 18446744073709551616) % 18446744073709551616 :: undelt ((last + zag v % 18446744073709551616) % 18446744073709551616) l
theorem delt_length (last : Int) (l : List Int) : (delt last l).length = l.length := by
  induction l generalizing last with
  | nil => rfl
  | cons n l ih => simp [delt, ih]
theorem undelt_length (last : Int) (l : List Int) : (undelt last l).length = l.length := by
  induction l generalizing last with
  | nil => rfl
  | cons n l ih => simp [undelt, ih]
theorem delt_u64 (last : Int) (l : List Int) : u64s (delt last l) := by
  induction l generalizing last with
  | nil => intro x hx; simp [delt] at hx
  | cons n l ih =>
    intro x hx
    rcases List.mem_cons.1 hx with rfl | hx
    · exact zig_range _ (by unfold wrap64; omega) (by unfold wrap64; omega)
    · exact ih _ x hx
theorem undelt_u64 (last : Int) (l : List Int) : u64s (undelt last l) := by
  induction l generalizing last with
  | nil => intro x hx; simp [undelt] at hx
  | cons n l ih =>
    intro x hx
    rcases List.mem_cons.1 hx with rfl | hx
    · omega
    · exact ih _ x hx
theorem undelt_delt (last : Int) (l : List Int) (h : u64s l) : undelt last (delt last l) = l := by
  induction l generalizing last with
  | nil => rfl
  | cons n l ih =>
    have hn := h n List.mem_cons_self
    have e : (last + zag (zig (wrap64 ((n - last) % 18446744073709551616))) % 18446744073709551616) % 18446744073709551616 = n := by
      rw [zag_zig]; unfold wrap64; omega
    simp only [delt, undelt]
    rw [e, ih n (fun x hx => h x (List.mem_cons_of_mem _ hx))]
theorem delt_undelt (last : Int) (l : List Int) (h : u64s l) (hlast : 0 ≤ last ∧ last < 18446744073709551616) : delt last (undelt last l) = l := by
  induction l generalizing last with
  | nil => rfl
  | cons v l ih =>
    have hv := h v List.mem_cons_self
    have hz := zag_range v hv.1 hv.2
    have e : zig (wrap64 (((last + zag v % 18446744073709551616) % 18446744073709551616 - last) % 18446744073709551616)) = v := by
      rw [show wrap64 (((last + zag v % 18446744073709551616) % 18446744073709551616 - last) % 18446744073709551616) = zag v by unfold wrap64; omega, zig_zag v hv.1]
    simp only [undelt, delt]
    rw [e, ih _ (fun x hx => h x (List.mem_cons_of_mem _ hx)) (by omega)]

theorem rd_at (l : List Int) (i : Nat) (h : i < l.length) : rd l (i : Int) = l[i] := by simp [rd, List.getD_eq_getElem?_getD, h]
theorem delta_l0 (l : List Int) (hx : u64s l) (hl : l.length ≤ 2000) : ∀ (d i k : Nat) (acc : List Int) (last : Int), i + d = l.length → d < k → acc.length + d ≤ 2000 →
    PRunsDeltas.runs_Delta.l0 k acc last l (l.length : Int) (i : Int) = some (acc ++ delt last (l.drop i)) := by
  intro d
  induction d with
  | zero =>
    intro i k acc last hi hk ha
    obtain ⟨k, rfl⟩ : ∃ m, k = m + 1 := ⟨k - 1, by omega⟩
    simp only [PRunsDeltas.runs_Delta.l0]
    rw [if_neg (by omega), List.drop_of_length_le (by omega)]
    simp [delt]
  | succ d ih =>
    intro i k acc last hi hk ha
    obtain ⟨k, rfl⟩ : ∃ m, k = m + 1 := ⟨k - 1, by omega⟩
    have hi1 : i < l.length := by omega
    simp only [PRunsDeltas.runs_Delta.l0]
    rw [if_pos (by omega), if_pos (by omega), if_pos (by omega), rd_at l i hi1, wrap_u64, zig_f _ (by unfold wrap64; omega) (by unfold wrap64; omega)]
    simp only [Option.bind_some]
    rw [if_pos (by omega), show wrap64 ((i : Int) + 1) = ((i + 1 : Nat) : Int) by unfold wrap64; omega, ih (i + 1) k _ _ (by omega) (by omega) (by simp; omega), List.drop_eq_getElem_cons hi1]
    simp [delt]
theorem undelta_l0 (l : List Int) (hx : u64s l) (hl : l.length ≤ 2000) : ∀ (d i k : Nat) (acc : List Int) (last : Int), i + d = l.length → d < k → acc.length + d ≤ 2000 →
    PRunsDeltas.runs_Undelta.l0 k acc last l (l.length : Int) (i : Int) = some (acc ++ undelt last (l.drop i)) := by
  intro d
  induction d with
  | zero =>
    intro i k acc last hi hk ha
    obtain ⟨k, rfl⟩ : ∃ m, k = m + 1 := ⟨k - 1, by omega⟩
    simp only [PRunsDeltas.runs_Undelta.l0]
    rw [if_neg (by omega), List.drop_of_length_le (by omega)]
    simp [undelt]
  | succ d ih =>
    intro i k acc last hi hk ha
    obtain ⟨k, rfl⟩ : ∃ m, k = m + 1 := ⟨k - 1, by omega⟩
    have hi1 : i < l.length := by omega
    have hxi := hx _ (List.getElem_mem hi1)
    simp only [PRunsDeltas.runs_Undelta.l0]
    rw [if_pos (by omega), if_pos (by omega), if_pos (by omega), rd_at l i hi1, zag_f _ hxi.1 hxi.2]
    simp only [Option.bind_some]
    rw [if_pos (by omega), show wrap64 ((i : Int) + 1) = ((i + 1 : Nat) : Int) by unfold wrap64; omega, ih (i + 1) k _ _ (by omega) (by omega) (by simp; omega), List.drop_eq_getElem_cons hi1, wrap_u64, wrap_u64]
    simp [undelt]
theorem rdelta_l0 (l : List Int) (hx : u64s l) (hl : l.length ≤ 2000) : ∀ (d i k : Nat) (acc : List Int) (last : Int), i + d = l.length → d < k → acc.length + d ≤ 2000 →
    PRunsDeltas.hygref18_Delta.l0 k l acc last (i : Int) = some (acc ++ delt last (l.drop i)) := by
  intro d
  induction d with
  | zero =>
    intro i k acc last hi hk ha
    obtain ⟨k, rfl⟩ : ∃ m, k = m + 1 := ⟨k - 1, by omega⟩
    simp only [PRunsDeltas.hygref18_Delta.l0]
    rw [if_neg (by omega), List.drop_of_length_le (by omega)]
    simp [delt]
  | succ d ih =>
    intro i k acc last hi hk ha
    obtain ⟨k, rfl⟩ : ∃ m, k = m + 1 := ⟨k - 1, by omega⟩
    have hi1 : i < l.length := by omega
    simp only [PRunsDeltas.hygref18_Delta.l0]
    rw [if_pos (by omega), if_pos (by omega), rd_at l i hi1, wrap_u64, rzig_f _ (by unfold wrap64; omega) (by unfold wrap64; omega)]
    simp only [Option.bind_some]
    rw [if_pos (by omega), show wrap64 ((i : Int) + 1) = ((i + 1 : Nat) : Int) by unfold wrap64; omega, ih (i + 1) k _ _ (by omega) (by omega) (by simp; omega), List.drop_eq_getElem_cons hi1]
    simp [delt]
theorem rundelta_l0 (l : List Int) (hx : u64s l) (hl : l.length ≤ 2000) : ∀ (d i k : Nat) (acc : List Int) (last : Int), i + d = l.length → d < k → acc.length + d ≤ 2000 →
    PRunsDeltas.hygref18_Undelta.l0 k l acc last (i : Int) = some (acc ++ undelt last (l.drop i)) := by
  intro d
  induction d with
  | zero =>
    intro i k acc last hi hk ha
    obtain ⟨k, rfl⟩ : ∃ m, k = m + 1 := ⟨k - 1, by omega⟩
    simp only [PRunsDeltas.hygref18_Undelta.l0]
    rw [if_neg (by omega), List.drop_of_length_le (by omega)]
    simp [undelt]
  | succ d ih =>
    intro i k acc last hi hk ha
    obtain ⟨k, rfl⟩ : ∃ m, k = m + 1 := ⟨k - 1, by omega⟩
    have hi1 : i < l.length := by omega
    have hxi := hx _ (List.getElem_mem hi1)
    simp only [PRunsDeltas.hygref18_Undelta.l0]
    rw [if_pos (by omega), if_pos (by omega), rd_at l i hi1, rzag_f _ hxi.1 hxi.2]
    simp only [Option.bind_some]
    rw [if_pos (by omega), show wrap64 ((i : Int) + 1) = ((i + 1 : Nat) : Int) by unfold wrap64; omega, ih (i + 1) k _ _ (by omega) (by omega) (by simp; omega), List.drop_eq_getElem_cons hi1, wrap_u64, wrap_u64]
    simp [undelt]
/-- A new row comes back. -/
def RowBack (w : World) (r : List Int) (e : Ending) (w' : World) : Prop := ∃ A c, e = .returned (.slice A r.length c) ∧ Kd.C (Kd.int .u64) w' A r.length r ∧ r.length ≤ c ∧ Below w.heap.size w w'
theorem rowBack {w : World} {r : List Int} {e : Ending} {w' : World} (h : ∃ v0_ : Value, e = .returned v0_ ∧ Kd.R (Kd.int .u64) 36 w' w.heap.size (fun _ => True) v0_ r ∧ Below w.heap.size w w') : RowBack w r e w' := by
  obtain ⟨v, rfl, hR, hb⟩ := h
  obtain ⟨A, c, rfl, hc, hC⟩ := Kd.R_reads hR
  exact ⟨A, c, rfl, hC, hc, hb⟩
section
variable (A : Option Addr) (c : Nat) (l : List Int) (w : World) (hr : Kd.C (Kd.int .u64) w A l.length l) (hc : l.length ≤ c) (hl : l.length ≤ 2000) (hx : u64s l)
include hr hc hl
theorem copy_any : Calls Try.prog 10 #[.slice A l.length c] w (RowBack w l) :=
  (PRunsDeltas.hygref_CopyNums.calls A c l l w hr hc (by
    unfold PRunsDeltas.hygref_CopyNums.f
    simp only [Option.bind_some]
    rw [if_pos (by simp; omega), List.nil_append])).mono fun _ _ h => rowBack h
include hx
theorem delta_any : Calls Try.prog 11 #[.slice A l.length c] w (RowBack w (delt 0 l)) :=
  (PRunsDeltas.runs_Delta.calls (l.length + 1) A c l _ w hr hc (by
    have := delta_l0 l hx hl l.length 0 (l.length + 1) [] 0 (by omega) (by omega) (by simp; omega)
    simpa [PRunsDeltas.runs_Delta.f] using this)).mono fun _ _ h => rowBack h
theorem undelta_any : Calls Try.prog 12 #[.slice A l.length c] w (RowBack w (undelt 0 l)) :=
  (PRunsDeltas.runs_Undelta.calls (l.length + 1) A c l _ w hr hc (by
    have := undelta_l0 l hx hl l.length 0 (l.length + 1) [] 0 (by omega) (by omega) (by simp; omega)
    simpa [PRunsDeltas.runs_Undelta.f] using this)).mono fun _ _ h => rowBack h
theorem rdelta_any : Calls Try.prog 13 #[.slice A l.length c] w (RowBack w (delt 0 l)) :=
  (PRunsDeltas.hygref18_Delta.calls (l.length + 1) A c l _ w hr hc (by
    have := rdelta_l0 l hx hl l.length 0 (l.length + 1) [] 0 (by omega) (by omega) (by simp; omega)
    simpa [PRunsDeltas.hygref18_Delta.f] using this)).mono fun _ _ h => rowBack h
theorem rundelta_any : Calls Try.prog 14 #[.slice A l.length c] w (RowBack w (undelt 0 l)) :=
  (PRunsDeltas.hygref18_Undelta.calls (l.length + 1) A c l _ w hr hc (by
    have := rundelta_l0 l hx hl l.length 0 (l.length + 1) [] 0 (by omega) (by omega) (by simp; omega)
    simpa [PRunsDeltas.hygref18_Undelta.f] using this)).mono fun _ _ h => rowBack h
end
theorem nums_same (A : Option Addr) (c : Nat) (l l' : List Int) (A' : Option Addr) (c' : Nat) (w : World) (e : l = l') (hr : Kd.C (Kd.int .u64) w A l.length l) (hc : l.length ≤ c) (hr' : Kd.C (Kd.int .u64) w A' l'.length l') (hc' : l'.length ≤ c') (hl : l.length ≤ 140737488355328) :
    Calls Try.prog 9 #[.slice A l.length c, .slice A' l'.length c'] w fun e w' => e = .returned (.bool true) ∧ Drawn0 w w' := by
  have h := nums_any A c l A' c' l' w hr hc hr' hc' hl
  rw [decide_eq_true e] at h
  exact h
set_option maxHeartbeats 2000000 in
theorem runsDeltas_walk (A : Option Addr) (c : Nat) (l : List Int) (w : World) (hr : Kd.C (Kd.int .u64) w A l.length l) (hc : l.length ≤ c) (hl : l.length * 8 ≤ 140737488351232) (hx : ∀ x ∈ l, 0 ≤ x ∧ x < 18446744073709551616) :
    Calls Try.prog 5 #[.slice A l.length c] w fun e w' => e = .returned (.bool true) ∧ Below w.heap.size w w' := by
  have HB := Aside0.mk (Below.refl w.heap.size w)
  have HR := Aside0.mk hr
  have HX := Aside0.mk hx
  have HC := Aside0.mk hc
  clear hr hc hl hx
  by_cases hlen : 2000 < l.length
  · go_enter Try.func5, Try.ntmps5
    go_wp2_with (first
      | (go_at_call 6; refine (runs_first _).mono ?_; rintro e wb ⟨rfl, hb⟩; have HBn : Aside0 (Below w.heap.size w wb) := ⟨below_next (by repeat (first | (with_reducible exact HB.out) | apply below_alloc | apply pw_below_drewN | apply below_drew1)) hb⟩; clear HB hb; have HB := HBn; clear HBn))
    go_ret
    exact ⟨rfl, (by repeat (first | (with_reducible exact HB.out) | apply below_alloc | apply pw_below_drewN | apply below_drew1))⟩
  · go_enter Try.func5, Try.ntmps5
    go_wp2_with fail
    refine (runs_first _).mono ?_
    rintro e wb ⟨rfl, hb⟩
    have Hn_ := Aside0.mk (Kd.C_below (by (with_reducible repeat (first | apply Kd.C_alloc | apply Kd.C_drewN | apply Kd.C_drew)); exact HR.out) hb); clear HR; have HR := Hn_; clear Hn_; have HBn : Aside0 (Below w.heap.size w wb) := ⟨below_next (by repeat (first | (with_reducible exact HB.out) | apply below_alloc | apply pw_below_drewN | apply below_drew1)) hb⟩; clear HB; have HB := HBn; clear HBn; clear hb
    go_wp2_with fail
    refine (copy_any A c l _ (by (with_reducible repeat (first | apply Kd.C_alloc | apply Kd.C_drewN | apply Kd.C_drew)); exact HR.out) HC.out (by omega)).mono ?_
    rintro e wb ⟨A_i, c_i, rfl, hC_, hc_i, hb⟩
    have Hn_ := Aside0.mk (Kd.C_below (by (with_reducible repeat (first | apply Kd.C_alloc | apply Kd.C_drewN | apply Kd.C_drew)); exact HR.out) hb); clear HR; have HR := Hn_; clear Hn_; have HBn : Aside0 (Below w.heap.size w wb) := ⟨below_next (by repeat (first | (with_reducible exact HB.out) | apply below_alloc | apply pw_below_drewN | apply below_drew1)) hb⟩; clear HB; have HB := HBn; clear HBn; have HC_i := Aside0.mk hC_; clear hb hC_
    go_wp2_with fail
    refine (delta_any A_i c_i l _ (by (with_reducible repeat (first | apply Kd.C_alloc | apply Kd.C_drewN | apply Kd.C_drew)); exact HC_i.out) hc_i (by omega) HX.out).mono ?_
    rintro e wb ⟨A_a, c_a, rfl, hC_, hc_a, hb⟩
    have Hn_ := Aside0.mk (Kd.C_below (by (with_reducible repeat (first | apply Kd.C_alloc | apply Kd.C_drewN | apply Kd.C_drew)); exact HR.out) hb); clear HR; have HR := Hn_; clear Hn_; have Hn_ := Aside0.mk (Kd.C_below (by (with_reducible repeat (first | apply Kd.C_alloc | apply Kd.C_drewN | apply Kd.C_drew)); exact HC_i.out) hb); clear HC_i; have HC_i := Hn_; clear Hn_; have HBn : Aside0 (Below w.heap.size w wb) := ⟨below_next (by repeat (first | (with_reducible exact HB.out) | apply below_alloc | apply pw_below_drewN | apply below_drew1)) hb⟩; clear HB; have HB := HBn; clear HBn; have HC_a := Aside0.mk hC_; clear hb hC_
    go_wp2_with fail
    refine (undelta_any A_i c_i l _ (by (with_reducible repeat (first | apply Kd.C_alloc | apply Kd.C_drewN | apply Kd.C_drew)); exact HC_i.out) hc_i (by omega) HX.out).mono ?_
    rintro e wb ⟨A_b, c_b, rfl, hC_, hc_b, hb⟩
    have Hn_ := Aside0.mk (Kd.C_below (by (with_reducible repeat (first | apply Kd.C_alloc | apply Kd.C_drewN | apply Kd.C_drew)); exact HR.out) hb); clear HR; have HR := Hn_; clear Hn_; have Hn_ := Aside0.mk (Kd.C_below (by (with_reducible repeat (first | apply Kd.C_alloc | apply Kd.C_drewN | apply Kd.C_drew)); exact HC_i.out) hb); clear HC_i; have HC_i := Hn_; clear Hn_; have Hn_ := Aside0.mk (Kd.C_below (by (with_reducible repeat (first | apply Kd.C_alloc | apply Kd.C_drewN | apply Kd.C_drew)); exact HC_a.out) hb); clear HC_a; have HC_a := Hn_; clear Hn_; have HBn : Aside0 (Below w.heap.size w wb) := ⟨below_next (by repeat (first | (with_reducible exact HB.out) | apply below_alloc | apply pw_below_drewN | apply below_drew1)) hb⟩; clear HB; have HB := HBn; clear HBn; have HC_b := Aside0.mk hC_; clear hb hC_
    go_wp2_with fail
    refine (runs_first _).mono ?_
    rintro e wb ⟨rfl, hb⟩
    have Hn_ := Aside0.mk (Kd.C_below (by (with_reducible repeat (first | apply Kd.C_alloc | apply Kd.C_drewN | apply Kd.C_drew)); exact HR.out) hb); clear HR; have HR := Hn_; clear Hn_; have Hn_ := Aside0.mk (Kd.C_below (by (with_reducible repeat (first | apply Kd.C_alloc | apply Kd.C_drewN | apply Kd.C_drew)); exact HC_i.out) hb); clear HC_i; have HC_i := Hn_; clear Hn_; have Hn_ := Aside0.mk (Kd.C_below (by (with_reducible repeat (first | apply Kd.C_alloc | apply Kd.C_drewN | apply Kd.C_drew)); exact HC_a.out) hb); clear HC_a; have HC_a := Hn_; clear Hn_; have Hn_ := Aside0.mk (Kd.C_below (by (with_reducible repeat (first | apply Kd.C_alloc | apply Kd.C_drewN | apply Kd.C_drew)); exact HC_b.out) hb); clear HC_b; have HC_b := Hn_; clear Hn_; have HBn : Aside0 (Below w.heap.size w wb) := ⟨below_next (by repeat (first | (with_reducible exact HB.out) | apply below_alloc | apply pw_below_drewN | apply below_drew1)) hb⟩; clear HB; have HB := HBn; clear HBn; clear hb
    go_wp2_with fail
    refine (rdelta_any A c l _ (by (with_reducible repeat (first | apply Kd.C_alloc | apply Kd.C_drewN | apply Kd.C_drew)); exact HR.out) HC.out (by omega) HX.out).mono ?_
    rintro e wb ⟨A_d, c_d, rfl, hC_, hc_d, hb⟩
    have Hn_ := Aside0.mk (Kd.C_below (by (with_reducible repeat (first | apply Kd.C_alloc | apply Kd.C_drewN | apply Kd.C_drew)); exact HR.out) hb); clear HR; have HR := Hn_; clear Hn_; have Hn_ := Aside0.mk (Kd.C_below (by (with_reducible repeat (first | apply Kd.C_alloc | apply Kd.C_drewN | apply Kd.C_drew)); exact HC_i.out) hb); clear HC_i; have HC_i := Hn_; clear Hn_; have Hn_ := Aside0.mk (Kd.C_below (by (with_reducible repeat (first | apply Kd.C_alloc | apply Kd.C_drewN | apply Kd.C_drew)); exact HC_a.out) hb); clear HC_a; have HC_a := Hn_; clear Hn_; have Hn_ := Aside0.mk (Kd.C_below (by (with_reducible repeat (first | apply Kd.C_alloc | apply Kd.C_drewN | apply Kd.C_drew)); exact HC_b.out) hb); clear HC_b; have HC_b := Hn_; clear Hn_; have HBn : Aside0 (Below w.heap.size w wb) := ⟨below_next (by repeat (first | (with_reducible exact HB.out) | apply below_alloc | apply pw_below_drewN | apply below_drew1)) hb⟩; clear HB; have HB := HBn; clear HBn; have HC_d := Aside0.mk hC_; clear hb hC_
    go_wp2_with fail
    refine (nums_same A_a c_a (delt 0 l) (delt 0 l) A_d c_d _ rfl (by (with_reducible repeat (first | apply Kd.C_alloc | apply Kd.C_drewN | apply Kd.C_drew)); exact HC_a.out) hc_a (by (with_reducible repeat (first | apply Kd.C_alloc | apply Kd.C_drewN | apply Kd.C_drew)); exact HC_d.out) hc_d (by rw [delt_length]; omega)).mono ?_
    rintro e wd ⟨rfl, ⟨nd, rfl⟩⟩
    go_wp2_with fail
    refine (rundelta_any A c l _ (by (with_reducible repeat (first | apply Kd.C_alloc | apply Kd.C_drewN | apply Kd.C_drew)); exact HR.out) HC.out (by omega) HX.out).mono ?_
    rintro e wb ⟨A_u, c_u, rfl, hC_, hc_u, hb⟩
    have Hn_ := Aside0.mk (Kd.C_below (by (with_reducible repeat (first | apply Kd.C_alloc | apply Kd.C_drewN | apply Kd.C_drew)); exact HR.out) hb); clear HR; have HR := Hn_; clear Hn_; have Hn_ := Aside0.mk (Kd.C_below (by (with_reducible repeat (first | apply Kd.C_alloc | apply Kd.C_drewN | apply Kd.C_drew)); exact HC_i.out) hb); clear HC_i; have HC_i := Hn_; clear Hn_; have Hn_ := Aside0.mk (Kd.C_below (by (with_reducible repeat (first | apply Kd.C_alloc | apply Kd.C_drewN | apply Kd.C_drew)); exact HC_a.out) hb); clear HC_a; have HC_a := Hn_; clear Hn_; have Hn_ := Aside0.mk (Kd.C_below (by (with_reducible repeat (first | apply Kd.C_alloc | apply Kd.C_drewN | apply Kd.C_drew)); exact HC_b.out) hb); clear HC_b; have HC_b := Hn_; clear Hn_; have HBn : Aside0 (Below w.heap.size w wb) := ⟨below_next (by repeat (first | (with_reducible exact HB.out) | apply below_alloc | apply pw_below_drewN | apply below_drew1)) hb⟩; clear HB; have HB := HBn; clear HBn; have HC_u := Aside0.mk hC_; clear hb hC_
    go_wp2_with fail
    refine (nums_same A_b c_b (undelt 0 l) (undelt 0 l) A_u c_u _ rfl (by (with_reducible repeat (first | apply Kd.C_alloc | apply Kd.C_drewN | apply Kd.C_drew)); exact HC_b.out) hc_b (by (with_reducible repeat (first | apply Kd.C_alloc | apply Kd.C_drewN | apply Kd.C_drew)); exact HC_u.out) hc_u (by rw [undelt_length]; omega)).mono ?_
    rintro e wd ⟨rfl, ⟨nd, rfl⟩⟩
    go_wp2_with fail
    refine (undelta_any A_a c_a (delt 0 l) _ (by (with_reducible repeat (first | apply Kd.C_alloc | apply Kd.C_drewN | apply Kd.C_drew)); exact HC_a.out) hc_a (by rw [delt_length]; omega) (delt_u64 0 l)).mono ?_
    rintro e wb ⟨A_p, c_p, rfl, hC_, hc_p, hb⟩
    have Hn_ := Aside0.mk (Kd.C_below (by (with_reducible repeat (first | apply Kd.C_alloc | apply Kd.C_drewN | apply Kd.C_drew)); exact HR.out) hb); clear HR; have HR := Hn_; clear Hn_; have Hn_ := Aside0.mk (Kd.C_below (by (with_reducible repeat (first | apply Kd.C_alloc | apply Kd.C_drewN | apply Kd.C_drew)); exact HC_i.out) hb); clear HC_i; have HC_i := Hn_; clear Hn_; have Hn_ := Aside0.mk (Kd.C_below (by (with_reducible repeat (first | apply Kd.C_alloc | apply Kd.C_drewN | apply Kd.C_drew)); exact HC_b.out) hb); clear HC_b; have HC_b := Hn_; clear Hn_; have HBn : Aside0 (Below w.heap.size w wb) := ⟨below_next (by repeat (first | (with_reducible exact HB.out) | apply below_alloc | apply pw_below_drewN | apply below_drew1)) hb⟩; clear HB; have HB := HBn; clear HBn; have HC_p := Aside0.mk hC_; clear hb hC_
    go_wp2_with fail
    refine (nums_same A_p c_p (undelt 0 (delt 0 l)) l A c _ (undelt_delt 0 l HX.out) (by (with_reducible repeat (first | apply Kd.C_alloc | apply Kd.C_drewN | apply Kd.C_drew)); exact HC_p.out) hc_p (by (with_reducible repeat (first | apply Kd.C_alloc | apply Kd.C_drewN | apply Kd.C_drew)); exact HR.out) HC.out (by rw [undelt_length, delt_length]; omega)).mono ?_
    rintro e wd ⟨rfl, ⟨nd, rfl⟩⟩
    go_wp2_with fail
    refine (delta_any A_b c_b (undelt 0 l) _ (by (with_reducible repeat (first | apply Kd.C_alloc | apply Kd.C_drewN | apply Kd.C_drew)); exact HC_b.out) hc_b (by rw [undelt_length]; omega) (undelt_u64 0 l)).mono ?_
    rintro e wb ⟨A_q, c_q, rfl, hC_, hc_q, hb⟩
    have Hn_ := Aside0.mk (Kd.C_below (by (with_reducible repeat (first | apply Kd.C_alloc | apply Kd.C_drewN | apply Kd.C_drew)); exact HR.out) hb); clear HR; have HR := Hn_; clear Hn_; have Hn_ := Aside0.mk (Kd.C_below (by (with_reducible repeat (first | apply Kd.C_alloc | apply Kd.C_drewN | apply Kd.C_drew)); exact HC_i.out) hb); clear HC_i; have HC_i := Hn_; clear Hn_; have HBn : Aside0 (Below w.heap.size w wb) := ⟨below_next (by repeat (first | (with_reducible exact HB.out) | apply below_alloc | apply pw_below_drewN | apply below_drew1)) hb⟩; clear HB; have HB := HBn; clear HBn; have HC_q := Aside0.mk hC_; clear hb hC_
    go_wp2_with fail
    refine (nums_same A_q c_q (delt 0 (undelt 0 l)) l A c _ (delt_undelt 0 l HX.out (by omega)) (by (with_reducible repeat (first | apply Kd.C_alloc | apply Kd.C_drewN | apply Kd.C_drew)); exact HC_q.out) hc_q (by (with_reducible repeat (first | apply Kd.C_alloc | apply Kd.C_drewN | apply Kd.C_drew)); exact HR.out) HC.out (by rw [delt_length, undelt_length]; omega)).mono ?_
    rintro e wd ⟨rfl, ⟨nd, rfl⟩⟩
    go_wp2_with fail
    refine (nums_same A_i c_i l l A c _ rfl (by (with_reducible repeat (first | apply Kd.C_alloc | apply Kd.C_drewN | apply Kd.C_drew)); exact HC_i.out) hc_i (by (with_reducible repeat (first | apply Kd.C_alloc | apply Kd.C_drewN | apply Kd.C_drew)); exact HR.out) HC.out (by omega)).mono ?_
    rintro e wd ⟨rfl, ⟨nd, rfl⟩⟩
    go_wp2_with fail
    go_ret
    exact ⟨rfl, (by repeat (first | (with_reducible exact HB.out) | apply below_alloc | apply pw_below_drewN | apply below_drew1))⟩
end Go.Proofs.Ytdgbcokakmonfaa
