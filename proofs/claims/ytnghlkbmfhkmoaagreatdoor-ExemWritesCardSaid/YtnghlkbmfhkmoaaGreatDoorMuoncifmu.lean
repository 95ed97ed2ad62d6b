import Derived.Test.YtnghlkbmfhkmoaaGreatDoorMuemflnfl
import Derived.Test.YtnghlkbmfhkmoaaGreatDoorMbhwgezqr
import Derived.Test.YtnghlkbmfhkmoaaGreatDoorProg
import Derived.Test.YtnghlkbmfhkmoaaGreatDoorMhhfprggg
import Derived.WalkKit
import Derived.Deep.QuietTactic
import Derived.BigQuiet
import Derived.LoopTactic
import Derived.IntWalk
import Derived.Test.YtnghlkbmfhkmoaaGreatDoorMophrpqnn
import Derived.Test.YtnghlkbmfhkmoaaGreatDoorMmmsfdqrm
import Derived.Test.YtnghlkbmfhkmoaaGreatDoorMoilufkjf
import Derived.Test.YtnghlkbmfhkmoaaGreatDoorMtpcniofv
namespace Go.Proofs.YtnghlkbmfhkmoaaGreatDoor
open Go.RowKit Go.Proofs.YtnghlkbmfhkmoaaGreatDoorW.PrintWords Hy
set_option maxHeartbeats 4000000 in
set_option maxRecDepth 100000 in
theorem rsign_g (s : ByteArray) (a c : Nat) (w : World) (hs : s.size ≤ 100000) (ha : a < s.size) (hc : ((bs s).drop a).getD 0 0 = c) (h : c = 240) :
    Calls Tryz.prog 101 #[.string s, .int .i64 (a : Int)] w (rsV s a w) := by
  have hb0 := dr_get s a 0 (by omega)
  have hbyte : ((s[a].toNat : Nat) : Int) = (c : Int) := by rw [hc] at hb0; simp only [Nat.add_zero] at hb0; rw [← hb0]
  have hlp : 0 < ((bs s).drop a).length := by rw [dr_len]; omega
  have hai : (a : Int) < (s.size : Int) := by omega
  have hz : szc (((bs s).drop a).getD 0 0) = 4 := by rw [hc]; unfold szc; (repeat' split) <;> omega
  have hsec : ∀ x, sec c x = true ↔ 144 ≤ x ∧ x ≤ 191 := by intro x; unfold sec fol; (repeat' split) <;> (try omega) <;> simp <;> omega
  have hsecN : ∀ x, ¬ (144 ≤ x ∧ x ≤ 191) → sec c x = false := fun x h => by cases hf : sec c x with | false => rfl | true => exact absurd ((hsec x).1 hf) h
  have HZ := Aside0.mk hz
  have HC := Aside0.mk hc
  have HS := Aside0.mk hsec
  have HSN := Aside0.mk hsecN
  have q0 : ¬ (c : Int) < 128 := by omega
  have q1 : (194 : Int) ≤ (c : Int) := by omega
  have q2 : ¬ (c : Int) ≤ 223 := by omega
  have q3 : (224 : Int) ≤ (c : Int) := by omega
  have q4 : ¬ (c : Int) ≤ 239 := by omega
  have q5 : (240 : Int) ≤ (c : Int) := by omega
  have q6 : (c : Int) ≤ 244 := by omega
  have n224 : ((c : Int) == 224) = false := by rw [beq_eq_false_iff_ne]; omega
  have n237 : ((c : Int) == 237) = false := by rw [beq_eq_false_iff_ne]; omega
  have e240 : ((c : Int) == 240) = true := by rw [beq_iff_eq]; omega
  clear hz hb0 hc hlp hsec hsecN
  go_enter Tryz.func101, Tryz.ntmps101
  go_wp2_with fail
  go_loop [7, 8, 9] (fun v7 v8 v9 => ∃ i : Nat, 1 ≤ i ∧ i ≤ 4 ∧ v9 = .int .i64 (i : Int) ∧ ((i = 1 ∧ v7 = .int .u8 144 ∧ v8 = .int .u8 191) ∨ (2 ≤ i ∧ v7 = .int .u8 128 ∧ v8 = .int .u8 191)) ∧ Aside0 (Seen s a c i)) (fun _ _ v9 => 4 - (intOf v9).toNat)
  case atStart => exact ⟨1, by omega, by omega, rfl, .inl ⟨rfl, rfl, rfl⟩, ⟨fun j h1 h2 => absurd h2 (by omega)⟩⟩
  case round =>
    obtain ⟨i, hi1, hi2, rfl, hv, HE⟩ := hrel
    by_cases hd : i = 4
    · subst hd
      have hf := HE.out
      have HR : Aside0 (sgn ((bs s).drop a) = 4) := ⟨by
        have hl1 := (hf (4 - 1) (by omega) (by omega)).1
        rw [← HZ.out]
        exact sgn_all _ (by rw [HZ.out]; omega) (by rw [HZ.out, dr_len]; omega) (by rw [HC.out]; exact (hf 1 (by omega) (by omega)).2.1 rfl) (fun j h1 h2 => by rw [HZ.out] at h2; exact (hf j (by omega) h2).2.2 h1)⟩
      clear hf
      rcases hv with ⟨h1, rfl, rfl⟩ | ⟨h1, rfl, rfl⟩
      · exact absurd h1 (by omega)
      · clear h1
        go_wp2_with fail
        go_ret
        exact ⟨by rw [HR.out]; rfl, rfl⟩
    · by_cases hl : a + i < s.size
      · have hg := dr_get s a i hl
        obtain ⟨x, hx⟩ : ∃ x, ((bs s).drop a).getD i 0 = x := ⟨_, rfl⟩
        obtain ⟨q, hq⟩ : ∃ q, a + i = q := ⟨_, rfl⟩
        have hql : q < s.size := by omega
        have hxb : ((s[q].toNat : Nat) : Int) = (x : Int) := by subst hq; rw [← hx, hg]
        have hq2 : (a : Int) + (i : Int) = (q : Int) := by omega
        have hqi : (q : Int) < (s.size : Int) := by omega
        have HX := Aside0.mk hx
        have HQ := Aside0.mk hq
        have hil : (i : Int) < 4 := by omega
        clear hg hx hq
        rcases hv with ⟨h1, rfl, rfl⟩ | ⟨h1, rfl, rfl⟩
        · by_cases hlo : x < 144
          · have HR : Aside0 (sgn ((bs s).drop a) = 0) := ⟨sgn_sec _ (by rw [HZ.out]; omega) (by rw [HC.out]; have := HX.out; rw [h1] at this; rw [this]; exact HSN.out x (by omega))⟩
            have g1 : (x : Int) < 144 := by omega
            clear hlo h1
            go_wp2_with fail
            go_ret
            exact ⟨by rw [HR.out]; rfl, rfl⟩
          · by_cases hhi : 191 < x
            · have HR : Aside0 (sgn ((bs s).drop a) = 0) := ⟨sgn_sec _ (by rw [HZ.out]; omega) (by rw [HC.out]; have := HX.out; rw [h1] at this; rw [this]; exact HSN.out x (by omega))⟩
              have g1 : ¬ (x : Int) < 144 := by omega
              have g2 : (191 : Int) < (x : Int) := by omega
              clear hlo hhi h1
              go_wp2_with fail
              go_ret
              exact ⟨by rw [HR.out]; rfl, rfl⟩
            · have HN := Aside0.mk (HE.out.next (by have := HQ.out; omega) (fun _ => by have := HX.out; rw [h1] at this; rw [this]; exact (HS.out x).2 ⟨by omega, by omega⟩) (fun h => absurd h (by omega)))
              have g1 : ¬ (x : Int) < 144 := by omega
              have g2 : ¬ (191 : Int) < (x : Int) := by omega
              have H1 := Aside0.mk h1
              clear hlo hhi h1
              go_wp2_with fail
              go_round
              case rel => exact ⟨i + 1, by omega, by have := H1.out; omega, by go_num, .inr ⟨by omega, rfl, rfl⟩, HN⟩
              case measure => simp [intOf]; omega
        · by_cases hlo : x < 128
          · have HR : Aside0 (sgn ((bs s).drop a) = 0) := ⟨sgn_fol _ i h1 (by rw [HZ.out]; omega) (by rw [HX.out]; exact fol_no x (by omega))⟩
            have g1 : (x : Int) < 128 := by omega
            clear hlo
            go_wp2_with fail
            go_ret
            exact ⟨by rw [HR.out]; rfl, rfl⟩
          · by_cases hhi : 191 < x
            · have HR : Aside0 (sgn ((bs s).drop a) = 0) := ⟨sgn_fol _ i h1 (by rw [HZ.out]; omega) (by rw [HX.out]; exact fol_no x (by omega))⟩
              have g1 : ¬ (x : Int) < 128 := by omega
              have g2 : (191 : Int) < (x : Int) := by omega
              clear hlo hhi
              go_wp2_with fail
              go_ret
              exact ⟨by rw [HR.out]; rfl, rfl⟩
            · have HN := Aside0.mk (HE.out.next (by have := HQ.out; omega) (fun h => absurd h (by omega)) (fun _ => by rw [HX.out]; exact (fol_iff x).2 ⟨by omega, by omega⟩))
              have g1 : ¬ (x : Int) < 128 := by omega
              have g2 : ¬ (191 : Int) < (x : Int) := by omega
              clear hlo hhi
              go_wp2_with fail
              go_round
              case rel => exact ⟨i + 1, by omega, by omega, by go_num, .inr ⟨by omega, rfl, rfl⟩, HN⟩
              case measure => simp [intOf]; omega
      · have HR : Aside0 (sgn ((bs s).drop a) = 0) := ⟨sgn_short _ (by rw [HZ.out, dr_len]; omega)⟩
        have hil : (i : Int) < 4 := by omega
        have hge : (s.size : Int) ≤ (a : Int) + (i : Int) := by omega
        rcases hv with ⟨h1, rfl, rfl⟩ | ⟨h1, rfl, rfl⟩
        all_goals
          clear h1
          go_wp2_with fail
          go_ret
          exact ⟨by rw [HR.out]; rfl, rfl⟩
set_option maxHeartbeats 4000000 in
set_option maxRecDepth 100000 in
theorem rsign_h (s : ByteArray) (a c : Nat) (w : World) (hs : s.size ≤ 100000) (ha : a < s.size) (hc : ((bs s).drop a).getD 0 0 = c) (h : 240 < c) (h' : c < 244) :
    Calls Tryz.prog 101 #[.string s, .int .i64 (a : Int)] w (rsV s a w) := by
  have hb0 := dr_get s a 0 (by omega)
  have hbyte : ((s[a].toNat : Nat) : Int) = (c : Int) := by rw [hc] at hb0; simp only [Nat.add_zero] at hb0; rw [← hb0]
  have hlp : 0 < ((bs s).drop a).length := by rw [dr_len]; omega
  have hai : (a : Int) < (s.size : Int) := by omega
  have hz : szc (((bs s).drop a).getD 0 0) = 4 := by rw [hc]; unfold szc; (repeat' split) <;> omega
  have hsec : ∀ x, sec c x = true ↔ 128 ≤ x ∧ x ≤ 191 := by intro x; unfold sec fol; (repeat' split) <;> (try omega) <;> simp <;> omega
  have hsecN : ∀ x, ¬ (128 ≤ x ∧ x ≤ 191) → sec c x = false := fun x h => by cases hf : sec c x with | false => rfl | true => exact absurd ((hsec x).1 hf) h
  have HZ := Aside0.mk hz
  have HC := Aside0.mk hc
  have HS := Aside0.mk hsec
  have HSN := Aside0.mk hsecN
  have q0 : ¬ (c : Int) < 128 := by omega
  have q1 : (194 : Int) ≤ (c : Int) := by omega
  have q2 : ¬ (c : Int) ≤ 223 := by omega
  have q3 : (224 : Int) ≤ (c : Int) := by omega
  have q4 : ¬ (c : Int) ≤ 239 := by omega
  have q5 : (240 : Int) ≤ (c : Int) := by omega
  have q6 : (c : Int) ≤ 244 := by omega
  have n224 : ((c : Int) == 224) = false := by rw [beq_eq_false_iff_ne]; omega
  have n237 : ((c : Int) == 237) = false := by rw [beq_eq_false_iff_ne]; omega
  have n240 : ((c : Int) == 240) = false := by rw [beq_eq_false_iff_ne]; omega
  have n244 : ((c : Int) == 244) = false := by rw [beq_eq_false_iff_ne]; omega
  clear hz hb0 hc hlp hsec hsecN
  go_enter Tryz.func101, Tryz.ntmps101
  go_wp2_with fail
  go_loop [7, 8, 9] (fun v7 v8 v9 => ∃ i : Nat, 1 ≤ i ∧ i ≤ 4 ∧ v9 = .int .i64 (i : Int) ∧ ((i = 1 ∧ v7 = .int .u8 128 ∧ v8 = .int .u8 191) ∨ (2 ≤ i ∧ v7 = .int .u8 128 ∧ v8 = .int .u8 191)) ∧ Aside0 (Seen s a c i)) (fun _ _ v9 => 4 - (intOf v9).toNat)
  case atStart => exact ⟨1, by omega, by omega, rfl, .inl ⟨rfl, rfl, rfl⟩, ⟨fun j h1 h2 => absurd h2 (by omega)⟩⟩
  case round =>
    obtain ⟨i, hi1, hi2, rfl, hv, HE⟩ := hrel
    by_cases hd : i = 4
    · subst hd
      have hf := HE.out
      have HR : Aside0 (sgn ((bs s).drop a) = 4) := ⟨by
        have hl1 := (hf (4 - 1) (by omega) (by omega)).1
        rw [← HZ.out]
        exact sgn_all _ (by rw [HZ.out]; omega) (by rw [HZ.out, dr_len]; omega) (by rw [HC.out]; exact (hf 1 (by omega) (by omega)).2.1 rfl) (fun j h1 h2 => by rw [HZ.out] at h2; exact (hf j (by omega) h2).2.2 h1)⟩
      clear hf
      rcases hv with ⟨h1, rfl, rfl⟩ | ⟨h1, rfl, rfl⟩
      · exact absurd h1 (by omega)
      · clear h1
        go_wp2_with fail
        go_ret
        exact ⟨by rw [HR.out]; rfl, rfl⟩
    · by_cases hl : a + i < s.size
      · have hg := dr_get s a i hl
        obtain ⟨x, hx⟩ : ∃ x, ((bs s).drop a).getD i 0 = x := ⟨_, rfl⟩
        obtain ⟨q, hq⟩ : ∃ q, a + i = q := ⟨_, rfl⟩
        have hql : q < s.size := by omega
        have hxb : ((s[q].toNat : Nat) : Int) = (x : Int) := by subst hq; rw [← hx, hg]
        have hq2 : (a : Int) + (i : Int) = (q : Int) := by omega
        have hqi : (q : Int) < (s.size : Int) := by omega
        have HX := Aside0.mk hx
        have HQ := Aside0.mk hq
        have hil : (i : Int) < 4 := by omega
        clear hg hx hq
        rcases hv with ⟨h1, rfl, rfl⟩ | ⟨h1, rfl, rfl⟩
        · by_cases hlo : x < 128
          · have HR : Aside0 (sgn ((bs s).drop a) = 0) := ⟨sgn_sec _ (by rw [HZ.out]; omega) (by rw [HC.out]; have := HX.out; rw [h1] at this; rw [this]; exact HSN.out x (by omega))⟩
            have g1 : (x : Int) < 128 := by omega
            clear hlo h1
            go_wp2_with fail
            go_ret
            exact ⟨by rw [HR.out]; rfl, rfl⟩
          · by_cases hhi : 191 < x
            · have HR : Aside0 (sgn ((bs s).drop a) = 0) := ⟨sgn_sec _ (by rw [HZ.out]; omega) (by rw [HC.out]; have := HX.out; rw [h1] at this; rw [this]; exact HSN.out x (by omega))⟩
              have g1 : ¬ (x : Int) < 128 := by omega
              have g2 : (191 : Int) < (x : Int) := by omega
              clear hlo hhi h1
              go_wp2_with fail
              go_ret
              exact ⟨by rw [HR.out]; rfl, rfl⟩
            · have HN := Aside0.mk (HE.out.next (by have := HQ.out; omega) (fun _ => by have := HX.out; rw [h1] at this; rw [this]; exact (HS.out x).2 ⟨by omega, by omega⟩) (fun h => absurd h (by omega)))
              have g1 : ¬ (x : Int) < 128 := by omega
              have g2 : ¬ (191 : Int) < (x : Int) := by omega
              have H1 := Aside0.mk h1
              clear hlo hhi h1
              go_wp2_with fail
              go_round
              case rel => exact ⟨i + 1, by omega, by have := H1.out; omega, by go_num, .inr ⟨by omega, rfl, rfl⟩, HN⟩
              case measure => simp [intOf]; omega
        · by_cases hlo : x < 128
          · have HR : Aside0 (sgn ((bs s).drop a) = 0) := ⟨sgn_fol _ i h1 (by rw [HZ.out]; omega) (by rw [HX.out]; exact fol_no x (by omega))⟩
            have g1 : (x : Int) < 128 := by omega
            clear hlo
            go_wp2_with fail
            go_ret
            exact ⟨by rw [HR.out]; rfl, rfl⟩
          · by_cases hhi : 191 < x
            · have HR : Aside0 (sgn ((bs s).drop a) = 0) := ⟨sgn_fol _ i h1 (by rw [HZ.out]; omega) (by rw [HX.out]; exact fol_no x (by omega))⟩
              have g1 : ¬ (x : Int) < 128 := by omega
              have g2 : (191 : Int) < (x : Int) := by omega
              clear hlo hhi
              go_wp2_with fail
              go_ret
              exact ⟨by rw [HR.out]; rfl, rfl⟩
            · have HN := Aside0.mk (HE.out.next (by have := HQ.out; omega) (fun h => absurd h (by omega)) (fun _ => by rw [HX.out]; exact (fol_iff x).2 ⟨by omega, by omega⟩))
              have g1 : ¬ (x : Int) < 128 := by omega
              have g2 : ¬ (191 : Int) < (x : Int) := by omega
              clear hlo hhi
              go_wp2_with fail
              go_round
              case rel => exact ⟨i + 1, by omega, by omega, by go_num, .inr ⟨by omega, rfl, rfl⟩, HN⟩
              case measure => simp [intOf]; omega
      · have HR : Aside0 (sgn ((bs s).drop a) = 0) := ⟨sgn_short _ (by rw [HZ.out, dr_len]; omega)⟩
        have hil : (i : Int) < 4 := by omega
        have hge : (s.size : Int) ≤ (a : Int) + (i : Int) := by omega
        rcases hv with ⟨h1, rfl, rfl⟩ | ⟨h1, rfl, rfl⟩
        all_goals
          clear h1
          go_wp2_with fail
          go_ret
          exact ⟨by rw [HR.out]; rfl, rfl⟩
set_option maxHeartbeats 4000000 in
set_option maxRecDepth 100000 in
theorem rsign_i (s : ByteArray) (a c : Nat) (w : World) (hs : s.size ≤ 100000) (ha : a < s.size) (hc : ((bs s).drop a).getD 0 0 = c) (h : c = 244) :
    Calls Tryz.prog 101 #[.string s, .int .i64 (a : Int)] w (rsV s a w) := by
  have hb0 := dr_get s a 0 (by omega)
  have hbyte : ((s[a].toNat : Nat) : Int) = (c : Int) := by rw [hc] at hb0; simp only [Nat.add_zero] at hb0; rw [← hb0]
  have hlp : 0 < ((bs s).drop a).length := by rw [dr_len]; omega
  have hai : (a : Int) < (s.size : Int) := by omega
  have hz : szc (((bs s).drop a).getD 0 0) = 4 := by rw [hc]; unfold szc; (repeat' split) <;> omega
  have hsec : ∀ x, sec c x = true ↔ 128 ≤ x ∧ x ≤ 143 := by intro x; unfold sec fol; (repeat' split) <;> (try omega) <;> simp <;> omega
  have hsecN : ∀ x, ¬ (128 ≤ x ∧ x ≤ 143) → sec c x = false := fun x h => by cases hf : sec c x with | false => rfl | true => exact absurd ((hsec x).1 hf) h
  have HZ := Aside0.mk hz
  have HC := Aside0.mk hc
  have HS := Aside0.mk hsec
  have HSN := Aside0.mk hsecN
  have q0 : ¬ (c : Int) < 128 := by omega
  have q1 : (194 : Int) ≤ (c : Int) := by omega
  have q2 : ¬ (c : Int) ≤ 223 := by omega
  have q3 : (224 : Int) ≤ (c : Int) := by omega
  have q4 : ¬ (c : Int) ≤ 239 := by omega
  have q5 : (240 : Int) ≤ (c : Int) := by omega
  have q6 : (c : Int) ≤ 244 := by omega
  have n224 : ((c : Int) == 224) = false := by rw [beq_eq_false_iff_ne]; omega
  have n237 : ((c : Int) == 237) = false := by rw [beq_eq_false_iff_ne]; omega
  have n240 : ((c : Int) == 240) = false := by rw [beq_eq_false_iff_ne]; omega
  have e244 : ((c : Int) == 244) = true := by rw [beq_iff_eq]; omega
  clear hz hb0 hc hlp hsec hsecN
  go_enter Tryz.func101, Tryz.ntmps101
  go_wp2_with fail
  go_loop [7, 8, 9] (fun v7 v8 v9 => ∃ i : Nat, 1 ≤ i ∧ i ≤ 4 ∧ v9 = .int .i64 (i : Int) ∧ ((i = 1 ∧ v7 = .int .u8 128 ∧ v8 = .int .u8 143) ∨ (2 ≤ i ∧ v7 = .int .u8 128 ∧ v8 = .int .u8 191)) ∧ Aside0 (Seen s a c i)) (fun _ _ v9 => 4 - (intOf v9).toNat)
  case atStart => exact ⟨1, by omega, by omega, rfl, .inl ⟨rfl, rfl, rfl⟩, ⟨fun j h1 h2 => absurd h2 (by omega)⟩⟩
  case round =>
    obtain ⟨i, hi1, hi2, rfl, hv, HE⟩ := hrel
    by_cases hd : i = 4
    · subst hd
      have hf := HE.out
      have HR : Aside0 (sgn ((bs s).drop a) = 4) := ⟨by
        have hl1 := (hf (4 - 1) (by omega) (by omega)).1
        rw [← HZ.out]
        exact sgn_all _ (by rw [HZ.out]; omega) (by rw [HZ.out, dr_len]; omega) (by rw [HC.out]; exact (hf 1 (by omega) (by omega)).2.1 rfl) (fun j h1 h2 => by rw [HZ.out] at h2; exact (hf j (by omega) h2).2.2 h1)⟩
      clear hf
      rcases hv with ⟨h1, rfl, rfl⟩ | ⟨h1, rfl, rfl⟩
      · exact absurd h1 (by omega)
      · clear h1
        go_wp2_with fail
        go_ret
        exact ⟨by rw [HR.out]; rfl, rfl⟩
    · by_cases hl : a + i < s.size
      · have hg := dr_get s a i hl
        obtain ⟨x, hx⟩ : ∃ x, ((bs s).drop a).getD i 0 = x := ⟨_, rfl⟩
        obtain ⟨q, hq⟩ : ∃ q, a + i = q := ⟨_, rfl⟩
        have hql : q < s.size := by omega
        have hxb : ((s[q].toNat : Nat) : Int) = (x : Int) := by subst hq; rw [← hx, hg]
        have hq2 : (a : Int) + (i : Int) = (q : Int) := by omega
        have hqi : (q : Int) < (s.size : Int) := by omega
        have HX := Aside0.mk hx
        have HQ := Aside0.mk hq
        have hil : (i : Int) < 4 := by omega
        clear hg hx hq
        rcases hv with ⟨h1, rfl, rfl⟩ | ⟨h1, rfl, rfl⟩
        · by_cases hlo : x < 128
          · have HR : Aside0 (sgn ((bs s).drop a) = 0) := ⟨sgn_sec _ (by rw [HZ.out]; omega) (by rw [HC.out]; have := HX.out; rw [h1] at this; rw [this]; exact HSN.out x (by omega))⟩
            have g1 : (x : Int) < 128 := by omega
            clear hlo h1
            go_wp2_with fail
            go_ret
            exact ⟨by rw [HR.out]; rfl, rfl⟩
          · by_cases hhi : 143 < x
            · have HR : Aside0 (sgn ((bs s).drop a) = 0) := ⟨sgn_sec _ (by rw [HZ.out]; omega) (by rw [HC.out]; have := HX.out; rw [h1] at this; rw [this]; exact HSN.out x (by omega))⟩
              have g1 : ¬ (x : Int) < 128 := by omega
              have g2 : (143 : Int) < (x : Int) := by omega
              clear hlo hhi h1
              go_wp2_with fail
              go_ret
              exact ⟨by rw [HR.out]; rfl, rfl⟩
            · have HN := Aside0.mk (HE.out.next (by have := HQ.out; omega) (fun _ => by have := HX.out; rw [h1] at this; rw [this]; exact (HS.out x).2 ⟨by omega, by omega⟩) (fun h => absurd h (by omega)))
              have g1 : ¬ (x : Int) < 128 := by omega
              have g2 : ¬ (143 : Int) < (x : Int) := by omega
              have H1 := Aside0.mk h1
              clear hlo hhi h1
              go_wp2_with fail
              go_round
              case rel => exact ⟨i + 1, by omega, by have := H1.out; omega, by go_num, .inr ⟨by omega, rfl, rfl⟩, HN⟩
              case measure => simp [intOf]; omega
        · by_cases hlo : x < 128
          · have HR : Aside0 (sgn ((bs s).drop a) = 0) := ⟨sgn_fol _ i h1 (by rw [HZ.out]; omega) (by rw [HX.out]; exact fol_no x (by omega))⟩
            have g1 : (x : Int) < 128 := by omega
            clear hlo
            go_wp2_with fail
            go_ret
            exact ⟨by rw [HR.out]; rfl, rfl⟩
          · by_cases hhi : 191 < x
            · have HR : Aside0 (sgn ((bs s).drop a) = 0) := ⟨sgn_fol _ i h1 (by rw [HZ.out]; omega) (by rw [HX.out]; exact fol_no x (by omega))⟩
              have g1 : ¬ (x : Int) < 128 := by omega
              have g2 : (191 : Int) < (x : Int) := by omega
              clear hlo hhi
              go_wp2_with fail
              go_ret
              exact ⟨by rw [HR.out]; rfl, rfl⟩
            · have HN := Aside0.mk (HE.out.next (by have := HQ.out; omega) (fun h => absurd h (by omega)) (fun _ => by rw [HX.out]; exact (fol_iff x).2 ⟨by omega, by omega⟩))
              have g1 : ¬ (x : Int) < 128 := by omega
              have g2 : ¬ (191 : Int) < (x : Int) := by omega
              clear hlo hhi
              go_wp2_with fail
              go_round
              case rel => exact ⟨i + 1, by omega, by omega, by go_num, .inr ⟨by omega, rfl, rfl⟩, HN⟩
              case measure => simp [intOf]; omega
      · have HR : Aside0 (sgn ((bs s).drop a) = 0) := ⟨sgn_short _ (by rw [HZ.out, dr_len]; omega)⟩
        have hil : (i : Int) < 4 := by omega
        have hge : (s.size : Int) ≤ (a : Int) + (i : Int) := by omega
        rcases hv with ⟨h1, rfl, rfl⟩ | ⟨h1, rfl, rfl⟩
        all_goals
          clear h1
          go_wp2_with fail
          go_ret
          exact ⟨by rw [HR.out]; rfl, rfl⟩
end Go.Proofs.YtnghlkbmfhkmoaaGreatDoor
namespace Go.Proofs.YtnghlkbmfhkmoaaGreatDoor
open Go.RowKit Go.Proofs.YtnghlkbmfhkmoaaGreatDoorW.PrintWords Hy
theorem rsign_any (s : ByteArray) (a : Nat) (w : World) (hs : s.size ≤ 100000) (ha : a < s.size) : Calls Tryz.prog 101 #[.string s, .int .i64 (a : Int)] w (rsV s a w) := by
  obtain ⟨c, hc⟩ : ∃ c, ((bs s).drop a).getD 0 0 = c := ⟨_, rfl⟩
  by_cases h1 : c < 128
  · exact rsign_a s a c w hs ha hc h1
  · by_cases h2 : c < 194
    · exact rsign_b s a c w hs ha hc (by omega) h2
    · by_cases h3 : c ≤ 223
      · exact rsign_c s a c w hs ha hc (by omega) h3
      · by_cases h4 : c = 224
        · exact rsign_d s a c w hs ha hc h4
        · by_cases h5 : c = 237
          · exact rsign_f s a c w hs ha hc h5
          · by_cases h6 : c ≤ 239
            · exact rsign_e s a c w hs ha hc (by omega) h6 h5
            · by_cases h7 : c = 240
              · exact rsign_g s a c w hs ha hc h7
              · by_cases h8 : c < 244
                · exact rsign_h s a c w hs ha hc (by omega) h8
                · by_cases h9 : c = 244
                  · exact rsign_i s a c w hs ha hc h9
                  · exact rsign_z s a c w hs ha hc (by omega)
end Go.Proofs.YtnghlkbmfhkmoaaGreatDoor
namespace Go.Proofs.YtnghlkbmfhkmoaaGreatDoor
open Go.RowKit Go.Proofs.YtnghlkbmfhkmoaaGreatDoorW.PrintWords Hy
/-! ### the document's own Bad and Clip -/
def rbadV (s : ByteArray) (w : World) (e : Ending) (w' : World) : Prop := e = .returned (.int .i64 (badI (bs s))) ∧ w' = w
set_option maxHeartbeats 4000000 in
theorem rbad_any (s : ByteArray) (w : World) (hs : s.size ≤ 100000) : Calls Tryz.prog 82 #[.string s] w (rbadV s w) := by
  go_enter Tryz.func82, Tryz.ntmps82
  go_wp2
  go_loop [3] (fun v3 => ∃ a : Nat, v3 = .int .i64 (a : Int) ∧ a ≤ s.size ∧ Aside0 (whl (bs s) s.size = a + whl ((bs s).drop a) ((s.size : Int) - a))) (fun v3 => s.size - (intOf v3).toNat)
  case atStart => exact ⟨0, rfl, by omega, ⟨by simp⟩⟩
  case round =>
    obtain ⟨a, rfl, ha, HE⟩ := hrel
    by_cases hlt : a < s.size
    · have hlt2 : (a : Int) < (s.size : Int) := by omega
      have hA := fun w => rsign_any s a w hs hlt
      unfold rsV at hA
      obtain ⟨n, hn⟩ : ∃ n, sgn ((bs s).drop a) = n := ⟨_, rfl⟩
      have hle := sgn_le ((bs s).drop a)
      rw [List.length_drop, bs_length] at hle
      rw [hn] at hA hle
      by_cases h0 : n = 0
      · have HZ : Aside0 (badI (bs s) = a) := ⟨by
          have := HE.out
          rw [whl_stop ((bs s).drop a) _ (.inl (by rw [hn]; exact h0))] at this
          unfold badI; rw [bs_length, this, if_neg (by omega)]; rfl⟩
        have hb : ((n : Int) == 0) = true := by simp; omega
        subst h0
        clear HE hn hle
        go_wp2_with (go_at_call 101; refine (hA _).mono ?_; rintro e w1 ⟨rfl, hw1⟩; subst w1)
        go_ret
        exact ⟨by rw [HZ.out]; rfl, rfl⟩
      · have hb : ((n : Int) == 0) = false := by simp; omega
        have HE2 : Aside0 (whl (bs s) s.size = (a + n : Nat) + whl ((bs s).drop (a + n)) ((s.size : Int) - (a + n : Nat))) := ⟨by
          rw [HE.out, whl_go _ _ (by rw [hn]; exact h0) (by rw [hn]; omega), hn, List.drop_drop]
          rw [show (s.size : Int) - (a : Int) - (n : Int) = (s.size : Int) - ((a + n : Nat) : Int) by omega]; omega⟩
        have han : a + n ≤ s.size := by omega
        clear HE hn hle
        go_wp2_with (go_at_call 101; refine (hA _).mono ?_; rintro e w1 ⟨rfl, hw1⟩; subst w1)
        go_round
        case rel => exact ⟨a + n, by go_num, han, HE2⟩
        case measure => simp [intOf]; omega
    · obtain rfl : a = s.size := by omega
      have HZ : Aside0 (badI (bs s) = -1) := ⟨by
        have := HE.out
        rw [show (bs s).drop s.size = [] by rw [← bs_length, List.drop_length], whl_stop [] _ (.inl rfl)] at this
        unfold badI; rw [bs_length, this, Nat.add_zero, if_pos rfl]⟩
      clear HE hlt ha
      go_wp2
      go_ret
      exact ⟨by rw [HZ.out]; rfl, rfl⟩
end Go.Proofs.YtnghlkbmfhkmoaaGreatDoor
namespace Go.Proofs.YtnghlkbmfhkmoaaGreatDoor
open Go.RowKit Go.Proofs.YtnghlkbmfhkmoaaGreatDoorW.PrintWords Go.Proofs.YtnghlkbmfhkmoaaGreatDoorW.PrintLast Go.Proofs.YtnghlkbmfhkmoaaGreatDoorW.PrintMore Hy
open CExr
/-! ### the tables -/
theorem nat_b (t k : Nat) : ((t : Int) == (k : Int)) = (k == t) := by
  cases h : (k == t)
  · rw [beq_eq_false_iff_ne] at h ⊢; omega
  · rw [beq_iff_eq] at h ⊢; omega
theorem below_of_drawn {w w' : World} (h : Drawn0 w w') : Below w.heap.size w w' := by
  obtain ⟨n, rfl⟩ := h
  exact pw_below_drewN (Below.refl _ _) n
theorem exem_takes_eq (n t : Nat) : exem_takes.f 1 (n : Int) (t : Int) = some (tkn tbE n t) := by
  by_cases h2 : n = 2
  · subst h2
    have e : ((t : Int) == 1) = (1 == t) := nat_b t 1
    simp [exem_takes.f, exem_takes.j0, tkn, tbE, e]
  by_cases h3 : n = 3
  · subst h3
    have e : ((t : Int) == 1) = (1 == t) := nat_b t 1
    simp [exem_takes.f, exem_takes.j0, tkn, tbE, e]
  by_cases h4 : n = 4
  · subst h4
    have e : ((t : Int) == 2) = (2 == t) := nat_b t 2
    simp [exem_takes.f, exem_takes.j0, tkn, tbE, e]
  by_cases h5 : n = 5
  · subst h5
    have e : ((t : Int) == 2) = (2 == t) := nat_b t 2
    simp [exem_takes.f, exem_takes.j0, tkn, tbE, e]
  by_cases h6 : n = 6
  · subst h6
    have e : ((t : Int) == 1) = (1 == t) := nat_b t 1
    simp [exem_takes.f, exem_takes.j0, tkn, tbE, e]
  by_cases h7 : n = 7
  · subst h7
    have e : ((t : Int) == 2) = (2 == t) := nat_b t 2
    simp [exem_takes.f, exem_takes.j0, tkn, tbE, e]
  have i2 : ¬ (n : Int) = 2 := by omega
  have j2 : ((n : Int) == 2) = false := by rw [beq_eq_false_iff_ne]; exact i2
  have m2 : ¬ 2 = n := by omega
  have i3 : ¬ (n : Int) = 3 := by omega
  have j3 : ((n : Int) == 3) = false := by rw [beq_eq_false_iff_ne]; exact i3
  have m3 : ¬ 3 = n := by omega
  have i4 : ¬ (n : Int) = 4 := by omega
  have j4 : ((n : Int) == 4) = false := by rw [beq_eq_false_iff_ne]; exact i4
  have m4 : ¬ 4 = n := by omega
  have i5 : ¬ (n : Int) = 5 := by omega
  have j5 : ((n : Int) == 5) = false := by rw [beq_eq_false_iff_ne]; exact i5
  have m5 : ¬ 5 = n := by omega
  have i6 : ¬ (n : Int) = 6 := by omega
  have j6 : ((n : Int) == 6) = false := by rw [beq_eq_false_iff_ne]; exact i6
  have m6 : ¬ 6 = n := by omega
  have i7 : ¬ (n : Int) = 7 := by omega
  have j7 : ((n : Int) == 7) = false := by rw [beq_eq_false_iff_ne]; exact i7
  have m7 : ¬ 7 = n := by omega
  simp [exem_takes.f, exem_takes.j0, tkn, tbE, i2, m2, i3, m3, i4, m4, i5, m5, j6, m6, i7, m7]
theorem exem_takes_at (n t : Nat) (w : World) : Calls Tryz.prog 31 #[.int .i64 (n : Int), .int .i64 (t : Int)] w fun e w' => e = .returned (.bool (tkn tbE n t)) ∧ Below w.heap.size w w' :=
  (exem_takes.calls 1 _ _ _ w (exem_takes_eq n t)).mono fun _ _ ⟨h1, h2⟩ => ⟨h1, below_of_drawn h2⟩
theorem hygref8_exemplars_at (w : World) : Calls Tryz.prog 20 #[] w fun e w' => ∃ A c, e = .returned (.slice A tbE.length c) ∧ Kd.C (Kd.int .i64) w' A tbE.length (tbE.map fun (x : Nat) => (x : Int)) ∧ tbE.length ≤ c ∧ Below w.heap.size w w' := by
  refine (hygref8_exemplars.calls _ w rfl).mono ?_
  rintro e w' ⟨v, rfl, hr, hb⟩
  obtain ⟨A, c, rfl, hl, hc⟩ := Kd.R_reads hr
  exact ⟨A, c, rfl, hc, hl, hb⟩
theorem value_takes_eq (n t : Nat) : value_takes.f 2 (n : Int) (t : Int) = some (tkn tbV n t) := by
  by_cases h1 : n = 1
  · subst h1
    have e : ((t : Int) == 2) = (2 == t) := nat_b t 2
    simp [value_takes.f, value_takes.j0, tkn, tbV, e]
  by_cases h2 : n = 2
  · subst h2
    have e : ((t : Int) == 0) = (0 == t) := nat_b t 0
    simp [value_takes.f, value_takes.j0, value_takes.j1, tkn, tbV, e]
  by_cases h3 : n = 3
  · subst h3
    have e : ((t : Int) == 0) = (0 == t) := nat_b t 0
    simp [value_takes.f, value_takes.j0, value_takes.j1, tkn, tbV, e]
  by_cases h4 : n = 4
  · subst h4
    have e : ((t : Int) == 1) = (1 == t) := nat_b t 1
    simp [value_takes.f, value_takes.j0, value_takes.j1, tkn, tbV, e]
  by_cases h5 : n = 5
  · subst h5
    have e : ((t : Int) == 2) = (2 == t) := nat_b t 2
    simp [value_takes.f, value_takes.j0, tkn, tbV, e]
  by_cases h6 : n = 6
  · subst h6
    have e : ((t : Int) == 2) = (2 == t) := nat_b t 2
    simp [value_takes.f, value_takes.j0, tkn, tbV, e]
  by_cases h7 : n = 7
  · subst h7
    have e : ((t : Int) == 2) = (2 == t) := nat_b t 2
    simp [value_takes.f, value_takes.j0, tkn, tbV, e]
  have i1 : ¬ (n : Int) = 1 := by omega
  have j1 : ((n : Int) == 1) = false := by rw [beq_eq_false_iff_ne]; exact i1
  have m1 : ¬ 1 = n := by omega
  have i2 : ¬ (n : Int) = 2 := by omega
  have j2 : ((n : Int) == 2) = false := by rw [beq_eq_false_iff_ne]; exact i2
  have m2 : ¬ 2 = n := by omega
  have i3 : ¬ (n : Int) = 3 := by omega
  have j3 : ((n : Int) == 3) = false := by rw [beq_eq_false_iff_ne]; exact i3
  have m3 : ¬ 3 = n := by omega
  have i4 : ¬ (n : Int) = 4 := by omega
  have j4 : ((n : Int) == 4) = false := by rw [beq_eq_false_iff_ne]; exact i4
  have m4 : ¬ 4 = n := by omega
  have i5 : ¬ (n : Int) = 5 := by omega
  have j5 : ((n : Int) == 5) = false := by rw [beq_eq_false_iff_ne]; exact i5
  have m5 : ¬ 5 = n := by omega
  have i6 : ¬ (n : Int) = 6 := by omega
  have j6 : ((n : Int) == 6) = false := by rw [beq_eq_false_iff_ne]; exact i6
  have m6 : ¬ 6 = n := by omega
  have i7 : ¬ (n : Int) = 7 := by omega
  have j7 : ((n : Int) == 7) = false := by rw [beq_eq_false_iff_ne]; exact i7
  have m7 : ¬ 7 = n := by omega
  simp [value_takes.f, value_takes.j0, value_takes.j1, tkn, tbV, i1, m1, i2, m2, j3, m3, i4, m4, i5, m5, i6, m6, j7, m7]
theorem value_takes_at (n t : Nat) (w : World) : Calls Tryz.prog 91 #[.int .i64 (n : Int), .int .i64 (t : Int)] w fun e w' => e = .returned (.bool (tkn tbV n t)) ∧ Below w.heap.size w w' :=
  (value_takes.calls 2 _ _ _ w (value_takes_eq n t)).mono fun _ _ ⟨h1, h2⟩ => ⟨h1, below_of_drawn h2⟩
theorem hygref8_values_at (w : World) : Calls Tryz.prog 83 #[] w fun e w' => ∃ A c, e = .returned (.slice A tbV.length c) ∧ Kd.C (Kd.int .i64) w' A tbV.length (tbV.map fun (x : Nat) => (x : Int)) ∧ tbV.length ≤ c ∧ Below w.heap.size w w' := by
  refine (hygref8_values.calls _ w rfl).mono ?_
  rintro e w' ⟨v, rfl, hr, hb⟩
  obtain ⟨A, c, rfl, hl, hc⟩ := Kd.R_reads hr
  exact ⟨A, c, rfl, hc, hl, hb⟩
theorem value_takesKey_eq (n t : Nat) : value_takesKey.f (n : Int) (t : Int) = some (tkn tbK n t) := by
  by_cases h1 : n = 1
  · subst h1
    have e : ((t : Int) == 2) = (2 == t) := nat_b t 2
    simp [value_takesKey.f, tkn, tbK, e]
  by_cases h2 : n = 2
  · subst h2
    have e : ((t : Int) == 2) = (2 == t) := nat_b t 2
    simp [value_takesKey.f, tkn, tbK, e]
  have i1 : ¬ (n : Int) = 1 := by omega
  have j1 : ((n : Int) == 1) = false := by rw [beq_eq_false_iff_ne]; exact i1
  have m1 : ¬ 1 = n := by omega
  have i2 : ¬ (n : Int) = 2 := by omega
  have j2 : ((n : Int) == 2) = false := by rw [beq_eq_false_iff_ne]; exact i2
  have m2 : ¬ 2 = n := by omega
  simp [value_takesKey.f, tkn, tbK, i1, m1, i2, m2]
theorem value_takesKey_at (n t : Nat) (w : World) : Calls Tryz.prog 71 #[.int .i64 (n : Int), .int .i64 (t : Int)] w fun e w' => e = .returned (.bool (tkn tbK n t)) ∧ Below w.heap.size w w' :=
  (value_takesKey.calls _ _ _ w (value_takesKey_eq n t)).mono fun _ _ ⟨h1, h2⟩ => ⟨h1, below_of_drawn h2⟩
theorem hygref8_pairs_at (w : World) : Calls Tryz.prog 65 #[] w fun e w' => ∃ A c, e = .returned (.slice A tbK.length c) ∧ Kd.C (Kd.int .i64) w' A tbK.length (tbK.map fun (x : Nat) => (x : Int)) ∧ tbK.length ≤ c ∧ Below w.heap.size w w' := by
  refine (hygref8_pairs.calls _ w rfl).mono ?_
  rintro e w' ⟨v, rfl, hr, hb⟩
  obtain ⟨A, c, rfl, hl, hc⟩ := Kd.R_reads hr
  exact ⟨A, c, rfl, hc, hl, hb⟩
theorem value_lone_eq (n t : Nat) : value_lone.f (n : Int) (t : Int) = some (tkn tbL n t) := by
  by_cases h1 : n = 1
  · subst h1
    have e : ((t : Int) == 2) = (2 == t) := nat_b t 2
    simp [value_lone.f, tkn, tbL, e]
  have i1 : ¬ (n : Int) = 1 := by omega
  have j1 : ((n : Int) == 1) = false := by rw [beq_eq_false_iff_ne]; exact i1
  have m1 : ¬ 1 = n := by omega
  simp [value_lone.f, tkn, tbL, i1, m1]
theorem value_lone_at (n t : Nat) (w : World) : Calls Tryz.prog 92 #[.int .i64 (n : Int), .int .i64 (t : Int)] w fun e w' => e = .returned (.bool (tkn tbL n t)) ∧ Below w.heap.size w w' :=
  (value_lone.calls _ _ _ w (value_lone_eq n t)).mono fun _ _ ⟨h1, h2⟩ => ⟨h1, below_of_drawn h2⟩
theorem hygref8_lists_at (w : World) : Calls Tryz.prog 84 #[] w fun e w' => ∃ A c, e = .returned (.slice A tbL.length c) ∧ Kd.C (Kd.int .i64) w' A tbL.length (tbL.map fun (x : Nat) => (x : Int)) ∧ tbL.length ≤ c ∧ Below w.heap.size w w' := by
  refine (hygref8_lists.calls _ w rfl).mono ?_
  rintro e w' ⟨v, rfl, hr, hb⟩
  obtain ⟨A, c, rfl, hl, hc⟩ := Kd.R_reads hr
  exact ⟨A, c, rfl, hc, hl, hb⟩
/-! ### hygref8.Takes, Text -/
theorem takes_l0 (T : List Nat) (hT : T.length ≤ 100) (hk : ∀ k ∈ T, k ≤ 1000) (n t : Nat) (N : Int) (S raw : ByteArray) : ∀ (d i k : Nat), i + d = T.length → d < k →
    hygref8_Takes.l0 k (T.map fun (x : Nat) => (x : Int)) (i : Int) (n : Int) (t : Int) N S raw = some (tkn (T.drop i) n t) := by
  intro d
  induction d with
  | zero =>
    intro i k hi hk
    obtain ⟨k, rfl⟩ : ∃ m, k = m + 1 := ⟨k - 1, by omega⟩
    rw [hygref8_Takes.l0, if_neg (by rw [List.length_map]; omega), List.drop_of_length_le (by omega)]
    rfl
  | succ d ih =>
    intro i k hi hkd
    obtain ⟨k, rfl⟩ : ∃ m, k = m + 1 := ⟨k - 1, by omega⟩
    have hlt : i < T.length := by omega
    have h := ih (i + 1) k (by omega) (by omega)
    have e1 : wrap64 ((i : Int) + 1) = ((i + 1 : Nat) : Int) := by unfold wrap64; omega
    have er : rd (T.map fun (x : Nat) => (x : Int)) (i : Int) = (T[i] : Int) := by
      unfold rd
      rw [Int.toNat_natCast, List.getD_eq_getElem?_getD, List.getElem?_map, List.getElem?_eq_getElem hlt]
      rfl
    have hb := hk T[i] (List.getElem_mem hlt)
    have e2 : wrap64 (Int.tdiv (T[i] : Int) 8) = ((T[i] / 8 : Nat) : Int) := by
      rw [show Int.tdiv (T[i] : Int) 8 = ((T[i] / 8 : Nat) : Int) from rfl]; unfold wrap64; omega
    have e3 : Int.tmod (T[i] : Int) 8 = ((T[i] % 8 : Nat) : Int) := rfl
    have hd : tkn (T.drop i) n t = ((T[i] / 8 == n && T[i] % 8 == t) || tkn (T.drop (i + 1)) n t) := by
      unfold tkn
      rw [List.drop_eq_getElem_cons hlt, List.any_cons]
    rw [hygref8_Takes.l0, if_pos (by rw [List.length_map]; omega), if_pos (by omega), er, e2, e3, e1, h, hd]
    by_cases h1 : T[i] / 8 = n
    · rw [if_pos (by omega)]
      by_cases h2 : T[i] % 8 = t
      · rw [if_pos (by omega), beq_iff_eq.2 h1, beq_iff_eq.2 h2]; rfl
      · rw [if_neg (by omega), beq_eq_false_iff_ne.2 h2, Bool.and_false, Bool.false_or]
    · rw [if_neg (by omega), beq_eq_false_iff_ne.2 h1, Bool.false_and, Bool.false_or]
theorem takes_at (T : List Nat) (hT : T.length ≤ 100) (hk : ∀ k ∈ T, k ≤ 1000) (A : Option Addr) (c : Nat) (R : RecL) (w : World) (hA : Kd.C (Kd.int .i64) w A T.length (T.map fun (x : Nat) => (x : Int))) (hc : T.length ≤ c) :
    Calls Tryz.prog 45 #[.slice A T.length c, .agg (recC R).toArray] w fun e w' => e = .returned (.bool (tkn T R.num R.type)) ∧ Below w.heap.size w w' := by
  have h := hygref8_Takes.calls (T.length + 1) A c (T.map fun (x : Nat) => (x : Int)) R.num R.type R.n (st R.s) (st R.raw) (tkn T R.num R.type) w (by rw [List.length_map]; exact hA) (by rw [List.length_map]; exact hc) (takes_l0 T hT hk _ _ _ _ _ T.length 0 _ (by omega) (by omega))
  rw [List.length_map] at h
  exact h
theorem text_at (s : ByteArray) (w : World) (hs : s.size ≤ 100000) : Calls Tryz.prog 64 #[.string s] w fun e w' => e = .returned (.bool (vld (bs s))) ∧ Below w.heap.size w w' := by
  have H := Aside0.mk (rbad_any s w hs)
  have hv : vld (bs s) = decide (badI (bs s) < 0) := by
    unfold vld badI
    by_cases h : whl (bs s) (bs s).length = (bs s).length
    · rw [if_pos h, decide_eq_true h]; rfl
    · rw [if_neg h, decide_eq_false h, decide_eq_false (by omega)]
  rw [hv]
  clear hv hs
  unfold rbadV at H
  generalize badI (bs s) = q at *
  go_enter Tryz.func64, Tryz.ntmps64
  go_wp2_with (go_at_call 82; with_reducible refine H.out.mono ?_; rintro e w2 ⟨rfl, rfl⟩)
  go_ret
  exact ⟨rfl, Below.refl _ _⟩
/-! ### hygref8.Fields -/
theorem fields_at (s : ByteArray) (d : Int) (w : World) (hs : s.size ≤ 100000) (hd : 0 ≤ d) (hd1 : d < 9223372036854775808) : Calls Tryz.prog 44 #[.string s, .int .i64 d] w (AllR s d w) := by
  have H := Aside0.mk (rall_any w s d hs hd1)
  clear hs hd1
  go_enter Tryz.func44, Tryz.ntmps44
  go_wp2_with fail
  refine H.out.mono ?_
  rintro e w2 (⟨L, A, c, hL, rfl, hC, hc, hb⟩ | ⟨hN, rfl, hb⟩)
  · have G := Aside0.mk (show AllR s d w (.returned (.tuple #[.slice A L.length c, .bool true])) w2 from .inl ⟨L, A, c, hL, rfl, hC, hc, hb⟩)
    clear hL hC hc hb H
    go_wp2_with fail
    go_ret2
    exact G.out
  · have G := Aside0.mk (show AllR s d w (.returned (.tuple #[.slice none 0 0, .bool false])) w2 from .inr ⟨hN, rfl, hb⟩)
    clear hN hb H
    go_wp2_with fail
    go_ret2
    exact G.out
theorem fields_low (s : ByteArray) (d : Int) (w : World) (hd : d < 0) : Calls Tryz.prog 44 #[.string s, .int .i64 d] w fun e w' => e = .returned (.tuple #[.slice none 0 0, .bool false]) ∧ w' = w := by
  go_enter Tryz.func44, Tryz.ntmps44
  go_wp2_with fail
  go_ret2
  exact ⟨rfl, rfl⟩
end Go.Proofs.YtnghlkbmfhkmoaaGreatDoor
namespace Go.Proofs.YtnghlkbmfhkmoaaGreatDoor
open Go.RowKit Go.Proofs.YtnghlkbmfhkmoaaGreatDoorW.PrintWords Go.Proofs.YtnghlkbmfhkmoaaGreatDoorW.PrintLast Go.Proofs.YtnghlkbmfhkmoaaGreatDoorW.PrintMore Hy
/-! ### rows of records, read -/
structure RecC (w : World) (ad : Addr) (i : Nat) (n t N : Int) (S raw : ByteArray) : Prop where
  c0 : w.cell? (ad.add (i * 5)) = some (.int .i64 n)
  c1 : w.cell? ⟨(ad.add (i * 5)).block, (ad.add (i * 5)).off + 1, none⟩ = some (.int .i64 t)
  c2 : w.cell? ⟨(ad.add (i * 5)).block, (ad.add (i * 5)).off + 2, none⟩ = some (.int .u64 N)
  c3 : w.cell? ⟨(ad.add (i * 5)).block, (ad.add (i * 5)).off + 3, none⟩ = some (.string S)
  c4 : w.cell? ⟨(ad.add (i * 5)).block, (ad.add (i * 5)).off + 4, none⟩ = some (.string raw)
theorem recCells {w : World} {A : Option Addr} {L : List RecL} (h : Kd.C Rc w A L.length L) (j : Nat) (hj : j < L.length) : ∃ ad, A = some ad ∧ RecC w ad j (L[j].num : Int) (L[j].type : Int) (L[j].n : Int) (st L[j].s) (st L[j].raw) := by
  obtain ⟨ad, e, hc⟩ := h.2.2 (by omega)
  obtain ⟨c, hs, hr, hcell⟩ := hc j _ (List.getElem?_eq_getElem hj)
  refine ⟨ad, e, ?_⟩
  have hr' : c = recC L[j] := hr.1
  rw [rc_sz] at hcell
  have e2 : (ad.add (j * 5)).block = ad.block ∧ (ad.add (j * 5)).off = ad.off + j * 5 := by unfold Addr.add; split <;> simp_all
  have at_ : ∀ k v, c[k + 1]? = some v → w.cell? ⟨(ad.add (j * 5)).block, (ad.add (j * 5)).off + (k + 1), none⟩ = some v := by
    intro k v hv
    have h4 := hcell (k + 1) _ hv
    rw [show j * 5 + (k + 1) = (j * 5 + k) + 1 by omega, Addr.add_succ'] at h4
    rw [e2.1, e2.2, show ad.off + j * 5 + (k + 1) = ad.off + (j * 5 + k + 1) by omega]
    exact h4
  exact ⟨hcell 0 _ (by rw [hr']; rfl), at_ 0 _ (by rw [hr']; rfl), at_ 1 _ (by rw [hr']; rfl), at_ 2 _ (by rw [hr']; rfl), at_ 3 _ (by rw [hr']; rfl)⟩
theorem recAll {w : World} {ad : Addr} {i : Nat} {R : RecL} (h : RecC w ad i (R.num : Int) (R.type : Int) (R.n : Int) (st R.s) (st R.raw)) : ∀ j v, (recC R)[j]? = some v → w.cell? ((ad.add (i * 5)).add j) = some v := by
  intro j v hv
  rcases j with _ | _ | _ | _ | _ | j
  · rw [add_0]; rw [h.c0]; exact hv
  · rw [add_at]; rw [h.c1]; exact hv
  · rw [add_at]; rw [h.c2]; exact hv
  · rw [add_at]; rw [h.c3]; exact hv
  · rw [add_at]; rw [h.c4]; exact hv
  · cases hv
theorem allL_len : ∀ (f d : Nat) (b : List Nat) (L : List RecL), allL f d b = some L → L.length ≤ b.length := by
  intro f
  induction f with
  | zero => intro d b L h; cases h
  | succ f ih =>
    intro d b L h
    simp only [allL] at h
    by_cases hb : b = []
    · rw [if_pos hb] at h; cases h; exact Nat.zero_le _
    · rw [if_neg hb] at h
      cases hr : recL d b with
      | none => rw [hr] at h; cases h
      | some x =>
        obtain ⟨R, k⟩ := x
        have hk := recL_le hr
        rw [hr] at h
        simp only at h
        cases ha : allL f d (b.drop k) with
        | none => rw [ha] at h; cases h
        | some l =>
          rw [ha] at h
          simp only [Option.some.injEq] at h
          subst h
          have := ih _ _ _ ha
          rw [List.length_drop] at this
          rw [List.length_cons]
          omega
theorem recsL_len {d : Nat} {s : ByteArray} {L : List RecL} (h : recsL d (bs s) = some L) : L.length ≤ s.size := by
  have := allL_len _ _ _ _ h
  rw [bs_length] at this
  exact this
theorem all_next {α : Type} {p : α → Bool} {l : List α} {i : Nat} (hl : i < l.length) (h : (l.take i).all p = true) (hp : p l[i] = true) : (l.take (i + 1)).all p = true := by
  rw [List.take_add_one, List.getElem?_eq_getElem hl, List.all_append, h]
  simp [hp]
theorem all_none {α : Type} {p : α → Bool} {l : List α} {i : Nat} (hl : i < l.length) (hp : p l[i] = false) : l.all p = false := by
  rw [List.all_eq_false]
  exact ⟨l[i], List.getElem_mem hl, by rw [hp]; decide⟩
noncomputable def zeroR : Value := ((Tryz.prog.info? 91).bind (·.zero)).getD undef
noncomputable def zcR : Array Value := zeroR.cells
theorem zcR_sz : zcR.size = 5 := by kernel_rfl
theorem recC_all (x : RecL) : (recC x).toArray.all (·.oneCell') = true := Array.all_eq_true_iff_forall_mem.2 (fun v hv => recC_one x v (by simpa using hv))
set_option maxHeartbeats 4000000 in
set_option maxRecDepth 100000 in
theorem rest_E (w : World) (s : ByteArray) (d : Int) (hs : s.size ≤ 100000) (hd : 0 ≤ d) (hd1 : d < 9223372036854775808) :
    Calls Tryz.prog 30 #[.string s, .int .i64 d, .func (.func 31) #[] #[]] w fun e w' => e = .returned (.bool (restB tbE d s)) ∧ Below w.heap.size w w' := by
  have H := Aside0.mk (wall_any w s d hs (by omega) hd1)
  clear hd hd1
  go_enter Tryz.func30, Tryz.ntmps30
  go_wp2_with fail
  refine H.out.mono ?_
  rintro e w2 (⟨L, A, c, hL, rfl, hC, hc, hb⟩ | ⟨hN, T, v, E, rfl, hE, hwe, hb⟩)
  · have hr : restB tbE d s = L.all fun R => !tkn tbE R.num R.type := by unfold restB; rw [hL]
    have hlm : L.length ≤ 100000 := Nat.le_trans (recsL_len hL) hs
    have HR := Aside0.mk hr
    have HB := Aside0.mk hb
    have HC := Aside0.mk hC
    clear hL hC hc hb H hr hs
    go_wp2_with fail
    go_loopw [19] (fun v19 w' => ∃ i : Nat, v19 = .int .i64 (i : Int) ∧ i ≤ L.length ∧ Aside0 ((L.take i).all (fun R => !tkn tbE R.num R.type) = true) ∧ Aside0 (Kd.C Rc w' A L.length L) ∧ Aside0 (Below w.heap.size w w')) (fun v19 _ => L.length - (intOf v19).toNat)
    case atStart => exact ⟨0, rfl, Nat.zero_le _, ⟨rfl⟩, HC, HB⟩
    case round =>
      clear HB HC
      obtain ⟨i, rfl, hi, HA, HC, HB⟩ := hrel
      by_cases hlt : i < L.length
      · obtain ⟨ad, rfl, hrc⟩ := recCells HC.out i hlt
        have HPX := Aside0.mk (recAll hrc)
        have HN := Aside0.mk (fun hp : (!tkn tbE L[i].num L[i].type) = true => all_next hlt HA.out hp)
        have HM := Aside0.mk (fun hp : (!tkn tbE L[i].num L[i].type) = false => all_none (p := fun R => !tkn tbE R.num R.type) hlt hp)
        generalize L[i] = R at *
        have HKY := Aside0.mk (fun w2 => exem_takes_at R.num R.type w2)
        generalize tkn tbE R.num R.type = q at *
        have HBr := HB
        clear HB HA hrc
        have c1 : (i : Int) < (L.length : Int) := by omega
        have c2 : (0 : Int) ≤ (i : Int) := by omega
        go_upto_region 5 with (first
          | ((with_reducible refine gate_dst (N := 22) rfl ?_); refine wpList_load_at rfl 91 _ rfl (ad.add (i * 5)) rfl (recC R) HPX.out Tryz.underlying91 rfl (by kernel_rfl) ?_)
          | ((with_reducible refine gate_dst (N := 10) rfl ?_); refine wpList_allocZ rfl 91 rfl zcR zeroR (by kernel_rfl) rfl ?_)
          | (refine wpList_store_row rfl 91 _ _ rfl wr.heap.size (recC R).toArray rfl rfl 91 zcR (heap_alloc_new wr _) (by kernel_rfl) zcR_sz (recC_all _) ?_))
        have hB1 : Below wr.heap.size wr ((wr.alloc (.cells zcR 91)).setRow wr.heap.size (recC R).toArray) := below_copy (Below.refl _ _) _ _
        have H1 := Aside0.mk (show XW ((wr.alloc (.cells zcR 91)).setRow wr.heap.size (recC R).toArray) wr.heap.size (R.num : Int) (R.type : Int) (R.n : Int) (st R.s) (st R.raw) from copy_at _ _ _)
        have HC1 := Aside0.mk (Kd.C_below HC.out hB1)
        generalize (wr.alloc (.cells zcR 91)).setRow wr.heap.size (recC R).toArray = w2 at *
        generalize hp1 : wr.heap.size = p1 at H1 ⊢
        clear hp1
        have HB := Aside0.mk (below_next HBr.out hB1)
        have x0 := H1.out.c0
        have x1 := H1.out.c1
        clear hB1 HC HPX HBr
        cases q
        · go_wp2_with (go_at_call 31; with_reducible refine (HKY.out _).mono ?_; rintro e w4 ⟨rfl, hb⟩; have HCn := Aside0.mk (Kd.C_below HC1.out hb); have HBn := Aside0.mk (below_next HB.out hb); clear HB HC1 hb x0 x1 H1; have HB := HBn; have HC1 := HCn; clear HBn HCn)
          go_roundw
          case rel => exact ⟨i + 1, by go_num, by omega, ⟨HN.out rfl⟩, HC1, HB⟩
          case measure => simp [intOf]; omega
        · go_wp2_with (go_at_call 31; with_reducible refine (HKY.out _).mono ?_; rintro e w4 ⟨rfl, hb⟩; have HBn := Aside0.mk (below_next HB.out hb); clear HB hb x0 x1 H1 HC1; have HB := HBn; clear HBn)
          go_ret
          exact ⟨by rw [HR.out, HM.out rfl]; rfl, HB.out⟩
      · have hr : (L.all fun R => !tkn tbE R.num R.type) = true := by have h := HA.out; rw [List.take_of_length_le (by omega)] at h; exact h
        have HR2 := Aside0.mk hr
        clear hr
        go_wp2_with fail
        go_ret
        exact ⟨by rw [HR.out, HR2.out]; rfl, HB.out⟩
  · have hr : restB tbE d s = false := by unfold restB; rw [hN]
    have HR := Aside0.mk hr
    have HB := Aside0.mk hb
    clear hN hE hwe hb H hr hs
    go_wp2_with fail
    go_loopw [19] (fun v19 w' => v19 = .int .i64 0 ∧ Aside0 (Below w.heap.size w w')) (fun _ _ => 0)
    case atStart => exact ⟨rfl, HB⟩
    case round =>
      clear HB
      obtain ⟨rfl, HB⟩ := hrel
      go_wp2_with fail
      go_ret
      exact ⟨by rw [HR.out]; rfl, HB.out⟩
set_option maxHeartbeats 4000000 in
set_option maxRecDepth 100000 in
theorem rest_V (w : World) (s : ByteArray) (d : Int) (hs : s.size ≤ 100000) (hd : 0 ≤ d) (hd1 : d < 9223372036854775808) :
    Calls Tryz.prog 30 #[.string s, .int .i64 d, .func (.func 91) #[] #[]] w fun e w' => e = .returned (.bool (restB tbV d s)) ∧ Below w.heap.size w w' := by
  have H := Aside0.mk (wall_any w s d hs (by omega) hd1)
  clear hd hd1
  go_enter Tryz.func30, Tryz.ntmps30
  go_wp2_with fail
  refine H.out.mono ?_
  rintro e w2 (⟨L, A, c, hL, rfl, hC, hc, hb⟩ | ⟨hN, T, v, E, rfl, hE, hwe, hb⟩)
  · have hr : restB tbV d s = L.all fun R => !tkn tbV R.num R.type := by unfold restB; rw [hL]
    have hlm : L.length ≤ 100000 := Nat.le_trans (recsL_len hL) hs
    have HR := Aside0.mk hr
    have HB := Aside0.mk hb
    have HC := Aside0.mk hC
    clear hL hC hc hb H hr hs
    go_wp2_with fail
    go_loopw [19] (fun v19 w' => ∃ i : Nat, v19 = .int .i64 (i : Int) ∧ i ≤ L.length ∧ Aside0 ((L.take i).all (fun R => !tkn tbV R.num R.type) = true) ∧ Aside0 (Kd.C Rc w' A L.length L) ∧ Aside0 (Below w.heap.size w w')) (fun v19 _ => L.length - (intOf v19).toNat)
    case atStart => exact ⟨0, rfl, Nat.zero_le _, ⟨rfl⟩, HC, HB⟩
    case round =>
      clear HB HC
      obtain ⟨i, rfl, hi, HA, HC, HB⟩ := hrel
      by_cases hlt : i < L.length
      · obtain ⟨ad, rfl, hrc⟩ := recCells HC.out i hlt
        have HPX := Aside0.mk (recAll hrc)
        have HN := Aside0.mk (fun hp : (!tkn tbV L[i].num L[i].type) = true => all_next hlt HA.out hp)
        have HM := Aside0.mk (fun hp : (!tkn tbV L[i].num L[i].type) = false => all_none (p := fun R => !tkn tbV R.num R.type) hlt hp)
        generalize L[i] = R at *
        have HKY := Aside0.mk (fun w2 => value_takes_at R.num R.type w2)
        generalize tkn tbV R.num R.type = q at *
        have HBr := HB
        clear HB HA hrc
        have c1 : (i : Int) < (L.length : Int) := by omega
        have c2 : (0 : Int) ≤ (i : Int) := by omega
        go_upto_region 5 with (first
          | ((with_reducible refine gate_dst (N := 22) rfl ?_); refine wpList_load_at rfl 91 _ rfl (ad.add (i * 5)) rfl (recC R) HPX.out Tryz.underlying91 rfl (by kernel_rfl) ?_)
          | ((with_reducible refine gate_dst (N := 10) rfl ?_); refine wpList_allocZ rfl 91 rfl zcR zeroR (by kernel_rfl) rfl ?_)
          | (refine wpList_store_row rfl 91 _ _ rfl wr.heap.size (recC R).toArray rfl rfl 91 zcR (heap_alloc_new wr _) (by kernel_rfl) zcR_sz (recC_all _) ?_))
        have hB1 : Below wr.heap.size wr ((wr.alloc (.cells zcR 91)).setRow wr.heap.size (recC R).toArray) := below_copy (Below.refl _ _) _ _
        have H1 := Aside0.mk (show XW ((wr.alloc (.cells zcR 91)).setRow wr.heap.size (recC R).toArray) wr.heap.size (R.num : Int) (R.type : Int) (R.n : Int) (st R.s) (st R.raw) from copy_at _ _ _)
        have HC1 := Aside0.mk (Kd.C_below HC.out hB1)
        generalize (wr.alloc (.cells zcR 91)).setRow wr.heap.size (recC R).toArray = w2 at *
        generalize hp1 : wr.heap.size = p1 at H1 ⊢
        clear hp1
        have HB := Aside0.mk (below_next HBr.out hB1)
        have x0 := H1.out.c0
        have x1 := H1.out.c1
        clear hB1 HC HPX HBr
        cases q
        · go_wp2_with (go_at_call 91; with_reducible refine (HKY.out _).mono ?_; rintro e w4 ⟨rfl, hb⟩; have HCn := Aside0.mk (Kd.C_below HC1.out hb); have HBn := Aside0.mk (below_next HB.out hb); clear HB HC1 hb x0 x1 H1; have HB := HBn; have HC1 := HCn; clear HBn HCn)
          go_roundw
          case rel => exact ⟨i + 1, by go_num, by omega, ⟨HN.out rfl⟩, HC1, HB⟩
          case measure => simp [intOf]; omega
        · go_wp2_with (go_at_call 91; with_reducible refine (HKY.out _).mono ?_; rintro e w4 ⟨rfl, hb⟩; have HBn := Aside0.mk (below_next HB.out hb); clear HB hb x0 x1 H1 HC1; have HB := HBn; clear HBn)
          go_ret
          exact ⟨by rw [HR.out, HM.out rfl]; rfl, HB.out⟩
      · have hr : (L.all fun R => !tkn tbV R.num R.type) = true := by have h := HA.out; rw [List.take_of_length_le (by omega)] at h; exact h
        have HR2 := Aside0.mk hr
        clear hr
        go_wp2_with fail
        go_ret
        exact ⟨by rw [HR.out, HR2.out]; rfl, HB.out⟩
  · have hr : restB tbV d s = false := by unfold restB; rw [hN]
    have HR := Aside0.mk hr
    have HB := Aside0.mk hb
    clear hN hE hwe hb H hr hs
    go_wp2_with fail
    go_loopw [19] (fun v19 w' => v19 = .int .i64 0 ∧ Aside0 (Below w.heap.size w w')) (fun _ _ => 0)
    case atStart => exact ⟨rfl, HB⟩
    case round =>
      clear HB
      obtain ⟨rfl, HB⟩ := hrel
      go_wp2_with fail
      go_ret
      exact ⟨by rw [HR.out]; rfl, HB.out⟩
set_option maxHeartbeats 4000000 in
set_option maxRecDepth 100000 in
theorem rest_K (w : World) (s : ByteArray) (d : Int) (hs : s.size ≤ 100000) (hd : 0 ≤ d) (hd1 : d < 9223372036854775808) :
    Calls Tryz.prog 30 #[.string s, .int .i64 d, .func (.func 71) #[] #[]] w fun e w' => e = .returned (.bool (restB tbK d s)) ∧ Below w.heap.size w w' := by
  have H := Aside0.mk (wall_any w s d hs (by omega) hd1)
  clear hd hd1
  go_enter Tryz.func30, Tryz.ntmps30
  go_wp2_with fail
  refine H.out.mono ?_
  rintro e w2 (⟨L, A, c, hL, rfl, hC, hc, hb⟩ | ⟨hN, T, v, E, rfl, hE, hwe, hb⟩)
  · have hr : restB tbK d s = L.all fun R => !tkn tbK R.num R.type := by unfold restB; rw [hL]
    have hlm : L.length ≤ 100000 := Nat.le_trans (recsL_len hL) hs
    have HR := Aside0.mk hr
    have HB := Aside0.mk hb
    have HC := Aside0.mk hC
    clear hL hC hc hb H hr hs
    go_wp2_with fail
    go_loopw [19] (fun v19 w' => ∃ i : Nat, v19 = .int .i64 (i : Int) ∧ i ≤ L.length ∧ Aside0 ((L.take i).all (fun R => !tkn tbK R.num R.type) = true) ∧ Aside0 (Kd.C Rc w' A L.length L) ∧ Aside0 (Below w.heap.size w w')) (fun v19 _ => L.length - (intOf v19).toNat)
    case atStart => exact ⟨0, rfl, Nat.zero_le _, ⟨rfl⟩, HC, HB⟩
    case round =>
      clear HB HC
      obtain ⟨i, rfl, hi, HA, HC, HB⟩ := hrel
      by_cases hlt : i < L.length
      · obtain ⟨ad, rfl, hrc⟩ := recCells HC.out i hlt
        have HPX := Aside0.mk (recAll hrc)
        have HN := Aside0.mk (fun hp : (!tkn tbK L[i].num L[i].type) = true => all_next hlt HA.out hp)
        have HM := Aside0.mk (fun hp : (!tkn tbK L[i].num L[i].type) = false => all_none (p := fun R => !tkn tbK R.num R.type) hlt hp)
        generalize L[i] = R at *
        have HKY := Aside0.mk (fun w2 => value_takesKey_at R.num R.type w2)
        generalize tkn tbK R.num R.type = q at *
        have HBr := HB
        clear HB HA hrc
        have c1 : (i : Int) < (L.length : Int) := by omega
        have c2 : (0 : Int) ≤ (i : Int) := by omega
        go_upto_region 5 with (first
          | ((with_reducible refine gate_dst (N := 22) rfl ?_); refine wpList_load_at rfl 91 _ rfl (ad.add (i * 5)) rfl (recC R) HPX.out Tryz.underlying91 rfl (by kernel_rfl) ?_)
          | ((with_reducible refine gate_dst (N := 10) rfl ?_); refine wpList_allocZ rfl 91 rfl zcR zeroR (by kernel_rfl) rfl ?_)
          | (refine wpList_store_row rfl 91 _ _ rfl wr.heap.size (recC R).toArray rfl rfl 91 zcR (heap_alloc_new wr _) (by kernel_rfl) zcR_sz (recC_all _) ?_))
        have hB1 : Below wr.heap.size wr ((wr.alloc (.cells zcR 91)).setRow wr.heap.size (recC R).toArray) := below_copy (Below.refl _ _) _ _
        have H1 := Aside0.mk (show XW ((wr.alloc (.cells zcR 91)).setRow wr.heap.size (recC R).toArray) wr.heap.size (R.num : Int) (R.type : Int) (R.n : Int) (st R.s) (st R.raw) from copy_at _ _ _)
        have HC1 := Aside0.mk (Kd.C_below HC.out hB1)
        generalize (wr.alloc (.cells zcR 91)).setRow wr.heap.size (recC R).toArray = w2 at *
        generalize hp1 : wr.heap.size = p1 at H1 ⊢
        clear hp1
        have HB := Aside0.mk (below_next HBr.out hB1)
        have x0 := H1.out.c0
        have x1 := H1.out.c1
        clear hB1 HC HPX HBr
        cases q
        · go_wp2_with (go_at_call 71; with_reducible refine (HKY.out _).mono ?_; rintro e w4 ⟨rfl, hb⟩; have HCn := Aside0.mk (Kd.C_below HC1.out hb); have HBn := Aside0.mk (below_next HB.out hb); clear HB HC1 hb x0 x1 H1; have HB := HBn; have HC1 := HCn; clear HBn HCn)
          go_roundw
          case rel => exact ⟨i + 1, by go_num, by omega, ⟨HN.out rfl⟩, HC1, HB⟩
          case measure => simp [intOf]; omega
        · go_wp2_with (go_at_call 71; with_reducible refine (HKY.out _).mono ?_; rintro e w4 ⟨rfl, hb⟩; have HBn := Aside0.mk (below_next HB.out hb); clear HB hb x0 x1 H1 HC1; have HB := HBn; clear HBn)
          go_ret
          exact ⟨by rw [HR.out, HM.out rfl]; rfl, HB.out⟩
      · have hr : (L.all fun R => !tkn tbK R.num R.type) = true := by have h := HA.out; rw [List.take_of_length_le (by omega)] at h; exact h
        have HR2 := Aside0.mk hr
        clear hr
        go_wp2_with fail
        go_ret
        exact ⟨by rw [HR.out, HR2.out]; rfl, HB.out⟩
  · have hr : restB tbK d s = false := by unfold restB; rw [hN]
    have HR := Aside0.mk hr
    have HB := Aside0.mk hb
    clear hN hE hwe hb H hr hs
    go_wp2_with fail
    go_loopw [19] (fun v19 w' => v19 = .int .i64 0 ∧ Aside0 (Below w.heap.size w w')) (fun _ _ => 0)
    case atStart => exact ⟨rfl, HB⟩
    case round =>
      clear HB
      obtain ⟨rfl, HB⟩ := hrel
      go_wp2_with fail
      go_ret
      exact ⟨by rw [HR.out]; rfl, HB.out⟩
set_option maxHeartbeats 4000000 in
set_option maxRecDepth 100000 in
theorem rest_L (w : World) (s : ByteArray) (d : Int) (hs : s.size ≤ 100000) (hd : 0 ≤ d) (hd1 : d < 9223372036854775808) :
    Calls Tryz.prog 30 #[.string s, .int .i64 d, .func (.func 92) #[] #[]] w fun e w' => e = .returned (.bool (restB tbL d s)) ∧ Below w.heap.size w w' := by
  have H := Aside0.mk (wall_any w s d hs (by omega) hd1)
  clear hd hd1
  go_enter Tryz.func30, Tryz.ntmps30
  go_wp2_with fail
  refine H.out.mono ?_
  rintro e w2 (⟨L, A, c, hL, rfl, hC, hc, hb⟩ | ⟨hN, T, v, E, rfl, hE, hwe, hb⟩)
  · have hr : restB tbL d s = L.all fun R => !tkn tbL R.num R.type := by unfold restB; rw [hL]
    have hlm : L.length ≤ 100000 := Nat.le_trans (recsL_len hL) hs
    have HR := Aside0.mk hr
    have HB := Aside0.mk hb
    have HC := Aside0.mk hC
    clear hL hC hc hb H hr hs
    go_wp2_with fail
    go_loopw [19] (fun v19 w' => ∃ i : Nat, v19 = .int .i64 (i : Int) ∧ i ≤ L.length ∧ Aside0 ((L.take i).all (fun R => !tkn tbL R.num R.type) = true) ∧ Aside0 (Kd.C Rc w' A L.length L) ∧ Aside0 (Below w.heap.size w w')) (fun v19 _ => L.length - (intOf v19).toNat)
    case atStart => exact ⟨0, rfl, Nat.zero_le _, ⟨rfl⟩, HC, HB⟩
    case round =>
      clear HB HC
      obtain ⟨i, rfl, hi, HA, HC, HB⟩ := hrel
      by_cases hlt : i < L.length
      · obtain ⟨ad, rfl, hrc⟩ := recCells HC.out i hlt
        have HPX := Aside0.mk (recAll hrc)
        have HN := Aside0.mk (fun hp : (!tkn tbL L[i].num L[i].type) = true => all_next hlt HA.out hp)
        have HM := Aside0.mk (fun hp : (!tkn tbL L[i].num L[i].type) = false => all_none (p := fun R => !tkn tbL R.num R.type) hlt hp)
        generalize L[i] = R at *
        have HKY := Aside0.mk (fun w2 => value_lone_at R.num R.type w2)
        generalize tkn tbL R.num R.type = q at *
        have HBr := HB
        clear HB HA hrc
        have c1 : (i : Int) < (L.length : Int) := by omega
        have c2 : (0 : Int) ≤ (i : Int) := by omega
        go_upto_region 5 with (first
          | ((with_reducible refine gate_dst (N := 22) rfl ?_); refine wpList_load_at rfl 91 _ rfl (ad.add (i * 5)) rfl (recC R) HPX.out Tryz.underlying91 rfl (by kernel_rfl) ?_)
          | ((with_reducible refine gate_dst (N := 10) rfl ?_); refine wpList_allocZ rfl 91 rfl zcR zeroR (by kernel_rfl) rfl ?_)
          | (refine wpList_store_row rfl 91 _ _ rfl wr.heap.size (recC R).toArray rfl rfl 91 zcR (heap_alloc_new wr _) (by kernel_rfl) zcR_sz (recC_all _) ?_))
        have hB1 : Below wr.heap.size wr ((wr.alloc (.cells zcR 91)).setRow wr.heap.size (recC R).toArray) := below_copy (Below.refl _ _) _ _
        have H1 := Aside0.mk (show XW ((wr.alloc (.cells zcR 91)).setRow wr.heap.size (recC R).toArray) wr.heap.size (R.num : Int) (R.type : Int) (R.n : Int) (st R.s) (st R.raw) from copy_at _ _ _)
        have HC1 := Aside0.mk (Kd.C_below HC.out hB1)
        generalize (wr.alloc (.cells zcR 91)).setRow wr.heap.size (recC R).toArray = w2 at *
        generalize hp1 : wr.heap.size = p1 at H1 ⊢
        clear hp1
        have HB := Aside0.mk (below_next HBr.out hB1)
        have x0 := H1.out.c0
        have x1 := H1.out.c1
        clear hB1 HC HPX HBr
        cases q
        · go_wp2_with (go_at_call 92; with_reducible refine (HKY.out _).mono ?_; rintro e w4 ⟨rfl, hb⟩; have HCn := Aside0.mk (Kd.C_below HC1.out hb); have HBn := Aside0.mk (below_next HB.out hb); clear HB HC1 hb x0 x1 H1; have HB := HBn; have HC1 := HCn; clear HBn HCn)
          go_roundw
          case rel => exact ⟨i + 1, by go_num, by omega, ⟨HN.out rfl⟩, HC1, HB⟩
          case measure => simp [intOf]; omega
        · go_wp2_with (go_at_call 92; with_reducible refine (HKY.out _).mono ?_; rintro e w4 ⟨rfl, hb⟩; have HBn := Aside0.mk (below_next HB.out hb); clear HB hb x0 x1 H1 HC1; have HB := HBn; clear HBn)
          go_ret
          exact ⟨by rw [HR.out, HM.out rfl]; rfl, HB.out⟩
      · have hr : (L.all fun R => !tkn tbL R.num R.type) = true := by have h := HA.out; rw [List.take_of_length_le (by omega)] at h; exact h
        have HR2 := Aside0.mk hr
        clear hr
        go_wp2_with fail
        go_ret
        exact ⟨by rw [HR.out, HR2.out]; rfl, HB.out⟩
  · have hr : restB tbL d s = false := by unfold restB; rw [hN]
    have HR := Aside0.mk hr
    have HB := Aside0.mk hb
    clear hN hE hwe hb H hr hs
    go_wp2_with fail
    go_loopw [19] (fun v19 w' => v19 = .int .i64 0 ∧ Aside0 (Below w.heap.size w w')) (fun _ _ => 0)
    case atStart => exact ⟨rfl, HB⟩
    case round =>
      clear HB
      obtain ⟨rfl, HB⟩ := hrel
      go_wp2_with fail
      go_ret
      exact ⟨by rw [HR.out]; rfl, HB.out⟩
end Go.Proofs.YtnghlkbmfhkmoaaGreatDoor
