import Derived.Test.YtipgdjjmmfkfiaaDoorMvvikyuhb
import Derived.Test.YtipgdjjmmfkfiaaDoorMpbbfkqni
import Derived.Test.YtipgdjjmmfkfiaaDoorProg
import Derived.Test.YtipgdjjmmfkfiaaDoorWWords
import Derived.WalkKit
import Derived.Deep.QuietTactic
import Derived.BigQuiet
import Derived.LoopTactic
import Derived.IntWalk
namespace Go.Proofs.YtipgdjjmmfkfiaaDoor
open Go.RowKit Go.Proofs.YtipgdjjmmfkfiaaDoorW.PrintWords Hy


set_option maxHeartbeats 4000000 in
set_option maxRecDepth 100000 in
theorem rsign_g (s : ByteArray) (a c : Nat) (w : World) (hs : s.size ≤ 100000) (ha : a < s.size) (hc : ((bs s).drop a).getD 0 0 = c) (h : c = 240) :
    Calls Tryd.prog 33 #[.string s, .int .i64 (a : Int)] w (rsV s a w) := by
  have hb0 := dr_get s a 0 (by omega)
  have hbyte : ((s[a].toNat : Nat) : Int) = (c : Int) := by rw [hc] at hb0; simp only [Nat.add_zero] at hb0; rw [← hb0]
  have hlp : 0 < ((bs s).drop a).length := by rw [dr_len]; omega
  have hai : (a : Int) < (s.size : Int) := by omega

  have hz : szc (((bs s).drop a).getD 0 0) = 4 := by rw [hc]; unfold szc; (repeat' split) <;> omega
  have hsec : ∀ x, sec c x = true ↔ 144 ≤ x ∧ x ≤ 191 := by intro x; unfold sec fol; (repeat' split) <;> (try omega) <;> simp <;> omega
  have hsecN : ∀ x, ¬ (144 ≤ x ∧ x ≤ 191) → sec c x = false := fun x h => by cases hf : sec c x with | false => rfl | true => exact absurd ((hsec x).1 hf) h
  have HZ := Aside0.mk hz
  have HC := Aside0.mk hc
  have HS := Aside0.mk hsec
  have HSN := Aside0.mk hsecN
  have q0 : ¬ (c : Int) < 128 := by omega
  have q1 : (194 : Int) ≤ (c : Int) := by omega
  have q2 : ¬ (c : Int) ≤ 223 := by omega
  have q3 : (224 : Int) ≤ (c : Int) := by omega
  have q4 : ¬ (c : Int) ≤ 239 := by omega
  have q5 : (240 : Int) ≤ (c : Int) := by omega
  have q6 : (c : Int) ≤ 244 := by omega
  have n224 : ((c : Int) == 224) = false := by rw [beq_eq_false_iff_ne]; omega
  have n237 : ((c : Int) == 237) = false := by rw [beq_eq_false_iff_ne]; omega
  have e240 : ((c : Int) == 240) = true := by rw [beq_iff_eq]; omega
  clear hz hb0 hc hlp hsec hsecN
  go_enter Tryd.func33, Tryd.ntmps33
  go_wp2_with fail
  go_loop [7, 8, 9] (fun v7 v8 v9 => ∃ i : Nat, 1 ≤ i ∧ i ≤ 4 ∧ v9 = .int .i64 (i : Int) ∧ ((i = 1 ∧ v7 = .int .u8 144 ∧ v8 = .int .u8 191) ∨ (2 ≤ i ∧ v7 = .int .u8 128 ∧ v8 = .int .u8 191)) ∧ Aside0 (Seen s a c i)) (fun _ _ v9 => 4 - (intOf v9).toNat)
  case atStart => exact ⟨1, by omega, by omega, rfl, .inl ⟨rfl, rfl, rfl⟩, ⟨fun j h1 h2 => absurd h2 (by omega)⟩⟩
  case round =>
    obtain ⟨i, hi1, hi2, rfl, hv, HE⟩ := hrel
    by_cases hd : i = 4
    · subst hd
      have hf := HE.out
      have HR : Aside0 (sgn ((bs s).drop a) = 4) := ⟨by
        have hl1 := (hf (4 - 1) (by omega) (by omega)).1
        rw [← HZ.out]
        exact sgn_all _ (by rw [HZ.out]; omega) (by rw [HZ.out, dr_len]; omega) (by rw [HC.out]; exact (hf 1 (by omega) (by omega)).2.1 rfl) (fun j h1 h2 => by rw [HZ.out] at h2; exact (hf j (by omega) h2).2.2 h1)⟩
      clear hf
      rcases hv with ⟨h1, rfl, rfl⟩ | ⟨h1, rfl, rfl⟩
      · exact absurd h1 (by omega)
      · clear h1
        go_wp2_with fail
        go_ret
        exact ⟨by rw [HR.out]; rfl, rfl⟩
    · by_cases hl : a + i < s.size
      · have hg := dr_get s a i hl
        obtain ⟨x, hx⟩ : ∃ x, ((bs s).drop a).getD i 0 = x := ⟨_, rfl⟩
        obtain ⟨q, hq⟩ : ∃ q, a + i = q := ⟨_, rfl⟩
        have hql : q < s.size := by omega
        have hxb : ((s[q].toNat : Nat) : Int) = (x : Int) := by subst hq; rw [← hx, hg]
        have hq2 : (a : Int) + (i : Int) = (q : Int) := by omega
        have hqi : (q : Int) < (s.size : Int) := by omega
        have HX := Aside0.mk hx
        have HQ := Aside0.mk hq
        have hil : (i : Int) < 4 := by omega
        clear hg hx hq
        rcases hv with ⟨h1, rfl, rfl⟩ | ⟨h1, rfl, rfl⟩
        · by_cases hlo : x < 144
          · have HR : Aside0 (sgn ((bs s).drop a) = 0) := ⟨sgn_sec _ (by rw [HZ.out]; omega) (by rw [HC.out]; have := HX.out; rw [h1] at this; rw [this]; exact HSN.out x (by omega))⟩
            have g1 : (x : Int) < 144 := by omega
            clear hlo h1
            go_wp2_with fail
            go_ret
            exact ⟨by rw [HR.out]; rfl, rfl⟩
          · by_cases hhi : 191 < x
            · have HR : Aside0 (sgn ((bs s).drop a) = 0) := ⟨sgn_sec _ (by rw [HZ.out]; omega) (by rw [HC.out]; have := HX.out; rw [h1] at this; rw [this]; exact HSN.out x (by omega))⟩
              have g1 : ¬ (x : Int) < 144 := by omega
              have g2 : (191 : Int) < (x : Int) := by omega
              clear hlo hhi h1
              go_wp2_with fail
              go_ret
              exact ⟨by rw [HR.out]; rfl, rfl⟩
            · have HN := Aside0.mk (HE.out.next (by have := HQ.out; omega) (fun _ => by have := HX.out; rw [h1] at this; rw [this]; exact (HS.out x).2 ⟨by omega, by omega⟩) (fun h => absurd h (by omega)))
              have g1 : ¬ (x : Int) < 144 := by omega
              have g2 : ¬ (191 : Int) < (x : Int) := by omega
              have H1 := Aside0.mk h1
              clear hlo hhi h1
              go_wp2_with fail
              go_round
              case rel => exact ⟨i + 1, by omega, by have := H1.out; omega, by go_num, .inr ⟨by omega, rfl, rfl⟩, HN⟩
              case measure => simp [intOf]; omega
        · by_cases hlo : x < 128
          · have HR : Aside0 (sgn ((bs s).drop a) = 0) := ⟨sgn_fol _ i h1 (by rw [HZ.out]; omega) (by rw [HX.out]; exact fol_no x (by omega))⟩
            have g1 : (x : Int) < 128 := by omega
            clear hlo
            go_wp2_with fail
            go_ret
            exact ⟨by rw [HR.out]; rfl, rfl⟩
          · by_cases hhi : 191 < x
            · have HR : Aside0 (sgn ((bs s).drop a) = 0) := ⟨sgn_fol _ i h1 (by rw [HZ.out]; omega) (by rw [HX.out]; exact fol_no x (by omega))⟩
              have g1 : ¬ (x : Int) < 128 := by omega
              have g2 : (191 : Int) < (x : Int) := by omega
              clear hlo hhi
              go_wp2_with fail
              go_ret
              exact ⟨by rw [HR.out]; rfl, rfl⟩
            · have HN := Aside0.mk (HE.out.next (by have := HQ.out; omega) (fun h => absurd h (by omega)) (fun _ => by rw [HX.out]; exact (fol_iff x).2 ⟨by omega, by omega⟩))
              have g1 : ¬ (x : Int) < 128 := by omega
              have g2 : ¬ (191 : Int) < (x : Int) := by omega
              clear hlo hhi
              go_wp2_with fail
              go_round
              case rel => exact ⟨i + 1, by omega, by omega, by go_num, .inr ⟨by omega, rfl, rfl⟩, HN⟩
              case measure => simp [intOf]; omega
      · have HR : Aside0 (sgn ((bs s).drop a) = 0) := ⟨sgn_short _ (by rw [HZ.out, dr_len]; omega)⟩
        have hil : (i : Int) < 4 := by omega
        have hge : (s.size : Int) ≤ (a : Int) + (i : Int) := by omega
        rcases hv with ⟨h1, rfl, rfl⟩ | ⟨h1, rfl, rfl⟩
        all_goals
          clear h1
          go_wp2_with fail
          go_ret
          exact ⟨by rw [HR.out]; rfl, rfl⟩
set_option maxHeartbeats 4000000 in
set_option maxRecDepth 100000 in
theorem rsign_h (s : ByteArray) (a c : Nat) (w : World) (hs : s.size ≤ 100000) (ha : a < s.size) (hc : ((bs s).drop a).getD 0 0 = c) (h : 240 < c) (h' : c < 244) :
    Calls Tryd.prog 33 #[.string s, .int .i64 (a : Int)] w (rsV s a w) := by
  have hb0 := dr_get s a 0 (by omega)
  have hbyte : ((s[a].toNat : Nat) : Int) = (c : Int) := by rw [hc] at hb0; simp only [Nat.add_zero] at hb0; rw [← hb0]
  have hlp : 0 < ((bs s).drop a).length := by rw [dr_len]; omega
  have hai : (a : Int) < (s.size : Int) := by omega

  have hz : szc (((bs s).drop a).getD 0 0) = 4 := by rw [hc]; unfold szc; (repeat' split) <;> omega
  have hsec : ∀ x, sec c x = true ↔ 128 ≤ x ∧ x ≤ 191 := by intro x; unfold sec fol; (repeat' split) <;> (try omega) <;> simp <;> omega
  have hsecN : ∀ x, ¬ (128 ≤ x ∧ x ≤ 191) → sec c x = false := fun x h => by cases hf : sec c x with | false => rfl | true => exact absurd ((hsec x).1 hf) h
  have HZ := Aside0.mk hz
  have HC := Aside0.mk hc
  have HS := Aside0.mk hsec
  have HSN := Aside0.mk hsecN
  have q0 : ¬ (c : Int) < 128 := by omega
  have q1 : (194 : Int) ≤ (c : Int) := by omega
  have q2 : ¬ (c : Int) ≤ 223 := by omega
  have q3 : (224 : Int) ≤ (c : Int) := by omega
  have q4 : ¬ (c : Int) ≤ 239 := by omega
  have q5 : (240 : Int) ≤ (c : Int) := by omega
  have q6 : (c : Int) ≤ 244 := by omega
  have n224 : ((c : Int) == 224) = false := by rw [beq_eq_false_iff_ne]; omega
  have n237 : ((c : Int) == 237) = false := by rw [beq_eq_false_iff_ne]; omega
  have n240 : ((c : Int) == 240) = false := by rw [beq_eq_false_iff_ne]; omega
  have n244 : ((c : Int) == 244) = false := by rw [beq_eq_false_iff_ne]; omega
  clear hz hb0 hc hlp hsec hsecN
  go_enter Tryd.func33, Tryd.ntmps33
  go_wp2_with fail
  go_loop [7, 8, 9] (fun v7 v8 v9 => ∃ i : Nat, 1 ≤ i ∧ i ≤ 4 ∧ v9 = .int .i64 (i : Int) ∧ ((i = 1 ∧ v7 = .int .u8 128 ∧ v8 = .int .u8 191) ∨ (2 ≤ i ∧ v7 = .int .u8 128 ∧ v8 = .int .u8 191)) ∧ Aside0 (Seen s a c i)) (fun _ _ v9 => 4 - (intOf v9).toNat)
  case atStart => exact ⟨1, by omega, by omega, rfl, .inl ⟨rfl, rfl, rfl⟩, ⟨fun j h1 h2 => absurd h2 (by omega)⟩⟩
  case round =>
    obtain ⟨i, hi1, hi2, rfl, hv, HE⟩ := hrel
    by_cases hd : i = 4
    · subst hd
      have hf := HE.out
      have HR : Aside0 (sgn ((bs s).drop a) = 4) := ⟨by
        have hl1 := (hf (4 - 1) (by omega) (by omega)).1
        rw [← HZ.out]
        exact sgn_all _ (by rw [HZ.out]; omega) (by rw [HZ.out, dr_len]; omega) (by rw [HC.out]; exact (hf 1 (by omega) (by omega)).2.1 rfl) (fun j h1 h2 => by rw [HZ.out] at h2; exact (hf j (by omega) h2).2.2 h1)⟩
      clear hf
      rcases hv with ⟨h1, rfl, rfl⟩ | ⟨h1, rfl, rfl⟩
      · exact absurd h1 (by omega)
      · clear h1
        go_wp2_with fail
        go_ret
        exact ⟨by rw [HR.out]; rfl, rfl⟩
    · by_cases hl : a + i < s.size
      · have hg := dr_get s a i hl
        obtain ⟨x, hx⟩ : ∃ x, ((bs s).drop a).getD i 0 = x := ⟨_, rfl⟩
        obtain ⟨q, hq⟩ : ∃ q, a + i = q := ⟨_, rfl⟩
        have hql : q < s.size := by omega
        have hxb : ((s[q].toNat : Nat) : Int) = (x : Int) := by subst hq; rw [← hx, hg]
        have hq2 : (a : Int) + (i : Int) = (q : Int) := by omega
        have hqi : (q : Int) < (s.size : Int) := by omega
        have HX := Aside0.mk hx
        have HQ := Aside0.mk hq
        have hil : (i : Int) < 4 := by omega
        clear hg hx hq
        rcases hv with ⟨h1, rfl, rfl⟩ | ⟨h1, rfl, rfl⟩
        · by_cases hlo : x < 128
          · have HR : Aside0 (sgn ((bs s).drop a) = 0) := ⟨sgn_sec _ (by rw [HZ.out]; omega) (by rw [HC.out]; have := HX.out; rw [h1] at this; rw [this]; exact HSN.out x (by omega))⟩
            have g1 : (x : Int) < 128 := by omega
            clear hlo h1
            go_wp2_with fail
            go_ret
            exact ⟨by rw [HR.out]; rfl, rfl⟩
          · by_cases hhi : 191 < x
            · have HR : Aside0 (sgn ((bs s).drop a) = 0) := ⟨sgn_sec _ (by rw [HZ.out]; omega) (by rw [HC.out]; have := HX.out; rw [h1] at this; rw [this]; exact HSN.out x (by omega))⟩
              have g1 : ¬ (x : Int) < 128 := by omega
              have g2 : (191 : Int) < (x : Int) := by omega
              clear hlo hhi h1
              go_wp2_with fail
              go_ret
              exact ⟨by rw [HR.out]; rfl, rfl⟩
            · have HN := Aside0.mk (HE.out.next (by have := HQ.out; omega) (fun _ => by have := HX.out; rw [h1] at this; rw [this]; exact (HS.out x).2 ⟨by omega, by omega⟩) (fun h => absurd h (by omega)))
              have g1 : ¬ (x : Int) < 128 := by omega
              have g2 : ¬ (191 : Int) < (x : Int) := by omega
              have H1 := Aside0.mk h1
              clear hlo hhi h1
              go_wp2_with fail
              go_round
              case rel => exact ⟨i + 1, by omega, by have := H1.out; omega, by go_num, .inr ⟨by omega, rfl, rfl⟩, HN⟩
              case measure => simp [intOf]; omega
        · by_cases hlo : x < 128
          · have HR : Aside0 (sgn ((bs s).drop a) = 0) := ⟨sgn_fol _ i h1 (by rw [HZ.out]; omega) (by rw [HX.out]; exact fol_no x (by omega))⟩
            have g1 : (x : Int) < 128 := by omega
            clear hlo
            go_wp2_with fail
            go_ret
            exact ⟨by rw [HR.out]; rfl, rfl⟩
          · by_cases hhi : 191 < x
            · have HR : Aside0 (sgn ((bs s).drop a) = 0) := ⟨sgn_fol _ i h1 (by rw [HZ.out]; omega) (by rw [HX.out]; exact fol_no x (by omega))⟩
              have g1 : ¬ (x : Int) < 128 := by omega
              have g2 : (191 : Int) < (x : Int) := by omega
              clear hlo hhi
              go_wp2_with fail
              go_ret
              exact ⟨by rw [HR.out]; rfl, rfl⟩
            · have HN := Aside0.mk (HE.out.next (by have := HQ.out; omega) (fun h => absurd h (by omega)) (fun _ => by rw [HX.out]; exact (fol_iff x).2 ⟨by omega, by omega⟩))
              have g1 : ¬ (x : Int) < 128 := by omega
              have g2 : ¬ (191 : Int) < (x : Int) := by omega
              clear hlo hhi
              go_wp2_with fail
              go_round
              case rel => exact ⟨i + 1, by omega, by omega, by go_num, .inr ⟨by omega, rfl, rfl⟩, HN⟩
              case measure => simp [intOf]; omega
      · have HR : Aside0 (sgn ((bs s).drop a) = 0) := ⟨sgn_short _ (by rw [HZ.out, dr_len]; omega)⟩
        have hil : (i : Int) < 4 := by omega
        have hge : (s.size : Int) ≤ (a : Int) + (i : Int) := by omega
        rcases hv with ⟨h1, rfl, rfl⟩ | ⟨h1, rfl, rfl⟩
        all_goals
          clear h1
          go_wp2_with fail
          go_ret
          exact ⟨by rw [HR.out]; rfl, rfl⟩
set_option maxHeartbeats 4000000 in
set_option maxRecDepth 100000 in
theorem rsign_i (s : ByteArray) (a c : Nat) (w : World) (hs : s.size ≤ 100000) (ha : a < s.size) (hc : ((bs s).drop a).getD 0 0 = c) (h : c = 244) :
    Calls Tryd.prog 33 #[.string s, .int .i64 (a : Int)] w (rsV s a w) := by
  have hb0 := dr_get s a 0 (by omega)
  have hbyte : ((s[a].toNat : Nat) : Int) = (c : Int) := by rw [hc] at hb0; simp only [Nat.add_zero] at hb0; rw [← hb0]
  have hlp : 0 < ((bs s).drop a).length := by rw [dr_len]; omega
  have hai : (a : Int) < (s.size : Int) := by omega

  have hz : szc (((bs s).drop a).getD 0 0) = 4 := by rw [hc]; unfold szc; (repeat' split) <;> omega
  have hsec : ∀ x, sec c x = true ↔ 128 ≤ x ∧ x ≤ 143 := by intro x; unfold sec fol; (repeat' split) <;> (try omega) <;> simp <;> omega
  have hsecN : ∀ x, ¬ (128 ≤ x ∧ x ≤ 143) → sec c x = false := fun x h => by cases hf : sec c x with | false => rfl | true => exact absurd ((hsec x).1 hf) h
  have HZ := Aside0.mk hz
  have HC := Aside0.mk hc
  have HS := Aside0.mk hsec
  have HSN := Aside0.mk hsecN
  have q0 : ¬ (c : Int) < 128 := by omega
  have q1 : (194 : Int) ≤ (c : Int) := by omega
  have q2 : ¬ (c : Int) ≤ 223 := by omega
  have q3 : (224 : Int) ≤ (c : Int) := by omega
  have q4 : ¬ (c : Int) ≤ 239 := by omega
  have q5 : (240 : Int) ≤ (c : Int) := by omega
  have q6 : (c : Int) ≤ 244 := by omega
  have n224 : ((c : Int) == 224) = false := by rw [beq_eq_false_iff_ne]; omega
  have n237 : ((c : Int) == 237) = false := by rw [beq_eq_false_iff_ne]; omega
  have n240 : ((c : Int) == 240) = false := by rw [beq_eq_false_iff_ne]; omega
  have e244 : ((c : Int) == 244) = true := by rw [beq_iff_eq]; omega
  clear hz hb0 hc hlp hsec hsecN
  go_enter Tryd.func33, Tryd.ntmps33
  go_wp2_with fail
  go_loop [7, 8, 9] (fun v7 v8 v9 => ∃ i : Nat, 1 ≤ i ∧ i ≤ 4 ∧ v9 = .int .i64 (i : Int) ∧ ((i = 1 ∧ v7 = .int .u8 128 ∧ v8 = .int .u8 143) ∨ (2 ≤ i ∧ v7 = .int .u8 128 ∧ v8 = .int .u8 191)) ∧ Aside0 (Seen s a c i)) (fun _ _ v9 => 4 - (intOf v9).toNat)
  case atStart => exact ⟨1, by omega, by omega, rfl, .inl ⟨rfl, rfl, rfl⟩, ⟨fun j h1 h2 => absurd h2 (by omega)⟩⟩
  case round =>
    obtain ⟨i, hi1, hi2, rfl, hv, HE⟩ := hrel
    by_cases hd : i = 4
    · subst hd
      have hf := HE.out
      have HR : Aside0 (sgn ((bs s).drop a) = 4) := ⟨by
        have hl1 := (hf (4 - 1) (by omega) (by omega)).1
        rw [← HZ.out]
        exact sgn_all _ (by rw [HZ.out]; omega) (by rw [HZ.out, dr_len]; omega) (by rw [HC.out]; exact (hf 1 (by omega) (by omega)).2.1 rfl) (fun j h1 h2 => by rw [HZ.out] at h2; exact (hf j (by omega) h2).2.2 h1)⟩
      clear hf
      rcases hv with ⟨h1, rfl, rfl⟩ | ⟨h1, rfl, rfl⟩
      · exact absurd h1 (by omega)
      · clear h1
        go_wp2_with fail
        go_ret
        exact ⟨by rw [HR.out]; rfl, rfl⟩
    · by_cases hl : a + i < s.size
      · have hg := dr_get s a i hl
        obtain ⟨x, hx⟩ : ∃ x, ((bs s).drop a).getD i 0 = x := ⟨_, rfl⟩
        obtain ⟨q, hq⟩ : ∃ q, a + i = q := ⟨_, rfl⟩
        have hql : q < s.size := by omega
        have hxb : ((s[q].toNat : Nat) : Int) = (x : Int) := by subst hq; rw [← hx, hg]
        have hq2 : (a : Int) + (i : Int) = (q : Int) := by omega
        have hqi : (q : Int) < (s.size : Int) := by omega
        have HX := Aside0.mk hx
        have HQ := Aside0.mk hq
        have hil : (i : Int) < 4 := by omega
        clear hg hx hq
        rcases hv with ⟨h1, rfl, rfl⟩ | ⟨h1, rfl, rfl⟩
        · by_cases hlo : x < 128
          · have HR : Aside0 (sgn ((bs s).drop a) = 0) := ⟨sgn_sec _ (by rw [HZ.out]; omega) (by rw [HC.out]; have := HX.out; rw [h1] at this; rw [this]; exact HSN.out x (by omega))⟩
            have g1 : (x : Int) < 128 := by omega
            clear hlo h1
            go_wp2_with fail
            go_ret
            exact ⟨by rw [HR.out]; rfl, rfl⟩
          · by_cases hhi : 143 < x
            · have HR : Aside0 (sgn ((bs s).drop a) = 0) := ⟨sgn_sec _ (by rw [HZ.out]; omega) (by rw [HC.out]; have := HX.out; rw [h1] at this; rw [this]; exact HSN.out x (by omega))⟩
              have g1 : ¬ (x : Int) < 128 := by omega
              have g2 : (143 : Int) < (x : Int) := by omega
              clear hlo hhi h1
              go_wp2_with fail
              go_ret
              exact ⟨by rw [HR.out]; rfl, rfl⟩
            · have HN := Aside0.mk (HE.out.next (by have := HQ.out; omega) (fun _ => by have := HX.out; rw [h1] at this; rw [this]; exact (HS.out x).2 ⟨by omega, by omega⟩) (fun h => absurd h (by omega)))
              have g1 : ¬ (x : Int) < 128 := by omega
              have g2 : ¬ (143 : Int) < (x : Int) := by omega
              have H1 := Aside0.mk h1
              clear hlo hhi h1
              go_wp2_with fail
              go_round
              case rel => exact ⟨i + 1, by omega, by have := H1.out; omega, by go_num, .inr ⟨by omega, rfl, rfl⟩, HN⟩
              case measure => simp [intOf]; omega
        · by_cases hlo : x < 128
          · have HR : Aside0 (sgn ((bs s).drop a) = 0) := ⟨sgn_fol _ i h1 (by rw [HZ.out]; omega) (by rw [HX.out]; exact fol_no x (by omega))⟩
            have g1 : (x : Int) < 128 := by omega
            clear hlo
            go_wp2_with fail
            go_ret
            exact ⟨by rw [HR.out]; rfl, rfl⟩
          · by_cases hhi : 191 < x
            · have HR : Aside0 (sgn ((bs s).drop a) = 0) := ⟨sgn_fol _ i h1 (by rw [HZ.out]; omega) (by rw [HX.out]; exact fol_no x (by omega))⟩
              have g1 : ¬ (x : Int) < 128 := by omega
              have g2 : (191 : Int) < (x : Int) := by omega
              clear hlo hhi
              go_wp2_with fail
              go_ret
              exact ⟨by rw [HR.out]; rfl, rfl⟩
            · have HN := Aside0.mk (HE.out.next (by have := HQ.out; omega) (fun h => absurd h (by omega)) (fun _ => by rw [HX.out]; exact (fol_iff x).2 ⟨by omega, by omega⟩))
              have g1 : ¬ (x : Int) < 128 := by omega
              have g2 : ¬ (191 : Int) < (x : Int) := by omega
              clear hlo hhi
              go_wp2_with fail
              go_round
              case rel => exact ⟨i + 1, by omega, by omega, by go_num, .inr ⟨by omega, rfl, rfl⟩, HN⟩
              case measure => simp [intOf]; omega
      · have HR : Aside0 (sgn ((bs s).drop a) = 0) := ⟨sgn_short _ (by rw [HZ.out, dr_len]; omega)⟩
        have hil : (i : Int) < 4 := by omega
        have hge : (s.size : Int) ≤ (a : Int) + (i : Int) := by omega
        rcases hv with ⟨h1, rfl, rfl⟩ | ⟨h1, rfl, rfl⟩
        all_goals
          clear h1
          go_wp2_with fail
          go_ret
          exact ⟨by rw [HR.out]; rfl, rfl⟩
end Go.Proofs.YtipgdjjmmfkfiaaDoor
namespace Go.Proofs.YtipgdjjmmfkfiaaDoor
open Go.RowKit Go.Proofs.YtipgdjjmmfkfiaaDoorW.PrintWords Hy


theorem rsign_any (s : ByteArray) (a : Nat) (w : World) (hs : s.size ≤ 100000) (ha : a < s.size) : Calls Tryd.prog 33 #[.string s, .int .i64 (a : Int)] w (rsV s a w) := by
  obtain ⟨c, hc⟩ : ∃ c, ((bs s).drop a).getD 0 0 = c := ⟨_, rfl⟩
  by_cases h1 : c < 128
  · exact rsign_a s a c w hs ha hc h1
  · by_cases h2 : c < 194
    · exact rsign_b s a c w hs ha hc (by omega) h2
    · by_cases h3 : c ≤ 223
      · exact rsign_c s a c w hs ha hc (by omega) h3
      · by_cases h4 : c = 224
        · exact rsign_d s a c w hs ha hc h4
        · by_cases h5 : c = 237
          · exact rsign_f s a c w hs ha hc h5
          · by_cases h6 : c ≤ 239
            · exact rsign_e s a c w hs ha hc (by omega) h6 h5
            · by_cases h7 : c = 240
              · exact rsign_g s a c w hs ha hc h7
              · by_cases h8 : c < 244
                · exact rsign_h s a c w hs ha hc (by omega) h8
                · by_cases h9 : c = 244
                  · exact rsign_i s a c w hs ha hc h9
                  · exact rsign_z s a c w hs ha hc (by omega)
end Go.Proofs.YtipgdjjmmfkfiaaDoor
