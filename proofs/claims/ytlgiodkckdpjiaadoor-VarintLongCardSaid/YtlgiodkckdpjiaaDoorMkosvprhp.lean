import Derived.Test.YtlgiodkckdpjiaaDoorMnblswcjl
import Derived.Test.YtlgiodkckdpjiaaDoorMezvzjqnm
namespace Go.Proofs.YtlgiodkckdpjiaaDoor
open Go.RowKit Go.Proofs.YtlgiodkckdpjiaaDoorW.PrintWords Go.Proofs.YtlgiodkckdpjiaaDoorW.PrintLast Go.Proofs.YtlgiodkckdpjiaaDoorW.PrintMore Hy

theorem MR.below {e : TypeId} {B : Nat} {v : Value} {L : List Value} {w w' : World} (h : MR e B v L w) (hb : Below w.heap.size w w') : MR e B v L w' := by
  obtain ⟨g, cap, cur, fr, h1, h2, h3, h4⟩ := h
  exact ⟨g, cap, cur, fr, h1, h2, (hb.block g (blk_lt h3)).trans h3, h4⟩
theorem mr_base {e : TypeId} {B g n cap : Nat} {L : List Value} {w : World} (h : MR e B (.slice (some ⟨g, 0, none⟩) n cap) L w) : B ≤ g ∧ L.length = n ∧ n ≤ cap := by
  obtain ⟨g', cp, cur, fr, hv, hb, _, _, hl, _⟩ := h
  injection hv with h1 h2 h3
  injection h1 with h1
  injection h1 with h1
  subst h1 h2 h3
  exact ⟨hb, rfl, hl⟩
theorem mr_last {e : TypeId} {B g n cap c : Nat} {P : List Nat} {w : World} (h : MR e B (.slice (some ⟨g, 0, none⟩) n cap) (bv (P ++ [c])) w) (_hc : c < 128) :
    w.cell? ⟨g, P.length, none⟩ = some (.int .u8 (c : Int)) ∧ w.frozen? ⟨g, P.length, none⟩ = false ∧ MR e B (.slice (some ⟨g, 0, none⟩) n cap) (bv (P ++ [c + 128])) (w.setCell ⟨g, P.length, none⟩ (.int .u8 ((c + 128 : Nat) : Int))) := by
  obtain ⟨g', cp, cur, fr, hv, hb, hh, hcs, hl, hcap, hcell, hfr⟩ := h
  injection hv with h1 h2 h3
  injection h1 with h1
  injection h1 with h1
  subst h1 h2 h3
  rw [bv_length, List.length_append, List.length_singleton] at hl
  have hlen : (bv (P ++ [c])).length = (bv (P ++ [c + 128])).length := by simp [bv]
  refine ⟨?_, mr_frozen hh hfr (by omega), g, cap, cur.setIfInBounds P.length (.int .u8 ((c + 128 : Nat) : Int)), fr, by rw [hlen], hb, mr_set hh _ _, by simp [hcs], by rw [bv_length, List.length_append, List.length_singleton]; exact hl, hcap, ?_, hfr⟩
  · rw [cell_of_row w g P.length cur e fr hh]
    exact hcell P.length _ (by simp [bv])
  · intro i u hi
    by_cases hip : i < P.length
    · rw [Array.getElem?_setIfInBounds_ne (by omega)]
      refine hcell i u ?_
      unfold bv at hi ⊢
      rw [List.map_append, List.getElem?_append_left (by simpa using hip)] at hi ⊢
      exact hi
    · have hil : i < (bv (P ++ [c + 128])).length := (List.getElem?_eq_some_iff.1 hi).1
      rw [bv_length, List.length_append, List.length_singleton] at hil
      obtain rfl : i = P.length := by omega
      rw [Array.getElem?_setIfInBounds_self_of_lt (by omega)]
      rw [← hi]
      simp [bv]
theorem u8_info : ∃ i, Tryd.prog.info? 5 = some i ∧ i.zero = some (.int .u8 0) ∧ i.size = 1 ∧ i.bytes = 1 := by
  have h : (Tryd.prog.info? 5).map (fun i => (i.zero, i.size, i.bytes)) = some (some (.int .u8 0), 1, 1) := by kernel_rfl
  cases hx : Tryd.prog.info? 5 with
  | none => rw [hx] at h; simp at h
  | some i => rw [hx] at h; simp at h; exact ⟨i, rfl, h.1, h.2.1, h.2.2⟩
theorem mr_form {e : TypeId} {B : Nat} {v : Value} {L : List Value} {w : World} (h : MR e B v L w) : ∃ g cap, v = .slice (some ⟨g, 0, none⟩) L.length cap := by
  obtain ⟨g, cap, _, _, hv, _⟩ := h
  exact ⟨g, cap, hv⟩
theorem codeK {E : Err} {u : Value} {k : Int} (w : World) (hg : Laid w) (hu : IsE w E u) (hk : codeOf E = k) : Calls Tryd.prog 7 #[u] w fun e w' => e = .returned (.int .i64 k) ∧ Below w.heap.size w w' := by
  subst hk; exact code_any E u w hg hu
theorem get_big (w : World) : Calls Tryd.prog 6 #[.string ⟨#[255, 255, 255, 255, 255, 255, 255, 255, 255, 2]⟩, .int .i64 0] w fun e w' => ∃ u, e = .returned (.tuple #[.int .u64 0, .int .i64 0, u]) ∧ IsE w' (.at_ 0 (.code 4)) u ∧ Below w.heap.size w w' :=
  get_err ⟨#[255, 255, 255, 255, 255, 255, 255, 255, 255, 2]⟩ 0 4 w (by decide) (by decide) (by decide) (by
    have h := dec_hi (List.replicate 9 255) [2] (by intro x hx; rw [List.eq_of_mem_replicate hx]; decide) 0 (by decide)
    rw [show 0 + (List.replicate 9 255).length = 9 from rfl, dec_big 2 [] (by decide)] at h
    exact h)
set_option maxHeartbeats 4000000 in
set_option maxRecDepth 100000 in
theorem varintLong_walk (n more cut : Int) (w : World) (hn0 : 0 ≤ n) (hn1 : n < 18446744073709551616) (hm0 : -9223372036854775808 ≤ more) (hm1 : more < 9223372036854775808) (hc0 : -9223372036854775808 ≤ cut) (hc1 : cut < 9223372036854775808) (hg : Laid w) :
    Calls Tryd.prog 3 #[.int .u64 n, .int .i64 more, .int .i64 cut] w fun e w' => e = .returned (.bool true) ∧ Below w.heap.size w w' := by
  have HB := Aside0.mk (Below.refl w.heap.size w)
  have HG := Aside0.mk hg
  have A1 := fun w => put_any n w hn0 hn1
  obtain ⟨P, c, hP, hPh, hc⟩ := putL_last n.toNat
  have hsz : (put n).size = P.length + 1 := by rw [put_size, hP, List.length_append]; rfl
  have hP9 : P.length ≤ 9 := by have := putL_len10 n.toNat (by omega); rw [hP, List.length_append, List.length_singleton] at this; omega
  have hbs : bs (put n) = P ++ [c] := by rw [bs_put, hP]
  have HPP := Aside0.mk (And.intro hP (And.intro hPh hc))
  have HBS := Aside0.mk hbs
  clear hg hP hPh hc hbs
  go_enter Tryd.func3, Tryd.ntmps3
  go_wp2_with (first
    | (go_at_call 4; refine (var_first _).mono ?_; rintro e wb ⟨rfl, hb⟩; have HBn : Aside0 (Below w.heap.size w wb) := ⟨below_next (by repeat (first | (with_reducible exact HB.out) | apply below_alloc | apply pw_below_drewN | apply below_drew1)) hb⟩; clear HB hb; have HB := HBn; clear HBn)
    | (go_at_call 5; refine (A1 _).mono ?_; rintro e wb ⟨rfl, hb⟩; have HBn : Aside0 (Below w.heap.size w wb) := ⟨below_next (by repeat (first | (with_reducible exact HB.out) | apply below_alloc | apply pw_below_drewN | apply below_drew1)) hb⟩; clear HB hb; have HB := HBn; clear HBn))
  rw [run_bytes_of_string (P := Tryd.prog) wb 9 24 5 (put n) Tryd.underlying9 Tryd.underlying24 Tryd.underlying5]
  have hM := mr_new 5 w.heap.size wb (put n) HB.out.size (by omega)
  have HB1 : Aside0 (Below w.heap.size w (wb.drew.alloc (.cells (bytesRow (put n) (grownCap wb (put n).size 0 5)) 5 ((bytesRow (put n) (grownCap wb (put n).size 0 5)).size, (bytesRow (put n) (grownCap wb (put n).size 0 5)).size + 1)))) := ⟨(HB.out.drew).alloc HB.out.size _⟩
  generalize wb.drew.alloc (.cells (bytesRow (put n) (grownCap wb (put n).size 0 5)) 5 ((bytesRow (put n) (grownCap wb (put n).size 0 5)).size, (bytesRow (put n) (grownCap wb (put n).size 0 5)).size + 1)) = W at *
  generalize grownCap wb (put n).size 0 5 = cap at *
  rw [HBS.out] at hM
  rw [hsz] at hM ⊢
  have HM := Aside0.mk hM
  clear HB hM
  have HB := HB1
  clear HB1
  generalize wb.heap.size = g at *
  by_cases c1 : more < 0
  · go_wp2_with (first
      | (go_at_call 4; refine (var_first _).mono ?_; rintro e wb ⟨rfl, hb⟩; have HBn : Aside0 (Below w.heap.size w wb) := ⟨below_next (by repeat (first | (with_reducible exact HB.out) | apply below_alloc | apply pw_below_drewN | apply below_drew1)) hb⟩; clear HB hb; have HB := HBn; clear HBn))
    go_ret
    exact ⟨rfl, (by repeat (first | (with_reducible exact HB.out) | apply below_alloc | apply pw_below_drewN | apply below_drew1))⟩
  · by_cases c2 : 10 - ((P.length + 1 : Nat) : Int) < more
    · go_wp2_with (first
        | (go_at_call 4; refine (var_first _).mono ?_; rintro e wb ⟨rfl, hb⟩; have HBn : Aside0 (Below w.heap.size w wb) := ⟨below_next (by repeat (first | (with_reducible exact HB.out) | apply below_alloc | apply pw_below_drewN | apply below_drew1)) hb⟩; clear HB hb; have HB := HBn; clear HBn))
      go_ret
      exact ⟨rfl, (by repeat (first | (with_reducible exact HB.out) | apply below_alloc | apply pw_below_drewN | apply below_drew1))⟩
    · by_cases c3 : cut < 0
      · go_wp2_with (first
          | (go_at_call 4; refine (var_first _).mono ?_; rintro e wb ⟨rfl, hb⟩; have HBn : Aside0 (Below w.heap.size w wb) := ⟨below_next (by repeat (first | (with_reducible exact HB.out) | apply below_alloc | apply pw_below_drewN | apply below_drew1)) hb⟩; clear HB hb; have HB := HBn; clear HBn))
        go_ret
        exact ⟨rfl, (by repeat (first | (with_reducible exact HB.out) | apply below_alloc | apply pw_below_drewN | apply below_drew1))⟩
      · by_cases c4 : more = 0
        · subst c4
          obtain ⟨k, rfl⟩ := Int.eq_ofNat_of_zero_le (show 0 ≤ cut by omega)
          have hPP := HPP.out
          have hL : okB (P ++ [c]) := by rw [← hPP.1]; exact putL_ok _
          have hll : (P ++ [c]).length = P.length + 1 := by rw [List.length_append]; rfl
          have hdec : dec 0 (P ++ [c]) = .inr (n.toNat, P.length + 1) := by
            have h := dec_put n.toNat (by omega) []
            rw [List.append_nil, hPP.1, hll] at h
            exact h
          have hcut : ∀ m, m < P.length + 1 → dec 0 ((P ++ [c]).take m) = .inl 1 := fun m hm => dec_cut hPP.2.1 hP9 m (by omega) [c]
          obtain ⟨L, hLL⟩ : ∃ L, P ++ [c] = L := ⟨_, rfl⟩
          obtain ⟨T, hT⟩ : ∃ T, P.length + 1 = T := ⟨_, rfl⟩
          rw [hLL, hT] at hdec
          rw [hLL] at hL hll HM hcut
          rw [hT] at hll hcut HM c2 ⊢
          clear hPP
          have hT0 : 0 < T := by omega
          have hT10 : T ≤ 10 := by omega
          have HL := Aside0.mk (And.intro hL (And.intro hdec hcut))
          obtain ⟨m, hm⟩ : ∃ m, k % T = m := ⟨_, rfl⟩
          have hmT : m < T := by rw [← hm]; exact Nat.mod_lt _ hT0
          have hm2 : (k : Int) % (T : Int) = (m : Int) := by rw [← Int.natCast_emod, hm]
          have hn2 : ((n.toNat : Nat) : Int) = n := Int.toNat_of_nonneg hn0
          have cS := fun w' (h : MR 5 w.heap.size (.slice (some ⟨g, 0, none⟩) T cap) (bv L) w') (q cp : Nat) (hq : q ≤ L.length) => mr_string (P := Tryd.prog) (cap' := cp) 24 9 5 Tryd.underlying24 Tryd.underlying5 Tryd.underlying9 hL (by rw [hll]; exact h) q hq
          have hS := cS W HM.out T cap (by omega)
          rw [List.take_of_length_le (by omega)] at hS
          have G1 := fun w' => get_ok (st L) 0 n.toNat T w' (by decide) (by omega) (by rw [st_size]; omega) (by rw [bs_st _ hL]; exact hdec)
          rw [hn2, Int.zero_add] at G1
          have hTc : T ≤ cap := by obtain ⟨_, _, _, _, hv, _, _, _, hlc, _⟩ := HM.out; injection hv with _ _ hv3; rw [bv_length, hll] at hlc; omega
          have hgm : g < W.heap.size := by obtain ⟨_, _, _, _, hv, _, hh, _⟩ := HM.out; injection hv with hv1; injection hv1 with hv1; injection hv1 with hv1; subst hv1; exact blk_lt hh
          have HN := Aside0.mk (And.intro hn0 hn1)
          clear hL hdec hcut hm hn0 hn1 hm0 hm1 hc0 hc1 A1
          go_wp2_with fail
          refine (G1 W).mono ?_
          rintro e w2 ⟨rfl, hb⟩
          have HB2 := Aside0.mk (below_next HB.out hb)
          have HM2 := Aside0.mk (HM.out.below hb)
          have hS2 := cS w2 HM2.out m cap (by omega)
          have G2 := fun w' => get_err (st (L.take m)) 0 1 w' (by decide) (by omega) (by rw [st_size, List.length_take]; omega) (by rw [bs_st _ (fun x hx => HL.out.1 x (List.mem_of_mem_take hx))]; exact HL.out.2.2 m hmT)
          clear hb hS G1 HB HM
          go_wp2_with fail
          refine (G2 _).mono ?_
          rintro e w3 ⟨u, rfl, hu, hb⟩
          obtain ⟨uT, ux, rfl⟩ := hu.iface (by simp)
          have HU3 := Aside0.mk hu
          have HB3 := Aside0.mk (below_next HB2.out hb)
          clear hb hu G2 hS2 HB2 HM2
          go_wp2_with fail
          refine (get_big _).mono ?_
          rintro e w4 ⟨u, rfl, hu, hb⟩
          obtain ⟨vT, vx, rfl⟩ := hu.iface (by simp)
          have HV4 := Aside0.mk hu
          have HU4 := Aside0.mk (HU3.out.below hb)
          have HB4 := Aside0.mk (below_next HB3.out hb)
          clear hb hu HU3 HB3
          go_wp2_with fail
          refine (var_first _).mono ?_
          rintro e w5 ⟨rfl, hb⟩
          have HV5 := Aside0.mk (HV4.out.below hb)
          have HU5 := Aside0.mk (HU4.out.below hb)
          have HB5 := Aside0.mk (below_next HB4.out hb)
          clear hb HU4 HB4 HV4
          go_wp2_with fail
          refine (codeK _ (HG.out.below HB5.out) HU5.out (show codeOf (.at_ 0 (.code 1)) = 1 from rfl)).mono ?_
          rintro e w6 ⟨rfl, hb⟩
          have HV6 := Aside0.mk (HV5.out.below hb)
          have HB6 := Aside0.mk (below_next HB5.out hb)
          clear hb HU5 HB5 HV5
          go_wp2_with fail
          refine (codeK _ (HG.out.below HB6.out) HV6.out (show codeOf (.at_ 0 (.code 4)) = 4 from rfl)).mono ?_
          rintro e w7 ⟨rfl, hb⟩
          go_wp2_with fail
          go_ret
          exact ⟨rfl, below_next HB6.out hb⟩
        · obtain ⟨k, rfl⟩ := Int.eq_ofNat_of_zero_le (show 0 ≤ cut by omega)
          obtain ⟨j, hj⟩ : ∃ j : Nat, more = ((j + 1 : Nat) : Int) := ⟨(more - 1).toNat, by omega⟩
          have hjp : P.length + 1 + (j + 1) ≤ 10 := by omega
          have hpos : 0 < more := by omega
          have hm10 : more ≤ 9 := by omega
          have HJ := Aside0.mk hj
          clear hj c4
          have hPP := HPP.out
          obtain ⟨hq1, hq2, hMs⟩ := mr_last HM.out hPP.2.2
          have hor : Go.bits .or .u8 (c : Int) 128 = ((c + 128 : Nat) : Int) := by have := hPP.2.2; rw [or_u8_128 _ (by omega) (by omega)]; omega
          have HMs := Aside0.mk hMs
          have HGg := Aside0.mk (mr_base HM.out)
          have HN := Aside0.mk (And.intro hn0 hn1)
          obtain ⟨T1, hT1⟩ : ∃ T1, P.length + 1 = T1 := ⟨_, rfl⟩
          rw [hT1] at HMs HM c2 ⊢
          rw [show ((c + 128 : Nat) : Int) = (c : Int) + 128 by omega] at HMs hor
          have hidx : (T1 : Int) - 1 = (P.length : Int) := by omega
          have hT10 : T1 ≤ 10 := by omega
          clear hPP hMs hn0 hn1 hm0 hm1 hc0 hc1 A1
          go_wp2_with fail
          have HB2 : Aside0 (Below w.heap.size w (W.setCell ⟨g, P.length, none⟩ (.int .u8 ((c : Int) + 128)))) := ⟨HB.out.setCell (p := ⟨g, P.length, none⟩) HGg.out.1 _⟩
          obtain ⟨ti, ti1, ti2, ti3, ti4⟩ := u8_info
          go_loopw [7, 8] (fun v7 v8 w' => ∃ (i g cap : Nat), v7 = .slice (some ⟨g, 0, none⟩) (T1 + i) cap ∧ v8 = .int .i64 ((i : Int) + 1) ∧ (i : Int) + 1 ≤ more ∧ Aside0 (MR 5 w.heap.size (.slice (some ⟨g, 0, none⟩) (T1 + i) cap) (bv (longL P c i)) w') ∧ Aside0 (Below w.heap.size w w')) (fun _ v8 _ => (more - intOf v8).toNat)
          case atStart => exact ⟨0, g, cap, rfl, rfl, by omega, ⟨by have := HMs.out; unfold longL; rw [List.replicate_zero, List.append_nil]; exact this⟩, HB2⟩
          case round =>
            clear HMs HB2 hq1 hq2 HM HB HGg
            obtain ⟨i, g, cap, rfl, rfl, hi, HM, HB⟩ := hrel
            by_cases hlt : (i : Int) + 1 < more
            · go_wp2_with ((with_reducible refine gate_builtin (b := .append) (xs := #[.tmp 61, .tmp 62]) rfl ?_); at_builtin; refine mr_append (w := wr.alloc (.cells #[.int .u8 128] 5)) rfl (.tmp 61) (.tmp 62) 24 5 rfl ti (.int .u8 0) Tryd.underlying24 ti1 ti2 ti3 ti4 rfl w.heap.size (.slice (some ⟨g, 0, none⟩) (T1 + i) cap) (bv (longL P c i)) rfl (HM.out.below (below_alloc (Below.refl _ _) _)) ⟨wr.heap.size, 0, none⟩ 1 (.int .u8 128) rfl (by rw [blk_cell (heap_alloc_new wr _)]; rfl) rfl (by rw [bv_length, longL_length]; omega) (by rw [World.size_alloc]; exact Nat.le_succ_of_le HB.out.size) ?_; intro v' wa hm hb; rw [show bv (longL P c i) ++ [Value.int .u8 128] = bv (longL P c (i + 1)) from by unfold longL; rw [List.replicate_succ', ← List.append_assoc]; simp [bv]] at hm; obtain ⟨g', cap', hva⟩ := mr_form hm; subst hva; have HM1 := Aside0.mk hm; have HB1 : Aside0 (Below w.heap.size w wa) := ⟨(below_alloc HB.out _).trans hb⟩; clear hm hb HM HB)
              have hlen : (bv (longL P c (i + 1))).length = T1 + (i + 1) := by rw [bv_length, longL_length]; omega
              rw [hlen] at HM1
              go_roundw
              case rel => exact ⟨i + 1, g', cap', by rw [hlen], by go_num, by omega, HM1, HB1⟩
              case measure => simp [intOf]; omega
            · have hPP := HPP.out
              have hie : (i : Int) + 1 = more := by omega
              have hi9 : P.length + 1 + i ≤ 9 := by have := HJ.out; omega
              have hdec := dec_long (by have := HN.out; omega) hPP.1 hPP.2.1 hPP.2.2 i hi9
              have hcut : ∀ m, m < T1 + i + 1 → dec 0 ((longL P c i ++ [0]).take m) = .inl 1 := fun m hm => dec_cut (longL_hi c i hPP.2.1) (by rw [longL_length]; exact hi9) m (by rw [longL_length]; omega) [0]
              have hL : okB (longL P c i ++ [0]) := by
                intro x hx
                have hok : okB (P ++ [c]) := by rw [← hPP.1]; exact putL_ok _
                rcases List.mem_append.1 hx with hx | hx
                · unfold longL at hx
                  rcases List.mem_append.1 hx with hx | hx
                  · rcases List.mem_append.1 hx with hx | hx
                    · exact hok x (List.mem_append_left _ hx)
                    · rw [List.mem_singleton.1 hx]; have := hPP.2.2; omega
                  · rw [List.eq_of_mem_replicate hx]; decide
                · rw [List.mem_singleton.1 hx]; decide
              have hll : (longL P c i ++ [0]).length = T1 + i + 1 := by rw [List.length_append, longL_length]; rw [hT1]; rfl
              clear hPP
              go_wp2_with ((with_reducible refine gate_builtin (b := .append) (xs := #[.tmp 64, .tmp 65]) rfl ?_); at_builtin; refine mr_append (w := wr.alloc (.cells #[.int .u8 0] 5)) rfl (.tmp 64) (.tmp 65) 24 5 rfl ti (.int .u8 0) Tryd.underlying24 ti1 ti2 ti3 ti4 rfl w.heap.size (.slice (some ⟨g, 0, none⟩) (T1 + i) cap) (bv (longL P c i)) rfl (HM.out.below (below_alloc (Below.refl _ _) _)) ⟨wr.heap.size, 0, none⟩ 1 (.int .u8 0) rfl (by rw [blk_cell (heap_alloc_new wr _)]; rfl) rfl (by rw [bv_length, longL_length]; omega) (by rw [World.size_alloc]; exact Nat.le_succ_of_le HB.out.size) ?_; intro v' wa hm hb; rw [show bv (longL P c i) ++ [Value.int .u8 0] = bv (longL P c i ++ [0]) from by simp [bv]] at hm; obtain ⟨g', cap', hva⟩ := mr_form hm; subst hva; have HM1 := Aside0.mk hm; have HB1 : Aside0 (Below w.heap.size w wa) := ⟨(below_alloc HB.out _).trans hb⟩; clear hm hb HM HB)
              have hlb : (bv (longL P c i ++ [0])).length = T1 + i + 1 := by rw [bv_length, hll]
              rw [hlb] at HM1 ⊢
              rw [hT1] at hdec
              obtain ⟨T, hT⟩ : ∃ T, T1 + i + 1 = T := ⟨_, rfl⟩
              rw [hT] at HM1 hdec hcut hll hlb ⊢
              have hT10 : T ≤ 10 := by omega
              obtain ⟨L, hLL⟩ : ∃ L, longL P c i ++ [0] = L := ⟨_, rfl⟩
              rw [hLL] at hL hdec hcut hll hlb HM1
              have HM := HM1
              have HB := HB1
              clear HM1 HB1
              have hT0 : 0 < T := by omega
              have HL := Aside0.mk (And.intro hL (And.intro hdec hcut))
              obtain ⟨m, hm⟩ : ∃ m, k % T = m := ⟨_, rfl⟩
              have hmT : m < T := by rw [← hm]; exact Nat.mod_lt _ hT0
              have hm2 : (k : Int) % (T : Int) = (m : Int) := by rw [← Int.natCast_emod, hm]
              have hn2 : ((n.toNat : Nat) : Int) = n := Int.toNat_of_nonneg HN.out.1
              have cS := fun w' (h : MR 5 w.heap.size (.slice (some ⟨g', 0, none⟩) T cap') (bv L) w') (q cp : Nat) (hq : q ≤ L.length) => mr_string (P := Tryd.prog) (cap' := cp) 24 9 5 Tryd.underlying24 Tryd.underlying5 Tryd.underlying9 hL (by rw [hll]; exact h) q hq
              have hS := cS wa HM.out T cap' (by omega)
              rw [List.take_of_length_le (by omega)] at hS
              have G1 := fun w' => get_ok (st L) 0 n.toNat T w' (by decide) (by omega) (by rw [st_size]; omega) (by rw [bs_st _ hL]; exact hdec)
              rw [hn2, Int.zero_add] at G1
              have hTc : T ≤ cap' := by obtain ⟨_, _, _, _, hv, _, _, _, hlc, _⟩ := HM.out; injection hv with _ _ hv3; rw [bv_length, hll] at hlc; omega
              have hgm : g' < wa.heap.size := by obtain ⟨_, _, _, _, hv, _, hh, _⟩ := HM.out; injection hv with hv1; injection hv1 with hv1; injection hv1 with hv1; subst hv1; exact blk_lt hh
              clear hL hdec hcut hm
              rw [hS]
              go_wp2_with fail
              refine (G1 wa).mono ?_
              rintro e w2 ⟨rfl, hb⟩
              have HB2 := Aside0.mk (below_next HB.out hb)
              have HM2 := Aside0.mk (HM.out.below hb)
              have hS2 := cS w2 HM2.out m cap' (by omega)
              have G2 := fun w' => get_err (st (L.take m)) 0 1 w' (by decide) (by omega) (by rw [st_size, List.length_take]; omega) (by rw [bs_st _ (fun x hx => HL.out.1 x (List.mem_of_mem_take hx))]; exact HL.out.2.2 m hmT)
              clear hb hS G1 HB HM
              go_wp2_with fail
              refine (G2 _).mono ?_
              rintro e w3 ⟨u, rfl, hu, hb⟩
              obtain ⟨uT, ux, rfl⟩ := hu.iface (by simp)
              have HU3 := Aside0.mk hu
              have HB3 := Aside0.mk (below_next HB2.out hb)
              clear hb hu G2 hS2 HB2 HM2
              go_wp2_with fail
              refine (get_big _).mono ?_
              rintro e w4 ⟨u, rfl, hu, hb⟩
              obtain ⟨vT, vx, rfl⟩ := hu.iface (by simp)
              have HV4 := Aside0.mk hu
              have HU4 := Aside0.mk (HU3.out.below hb)
              have HB4 := Aside0.mk (below_next HB3.out hb)
              clear hb hu HU3 HB3
              go_wp2_with fail
              refine (var_first _).mono ?_
              rintro e w5 ⟨rfl, hb⟩
              have HV5 := Aside0.mk (HV4.out.below hb)
              have HU5 := Aside0.mk (HU4.out.below hb)
              have HB5 := Aside0.mk (below_next HB4.out hb)
              clear hb HU4 HB4 HV4
              go_wp2_with fail
              refine (codeK _ (HG.out.below HB5.out) HU5.out (show codeOf (.at_ 0 (.code 1)) = 1 from rfl)).mono ?_
              rintro e w6 ⟨rfl, hb⟩
              have HV6 := Aside0.mk (HV5.out.below hb)
              have HB6 := Aside0.mk (below_next HB5.out hb)
              clear hb HU5 HB5 HV5
              go_wp2_with fail
              refine (codeK _ (HG.out.below HB6.out) HV6.out (show codeOf (.at_ 0 (.code 4)) = 4 from rfl)).mono ?_
              rintro e w7 ⟨rfl, hb⟩
              go_wp2_with fail
              go_ret
              exact ⟨rfl, below_next HB6.out hb⟩
end Go.Proofs.YtlgiodkckdpjiaaDoor
