import Derived.Test.YtdogokcoobpgdaaMshfpzujm
import Derived.Test.YtdogokcoobpgdaaMngtzozrc
import Derived.Test.YtdogokcoobpgdaaMfcnvqwvf
import Derived.Great.Walk
import Derived.Test.YtdogokcoobpgdaaMzsmiysjl
import Derived.Test.YtdogokcoobpgdaaMox
import Derived.Test.YtdogokcoobpgdaaMpsbpigeq
namespace Go.Proofs.Ytdogokcoobpgdaa
open Go.RowKit Go.Proofs.YtdogokcoobpgdaaW.PrintWords Go.Proofs.YtdogokcoobpgdaaW.PrintLast Go.Proofs.YtdogokcoobpgdaaW.PrintMore

theorem kb_inj {x y : Kv} (h : kb x = kb y) : x.key = y.key := by
  unfold kb at h
  obtain ⟨k, _, _, _⟩ := x
  obtain ⟨k', _, _, _⟩ := y
  cases k
  cases k'
  simp only at h ⊢
  congr 1
  exact Array.toList_inj.1 h
def NdK (l : List Kv) (i : Nat) : Prop := ((l.take i).map kb).Nodup
theorem nd_next {l : List Kv} {i : Nat} (h : NdK l i) (hi : i < l.length) (hn : ∀ j (hj : j < i), ¬ (l[j]'(by omega)).key = l[i].key) : NdK l (i + 1) := by
  unfold NdK at *
  rw [List.take_succ_eq_append_getElem hi, List.map_append, List.nodup_append]
  refine ⟨h, by simp, ?_⟩
  intro a ha b hb
  simp only [List.map_cons, List.map_nil, List.mem_singleton] at hb
  subst hb
  obtain ⟨x, hx, rfl⟩ := List.mem_map.1 ha
  obtain ⟨j, hj, hjx⟩ := List.mem_iff_getElem.1 hx
  rw [List.length_take] at hj
  rw [List.getElem_take] at hjx
  intro e
  refine hn j (by omega) ?_
  rw [hjx]
  exact kb_inj e
theorem nd_end {l : List Kv} (h : NdK l l.length) : dupK l = false := by
  unfold NdK at h
  rw [List.take_length] at h
  unfold dupK
  rw [decide_eq_true h]; rfl
theorem nd_hit {l : List Kv} {i k : Nat} (hk : k < i) (hi : i < l.length) (e : l[i].key = (l[k]'(by omega)).key) : dupK l = true := by
  unfold dupK
  rw [decide_eq_false]; rfl
  intro h
  have h1 := List.pairwise_iff_getElem.1 h k i (by rw [List.length_map]; omega) (by rw [List.length_map]; exact hi) hk
  apply h1
  rw [List.getElem_map, List.getElem_map]
  unfold kb
  rw [e]
set_option maxHeartbeats 2000000 in
set_option maxRecDepth 100000 in
theorem rtwice_any (w : World) (s : Sl) (l : List Kv) (hs : KsAt w s l) : Calls Try.prog 47 #[s.v] w fun e w' => e = .returned (.bool (dupK l)) ∧ Drawn0 w w' := by
  obtain ⟨sa, sn, sc⟩ := s
  obtain rfl : sn = l.length := hs.at_.1
  have hlm : l.length ≤ 1000 := hs.few
  have HS := Aside0.mk hs
  unfold Sl.v
  clear hs
  go_enter Try.func47, Try.ntmps47
  go_wp2_with fail
  go_loopw [3] (fun v3 w' => ∃ i : Nat, v3 = .int .i64 (i : Int) ∧ i ≤ l.length ∧ Aside0 (NdK l i) ∧ Aside0 (Drawn0 w w')) (fun v3 _ => l.length - (intOf v3).toNat)
  case atStart => exact ⟨0, rfl, Nat.zero_le _, ⟨by simp [NdK]⟩, ⟨Drawn0.refl _⟩⟩
  case round =>
    obtain ⟨i, rfl, hi, HN, HD⟩ := hrel
    by_cases hlt : i < l.length
    · go_wp2_with fail
      have HDi := HD
      go_loopw [4] (fun v4 w' => ∃ k : Nat, v4 = .int .i64 (k : Int) ∧ k ≤ i ∧ Aside0 (∀ j (hj : j < k), ¬ ((l[j]?).map (·.key)) = some l[i].key) ∧ Aside0 (Drawn0 w w')) (fun v4 _ => i - (intOf v4).toNat)
      case atStart => exact ⟨0, rfl, Nat.zero_le _, ⟨fun j hj => absurd hj (Nat.not_lt_zero j)⟩, HDi⟩
      case round =>
        clear HD HDi
        obtain ⟨k, rfl, hk, HK, HD⟩ := hrel
        by_cases hki : k < i
        · obtain ⟨ad, rfl, hel⟩ := HS.out.at_.2.2.2 (by omega)
          have hb : Below w.heap.size w wr := HD.out.below
          have hxi := (kv_at (hel i hlt).1).below hb
          have hxk := (kv_at (hel k (by omega)).1).below hb
          have hkl : k < l.length := by omega
          have c1 : (i : Int) < (l.length : Int) := by omega
          have c2 : (k : Int) < (l.length : Int) := by omega
          have c3 : (k : Int) < (i : Int) := by omega
          have c4 : (0 : Int) ≤ (i : Int) := by omega
          have c5 : (0 : Int) ≤ (k : Int) := by omega
          have z1 := hxi.c0
          have z2 := hxk.c0
          by_cases he : l[i].key = l[k].key
          · have HR := Aside0.mk (nd_hit hki hlt he)
            rw [he] at z1
            generalize l[k].key = sk at *
            clear hel hxi hxk hb HK HN he
            go_wp2_with fail
            go_quiet (fail)
            go_wp2_with fail
            go_ret
            exact ⟨by rw [HR.out]; rfl, by repeat (first | exact HD.out | apply Drawn0.step)⟩
          · have HKn := Aside0.mk (show ∀ j (hj : j < k + 1), ¬ ((l[j]?).map (·.key)) = some l[i].key by
              intro j hj
              by_cases hjk : j < k
              · exact HK.out j hjk
              · obtain rfl : j = k := by omega
                rw [List.getElem?_eq_getElem hkl]
                intro h
                simp only [Option.map_some, Option.some.injEq] at h
                exact he h.symm)
            generalize l[k].key = sk at *
            generalize l[i].key = si at *
            have he3 : (si.toList == sk.toList) = false := by rw [beq_eq_false_iff_ne]; intro h; rw [ByteArray.toList_eq, ByteArray.toList_eq] at h; apply he; cases si; cases sk; congr 1; exact Array.toList_inj.1 h
            clear hel hxi hxk hb HK
            go_wp2_with fail
            go_quiet (fail)
            go_wp2_with fail
            go_roundw
            case rel => exact ⟨k + 1, by go_num, by omega, HKn, ⟨by repeat (first | exact HD.out | apply Drawn0.step)⟩⟩
            case measure => simp [intOf]; omega
        · obtain rfl : k = i := by omega
          have HNn := Aside0.mk (nd_next HN.out hlt (fun j hj e => HK.out j hj (by rw [List.getElem?_eq_getElem (by omega)]; simp only [Option.map_some, e])))
          clear HK HN
          go_wp2_with fail
          go_roundw
          case rel => exact ⟨k + 1, by go_num, by omega, HNn, HD⟩
          case measure => simp [intOf]; omega
    · obtain rfl : i = l.length := by omega
      have HR := Aside0.mk (nd_end HN.out)
      clear HN
      go_wp2_with fail
      go_ret
      exact ⟨by rw [HR.out]; rfl, HD.out⟩
end Go.Proofs.Ytdogokcoobpgdaa
namespace Go.Proofs.Ytdogokcoobpgdaa
open Go.RowKit Go.Proofs.YtdogokcoobpgdaaW.PrintWords Go.Proofs.YtdogokcoobpgdaaW.PrintLast Go.Proofs.YtdogokcoobpgdaaW.PrintMore

theorem comm_fine {s t : Int} (h1 : t ≠ 0) (h2 : ¬ t < s) : commI s t false = 0 := by
  unfold commI
  have e1 : (t == 0) = false := by simpa using h1
  rw [e1, decide_eq_false h2]
  rfl
set_option maxHeartbeats 2000000 in
set_option maxRecDepth 100000 in
theorem rbase_any (w : World) (start time : Int) (s : Sl) (l : List Kv) (hs : KsAt w s l) : Calls Try.prog 33 #[.int .u64 start, .int .u64 time, .slice s.a s.len s.cap] w fun e w' => e = .returned (.int .i64 (commI start time (dupK l))) ∧ Below w.heap.size w w' := by
  have HT : Aside0 (∀ w', Below w.heap.size w w' → Calls Try.prog 47 #[.slice s.a s.len s.cap] w' fun e w2 => e = .returned (.bool (dupK l)) ∧ Below w'.heap.size w' w2) := ⟨fun w' hb => (rtwice_any w' s l (hs.below hb)).mono fun _ _ h => ⟨h.1, h.2.below⟩⟩
  have HB := Aside0.mk (Below.refl w.heap.size w)
  clear hs
  by_cases h1 : time = 0
  · subst h1
    rw [comm_time]
    go_enter Try.func33, Try.ntmps33
    go_wp2_with fail
    go_ret
    exact ⟨rfl, HB.out⟩
  · have f1 : (time == 0) = false := by simpa using h1
    by_cases h2 : time < start
    · rw [comm_order h1 h2]
      have f2 : decide (time < start) = true := decide_eq_true h2
      have f3 : decide (start > time) = true := decide_eq_true h2
      clear h1 h2
      go_enter Try.func33, Try.ntmps33
      go_wp2_with fail
      go_ret
      exact ⟨rfl, HB.out⟩
    · have f2 : decide (time < start) = false := decide_eq_false h2
      have f3 : decide (start > time) = false := decide_eq_false h2
      cases hd : dupK l with
      | true =>
        rw [comm_dup h1 h2]
        rw [hd] at HT
        clear h1 h2
        go_enter Try.func33, Try.ntmps33
        go_wp2_with (go_at_call 47; with_reducible refine (HT.out _ HB.out).mono ?_; rintro e w2 ⟨rfl, hb⟩; replace HB := Aside0.mk (below_next HB.out hb); clear hb)
        go_ret
        exact ⟨rfl, HB.out⟩
      | false =>
        rw [comm_fine h1 h2]
        rw [hd] at HT
        clear h1 h2
        go_enter Try.func33, Try.ntmps33
        go_wp2_with (go_at_call 47; with_reducible refine (HT.out _ HB.out).mono ?_; rintro e w2 ⟨rfl, hb⟩; replace HB := Aside0.mk (below_next HB.out hb); clear hb)
        go_ret
        exact ⟨rfl, HB.out⟩
theorem whn_true (r : Int) : whn true r = r := rfl
theorem whn_false (r : Int) : whn false r = 0 := rfl
theorem orL_ne {a : Int} {l : List Int} (h : a ≠ 0) : orL (a :: l) = a := by unfold orL; rw [if_neg h]
theorem orL_z (l : List Int) : orL (0 :: l) = orL l := by rw [orL, if_pos rfl]
theorem orL_nil : orL [] = 0 := rfl
set_option maxHeartbeats 2000000 in
set_option maxRecDepth 100000 in
theorem rnumber_any (w : World) (x : Nmb) (ks : List Kv) (hk : KsAt w x.attrs ks) :
    Calls Try.prog 13 #[nmbA x] w fun e w' => e = .returned (.int .i64 (numI x.start x.time x.kind x.flags (dupK ks))) ∧ Below w.heap.size w w' := by
  have HC : Aside0 (∀ w', Below w.heap.size w w' → Calls Try.prog 33 #[.int .u64 x.start, .int .u64 x.time, .slice x.attrs.a x.attrs.len x.attrs.cap] w' fun e w2 => e = .returned (.int .i64 (commI x.start x.time (dupK ks))) ∧ Below w'.heap.size w' w2) := ⟨fun w' h => rbase_any w' x.start x.time x.attrs ks (hk.below h)⟩
  unfold numI
  generalize commI x.start x.time (dupK ks) = cm at *
  have hX : XN (w.alloc (.cells (nmbC x).toArray 47)) w.heap.size x := ⟨heap_alloc_new w _⟩
  have HB : Aside0 (Below w.heap.size w (w.alloc (.cells (nmbC x).toArray 47))) := ⟨(Below.refl _ _).alloc (Nat.le_refl _) _⟩
  have z0 := hX.c0
  have z1 := hX.c1
  have z2 := hX.c2
  have HX := Aside0.mk hX
  clear hX hk
  unfold nmbA
  have hcase : ∃ c1 c2 c3 : Bool, (cm == 0) = c1 ∧ decide (cm = 0) = c1 ∧ (x.kind == 0) = c2 ∧ decide (x.kind = 0) = c2 ∧ (Go.bits .and .u32 x.flags 1 == 0) = c3 ∧ decide (Go.bits .and .u32 x.flags 1 = 0) = c3 := ⟨_, _, _, rfl, (by by_cases h : cm = 0 <;> simp [h]), rfl, (by by_cases h : x.kind = 0 <;> simp [h]), rfl, (by by_cases h : Go.bits .and .u32 x.flags 1 = 0 <;> simp [h])⟩
  obtain ⟨c1, c2, c3, e1, e2, e3, e4, e5, e6⟩ := hcase
  rw [e4, e5]
  have hr : orL [cm, whn (c2 && c3) 7] = if (c1 && (c2 && c3)) = true then 7 else cm := by
    cases c1 with
    | true => have h0 : cm = 0 := by simpa using e1
              subst h0
              cases c2 <;> cases c3 <;> rfl
    | false => have h0 : cm ≠ 0 := by simpa using e1
               rw [orL_ne h0]; simp
  rw [hr]
  clear hr
  cases c1 <;> cases c2 <;> cases c3
  all_goals
    simp only [Bool.and_true, Bool.and_false, Bool.false_eq_true, if_false, if_true]
    go_enter Try.func13, Try.ntmps13
    go_wp2_with (first
      | (refine Great.wpList_boxTo rfl 47 _ rfl _ rfl w.heap.size rfl (nmbC x).toArray rfl ?_)
      | (go_at_call 33; with_reducible refine (HC.out _ HB.out).mono ?_; rintro e w2 ⟨rfl, hb⟩; clear z0 z1 z2; replace HX := Aside0.mk (HX.out.below hb); replace HB := Aside0.mk (below_next HB.out hb); clear hb; have z3 := HX.out.c3; have z6 := HX.out.c6))
    go_ret
    exact ⟨rfl, HB.out⟩
end Go.Proofs.Ytdogokcoobpgdaa
namespace Go.Proofs.Ytdogokcoobpgdaa
open Go.RowKit Go.Proofs.YtdogokcoobpgdaaW.PrintWords Go.Proofs.YtdogokcoobpgdaaW.PrintLast Go.Proofs.YtdogokcoobpgdaaW.PrintMore
attribute [local go_sem] max2_int min2_int max_two min_two max_three min_three max_four min_four   -- for this text's walks alone

set_option maxHeartbeats 2000000 in
set_option maxRecDepth 100000 in
theorem round_one (w : World) : Calls Try.prog 50 #[.bool false, .int .u64 1, .int .i64 0] w fun e w' => e = .returned (.int .u64 4607182418800017408) ∧ Below w.heap.size w w' := by
  have HB := Aside0.mk (Below.refl w.heap.size w)
  go_enter Try.func50, Try.ntmps50
  go_wp2_with fail
  go_loopw [8] (fun v8 w' => v8 = .int .i64 0 ∧ Aside0 (Below w.heap.size w w')) (fun _ _ => 0)
  case atStart => exact ⟨rfl, HB⟩
  case round =>
    clear HB
    obtain ⟨rfl, HB⟩ := hrel
    go_wp2_with fail
    go_ret
    exact ⟨rfl, HB.out⟩
theorem rone_any (w : World) : Calls Try.prog 40 #[.int .i64 1] w fun e w' => e = .returned (.int .u64 4607182418800017408) ∧ Below w.heap.size w w' := by
  have HB := Aside0.mk (Below.refl w.heap.size w)
  have HR := Aside0.mk round_one
  go_enter Try.func40, Try.ntmps40
  go_wp2_with (go_at_call 50; with_reducible refine (HR.out _).mono ?_; rintro e w2 ⟨rfl, hb⟩; have n0_ := Aside0.mk (below_next HB.out hb); clear HB hb; have HB := n0_; clear n0_)
  go_ret
  exact ⟨rfl, HB.out⟩
end Go.Proofs.Ytdogokcoobpgdaa
namespace Go.Proofs.Ytdogokcoobpgdaa
open Go.RowKit Go.Proofs.YtdogokcoobpgdaaW.PrintWords Go.Proofs.YtdogokcoobpgdaaW.PrintLast Go.Proofs.YtdogokcoobpgdaaW.PrintMore Hy

theorem ns_len {W : World} {s : Sl} {l : List Int} (h : NsAt W s l) : l.length ≤ s.cap ∧ l.length ≤ 9223372036854775807 := by
  have h0 := h.len; have h1 := h.cap; have h2 := h.most; unfold maxLen at h2; exact ⟨by omega, by omega⟩
theorem rtotal_any (W : World) (n : Int) (s : Sl) (l : List Int) (h : NsAt W s l) (hn : R64 n) : Calls Try.prog 34 #[.int .u64 n, .slice s.a s.len s.cap] W fun e w' => e = .returned (.bool (addsB n [l])) ∧ Below W.heap.size W w' := by
  obtain ⟨k, hk⟩ := total18 l (ns_len h).2 h.wf n hn
  rw [adds_one, h.len]
  exact (CPts.hygref18_total.calls k n s.a s.cap l _ W h.c (ns_len h).1 hk).mono fun _ _ h => ⟨h.1, h.2.below⟩
theorem rrises_any (W : World) (s : Sl) (l : List Int) (h : NsAt W s l) : Calls Try.prog 35 #[.slice s.a s.len s.cap] W fun e w' => e = .returned (.bool (risesB l)) ∧ Below W.heap.size W w' := by
  obtain ⟨k, hk⟩ := rises18 l (ns_len h).2 h.wf
  rw [h.len]
  exact (CPts.hygref18_rises.calls k s.a s.cap l _ W h.c (ns_len h).1 hk).mono fun _ _ h => ⟨h.1, h.2.below⟩
theorem rup_any (W : World) (h1 : Bool) (n1 : Int) (h2 : Bool) (n2 : Int) (r1 : R64 n1) (r2 : R64 n2) : Calls Try.prog 36 #[.agg #[.bool h1, .int .u64 n1], .agg #[.bool h2, .int .u64 n2]] W fun e w' => e = .returned (.bool (upB h1 n1 h2 n2)) ∧ Below W.heap.size W w' :=
  CPts.hygref18_upside.calls 1 h1 n1 h2 n2 _ W (up18 0 h1 h2 n1 n2 r1 r2)
theorem rfar_any (W : World) (off : Int) (s : Sl) (l : List Int) (u : ByteArray) (h : NsAt W s l) : Calls Try.prog 37 #[.agg #[.int .i32 off, .slice s.a s.len s.cap, .string u]] W fun e w' => e = .returned (.bool (beyB off l.length)) ∧ Below W.heap.size W w' := by
  rw [h.len]
  exact CPts.hygref18_far.calls off s.a s.cap l u _ W h.c (ns_len h).1 (far18 off l u)
theorem rclass_any (W : World) (a : Int) (h : R64 a) : Calls Try.prog 38 #[.int .u64 a] W fun e w' => e = .returned (.int .i64 (classI a)) ∧ Below W.heap.size W w' :=
  (CPts.hygref6_Class.calls 1 a _ W (class6 0 a h)).mono fun _ _ h => ⟨h.1, h.2.below⟩
theorem rless_any (W : World) (a b : Int) (ha : R64 a) (hb : R64 b) : Calls Try.prog 39 #[.int .u64 a, .int .u64 b] W fun e w' => e = .returned (.bool (lessB a b)) ∧ Below W.heap.size W w' :=
  (CPts.hygref6_Less.calls 1 a b _ W (less6 0 a b ha hb)).mono fun _ _ h => ⟨h.1, h.2.below⟩
theorem comm_pos (s t : Int) (d : Bool) : 0 ≤ commI s t d := by
  unfold commI
  cases h1 : (t == 0) <;> cases h2 : decide (t < s) <;> cases d <;> decide
end Go.Proofs.Ytdogokcoobpgdaa
namespace Go.Proofs.Ytdogokcoobpgdaa
open Go.RowKit Go.Proofs.YtdogokcoobpgdaaW.PrintWords Go.Proofs.YtdogokcoobpgdaaW.PrintLast Go.Proofs.YtdogokcoobpgdaaW.PrintMore Hy

theorem tolds (a b : Nat) (ha : a ≤ 12000) (hb : b ≤ 12000) : ((0 : Int) < (a : Int) + (b : Int) ∧ toldB a b = true) ∨ (¬ (0 : Int) < (a : Int) + (b : Int) ∧ toldB a b = false) := by
  unfold toldB
  by_cases h1 : (0 : Int) < (a : Int)
  · exact .inl ⟨by omega, by rw [decide_eq_true h1]; rfl⟩
  · by_cases h2 : (0 : Int) < (b : Int)
    · exact .inl ⟨by omega, by rw [decide_eq_true h2, Bool.or_true]⟩
    · exact .inr ⟨by omega, by rw [decide_eq_false h1, decide_eq_false h2]; rfl⟩
theorem miss (a b : Nat) (hb : b ≤ 12000) : ((a : Int) = (b : Int) + 1 ∧ ((a : Int) == (b : Int) + 1) = true ∧ misB a b = false) ∨ (¬ (a : Int) = (b : Int) + 1 ∧ ((a : Int) == (b : Int) + 1) = false ∧ misB a b = true) := by
  unfold misB
  rw [show wrap64 ((b : Int) + 1) = (b : Int) + 1 by unfold wrap64; omega]
  by_cases h : (a : Int) = (b : Int) + 1
  · exact .inl ⟨h, by simpa using h, by rw [decide_eq_true h]; rfl⟩
  · exact .inr ⟨h, by simpa using h, by rw [decide_eq_false h]; rfl⟩
set_option maxHeartbeats 4000000 in
set_option maxRecDepth 100000 in
theorem rhst_c (w : World) (x : Hst) (ks : List Kv) (cl bl : List Int) (hk : KsAt w x.attrs ks) (hc : NsAt w x.counts cl) (hb : NsAt w x.bounds bl) (rc : R64 x.count) (rn : R64 x.mn.n) (rx : R64 x.mx.n) (_lc : x.counts.len ≤ 12000) (_lb : x.bounds.len ≤ 12000) (hp : 0 < commI x.start x.time (dupK ks)) :
    Calls Try.prog 14 #[hstA x] w fun e w' => e = .returned (.int .i64 (commI x.start x.time (dupK ks))) ∧ Below w.heap.size w w' := by
  have HC : Aside0 (∀ w', Below w.heap.size w w' → Calls Try.prog 33 #[.int .u64 x.start, .int .u64 x.time, .slice x.attrs.a x.attrs.len x.attrs.cap] w' fun e w2 => e = .returned (.int .i64 (commI x.start x.time (dupK ks))) ∧ Below w'.heap.size w' w2) := ⟨fun w' h => rbase_any w' x.start x.time x.attrs ks (hk.below h)⟩
  have HA := Aside0.mk (fun w' (h : Below w.heap.size w w') => rtotal_any w' x.count x.counts cl (hc.below h) rc)
  have HR := Aside0.mk (fun w' (h : Below w.heap.size w w') => rrises_any w' x.bounds bl (hb.below h))
  have HU := Aside0.mk (fun w' => rup_any w' x.mn.has x.mn.n x.mx.has x.mx.n rn rx)
  generalize commI x.start x.time (dupK ks) = cm at *
  generalize addsB x.count [cl] = ad at *
  generalize risesB bl = ri at *
  generalize upB x.mn.has x.mn.n x.mx.has x.mx.n = up at *
  have hX : XH (w.alloc (.cells (hstC x).toArray 30)) w.heap.size x := ⟨heap_alloc_new w _⟩
  have HB : Aside0 (Below w.heap.size w (w.alloc (.cells (hstC x).toArray 30))) := ⟨(Below.refl _ _).alloc (Nat.le_refl _) _⟩
  have z0 := hX.c0
  have z1 := hX.c1
  have z2 := hX.c2
  have z3 := hX.c3
  have z6 := hX.c6
  have z7 := hX.c7
  have z8 := hX.c8
  have z9 := hX.c9
  have z10 := hX.c10
  have z11 := hX.c11
  have HX := Aside0.mk hX
  have z25 := Try.sizeOf25
  clear hX hk hc hb rc rn rx
  unfold hstA
  have h2 : decide (cm > 0) = true := decide_eq_true hp
  go_enter Try.func14, Try.ntmps14
  go_wp2_with (first
      | ((with_reducible refine gate_dst (N := 1) rfl ?_); refine Great.wpList_boxTo rfl 30 _ rfl _ rfl w.heap.size rfl (hstC x).toArray rfl ?_)
      | (go_at_call 33; with_reducible refine (HC.out _ HB.out).mono ?_; rintro e w2 ⟨rfl, hb⟩; clear z0 z1 z2 z3 z6 z7 z8 z9 z10 z11; have n1_ := Aside0.mk (HX.out.below hb); have n0_ := Aside0.mk (below_next HB.out hb); clear HX HB hb; have HX := n1_; have HB := n0_; clear n0_ n1_; have z0 := HX.out.c0; have z1 := HX.out.c1; have z2 := HX.out.c2; have z3 := HX.out.c3; have z6 := HX.out.c6; have z7 := HX.out.c7; have z8 := HX.out.c8; have z9 := HX.out.c9; have z10 := HX.out.c10; have z11 := HX.out.c11)
      | fail)
  go_ret
  exact ⟨rfl, HB.out⟩
set_option maxHeartbeats 4000000 in
set_option maxRecDepth 100000 in
theorem rhst_m (w : World) (x : Hst) (ks : List Kv) (cl bl : List Int) (hk : KsAt w x.attrs ks) (hc : NsAt w x.counts cl) (hb : NsAt w x.bounds bl) (rc : R64 x.count) (rn : R64 x.mn.n) (rx : R64 x.mx.n) (lc : x.counts.len ≤ 12000) (lb : x.bounds.len ≤ 12000) (e0 : commI x.start x.time (dupK ks) = 0) (t1 : (0 : Int) < (x.counts.len : Int) + (x.bounds.len : Int)) (m1 : ¬ (x.counts.len : Int) = (x.bounds.len : Int) + 1) (_m2 : ((x.counts.len : Int) == (x.bounds.len : Int) + 1) = false) :
    Calls Try.prog 14 #[hstA x] w fun e w' => e = .returned (.int .i64 8) ∧ Below w.heap.size w w' := by
  have HC : Aside0 (∀ w', Below w.heap.size w w' → Calls Try.prog 33 #[.int .u64 x.start, .int .u64 x.time, .slice x.attrs.a x.attrs.len x.attrs.cap] w' fun e w2 => e = .returned (.int .i64 (commI x.start x.time (dupK ks))) ∧ Below w'.heap.size w' w2) := ⟨fun w' h => rbase_any w' x.start x.time x.attrs ks (hk.below h)⟩
  have HA := Aside0.mk (fun w' (h : Below w.heap.size w w') => rtotal_any w' x.count x.counts cl (hc.below h) rc)
  have HR := Aside0.mk (fun w' (h : Below w.heap.size w w') => rrises_any w' x.bounds bl (hb.below h))
  have HU := Aside0.mk (fun w' => rup_any w' x.mn.has x.mn.n x.mx.has x.mx.n rn rx)
  generalize commI x.start x.time (dupK ks) = cm at *
  generalize addsB x.count [cl] = ad at *
  generalize risesB bl = ri at *
  generalize upB x.mn.has x.mn.n x.mx.has x.mx.n = up at *
  have hX : XH (w.alloc (.cells (hstC x).toArray 30)) w.heap.size x := ⟨heap_alloc_new w _⟩
  have HB : Aside0 (Below w.heap.size w (w.alloc (.cells (hstC x).toArray 30))) := ⟨(Below.refl _ _).alloc (Nat.le_refl _) _⟩
  have z0 := hX.c0
  have z1 := hX.c1
  have z2 := hX.c2
  have z3 := hX.c3
  have z6 := hX.c6
  have z7 := hX.c7
  have z8 := hX.c8
  have z9 := hX.c9
  have z10 := hX.c10
  have z11 := hX.c11
  have HX := Aside0.mk hX
  have z25 := Try.sizeOf25
  clear hX hk hc hb rc rn rx
  unfold hstA
  subst e0
  go_enter Try.func14, Try.ntmps14
  go_wp2_with (first
      | ((with_reducible refine gate_dst (N := 1) rfl ?_); refine Great.wpList_boxTo rfl 30 _ rfl _ rfl w.heap.size rfl (hstC x).toArray rfl ?_)
      | (go_at_call 33; with_reducible refine (HC.out _ HB.out).mono ?_; rintro e w2 ⟨rfl, hb⟩; clear z0 z1 z2 z3 z6 z7 z8 z9 z10 z11; have n1_ := Aside0.mk (HX.out.below hb); have n0_ := Aside0.mk (below_next HB.out hb); clear HX HB hb; have HX := n1_; have HB := n0_; clear n0_ n1_; have z0 := HX.out.c0; have z1 := HX.out.c1; have z2 := HX.out.c2; have z3 := HX.out.c3; have z6 := HX.out.c6; have z7 := HX.out.c7; have z8 := HX.out.c8; have z9 := HX.out.c9; have z10 := HX.out.c10; have z11 := HX.out.c11)
      | fail)
  go_ret
  exact ⟨rfl, HB.out⟩
set_option maxHeartbeats 4000000 in
set_option maxRecDepth 100000 in
theorem rhst_a (w : World) (x : Hst) (ks : List Kv) (cl bl : List Int) (hk : KsAt w x.attrs ks) (hc : NsAt w x.counts cl) (hb : NsAt w x.bounds bl) (rc : R64 x.count) (rn : R64 x.mn.n) (rx : R64 x.mx.n) (lc : x.counts.len ≤ 12000) (_lb : x.bounds.len ≤ 12000) (e0 : commI x.start x.time (dupK ks) = 0) (t1 : (0 : Int) < (x.counts.len : Int) + (x.bounds.len : Int)) (m1 : (x.counts.len : Int) = (x.bounds.len : Int) + 1) (_m2 : ((x.counts.len : Int) == (x.bounds.len : Int) + 1) = true) (e1 : addsB x.count [cl] = false) :
    Calls Try.prog 14 #[hstA x] w fun e w' => e = .returned (.int .i64 8) ∧ Below w.heap.size w w' := by
  have HC : Aside0 (∀ w', Below w.heap.size w w' → Calls Try.prog 33 #[.int .u64 x.start, .int .u64 x.time, .slice x.attrs.a x.attrs.len x.attrs.cap] w' fun e w2 => e = .returned (.int .i64 (commI x.start x.time (dupK ks))) ∧ Below w'.heap.size w' w2) := ⟨fun w' h => rbase_any w' x.start x.time x.attrs ks (hk.below h)⟩
  have HA := Aside0.mk (fun w' (h : Below w.heap.size w w') => rtotal_any w' x.count x.counts cl (hc.below h) rc)
  have HR := Aside0.mk (fun w' (h : Below w.heap.size w w') => rrises_any w' x.bounds bl (hb.below h))
  have HU := Aside0.mk (fun w' => rup_any w' x.mn.has x.mn.n x.mx.has x.mx.n rn rx)
  generalize commI x.start x.time (dupK ks) = cm at *
  generalize addsB x.count [cl] = ad at *
  generalize risesB bl = ri at *
  generalize upB x.mn.has x.mn.n x.mx.has x.mx.n = up at *
  have hX : XH (w.alloc (.cells (hstC x).toArray 30)) w.heap.size x := ⟨heap_alloc_new w _⟩
  have HB : Aside0 (Below w.heap.size w (w.alloc (.cells (hstC x).toArray 30))) := ⟨(Below.refl _ _).alloc (Nat.le_refl _) _⟩
  have z0 := hX.c0
  have z1 := hX.c1
  have z2 := hX.c2
  have z3 := hX.c3
  have z6 := hX.c6
  have z7 := hX.c7
  have z8 := hX.c8
  have z9 := hX.c9
  have z10 := hX.c10
  have z11 := hX.c11
  have HX := Aside0.mk hX
  have z25 := Try.sizeOf25
  clear hX hk hc hb rc rn rx
  unfold hstA
  subst e0 e1
  go_enter Try.func14, Try.ntmps14
  go_wp2_with (first
      | ((with_reducible refine gate_dst (N := 1) rfl ?_); refine Great.wpList_boxTo rfl 30 _ rfl _ rfl w.heap.size rfl (hstC x).toArray rfl ?_)
      | (go_at_call 33; with_reducible refine (HC.out _ HB.out).mono ?_; rintro e w2 ⟨rfl, hb⟩; clear z0 z1 z2 z3 z6 z7 z8 z9 z10 z11; have n1_ := Aside0.mk (HX.out.below hb); have n0_ := Aside0.mk (below_next HB.out hb); clear HX HB hb; have HX := n1_; have HB := n0_; clear n0_ n1_; have z0 := HX.out.c0; have z1 := HX.out.c1; have z2 := HX.out.c2; have z3 := HX.out.c3; have z6 := HX.out.c6; have z7 := HX.out.c7; have z8 := HX.out.c8; have z9 := HX.out.c9; have z10 := HX.out.c10; have z11 := HX.out.c11)
      | (go_at_call 34; with_reducible refine (HA.out _ HB.out).mono ?_; rintro e w2 ⟨rfl, hb⟩; clear z0 z1 z2 z3 z6 z7 z8 z9 z10 z11; have n1_ := Aside0.mk (HX.out.below hb); have n0_ := Aside0.mk (below_next HB.out hb); clear HX HB hb; have HX := n1_; have HB := n0_; clear n0_ n1_; have z0 := HX.out.c0; have z1 := HX.out.c1; have z2 := HX.out.c2; have z3 := HX.out.c3; have z6 := HX.out.c6; have z7 := HX.out.c7; have z8 := HX.out.c8; have z9 := HX.out.c9; have z10 := HX.out.c10; have z11 := HX.out.c11)
      | fail)
  go_ret
  exact ⟨rfl, HB.out⟩
set_option maxHeartbeats 4000000 in
set_option maxRecDepth 100000 in
theorem rhst_fr (w : World) (x : Hst) (ks : List Kv) (cl bl : List Int) (hk : KsAt w x.attrs ks) (hc : NsAt w x.counts cl) (hb : NsAt w x.bounds bl) (rc : R64 x.count) (rn : R64 x.mn.n) (rx : R64 x.mx.n) (_lc : x.counts.len ≤ 12000) (_lb : x.bounds.len ≤ 12000) (e0 : commI x.start x.time (dupK ks) = 0) (a0 : x.counts.len = 0) (b0 : x.bounds.len = 0) (e2 : risesB bl = false) :
    Calls Try.prog 14 #[hstA x] w fun e w' => e = .returned (.int .i64 9) ∧ Below w.heap.size w w' := by
  have HC : Aside0 (∀ w', Below w.heap.size w w' → Calls Try.prog 33 #[.int .u64 x.start, .int .u64 x.time, .slice x.attrs.a x.attrs.len x.attrs.cap] w' fun e w2 => e = .returned (.int .i64 (commI x.start x.time (dupK ks))) ∧ Below w'.heap.size w' w2) := ⟨fun w' h => rbase_any w' x.start x.time x.attrs ks (hk.below h)⟩
  have HA := Aside0.mk (fun w' (h : Below w.heap.size w w') => rtotal_any w' x.count x.counts cl (hc.below h) rc)
  have HR := Aside0.mk (fun w' (h : Below w.heap.size w w') => rrises_any w' x.bounds bl (hb.below h))
  have HU := Aside0.mk (fun w' => rup_any w' x.mn.has x.mn.n x.mx.has x.mx.n rn rx)
  rw [a0] at HA
  rw [b0] at HR
  have A0 := Aside0.mk a0
  have B0 := Aside0.mk b0
  generalize commI x.start x.time (dupK ks) = cm at *
  generalize addsB x.count [cl] = ad at *
  generalize risesB bl = ri at *
  generalize upB x.mn.has x.mn.n x.mx.has x.mx.n = up at *
  have hX : XH (w.alloc (.cells (hstC x).toArray 30)) w.heap.size x := ⟨heap_alloc_new w _⟩
  have HB : Aside0 (Below w.heap.size w (w.alloc (.cells (hstC x).toArray 30))) := ⟨(Below.refl _ _).alloc (Nat.le_refl _) _⟩
  have z0 := hX.c0
  have z1 := hX.c1
  have z2 := hX.c2
  have z3 := hX.c3
  have z6 := hX.c6
  have z7 := hX.c7
  have z8 := hX.c8
  have z9 := hX.c9
  have z10 := hX.c10
  have z11 := hX.c11
  rw [a0] at z10
  rw [b0] at z11
  have HX := Aside0.mk hX
  have z25 := Try.sizeOf25
  clear hX hk hc hb rc rn rx a0 b0
  unfold hstA
  subst e0 e2
  go_enter Try.func14, Try.ntmps14
  go_wp2_with (first
      | ((with_reducible refine gate_dst (N := 1) rfl ?_); refine Great.wpList_boxTo rfl 30 _ rfl _ rfl w.heap.size rfl (hstC x).toArray rfl ?_)
      | (go_at_call 33; with_reducible refine (HC.out _ HB.out).mono ?_; rintro e w2 ⟨rfl, hb⟩; clear z0 z1 z2 z3 z6 z7 z8 z9 z10 z11; have n1_ := Aside0.mk (HX.out.below hb); have n0_ := Aside0.mk (below_next HB.out hb); clear HX HB hb; have HX := n1_; have HB := n0_; clear n0_ n1_; have z0 := HX.out.c0; have z1 := HX.out.c1; have z2 := HX.out.c2; have z3 := HX.out.c3; have z6 := HX.out.c6; have z7 := HX.out.c7; have z8 := HX.out.c8; have z9 := HX.out.c9; have z10 := HX.out.c10; have z11 := HX.out.c11; rw [A0.out] at z10; rw [B0.out] at z11)
      | (go_at_call 35; with_reducible refine (HR.out _ HB.out).mono ?_; rintro e w2 ⟨rfl, hb⟩; clear z0 z1 z2 z3 z6 z7 z8 z9 z10 z11; have n1_ := Aside0.mk (HX.out.below hb); have n0_ := Aside0.mk (below_next HB.out hb); clear HX HB hb; have HX := n1_; have HB := n0_; clear n0_ n1_; have z0 := HX.out.c0; have z1 := HX.out.c1; have z2 := HX.out.c2; have z3 := HX.out.c3; have z6 := HX.out.c6; have z7 := HX.out.c7; have z8 := HX.out.c8; have z9 := HX.out.c9; have z10 := HX.out.c10; have z11 := HX.out.c11; rw [A0.out] at z10; rw [B0.out] at z11)
      | fail)
  go_ret
  exact ⟨rfl, HB.out⟩
set_option maxHeartbeats 4000000 in
set_option maxRecDepth 100000 in
theorem rhst_fu (w : World) (x : Hst) (ks : List Kv) (cl bl : List Int) (hk : KsAt w x.attrs ks) (hc : NsAt w x.counts cl) (hb : NsAt w x.bounds bl) (rc : R64 x.count) (rn : R64 x.mn.n) (rx : R64 x.mx.n) (_lc : x.counts.len ≤ 12000) (_lb : x.bounds.len ≤ 12000) (e0 : commI x.start x.time (dupK ks) = 0) (a0 : x.counts.len = 0) (b0 : x.bounds.len = 0) (e2 : risesB bl = true) (e3 : upB x.mn.has x.mn.n x.mx.has x.mx.n = true) :
    Calls Try.prog 14 #[hstA x] w fun e w' => e = .returned (.int .i64 11) ∧ Below w.heap.size w w' := by
  have HC : Aside0 (∀ w', Below w.heap.size w w' → Calls Try.prog 33 #[.int .u64 x.start, .int .u64 x.time, .slice x.attrs.a x.attrs.len x.attrs.cap] w' fun e w2 => e = .returned (.int .i64 (commI x.start x.time (dupK ks))) ∧ Below w'.heap.size w' w2) := ⟨fun w' h => rbase_any w' x.start x.time x.attrs ks (hk.below h)⟩
  have HA := Aside0.mk (fun w' (h : Below w.heap.size w w') => rtotal_any w' x.count x.counts cl (hc.below h) rc)
  have HR := Aside0.mk (fun w' (h : Below w.heap.size w w') => rrises_any w' x.bounds bl (hb.below h))
  have HU := Aside0.mk (fun w' => rup_any w' x.mn.has x.mn.n x.mx.has x.mx.n rn rx)
  rw [a0] at HA
  rw [b0] at HR
  have A0 := Aside0.mk a0
  have B0 := Aside0.mk b0
  generalize commI x.start x.time (dupK ks) = cm at *
  generalize addsB x.count [cl] = ad at *
  generalize risesB bl = ri at *
  generalize upB x.mn.has x.mn.n x.mx.has x.mx.n = up at *
  have hX : XH (w.alloc (.cells (hstC x).toArray 30)) w.heap.size x := ⟨heap_alloc_new w _⟩
  have HB : Aside0 (Below w.heap.size w (w.alloc (.cells (hstC x).toArray 30))) := ⟨(Below.refl _ _).alloc (Nat.le_refl _) _⟩
  have z0 := hX.c0
  have z1 := hX.c1
  have z2 := hX.c2
  have z3 := hX.c3
  have z6 := hX.c6
  have z7 := hX.c7
  have z8 := hX.c8
  have z9 := hX.c9
  have z10 := hX.c10
  have z11 := hX.c11
  rw [a0] at z10
  rw [b0] at z11
  have HX := Aside0.mk hX
  have z25 := Try.sizeOf25
  clear hX hk hc hb rc rn rx a0 b0
  unfold hstA
  subst e0 e2 e3
  go_enter Try.func14, Try.ntmps14
  go_wp2_with (first
      | ((with_reducible refine gate_dst (N := 1) rfl ?_); refine Great.wpList_boxTo rfl 30 _ rfl _ rfl w.heap.size rfl (hstC x).toArray rfl ?_)
      | (go_at_call 33; with_reducible refine (HC.out _ HB.out).mono ?_; rintro e w2 ⟨rfl, hb⟩; clear z0 z1 z2 z3 z6 z7 z8 z9 z10 z11; have n1_ := Aside0.mk (HX.out.below hb); have n0_ := Aside0.mk (below_next HB.out hb); clear HX HB hb; have HX := n1_; have HB := n0_; clear n0_ n1_; have z0 := HX.out.c0; have z1 := HX.out.c1; have z2 := HX.out.c2; have z3 := HX.out.c3; have z6 := HX.out.c6; have z7 := HX.out.c7; have z8 := HX.out.c8; have z9 := HX.out.c9; have z10 := HX.out.c10; have z11 := HX.out.c11; rw [A0.out] at z10; rw [B0.out] at z11)
      | (go_at_call 35; with_reducible refine (HR.out _ HB.out).mono ?_; rintro e w2 ⟨rfl, hb⟩; clear z0 z1 z2 z3 z6 z7 z8 z9 z10 z11; have n1_ := Aside0.mk (HX.out.below hb); have n0_ := Aside0.mk (below_next HB.out hb); clear HX HB hb; have HX := n1_; have HB := n0_; clear n0_ n1_; have z0 := HX.out.c0; have z1 := HX.out.c1; have z2 := HX.out.c2; have z3 := HX.out.c3; have z6 := HX.out.c6; have z7 := HX.out.c7; have z8 := HX.out.c8; have z9 := HX.out.c9; have z10 := HX.out.c10; have z11 := HX.out.c11; rw [A0.out] at z10; rw [B0.out] at z11)
      | (go_at_call 36; with_reducible refine (HU.out _).mono ?_; rintro e w2 ⟨rfl, hb⟩; clear z0 z1 z2 z3 z6 z7 z8 z9 z10 z11; have n1_ := Aside0.mk (HX.out.below hb); have n0_ := Aside0.mk (below_next HB.out hb); clear HX HB hb; have HX := n1_; have HB := n0_; clear n0_ n1_; have z0 := HX.out.c0; have z1 := HX.out.c1; have z2 := HX.out.c2; have z3 := HX.out.c3; have z6 := HX.out.c6; have z7 := HX.out.c7; have z8 := HX.out.c8; have z9 := HX.out.c9; have z10 := HX.out.c10; have z11 := HX.out.c11; rw [A0.out] at z10; rw [B0.out] at z11)
      | fail)
  go_ret
  exact ⟨rfl, HB.out⟩
set_option maxHeartbeats 4000000 in
set_option maxRecDepth 100000 in
theorem rhst_fz (w : World) (x : Hst) (ks : List Kv) (cl bl : List Int) (hk : KsAt w x.attrs ks) (hc : NsAt w x.counts cl) (hb : NsAt w x.bounds bl) (rc : R64 x.count) (rn : R64 x.mn.n) (rx : R64 x.mx.n) (_lc : x.counts.len ≤ 12000) (_lb : x.bounds.len ≤ 12000) (e0 : commI x.start x.time (dupK ks) = 0) (a0 : x.counts.len = 0) (b0 : x.bounds.len = 0) (e2 : risesB bl = true) (e3 : upB x.mn.has x.mn.n x.mx.has x.mx.n = false) :
    Calls Try.prog 14 #[hstA x] w fun e w' => e = .returned (.int .i64 0) ∧ Below w.heap.size w w' := by
  have HC : Aside0 (∀ w', Below w.heap.size w w' → Calls Try.prog 33 #[.int .u64 x.start, .int .u64 x.time, .slice x.attrs.a x.attrs.len x.attrs.cap] w' fun e w2 => e = .returned (.int .i64 (commI x.start x.time (dupK ks))) ∧ Below w'.heap.size w' w2) := ⟨fun w' h => rbase_any w' x.start x.time x.attrs ks (hk.below h)⟩
  have HA := Aside0.mk (fun w' (h : Below w.heap.size w w') => rtotal_any w' x.count x.counts cl (hc.below h) rc)
  have HR := Aside0.mk (fun w' (h : Below w.heap.size w w') => rrises_any w' x.bounds bl (hb.below h))
  have HU := Aside0.mk (fun w' => rup_any w' x.mn.has x.mn.n x.mx.has x.mx.n rn rx)
  rw [a0] at HA
  rw [b0] at HR
  have A0 := Aside0.mk a0
  have B0 := Aside0.mk b0
  generalize commI x.start x.time (dupK ks) = cm at *
  generalize addsB x.count [cl] = ad at *
  generalize risesB bl = ri at *
  generalize upB x.mn.has x.mn.n x.mx.has x.mx.n = up at *
  have hX : XH (w.alloc (.cells (hstC x).toArray 30)) w.heap.size x := ⟨heap_alloc_new w _⟩
  have HB : Aside0 (Below w.heap.size w (w.alloc (.cells (hstC x).toArray 30))) := ⟨(Below.refl _ _).alloc (Nat.le_refl _) _⟩
  have z0 := hX.c0
  have z1 := hX.c1
  have z2 := hX.c2
  have z3 := hX.c3
  have z6 := hX.c6
  have z7 := hX.c7
  have z8 := hX.c8
  have z9 := hX.c9
  have z10 := hX.c10
  have z11 := hX.c11
  rw [a0] at z10
  rw [b0] at z11
  have HX := Aside0.mk hX
  have z25 := Try.sizeOf25
  clear hX hk hc hb rc rn rx a0 b0
  unfold hstA
  subst e0 e2 e3
  go_enter Try.func14, Try.ntmps14
  go_wp2_with (first
      | ((with_reducible refine gate_dst (N := 1) rfl ?_); refine Great.wpList_boxTo rfl 30 _ rfl _ rfl w.heap.size rfl (hstC x).toArray rfl ?_)
      | (go_at_call 33; with_reducible refine (HC.out _ HB.out).mono ?_; rintro e w2 ⟨rfl, hb⟩; clear z0 z1 z2 z3 z6 z7 z8 z9 z10 z11; have n1_ := Aside0.mk (HX.out.below hb); have n0_ := Aside0.mk (below_next HB.out hb); clear HX HB hb; have HX := n1_; have HB := n0_; clear n0_ n1_; have z0 := HX.out.c0; have z1 := HX.out.c1; have z2 := HX.out.c2; have z3 := HX.out.c3; have z6 := HX.out.c6; have z7 := HX.out.c7; have z8 := HX.out.c8; have z9 := HX.out.c9; have z10 := HX.out.c10; have z11 := HX.out.c11; rw [A0.out] at z10; rw [B0.out] at z11)
      | (go_at_call 35; with_reducible refine (HR.out _ HB.out).mono ?_; rintro e w2 ⟨rfl, hb⟩; clear z0 z1 z2 z3 z6 z7 z8 z9 z10 z11; have n1_ := Aside0.mk (HX.out.below hb); have n0_ := Aside0.mk (below_next HB.out hb); clear HX HB hb; have HX := n1_; have HB := n0_; clear n0_ n1_; have z0 := HX.out.c0; have z1 := HX.out.c1; have z2 := HX.out.c2; have z3 := HX.out.c3; have z6 := HX.out.c6; have z7 := HX.out.c7; have z8 := HX.out.c8; have z9 := HX.out.c9; have z10 := HX.out.c10; have z11 := HX.out.c11; rw [A0.out] at z10; rw [B0.out] at z11)
      | (go_at_call 36; with_reducible refine (HU.out _).mono ?_; rintro e w2 ⟨rfl, hb⟩; clear z0 z1 z2 z3 z6 z7 z8 z9 z10 z11; have n1_ := Aside0.mk (HX.out.below hb); have n0_ := Aside0.mk (below_next HB.out hb); clear HX HB hb; have HX := n1_; have HB := n0_; clear n0_ n1_; have z0 := HX.out.c0; have z1 := HX.out.c1; have z2 := HX.out.c2; have z3 := HX.out.c3; have z6 := HX.out.c6; have z7 := HX.out.c7; have z8 := HX.out.c8; have z9 := HX.out.c9; have z10 := HX.out.c10; have z11 := HX.out.c11; rw [A0.out] at z10; rw [B0.out] at z11)
      | fail)
  go_ret
  exact ⟨rfl, HB.out⟩
set_option maxHeartbeats 4000000 in
set_option maxRecDepth 100000 in
theorem rhst_tr (w : World) (x : Hst) (ks : List Kv) (cl bl : List Int) (hk : KsAt w x.attrs ks) (hc : NsAt w x.counts cl) (hb : NsAt w x.bounds bl) (rc : R64 x.count) (rn : R64 x.mn.n) (rx : R64 x.mx.n) (lc : x.counts.len ≤ 12000) (_lb : x.bounds.len ≤ 12000) (e0 : commI x.start x.time (dupK ks) = 0) (t1 : (0 : Int) < (x.counts.len : Int) + (x.bounds.len : Int)) (m1 : (x.counts.len : Int) = (x.bounds.len : Int) + 1) (_m2 : ((x.counts.len : Int) == (x.bounds.len : Int) + 1) = true) (e1 : addsB x.count [cl] = true) (e2 : risesB bl = false) :
    Calls Try.prog 14 #[hstA x] w fun e w' => e = .returned (.int .i64 9) ∧ Below w.heap.size w w' := by
  have HC : Aside0 (∀ w', Below w.heap.size w w' → Calls Try.prog 33 #[.int .u64 x.start, .int .u64 x.time, .slice x.attrs.a x.attrs.len x.attrs.cap] w' fun e w2 => e = .returned (.int .i64 (commI x.start x.time (dupK ks))) ∧ Below w'.heap.size w' w2) := ⟨fun w' h => rbase_any w' x.start x.time x.attrs ks (hk.below h)⟩
  have HA := Aside0.mk (fun w' (h : Below w.heap.size w w') => rtotal_any w' x.count x.counts cl (hc.below h) rc)
  have HR := Aside0.mk (fun w' (h : Below w.heap.size w w') => rrises_any w' x.bounds bl (hb.below h))
  have HU := Aside0.mk (fun w' => rup_any w' x.mn.has x.mn.n x.mx.has x.mx.n rn rx)
  generalize commI x.start x.time (dupK ks) = cm at *
  generalize addsB x.count [cl] = ad at *
  generalize risesB bl = ri at *
  generalize upB x.mn.has x.mn.n x.mx.has x.mx.n = up at *
  have hX : XH (w.alloc (.cells (hstC x).toArray 30)) w.heap.size x := ⟨heap_alloc_new w _⟩
  have HB : Aside0 (Below w.heap.size w (w.alloc (.cells (hstC x).toArray 30))) := ⟨(Below.refl _ _).alloc (Nat.le_refl _) _⟩
  have z0 := hX.c0
  have z1 := hX.c1
  have z2 := hX.c2
  have z3 := hX.c3
  have z6 := hX.c6
  have z7 := hX.c7
  have z8 := hX.c8
  have z9 := hX.c9
  have z10 := hX.c10
  have z11 := hX.c11
  have HX := Aside0.mk hX
  have z25 := Try.sizeOf25
  clear hX hk hc hb rc rn rx
  unfold hstA
  subst e0 e2 e1
  go_enter Try.func14, Try.ntmps14
  go_wp2_with (first
      | ((with_reducible refine gate_dst (N := 1) rfl ?_); refine Great.wpList_boxTo rfl 30 _ rfl _ rfl w.heap.size rfl (hstC x).toArray rfl ?_)
      | (go_at_call 33; with_reducible refine (HC.out _ HB.out).mono ?_; rintro e w2 ⟨rfl, hb⟩; clear z0 z1 z2 z3 z6 z7 z8 z9 z10 z11; have n1_ := Aside0.mk (HX.out.below hb); have n0_ := Aside0.mk (below_next HB.out hb); clear HX HB hb; have HX := n1_; have HB := n0_; clear n0_ n1_; have z0 := HX.out.c0; have z1 := HX.out.c1; have z2 := HX.out.c2; have z3 := HX.out.c3; have z6 := HX.out.c6; have z7 := HX.out.c7; have z8 := HX.out.c8; have z9 := HX.out.c9; have z10 := HX.out.c10; have z11 := HX.out.c11)
      | (go_at_call 34; with_reducible refine (HA.out _ HB.out).mono ?_; rintro e w2 ⟨rfl, hb⟩; clear z0 z1 z2 z3 z6 z7 z8 z9 z10 z11; have n1_ := Aside0.mk (HX.out.below hb); have n0_ := Aside0.mk (below_next HB.out hb); clear HX HB hb; have HX := n1_; have HB := n0_; clear n0_ n1_; have z0 := HX.out.c0; have z1 := HX.out.c1; have z2 := HX.out.c2; have z3 := HX.out.c3; have z6 := HX.out.c6; have z7 := HX.out.c7; have z8 := HX.out.c8; have z9 := HX.out.c9; have z10 := HX.out.c10; have z11 := HX.out.c11)
      | (go_at_call 35; with_reducible refine (HR.out _ HB.out).mono ?_; rintro e w2 ⟨rfl, hb⟩; clear z0 z1 z2 z3 z6 z7 z8 z9 z10 z11; have n1_ := Aside0.mk (HX.out.below hb); have n0_ := Aside0.mk (below_next HB.out hb); clear HX HB hb; have HX := n1_; have HB := n0_; clear n0_ n1_; have z0 := HX.out.c0; have z1 := HX.out.c1; have z2 := HX.out.c2; have z3 := HX.out.c3; have z6 := HX.out.c6; have z7 := HX.out.c7; have z8 := HX.out.c8; have z9 := HX.out.c9; have z10 := HX.out.c10; have z11 := HX.out.c11)
      | fail)
  go_ret
  exact ⟨rfl, HB.out⟩
set_option maxHeartbeats 4000000 in
set_option maxRecDepth 100000 in
theorem rhst_tu (w : World) (x : Hst) (ks : List Kv) (cl bl : List Int) (hk : KsAt w x.attrs ks) (hc : NsAt w x.counts cl) (hb : NsAt w x.bounds bl) (rc : R64 x.count) (rn : R64 x.mn.n) (rx : R64 x.mx.n) (lc : x.counts.len ≤ 12000) (_lb : x.bounds.len ≤ 12000) (e0 : commI x.start x.time (dupK ks) = 0) (t1 : (0 : Int) < (x.counts.len : Int) + (x.bounds.len : Int)) (m1 : (x.counts.len : Int) = (x.bounds.len : Int) + 1) (_m2 : ((x.counts.len : Int) == (x.bounds.len : Int) + 1) = true) (e1 : addsB x.count [cl] = true) (e2 : risesB bl = true) (e3 : upB x.mn.has x.mn.n x.mx.has x.mx.n = true) :
    Calls Try.prog 14 #[hstA x] w fun e w' => e = .returned (.int .i64 11) ∧ Below w.heap.size w w' := by
  have HC : Aside0 (∀ w', Below w.heap.size w w' → Calls Try.prog 33 #[.int .u64 x.start, .int .u64 x.time, .slice x.attrs.a x.attrs.len x.attrs.cap] w' fun e w2 => e = .returned (.int .i64 (commI x.start x.time (dupK ks))) ∧ Below w'.heap.size w' w2) := ⟨fun w' h => rbase_any w' x.start x.time x.attrs ks (hk.below h)⟩
  have HA := Aside0.mk (fun w' (h : Below w.heap.size w w') => rtotal_any w' x.count x.counts cl (hc.below h) rc)
  have HR := Aside0.mk (fun w' (h : Below w.heap.size w w') => rrises_any w' x.bounds bl (hb.below h))
  have HU := Aside0.mk (fun w' => rup_any w' x.mn.has x.mn.n x.mx.has x.mx.n rn rx)
  generalize commI x.start x.time (dupK ks) = cm at *
  generalize addsB x.count [cl] = ad at *
  generalize risesB bl = ri at *
  generalize upB x.mn.has x.mn.n x.mx.has x.mx.n = up at *
  have hX : XH (w.alloc (.cells (hstC x).toArray 30)) w.heap.size x := ⟨heap_alloc_new w _⟩
  have HB : Aside0 (Below w.heap.size w (w.alloc (.cells (hstC x).toArray 30))) := ⟨(Below.refl _ _).alloc (Nat.le_refl _) _⟩
  have z0 := hX.c0
  have z1 := hX.c1
  have z2 := hX.c2
  have z3 := hX.c3
  have z6 := hX.c6
  have z7 := hX.c7
  have z8 := hX.c8
  have z9 := hX.c9
  have z10 := hX.c10
  have z11 := hX.c11
  have HX := Aside0.mk hX
  have z25 := Try.sizeOf25
  clear hX hk hc hb rc rn rx
  unfold hstA
  subst e0 e2 e3 e1
  go_enter Try.func14, Try.ntmps14
  go_wp2_with (first
      | ((with_reducible refine gate_dst (N := 1) rfl ?_); refine Great.wpList_boxTo rfl 30 _ rfl _ rfl w.heap.size rfl (hstC x).toArray rfl ?_)
      | (go_at_call 33; with_reducible refine (HC.out _ HB.out).mono ?_; rintro e w2 ⟨rfl, hb⟩; clear z0 z1 z2 z3 z6 z7 z8 z9 z10 z11; have n1_ := Aside0.mk (HX.out.below hb); have n0_ := Aside0.mk (below_next HB.out hb); clear HX HB hb; have HX := n1_; have HB := n0_; clear n0_ n1_; have z0 := HX.out.c0; have z1 := HX.out.c1; have z2 := HX.out.c2; have z3 := HX.out.c3; have z6 := HX.out.c6; have z7 := HX.out.c7; have z8 := HX.out.c8; have z9 := HX.out.c9; have z10 := HX.out.c10; have z11 := HX.out.c11)
      | (go_at_call 34; with_reducible refine (HA.out _ HB.out).mono ?_; rintro e w2 ⟨rfl, hb⟩; clear z0 z1 z2 z3 z6 z7 z8 z9 z10 z11; have n1_ := Aside0.mk (HX.out.below hb); have n0_ := Aside0.mk (below_next HB.out hb); clear HX HB hb; have HX := n1_; have HB := n0_; clear n0_ n1_; have z0 := HX.out.c0; have z1 := HX.out.c1; have z2 := HX.out.c2; have z3 := HX.out.c3; have z6 := HX.out.c6; have z7 := HX.out.c7; have z8 := HX.out.c8; have z9 := HX.out.c9; have z10 := HX.out.c10; have z11 := HX.out.c11)
      | (go_at_call 35; with_reducible refine (HR.out _ HB.out).mono ?_; rintro e w2 ⟨rfl, hb⟩; clear z0 z1 z2 z3 z6 z7 z8 z9 z10 z11; have n1_ := Aside0.mk (HX.out.below hb); have n0_ := Aside0.mk (below_next HB.out hb); clear HX HB hb; have HX := n1_; have HB := n0_; clear n0_ n1_; have z0 := HX.out.c0; have z1 := HX.out.c1; have z2 := HX.out.c2; have z3 := HX.out.c3; have z6 := HX.out.c6; have z7 := HX.out.c7; have z8 := HX.out.c8; have z9 := HX.out.c9; have z10 := HX.out.c10; have z11 := HX.out.c11)
      | (go_at_call 36; with_reducible refine (HU.out _).mono ?_; rintro e w2 ⟨rfl, hb⟩; clear z0 z1 z2 z3 z6 z7 z8 z9 z10 z11; have n1_ := Aside0.mk (HX.out.below hb); have n0_ := Aside0.mk (below_next HB.out hb); clear HX HB hb; have HX := n1_; have HB := n0_; clear n0_ n1_; have z0 := HX.out.c0; have z1 := HX.out.c1; have z2 := HX.out.c2; have z3 := HX.out.c3; have z6 := HX.out.c6; have z7 := HX.out.c7; have z8 := HX.out.c8; have z9 := HX.out.c9; have z10 := HX.out.c10; have z11 := HX.out.c11)
      | fail)
  go_ret
  exact ⟨rfl, HB.out⟩
set_option maxHeartbeats 4000000 in
set_option maxRecDepth 100000 in
theorem rhst_tz (w : World) (x : Hst) (ks : List Kv) (cl bl : List Int) (hk : KsAt w x.attrs ks) (hc : NsAt w x.counts cl) (hb : NsAt w x.bounds bl) (rc : R64 x.count) (rn : R64 x.mn.n) (rx : R64 x.mx.n) (lc : x.counts.len ≤ 12000) (_lb : x.bounds.len ≤ 12000) (e0 : commI x.start x.time (dupK ks) = 0) (t1 : (0 : Int) < (x.counts.len : Int) + (x.bounds.len : Int)) (m1 : (x.counts.len : Int) = (x.bounds.len : Int) + 1) (_m2 : ((x.counts.len : Int) == (x.bounds.len : Int) + 1) = true) (e1 : addsB x.count [cl] = true) (e2 : risesB bl = true) (e3 : upB x.mn.has x.mn.n x.mx.has x.mx.n = false) :
    Calls Try.prog 14 #[hstA x] w fun e w' => e = .returned (.int .i64 0) ∧ Below w.heap.size w w' := by
  have HC : Aside0 (∀ w', Below w.heap.size w w' → Calls Try.prog 33 #[.int .u64 x.start, .int .u64 x.time, .slice x.attrs.a x.attrs.len x.attrs.cap] w' fun e w2 => e = .returned (.int .i64 (commI x.start x.time (dupK ks))) ∧ Below w'.heap.size w' w2) := ⟨fun w' h => rbase_any w' x.start x.time x.attrs ks (hk.below h)⟩
  have HA := Aside0.mk (fun w' (h : Below w.heap.size w w') => rtotal_any w' x.count x.counts cl (hc.below h) rc)
  have HR := Aside0.mk (fun w' (h : Below w.heap.size w w') => rrises_any w' x.bounds bl (hb.below h))
  have HU := Aside0.mk (fun w' => rup_any w' x.mn.has x.mn.n x.mx.has x.mx.n rn rx)
  generalize commI x.start x.time (dupK ks) = cm at *
  generalize addsB x.count [cl] = ad at *
  generalize risesB bl = ri at *
  generalize upB x.mn.has x.mn.n x.mx.has x.mx.n = up at *
  have hX : XH (w.alloc (.cells (hstC x).toArray 30)) w.heap.size x := ⟨heap_alloc_new w _⟩
  have HB : Aside0 (Below w.heap.size w (w.alloc (.cells (hstC x).toArray 30))) := ⟨(Below.refl _ _).alloc (Nat.le_refl _) _⟩
  have z0 := hX.c0
  have z1 := hX.c1
  have z2 := hX.c2
  have z3 := hX.c3
  have z6 := hX.c6
  have z7 := hX.c7
  have z8 := hX.c8
  have z9 := hX.c9
  have z10 := hX.c10
  have z11 := hX.c11
  have HX := Aside0.mk hX
  have z25 := Try.sizeOf25
  clear hX hk hc hb rc rn rx
  unfold hstA
  subst e0 e2 e3 e1
  go_enter Try.func14, Try.ntmps14
  go_wp2_with (first
      | ((with_reducible refine gate_dst (N := 1) rfl ?_); refine Great.wpList_boxTo rfl 30 _ rfl _ rfl w.heap.size rfl (hstC x).toArray rfl ?_)
      | (go_at_call 33; with_reducible refine (HC.out _ HB.out).mono ?_; rintro e w2 ⟨rfl, hb⟩; clear z0 z1 z2 z3 z6 z7 z8 z9 z10 z11; have n1_ := Aside0.mk (HX.out.below hb); have n0_ := Aside0.mk (below_next HB.out hb); clear HX HB hb; have HX := n1_; have HB := n0_; clear n0_ n1_; have z0 := HX.out.c0; have z1 := HX.out.c1; have z2 := HX.out.c2; have z3 := HX.out.c3; have z6 := HX.out.c6; have z7 := HX.out.c7; have z8 := HX.out.c8; have z9 := HX.out.c9; have z10 := HX.out.c10; have z11 := HX.out.c11)
      | (go_at_call 34; with_reducible refine (HA.out _ HB.out).mono ?_; rintro e w2 ⟨rfl, hb⟩; clear z0 z1 z2 z3 z6 z7 z8 z9 z10 z11; have n1_ := Aside0.mk (HX.out.below hb); have n0_ := Aside0.mk (below_next HB.out hb); clear HX HB hb; have HX := n1_; have HB := n0_; clear n0_ n1_; have z0 := HX.out.c0; have z1 := HX.out.c1; have z2 := HX.out.c2; have z3 := HX.out.c3; have z6 := HX.out.c6; have z7 := HX.out.c7; have z8 := HX.out.c8; have z9 := HX.out.c9; have z10 := HX.out.c10; have z11 := HX.out.c11)
      | (go_at_call 35; with_reducible refine (HR.out _ HB.out).mono ?_; rintro e w2 ⟨rfl, hb⟩; clear z0 z1 z2 z3 z6 z7 z8 z9 z10 z11; have n1_ := Aside0.mk (HX.out.below hb); have n0_ := Aside0.mk (below_next HB.out hb); clear HX HB hb; have HX := n1_; have HB := n0_; clear n0_ n1_; have z0 := HX.out.c0; have z1 := HX.out.c1; have z2 := HX.out.c2; have z3 := HX.out.c3; have z6 := HX.out.c6; have z7 := HX.out.c7; have z8 := HX.out.c8; have z9 := HX.out.c9; have z10 := HX.out.c10; have z11 := HX.out.c11)
      | (go_at_call 36; with_reducible refine (HU.out _).mono ?_; rintro e w2 ⟨rfl, hb⟩; clear z0 z1 z2 z3 z6 z7 z8 z9 z10 z11; have n1_ := Aside0.mk (HX.out.below hb); have n0_ := Aside0.mk (below_next HB.out hb); clear HX HB hb; have HX := n1_; have HB := n0_; clear n0_ n1_; have z0 := HX.out.c0; have z1 := HX.out.c1; have z2 := HX.out.c2; have z3 := HX.out.c3; have z6 := HX.out.c6; have z7 := HX.out.c7; have z8 := HX.out.c8; have z9 := HX.out.c9; have z10 := HX.out.c10; have z11 := HX.out.c11)
      | fail)
  go_ret
  exact ⟨rfl, HB.out⟩
theorem rhst_any (w : World) (x : Hst) (ks : List Kv) (cl bl : List Int) (hk : KsAt w x.attrs ks) (hc : NsAt w x.counts cl) (hb : NsAt w x.bounds bl) (rc : R64 x.count) (rn : R64 x.mn.n) (rx : R64 x.mx.n) (lc : x.counts.len ≤ 12000) (lb : x.bounds.len ≤ 12000) :
    Calls Try.prog 14 #[hstA x] w fun e w' => e = .returned (.int .i64 (histI x.start x.time x.count (dupK ks) cl bl (upB x.mn.has x.mn.n x.mx.has x.mx.n))) ∧ Below w.heap.size w w' := by
  have hp := comm_pos x.start x.time (dupK ks)
  unfold histI
  by_cases h0 : commI x.start x.time (dupK ks) = 0
  · rw [← hc.len, ← hb.len]
    have fin : ∀ (hr : ∀ b, (risesB bl = false → b = 9) → (risesB bl = true → upB x.mn.has x.mn.n x.mx.has x.mx.n = true → b = 11) → (risesB bl = true → upB x.mn.has x.mn.n x.mx.has x.mx.n = false → b = 0) → Calls Try.prog 14 #[hstA x] w fun e w' => e = .returned (.int .i64 b) ∧ Below w.heap.size w w'),
        Calls Try.prog 14 #[hstA x] w fun e w' => e = .returned (.int .i64 (orL [whn (!risesB bl) 9, whn (upB x.mn.has x.mn.n x.mx.has x.mx.n) 11])) ∧ Below w.heap.size w w' := fun hr => hr _ (fun h => by rw [h]; rfl) (fun h h2 => by rw [h, h2]; rfl) (fun h h2 => by rw [h, h2]; rfl)
    rw [h0, orL_z]
    rcases tolds x.counts.len x.bounds.len lc lb with ⟨t1, t2⟩ | ⟨t1, t2⟩
    · rw [t2]
      rcases miss x.counts.len x.bounds.len lb with ⟨m1, m2, m3⟩ | ⟨m1, m2, m3⟩
      · rw [m3]
        cases e1 : addsB x.count [cl] with
        | false => exact rhst_a w x ks cl bl hk hc hb rc rn rx lc lb h0 t1 m1 m2 e1
        | true =>
          show Calls _ _ _ _ fun e w' => e = .returned (.int .i64 (orL [0, whn (!risesB bl) 9, whn (upB x.mn.has x.mn.n x.mx.has x.mx.n) 11])) ∧ _
          rw [orL_z]
          refine fin (fun b f1 f2 f3 => ?_)
          cases e2 : risesB bl with
          | false => rw [f1 e2]; exact rhst_tr w x ks cl bl hk hc hb rc rn rx lc lb h0 t1 m1 m2 e1 e2
          | true =>
            cases e3 : upB x.mn.has x.mn.n x.mx.has x.mx.n with
            | true => rw [f2 e2 e3]; exact rhst_tu w x ks cl bl hk hc hb rc rn rx lc lb h0 t1 m1 m2 e1 e2 e3
            | false => rw [f3 e2 e3]; exact rhst_tz w x ks cl bl hk hc hb rc rn rx lc lb h0 t1 m1 m2 e1 e2 e3
      · rw [m3]
        exact rhst_m w x ks cl bl hk hc hb rc rn rx lc lb h0 t1 m1 m2
    · rw [t2]
      show Calls _ _ _ _ fun e w' => e = .returned (.int .i64 (orL [0, whn (!risesB bl) 9, whn (upB x.mn.has x.mn.n x.mx.has x.mx.n) 11])) ∧ _
      rw [orL_z]
      refine fin (fun b f1 f2 f3 => ?_)
      cases e2 : risesB bl with
      | false => rw [f1 e2]; exact rhst_fr w x ks cl bl hk hc hb rc rn rx lc lb h0 (by omega) (by omega) e2
      | true =>
        cases e3 : upB x.mn.has x.mn.n x.mx.has x.mx.n with
        | true => rw [f2 e2 e3]; exact rhst_fu w x ks cl bl hk hc hb rc rn rx lc lb h0 (by omega) (by omega) e2 e3
        | false => rw [f3 e2 e3]; exact rhst_fz w x ks cl bl hk hc hb rc rn rx lc lb h0 (by omega) (by omega) e2 e3
  · rw [orL_ne h0]
    exact rhst_c w x ks cl bl hk hc hb rc rn rx lc lb (by omega)
end Go.Proofs.Ytdogokcoobpgdaa
