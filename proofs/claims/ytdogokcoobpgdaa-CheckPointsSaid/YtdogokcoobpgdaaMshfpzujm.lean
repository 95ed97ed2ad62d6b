import Derived.Test.YtdogokcoobpgdaaCSmx
import Derived.Test.YtdogokcoobpgdaaMgvmrfvsf
import Derived.Test.YtdogokcoobpgdaaMzsmiysjl
import Derived.BigQuiet
import Derived.Test.YtdogokcoobpgdaaMzhknqeuz
namespace Go.Proofs.Ytdogokcoobpgdaa
open Go.RowKit Go.Proofs.YtdogokcoobpgdaaW.PrintWords Go.Proofs.YtdogokcoobpgdaaW.PrintLast Go.Proofs.YtdogokcoobpgdaaW.PrintMore

/-! ### doubles as bits -/
def szI (a : Int) : Int := Go.bits .andNot .u64 a 9223372036854775808
def nanB (a : Int) : Bool := decide (szI a > 9218868437227405312)
def eqB (a b : Int) : Bool := !nanB a && (!nanB b && (decide (a = b) || szI (Go.bits .or .u64 a b) == 0))
def cmpI (a b : Int) : Int := if a < b then -1 else if a > b then 1 else 0
def rankI (a : Int) : Int := if Go.bits .and .u64 a 9223372036854775808 > 0 then Go.bits .xor .u64 IntKind.u64.max a else Go.bits .or .u64 a 9223372036854775808
def lessB (a b : Int) : Bool := !nanB a && (!nanB b && (!eqB a b && decide (cmpI (rankI a) (rankI b) < 0)))
theorem nan_f (a : Int) : CChk.flt_nan.f a = some (nanB a) := rfl
theorem eq_f (a b : Int) : CChk.flt_Equal.f a b = some (eqB a b) := by
  unfold CChk.flt_Equal.f
  rw [nan_f, nan_f]
  simp only [Option.bind_some]
  unfold eqB
  cases nanB a <;> cases nanB b <;> simp
  by_cases h : a = b
  · simp [h]
  · simp [h]; rfl
theorem cmp_f (a b : Int) : CChk.cmp_Compare_uint64.f a b = some (cmpI a b) := by
  unfold CChk.cmp_Compare_uint64.f CChk.cmp_isNaN_uint64.f cmpI
  simp only [Option.bind_some, bne_self_eq_false, Bool.false_eq_true, if_false]
  by_cases h1 : a < b
  · rw [if_pos h1, if_pos h1]
  · rw [if_neg h1, if_neg h1]
    by_cases h2 : a > b
    · rw [if_pos h2, if_pos h2]
    · rw [if_neg h2, if_neg h2]
set_option maxHeartbeats 1000000 in
theorem rank_any (a : Int) (w : World) : Calls Try.prog 55 #[.int .u64 a] w fun e w' => e = .returned (.int .u64 (rankI a)) ∧ Drawn0 w w' := by
  by_cases h : Go.bits .and .u64 a 9223372036854775808 > 0
  · have e : rankI a = Go.bits .xor .u64 IntKind.u64.max a := by unfold rankI; rw [if_pos h]
    rw [e]
    clear e
    go_enter Try.func55, Try.ntmps55
    go_wp2_with fail
    go_ret
    exact ⟨rfl, Drawn0.refl _⟩
  · have e : rankI a = Go.bits .or .u64 a 9223372036854775808 := by unfold rankI; rw [if_neg h]
    rw [e]
    clear e
    go_enter Try.func55, Try.ntmps55
    go_wp2_with fail
    go_ret
    exact ⟨rfl, Drawn0.refl _⟩
set_option maxHeartbeats 1000000 in
theorem order_any (a b : Int) (w : World) : Calls Try.prog 46 #[.int .u64 a, .int .u64 b] w fun e w' => e = .returned (.int .i64 (cmpI (rankI a) (rankI b))) ∧ Drawn0 w w' := by
  have ha := rank_any a
  have hb := rank_any b
  have hc := fun W => CChk.cmp_Compare_uint64.calls _ _ _ W (cmp_f (rankI a) (rankI b))
  generalize rankI a = x at *
  generalize rankI b = y at *
  generalize cmpI x y = z at *
  go_enter Try.func46, Try.ntmps46
  go_wp2_with (first
    | (go_at_call 55; with_reducible refine (ha _).mono ?_; rintro e w' ⟨rfl, ⟨nd, rfl⟩⟩)
    | (go_at_call 55; with_reducible refine (hb _).mono ?_; rintro e w' ⟨rfl, ⟨nd, rfl⟩⟩)
    | (go_at_call 54; with_reducible refine (hc _).mono ?_; rintro e w' ⟨rfl, ⟨nd, rfl⟩⟩))
  go_ret
  exact ⟨rfl, by repeat (first | exact Drawn0.refl _ | apply Drawn0.step)⟩
set_option maxHeartbeats 1000000 in
theorem less_any (a b : Int) (w : World) : Calls Try.prog 31 #[.int .u64 a, .int .u64 b] w fun e w' => e = .returned (.bool (lessB a b)) ∧ Drawn0 w w' := by
  have hna := fun W => CChk.flt_nan.calls a _ W (nan_f a)
  have hnb := fun W => CChk.flt_nan.calls b _ W (nan_f b)
  have he := fun W => CChk.flt_Equal.calls a b _ W (eq_f a b)
  have ho := order_any a b
  unfold lessB
  generalize nanB a = na at *
  generalize nanB b = nb at *
  generalize eqB a b = q at *
  generalize cmpI (rankI a) (rankI b) = z at *
  have hz : (decide (z < 0) = true ∧ z < 0) ∨ (decide (z < 0) = false ∧ ¬ z < 0) := by
    by_cases h : z < 0
    · exact .inl ⟨decide_eq_true h, h⟩
    · exact .inr ⟨decide_eq_false h, h⟩
  rcases hz with ⟨hz, hz2⟩ | ⟨hz, hz2⟩ <;> rw [hz] <;> cases na <;> cases nb <;> cases q
  all_goals
    go_enter Try.func31, Try.ntmps31
    go_wp2_with (first
      | (go_at_call 44; with_reducible refine (hna _).mono ?_; rintro e w' ⟨rfl, ⟨nd, rfl⟩⟩)
      | (go_at_call 44; with_reducible refine (hnb _).mono ?_; rintro e w' ⟨rfl, ⟨nd, rfl⟩⟩)
      | (go_at_call 45; with_reducible refine (he _).mono ?_; rintro e w' ⟨rfl, ⟨nd, rfl⟩⟩)
      | (go_at_call 46; with_reducible refine (ho _).mono ?_; rintro e w' ⟨rfl, ⟨nd, rfl⟩⟩))
    go_ret
    exact ⟨rfl, by repeat (first | exact Drawn0.refl _ | apply Drawn0.step)⟩
end Go.Proofs.Ytdogokcoobpgdaa
namespace Go.Proofs.Ytdogokcoobpgdaa
open Go.RowKit Go.Proofs.YtdogokcoobpgdaaW.PrintWords Go.Proofs.YtdogokcoobpgdaaW.PrintLast Go.Proofs.YtdogokcoobpgdaaW.PrintMore

/-! ### the first reason; sums -/
def orL : List Int → Int
  | [] => 0
  | x :: l => if x = 0 then orL l else x
def whn (b : Bool) (r : Int) : Int := if b then r else 0
theorem when_f (b : Bool) (r : Int) : CChk.check_when.f b r = some (whn b r) := by unfold CChk.check_when.f whn; cases b <;> rfl
theorem or_3 (a b c : Int) : CChk.cmp_Or_int.f 9 [a, b, c] = some (orL [a, b, c]) := by
  unfold CChk.cmp_Or_int.f
  simp only [CChk.cmp_Or_int.l0, orL, rd, wrap64]
  by_cases ha : a = 0 <;> by_cases hb : b = 0 <;> by_cases hc : c = 0 <;> simp [ha, hb, hc]
theorem or_4 (a b c d : Int) : CChk.cmp_Or_int.f 9 [a, b, c, d] = some (orL [a, b, c, d]) := by
  unfold CChk.cmp_Or_int.f
  simp only [CChk.cmp_Or_int.l0, orL, rd, wrap64]
  by_cases ha : a = 0 <;> by_cases hb : b = 0 <;> by_cases hc : c = 0 <;> by_cases hd : d = 0 <;> simp [ha, hb, hc, hd]
theorem or_2 (a b : Int) : CChk.cmp_Or_int.f 9 [a, b] = some (orL [a, b]) := by
  unfold CChk.cmp_Or_int.f
  simp only [CChk.cmp_Or_int.l0, orL, rd, wrap64]
  by_cases ha : a = 0 <;> by_cases hb : b = 0 <;> simp [ha, hb]
/-- A list's sum on top of n; none: it does not fit. -/
def sumL : Int → List Int → Option Int
  | n, [] => some n
  | n, c :: l => if IntKind.u64.wrap (n + c) < n then none else sumL (IntKind.u64.wrap (n + c)) l
def sumLL : Int → List (List Int) → Option Int
  | n, [] => some n
  | n, l :: ll => (sumL n l).bind fun m => sumLL m ll
def addsB (want : Int) (ll : List (List Int)) : Bool := match sumLL 0 ll with
  | none => false
  | some n => n == want
def addsR (want : Int) : Option Int → Bool
  | none => false
  | some n => n == want
theorem adds_l1 (want : Int) (ll : List (List Int)) (i : Nat) (l : List Int) (hl : l.length ≤ 9223372036854775807) (H : ∀ n, ∃ k, CChk.check_adds.l0 k want n ll ll.length (wrap64 ((i : Int) + 1)) = some (addsR want (sumLL n (ll.drop (i + 1))))) :
    ∀ (d j : Nat) (n : Int), j + d = l.length → ∃ k, CChk.check_adds.l1 k want n ll ll.length i l l.length j = some (addsR want ((sumL n (l.drop j)).bind fun m => sumLL m (ll.drop (i + 1)))) := by
  intro d
  induction d with
  | zero =>
    intro j n hj
    obtain ⟨k, hk⟩ := H n
    refine ⟨k + 1, ?_⟩
    rw [CChk.check_adds.l1, if_neg (by omega), hk, List.drop_of_length_le (l := l) (by omega)]
    rfl
  | succ d ih =>
    intro j n hj
    have hjl : j < l.length := by omega
    rw [List.drop_eq_getElem_cons hjl]
    have e : rd l (j : Int) = l[j] := by simp [rd, List.getD_eq_getElem?_getD, hjl]
    by_cases hc : IntKind.u64.wrap (n + l[j]) < n
    · refine ⟨1, ?_⟩
      rw [CChk.check_adds.l1, if_pos (by omega), if_pos (by omega), if_pos (by omega), e, if_pos hc]
      unfold sumL
      rw [if_pos hc]
      rfl
    · obtain ⟨k, hk⟩ := ih (j + 1) (IntKind.u64.wrap (n + l[j])) (by omega)
      refine ⟨k + 1, ?_⟩
      rw [CChk.check_adds.l1, if_pos (by omega), if_pos (by omega), if_pos (by omega), e, if_neg hc]
      have hw : wrap64 ((j : Int) + 1) = ((j + 1 : Nat) : Int) := by unfold wrap64; omega
      rw [hw, hk]
      rw [show sumL n (l[j] :: l.drop (j + 1)) = sumL (IntKind.u64.wrap (n + l[j])) (l.drop (j + 1)) by rw [sumL, if_neg hc]]
theorem adds_l0 (want : Int) (ll : List (List Int)) (hll : ll.length ≤ 1000) (hl : ∀ l ∈ ll, l.length ≤ 9223372036854775807) :
    ∀ (d i : Nat) (n : Int), i + d = ll.length → ∃ k, CChk.check_adds.l0 k want n ll ll.length i = some (addsR want (sumLL n (ll.drop i))) := by
  intro d
  induction d with
  | zero =>
    intro i n hi
    refine ⟨1, ?_⟩
    rw [CChk.check_adds.l0, if_neg (by omega), List.drop_of_length_le (by omega)]
    rfl
  | succ d ih =>
    intro i n hi
    have hil : i < ll.length := by omega
    have hw : wrap64 ((i : Int) + 1) = ((i + 1 : Nat) : Int) := by unfold wrap64; omega
    obtain ⟨k, hk⟩ := adds_l1 want ll i ll[i] (hl _ (List.getElem_mem hil)) (fun n => by rw [hw]; exact ih (i + 1) n (by omega)) ll[i].length 0 n (by omega)
    refine ⟨k + 1, ?_⟩
    have e : CChk.rd_L4 ll (i : Int) = ll[i] := by simp [CChk.rd_L4, List.getD_eq_getElem?_getD, hil]
    rw [CChk.check_adds.l0, if_pos (by omega), if_pos (by omega), if_pos (by omega), e]
    rw [show ((0 : Nat) : Int) = 0 from rfl] at hk
    rw [hk, List.drop_zero, List.drop_eq_getElem_cons hil]
    rfl
theorem adds_f (want : Int) (ll : List (List Int)) (hll : ll.length ≤ 1000) (hl : ∀ l ∈ ll, l.length ≤ 9223372036854775807) : ∃ k, CChk.check_adds.f k want ll = some (addsB want ll) := by
  obtain ⟨k, hk⟩ := adds_l0 want ll hll hl ll.length 0 0 (by omega)
  refine ⟨k, ?_⟩
  unfold CChk.check_adds.f
  rw [show ((0 : Nat) : Int) = 0 from rfl, List.drop_zero] at hk
  rw [hk]
  unfold addsB addsR
  cases sumLL 0 ll <;> rfl
/-- One more does not add up. -/
theorem adds_more {want want' : Int} {ll : List (List Int)} (h : addsB want ll = true) (hn : want' ≠ want) : addsB want' ll = false := by
  unfold addsB at *
  cases h2 : sumLL 0 ll with
  | none => rfl
  | some n =>
    rw [h2] at h
    simp only [beq_iff_eq] at h
    simp only [beq_eq_false_iff_ne]
    omega
end Go.Proofs.Ytdogokcoobpgdaa
namespace Go.Proofs.Ytdogokcoobpgdaa
open Go.RowKit Go.Proofs.YtdogokcoobpgdaaW.PrintWords Go.Proofs.YtdogokcoobpgdaaW.PrintLast Go.Proofs.YtdogokcoobpgdaaW.PrintMore

def upB (h1 : Bool) (n1 : Int) (h2 : Bool) (n2 : Int) : Bool := h1 && (h2 && lessB n2 n1)
set_option maxHeartbeats 2000000 in
theorem up_any (h1 : Bool) (n1 : Int) (h2 : Bool) (n2 : Int) (w : World) : Calls Try.prog 29 #[.agg #[.bool h1, .int .u64 n1], .agg #[.bool h2, .int .u64 n2]] w fun e w' => e = .returned (.bool (upB h1 n1 h2 n2)) ∧ Below w.heap.size w w' := by
  have hl := less_any n2 n1
  have HB := Aside0.mk (Below.refl w.heap.size w)
  unfold upB
  generalize lessB n2 n1 = q at *
  cases h1 <;> cases h2 <;> cases q
  all_goals
    go_enter Try.func29, Try.ntmps29
    go_wp2_with (first
      | (go_at_call 31; with_reducible refine (hl _).mono ?_; rintro e w' ⟨rfl, ⟨nd, rfl⟩⟩))
    go_ret
    exact ⟨rfl, by repeat (first | (with_reducible first | exact HB.out | apply below_alloc | apply pw_below_drewN | apply below_drew1) | exact HB.out)⟩
end Go.Proofs.Ytdogokcoobpgdaa
namespace Go.Proofs.Ytdogokcoobpgdaa
open Go.RowKit Go.Proofs.YtdogokcoobpgdaaW.PrintWords Go.Proofs.YtdogokcoobpgdaaW.PrintLast Go.Proofs.YtdogokcoobpgdaaW.PrintMore

/-- A slice of numbers, as it lies. -/
structure NsAt (W : World) (s : Sl) (l : List Int) : Prop where
  len : s.len = l.length
  cap : s.len ≤ s.cap
  most : s.cap ≤ maxLen
  c : Kd.C (Kd.int .u64) W s.a l.length l
  wf : ∀ x ∈ l, 0 ≤ x ∧ x < 18446744073709551616
theorem NsAt.below {W w : World} {s : Sl} {l : List Int} (h : NsAt W s l) (hb : Below W.heap.size W w) : NsAt w s l := ⟨h.len, h.cap, h.most, Kd.C_below h.c hb, h.wf⟩
theorem rd_u64s {W : World} {s : Sl} (h : Rd Try.prog W 26 [s.v]) : ∃ l : List Int, NsAt W s l := by
  obtain ⟨s', l, e, h1, h2, h3, h4⟩ := rd_sl (k := 1) (c := fun x : Int => [.int .u64 x]) (ok := fun _ x => 0 ≤ x ∧ x < 18446744073709551616) Try.underlying26 (by kernel_rfl) (fun es he => by
    obtain ⟨n, rfl, hn⟩ := rd_int Try.underlying23 he
    have hb := bounds_u64 hn
    exact ⟨n, rfl, hb.1, Int.lt_of_le_of_lt hb.2 (by decide)⟩) h
  obtain rfl : s = s' := by
    obtain ⟨a, n, c⟩ := s
    obtain ⟨a', n', c'⟩ := s'
    simp only [Sl.v, List.cons.injEq, and_true] at e
    injection e with e1 e2 e3
    subst e1 e2 e3
    rfl
  refine ⟨l, h1, h2, h3, ⟨rfl, by unfold maxLen at h3; omega, fun hn => ?_⟩, fun x hx => ?_⟩
  · obtain ⟨a, ha, hel⟩ := h4 (by omega)
    refine ⟨a, ha, fun j p hj => ⟨[.int .u64 p], rfl, rfl, fun i u hu => ?_⟩⟩
    obtain ⟨hl, hp⟩ := List.getElem?_eq_some_iff.1 hj
    obtain ⟨he, _⟩ := hel j hl
    have h0 := he 0 (by decide)
    rw [add_0] at h0
    cases i with
    | zero =>
      simp only [List.getElem?_cons_zero, Option.some.injEq] at hu
      subst hu
      rw [hp] at h0
      exact h0
    | succ i => simp at hu
  · obtain ⟨i, hi, rfl⟩ := List.getElem_of_mem hx
    obtain ⟨a, ha, hel⟩ := h4 (by omega)
    exact (hel i hi).2
end Go.Proofs.Ytdogokcoobpgdaa
namespace Go.Proofs.Ytdogokcoobpgdaa
open Go.RowKit Go.Proofs.YtdogokcoobpgdaaW.PrintWords Go.Proofs.YtdogokcoobpgdaaW.PrintLast Go.Proofs.YtdogokcoobpgdaaW.PrintMore

theorem cellAt {w : World} {A : Option Addr} {l : List Int} {ik : IntKind} (h : Kd.C (Kd.int ik) w A l.length l) (k : Nat) (hk : k < l.length) : ∃ ad, A = some ad ∧ w.cell? (ad.add k) = some (.int ik (l[k])) := by
  obtain ⟨ad, e, hx⟩ := Kd.at_int h (k : Int) (by omega) (by omega)
  refine ⟨ad, e, ?_⟩
  simpa [rd, List.getD_eq_getElem?_getD, hk] using hx
def classI (a : Int) : Int := if szI a > 9218868437227405312 then 4 else if szI a = 9218868437227405312 then 3 else if szI a ≥ 4503599627370496 then 2 else if szI a > 0 then 1 else 0
theorem class_f (a : Int) : CChk.flt_Class.f a = some (classI a) := by
  unfold CChk.flt_Class.f CChk.flt_size.f classI
  simp only [Option.bind_some]
  rw [show Go.bits .andNot .u64 a 9223372036854775808 = szI a from rfl]
  split
  · rfl
  · split
    · rfl
    · split
      · rfl
      · split <;> rfl
/-- Does each behind the first one rise? -/
def riseB : List Int → Bool
  | a :: b :: l => lessB a b && riseB (b :: l)
  | _ => true
def risesB (l : List Int) : Bool := match l with
  | [a] => !(classI a == 4)
  | l => riseB l
theorem rise_drop (l : List Int) (m : Nat) (h : m + 1 < l.length) : riseB (l.drop m) = (lessB l[m] l[m + 1] && riseB (l.drop (m + 1))) := by
  rw [List.drop_eq_getElem_cons (by omega : m < l.length), List.drop_eq_getElem_cons h]
  rfl
theorem risesB_other (l : List Int) (h : l.length ≠ 1) : risesB l = riseB l := by
  match l, h with
  | [], _ => rfl
  | [a], h => exact absurd rfl h
  | a :: b :: l, _ => rfl
set_option maxHeartbeats 2000000 in
set_option maxRecDepth 100000 in
theorem rises_any (w : World) (s : Sl) (l : List Int) (hs : NsAt w s l) : Calls Try.prog 28 #[s.v] w fun e w' => e = .returned (.bool (risesB l)) ∧ Drawn0 w w' := by
  obtain ⟨sa, sn, sc⟩ := s
  obtain rfl : sn = l.length := hs.len
  have hm : l.length ≤ 9223372036854775807 := by have h1 := hs.cap; have h2 := hs.most; unfold maxLen at h2; simp only at h1 h2; omega
  have HC := Aside0.mk hs.c
  unfold Sl.v
  clear hs
  by_cases h1 : l.length = 1
  · obtain ⟨a, rfl⟩ := List.length_eq_one_iff.1 h1
    obtain ⟨ad, rfl, hx⟩ := cellAt HC.out 0 Nat.zero_lt_one
    have hcl := fun W => CChk.flt_Class.calls a _ W (class_f a)
    have hx0 : w.cell? ad = some (.int .u64 a) := by rw [add_0] at hx; exact hx
    have hx1 : w.cell? (ad.add 0) = some (.int .u64 a) := hx
    have e : risesB [a] = !(classI a == 4) := rfl
    rw [e]
    generalize classI a = c at *
    clear e h1 hx
    go_enter Try.func28, Try.ntmps28
    go_wp2_with (go_at_call 30; with_reducible refine (hcl _).mono ?_; rintro e w' ⟨rfl, ⟨nd, rfl⟩⟩)
    go_ret
    exact ⟨rfl, by repeat (first | exact Drawn0.refl _ | apply Drawn0.step)⟩
  · rw [risesB_other l h1]
    have h1' : ((l.length : Int) == 1) = false := by simp; omega
    clear h1
    go_enter Try.func28, Try.ntmps28
    go_wp2_with fail
    go_loopw [3] (fun v3 w' => ∃ m : Nat, v3 = .int .i64 ((m : Int) + 1) ∧ (m + 1 ≤ l.length ∨ m = 0) ∧ Aside0 (riseB (l.drop m) = riseB l) ∧ Aside0 (Drawn0 w w')) (fun v3 _ => l.length - (intOf v3).toNat)
    case atStart => exact ⟨0, rfl, .inr rfl, ⟨rfl⟩, ⟨Drawn0.refl _⟩⟩
    case round =>
      obtain ⟨m, rfl, hm2, HE, HDW⟩ := hrel
      obtain ⟨i, hi⟩ : ∃ i : Nat, i = m + 1 := ⟨_, rfl⟩
      have hii : (m : Int) + 1 = (i : Int) := by omega
      rw [hii]
      have HI := Aside0.mk hi
      have HII := Aside0.mk hii
      by_cases hlt : i < l.length
      · have hml : m < l.length := by omega
        obtain ⟨ad, rfl, hx⟩ := cellAt (Kd.C_below HC.out HDW.out.below) m hml
        obtain ⟨ad', e', hy⟩ := cellAt (Kd.C_below HC.out HDW.out.below) i hlt
        injection e' with e'
        subst e'
        have hm2 : (i : Int) - 1 = (m : Int) := by omega
        have hm0 : (0 : Int) ≤ (m : Int) := by omega
        have hi0 : (0 : Int) ≤ (i : Int) := by omega
        have hml2 : (m : Int) < (l.length : Int) := by omega
        have hlt2 : (i : Int) < (l.length : Int) := by omega
        have hR := rise_drop l m (by omega)
        have hL := less_any l[m] l[i]
        have e2 : lessB l[m] l[i] = lessB l[m] l[m + 1] := by subst hi; rfl
        rw [← e2, HE.out] at hR
        clear e2
        generalize l[m] = x at *
        generalize l[i] = y at *
        cases hq : lessB x y
        · rw [hq] at hR hL
          have HR := Aside0.mk hR
          clear hR hq HE hii hi
          go_wp2_with fail
          go_quiet ((go_at_call 31; exact Calls.quiet_of ((hL _).mono (fun _ _ h => ⟨h.1, h.2.out⟩))))
          go_wp2_with fail
          go_ret
          exact ⟨by rw [HR.out]; rfl, by repeat (first | exact HDW.out | apply Drawn0.step)⟩
        · rw [hq] at hR hL
          have HR := Aside0.mk hR
          clear hR hq HE hii hi
          go_wp2_with fail
          go_quiet ((go_at_call 31; exact Calls.quiet_of ((hL _).mono (fun _ _ h => ⟨h.1, h.2.out⟩))))
          go_wp2_with fail
          go_roundw
          case rel => exact ⟨m + 1, by rw [← HII.out]; go_num, .inl (by have := HI.out; omega), ⟨by rw [HR.out]; rfl⟩, ⟨by repeat (first | exact HDW.out | apply Drawn0.step)⟩⟩
          case measure => simp [intOf]; omega
      · have HR : Aside0 (riseB l = true) := ⟨by
          rw [← HE.out]
          rcases Nat.lt_or_ge m l.length with h | h
          · rw [List.drop_eq_getElem_cons h, List.drop_of_length_le (by omega)]; rfl
          · rw [List.drop_of_length_le h]; rfl⟩
        clear hii hi hm2
        go_wp2_with fail
        go_ret
        exact ⟨by rw [HR.out]; rfl, HDW.out⟩
end Go.Proofs.Ytdogokcoobpgdaa
namespace Go.Proofs.Ytdogokcoobpgdaa
open Go.RowKit Go.Proofs.YtdogokcoobpgdaaW.PrintWords Go.Proofs.YtdogokcoobpgdaaW.PrintLast Go.Proofs.YtdogokcoobpgdaaW.PrintMore

theorem C_lit (W : World) (k : IntKind) (xs : List Int) (e : TypeId) (hm : xs.length ≤ 9223372036854775807) : Kd.C (Kd.int k) (W.alloc (.cells (nums k xs).toArray e)) (some ⟨W.heap.size, 0, none⟩) xs.length xs := by
  have h := own_lit W 0 e k xs (by omega) hm
  obtain ⟨A, c, e1, h2⟩ := own_reads h
  injection e1 with e1 e2 e3
  subst e1
  exact Kd.C_of_reads (d := (0 : Int)) (h1 := fun _ => rfl) h2
/-- A row of keys, as it lies (of no later block). -/
structure KsAt (W : World) (s : Sl) (l : List Kv) : Prop where
  at_ : SlAt 11 kvC (fun _ _ => True) W s l
  spot : ∀ a, s.a = some a → a.spot = none
  few : l.length ≤ 1000
theorem KsAt.below {W w : World} {s : Sl} {l : List Kv} (h : KsAt W s l) (hb : Below W.heap.size W w) : KsAt w s l :=
  ⟨⟨h.at_.1, h.at_.2.1, h.at_.2.2.1, fun hl => by
    obtain ⟨a, ha, hel⟩ := h.at_.2.2.2 hl
    refine ⟨a, ha, fun i hi => ⟨fun j hj => ?_, trivial⟩⟩
    have h1 := (hel i hi).1 j hj
    have hj2 : j < (kvC l[i]).length := hj
    rw [List.getElem?_eq_getElem hj2] at h1 ⊢
    exact pw_cell_below hb h1⟩, h.spot, h.few⟩
theorem or3_any (W : World) (a b c : Int) (e : TypeId) : Calls Try.prog 24 #[.slice (some ⟨W.heap.size, 0, none⟩) 3 3] (W.alloc (.cells #[.int .i64 a, .int .i64 b, .int .i64 c] e)) fun e w' => e = .returned (.int .i64 (orL [a, b, c])) ∧ Below W.heap.size W w' := by
  have h := C_lit W .i64 [a, b, c] e (by simp)
  refine (CChk.cmp_Or_int.calls 9 (some ⟨W.heap.size, 0, none⟩) 3 [a, b, c] _ _ h (Nat.le_refl _) (or_3 a b c)).mono ?_
  rintro x w' ⟨rfl, hd⟩
  exact ⟨rfl, below_next ((Below.refl _ _).alloc (Nat.le_refl _) _) hd.below⟩
theorem or4_any (W : World) (a b c d : Int) (e : TypeId) : Calls Try.prog 24 #[.slice (some ⟨W.heap.size, 0, none⟩) 4 4] (W.alloc (.cells #[.int .i64 a, .int .i64 b, .int .i64 c, .int .i64 d] e)) fun e w' => e = .returned (.int .i64 (orL [a, b, c, d])) ∧ Below W.heap.size W w' := by
  have h := C_lit W .i64 [a, b, c, d] e (by simp)
  refine (CChk.cmp_Or_int.calls 9 (some ⟨W.heap.size, 0, none⟩) 4 [a, b, c, d] _ _ h (Nat.le_refl _) (or_4 a b c d)).mono ?_
  rintro x w' ⟨rfl, hd⟩
  exact ⟨rfl, below_next ((Below.refl _ _).alloc (Nat.le_refl _) _) hd.below⟩
theorem or2_any (W : World) (a b : Int) (e : TypeId) : Calls Try.prog 24 #[.slice (some ⟨W.heap.size, 0, none⟩) 2 2] (W.alloc (.cells #[.int .i64 a, .int .i64 b] e)) fun e w' => e = .returned (.int .i64 (orL [a, b])) ∧ Below W.heap.size W w' := by
  have h := C_lit W .i64 [a, b] e (by simp)
  refine (CChk.cmp_Or_int.calls 9 (some ⟨W.heap.size, 0, none⟩) 2 [a, b] _ _ h (Nat.le_refl _) (or_2 a b)).mono ?_
  rintro x w' ⟨rfl, hd⟩
  exact ⟨rfl, below_next ((Below.refl _ _).alloc (Nat.le_refl _) _) hd.below⟩
def commI (start time : Int) (dup : Bool) : Int := orL [whn (time == 0) 4, whn (decide (time < start)) 5, whn dup 6]
set_option maxHeartbeats 2000000 in
set_option maxRecDepth 100000 in
theorem common_any (w : World) (start time : Int) (s : Sl) (l : List Kv) (hs : KsAt w s l) : Calls Try.prog 25 #[.int .u64 start, .int .u64 time, s.v] w fun e w' => e = .returned (.int .i64 (commI start time (dupK l))) ∧ Below w.heap.size w w' := by
  have HB := Aside0.mk (Below.refl w.heap.size w)
  have HT : Aside0 (∀ w', Below w.heap.size w w' → Calls Try.prog 42 #[.slice s.a s.len s.cap] w' fun e w2 => e = .returned (.bool (dupK l)) ∧ Below w'.heap.size w' w2) := ⟨fun w' hb => twice_any w' s l (hs.below hb).at_ hs.spot hs.few⟩
  obtain ⟨sa, sn, sc⟩ := s
  unfold Sl.v commI
  clear hs
  generalize dupK l = d at *
  go_enter Try.func25, Try.ntmps25
  go_wp2_with (first
    | (go_at_call 26; refine (CChk.check_when.calls _ _ _ _ (when_f _ _)).mono ?_; rintro e w1 ⟨rfl, ⟨nd, hw⟩⟩; replace HB := Aside0.mk (pw_below_drewN HB.out nd); rw [← hw] at HB; clear hw)
    | (go_at_call 42; refine (HT.out _ HB.out).mono ?_; rintro e w1 ⟨rfl, hb⟩; replace HB := Aside0.mk (below_next HB.out hb); clear hb)
    | (go_at_call 24; refine (or3_any _ _ _ _ _).mono ?_; rintro e w1 ⟨rfl, hb⟩; replace HB := Aside0.mk (below_next HB.out hb); clear hb))
  go_ret
  exact ⟨rfl, HB.out⟩
end Go.Proofs.Ytdogokcoobpgdaa
namespace Go.Proofs.Ytdogokcoobpgdaa
open Go.RowKit Go.Proofs.YtdogokcoobpgdaaW.PrintWords Go.Proofs.YtdogokcoobpgdaaW.PrintLast Go.Proofs.YtdogokcoobpgdaaW.PrintMore

theorem when_b (b : Bool) (r : Int) (w : World) : Calls Try.prog 26 #[.bool b, .int .i64 r] w fun e w' => e = .returned (.int .i64 (whn b r)) ∧ Below w.heap.size w w' :=
  (CChk.check_when.calls b r _ w (when_f b r)).mono fun _ _ ⟨h1, h2⟩ => ⟨h1, h2.below⟩
/-- A row of slices of numbers, just laid. -/
theorem ll_lit (W : World) (ss : List Sl) (ls : List (List Int)) (e : TypeId) (hz : ls.length = ss.length) (hm : ss.length ≤ 1000) (h : ∀ i (hi : i < ss.length), NsAt W ss[i] (ls[i]'(by omega))) :
    Kd.C (Kd.slice 23 (Kd.int .u64)) (W.alloc (.cells (ss.map Sl.v).toArray e)) (some ⟨W.heap.size, 0, none⟩) ls.length ls := by
  refine ⟨rfl, by omega, fun _ => ⟨_, rfl, fun j p hj => ?_⟩⟩
  obtain ⟨hl, hp⟩ := List.getElem?_eq_some_iff.1 hj
  subst hp
  have hn := h j (by omega)
  refine ⟨[(ss[j]'(by omega)).v], rfl, ⟨(ss[j]'(by omega)).a, (ss[j]'(by omega)).cap, by rw [← hn.len]; rfl, by rw [← hn.len]; exact hn.cap, Kd.C_below hn.c ((Below.refl _ _).alloc (Nat.le_refl _) _)⟩, fun i u hu => ?_⟩
  cases i with
  | zero =>
    simp only [List.getElem?_cons_zero, Option.some.injEq] at hu
    subst hu
    have e1 : (⟨W.heap.size, 0, none⟩ : Addr).add (j * (Kd.slice 23 (Kd.int .u64)).sz + 0) = ⟨W.heap.size, j, none⟩ := by
      show Addr.add _ (j * 1 + 0) = _
      unfold Addr.add
      by_cases h0 : j * 1 + 0 = 0
      · rw [if_pos h0]; simp <;> omega
      · rw [if_neg h0]; simp
    rw [e1, blk_cell (heap_alloc_new W _)]
    simp only [List.getElem?_toArray, List.getElem?_map]
    rw [List.getElem?_eq_getElem (by omega : j < ss.length)]
    rfl
  | succ i => simp at hu
theorem adds_any (W : World) (want : Int) (ss : List Sl) (ls : List (List Int)) (n : Nat) (hn : n = ls.length) (e : TypeId) (hz : ls.length = ss.length) (hm : ss.length ≤ 1000) (h : ∀ i (hi : i < ss.length), NsAt W ss[i] (ls[i]'(by omega))) :
    Calls Try.prog 27 #[.int .u64 want, .slice (some ⟨W.heap.size, 0, none⟩) n n] (W.alloc (.cells (ss.map Sl.v).toArray e)) fun e w' => e = .returned (.bool (addsB want ls)) ∧ Below W.heap.size W w' := by
  subst hn
  obtain ⟨k, hk⟩ := adds_f want ls (by omega) (fun l hl => by
    obtain ⟨i, hi, rfl⟩ := List.getElem_of_mem hl
    have h1 := (h i (by omega)).len
    have h2 := (h i (by omega)).cap
    have h3 := (h i (by omega)).most
    unfold maxLen at h3
    omega)
  refine (CChk.check_adds.calls k want (some ⟨W.heap.size, 0, none⟩) ls.length ls _ _ (ll_lit W ss ls e hz hm h) (Nat.le_refl _) hk).mono ?_
  rintro x w' ⟨rfl, hd⟩
  exact ⟨rfl, below_next ((Below.refl _ _).alloc (Nat.le_refl _) _) hd.below⟩
theorem adds1_any (W : World) (want : Int) (s : Sl) (l : List Int) (e : TypeId) (h : NsAt W s l) : Calls Try.prog 27 #[.int .u64 want, .slice (some ⟨W.heap.size, 0, none⟩) 1 1] (W.alloc (.cells #[.slice s.a s.len s.cap] e)) fun e w' => e = .returned (.bool (addsB want [l])) ∧ Below W.heap.size W w' :=
  adds_any W want [s] [l] 1 rfl e rfl (by simp) (fun i hi => by
    obtain rfl : i = 0 := by simp at hi; omega
    exact h)
end Go.Proofs.Ytdogokcoobpgdaa
