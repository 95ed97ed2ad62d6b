import Derived.Test.YtklkiofhenhafaaDoorMjorrvulm
import Derived.Test.YtklkiofhenhafaaDoorMjnnsungf
import Derived.Test.YtklkiofhenhafaaDoorMpnogqffe
import Derived.Test.YtklkiofhenhafaaDoorWLast
import Derived.Test.YtklkiofhenhafaaDoorWMore
import Derived.WalkKit
import Derived.Below
import Derived.Test.YtklkiofhenhafaaDoorCTextsx
namespace Go.Proofs.YtklkiofhenhafaaDoor
open Go.RowKit Go.Proofs.YtklkiofhenhafaaDoorW.PrintWords Go.Proofs.YtklkiofhenhafaaDoorW.PrintLast Go.Proofs.YtklkiofhenhafaaDoorW.PrintMore Hy

/-! ### tags and records that are written -/
def tagN (n t : Nat) : List Nat := putL (n * 8 + t)
theorem tag_read (n t : Nat) (c : List Nat) (h1 : 1 ≤ n) (h2 : n < 536870912) (ht : t < 8) : tagL (tagN n t ++ c) = some (n, t, (tagN n t).length) := by
  unfold tagL tagN
  rw [dec_put _ (by omega)]
  simp only
  rw [if_pos (by omega), show (n * 8 + t) / 8 = n by omega, show (n * 8 + t) % 8 = t by omega]
theorem tagN_pos (n t : Nat) : 1 ≤ (tagN n t).length := putL_pos _
theorem tagN_len (n t : Nat) (h2 : n < 536870912) (ht : t < 8) : (tagN n t).length ≤ 5 := putL_len 4 _ (by omega)
/-- A record whose tag stands ahead of x. -/
theorem rec_tag (d n t : Nat) (x : List Nat) (h1 : 1 ≤ n) (h2 : n < 536870912) (ht : t < 8) (hr : rst d n t x = some x.length) : recL d (tagN n t ++ x) = some (⟨n, t, numV t x, strV t x, tagN n t ++ x⟩, (tagN n t ++ x).length) := by
  rw [rec_rst (tag_read n t x h1 h2 ht), List.drop_left, hr, List.length_append]
  simp only [Option.map_some]
  rw [List.take_of_length_le (by rw [List.length_append]; omega)]
theorem rec_0 (d n v : Nat) (h1 : 1 ≤ n) (h2 : n < 536870912) (hv : v < 18446744073709551616) : ∃ R, recL d (tagN n 0 ++ putL v) = some (R, (tagN n 0 ++ putL v).length) ∧ R.raw = tagN n 0 ++ putL v := by
  refine ⟨_, rec_tag d n 0 (putL v) h1 h2 (by omega) ?_, rfl⟩
  have := dec_put v hv []
  rw [List.append_nil] at this
  rw [rst_0, this]
theorem rec_1 (d n v : Nat) (h1 : 1 ≤ n) (h2 : n < 536870912) : ∃ R, recL d (tagN n 1 ++ leL 8 v) = some (R, (tagN n 1 ++ leL 8 v).length) ∧ R.raw = tagN n 1 ++ leL 8 v := by
  refine ⟨_, rec_tag d n 1 (leL 8 v) h1 h2 (by omega) ?_, rfl⟩
  rw [rst_1, leL_length, if_pos (Nat.le_refl _)]
theorem rec_2 (d n : Nat) (s : List Nat) (h1 : 1 ≤ n) (h2 : n < 536870912) (hv : s.length < 18446744073709551616) : ∃ R, recL d (tagN n 2 ++ (putL s.length ++ s)) = some (R, (tagN n 2 ++ (putL s.length ++ s)).length) ∧ R.raw = tagN n 2 ++ (putL s.length ++ s) := by
  refine ⟨_, rec_tag d n 2 (putL s.length ++ s) h1 h2 (by omega) ?_, rfl⟩
  rw [rst_2, dec_put _ hv]
  simp only
  rw [List.length_append, if_pos (by omega)]
/-- A text that is one record, at whatever depth. -/
def IsRec (b : List Nat) : Prop := ∃ R : RecL, R.raw = b ∧ ∀ d, recL d b = some (R, b.length)
theorem recs_one {b c : List Nat} {d : Nat} {R : RecL} (h : recL d b = some (R, b.length)) : recsL d (b ++ c) = (recsL d c).map (R :: ·) := by
  have hle := recL_le h
  have hne : b ++ c ≠ [] := by intro e; have := congrArg List.length e; rw [List.length_append, List.length_nil] at this; omega
  rw [recsL_step d _ hne, (rec_pre c h).1]
  simp only
  rw [List.drop_left]
  cases recsL d c <;> rfl
theorem isRec_0 (n v : Nat) (h1 : 1 ≤ n) (h2 : n < 536870912) (hv : v < 18446744073709551616) : IsRec (tagN n 0 ++ putL v) := by
  obtain ⟨R, h, hr⟩ := rec_0 0 n v h1 h2 hv
  refine ⟨R, hr, fun d => ?_⟩
  obtain ⟨R', h', hr'⟩ := rec_0 d n v h1 h2 hv
  rw [rec_rst (tag_read n 0 _ h1 h2 (by omega))] at h h'
  rw [rec_rst (tag_read n 0 _ h1 h2 (by omega)), rst_0]
  rw [rst_0] at h
  exact h
theorem isRec_1 (n v : Nat) (h1 : 1 ≤ n) (h2 : n < 536870912) : IsRec (tagN n 1 ++ leL 8 v) := by
  obtain ⟨R, h, hr⟩ := rec_1 0 n v h1 h2
  refine ⟨R, hr, fun d => ?_⟩
  rw [rec_rst (tag_read n 1 _ h1 h2 (by omega)), rst_1] at h
  rw [rec_rst (tag_read n 1 _ h1 h2 (by omega)), rst_1]
  exact h
theorem isRec_2 (n : Nat) (s : List Nat) (h1 : 1 ≤ n) (h2 : n < 536870912) (hv : s.length < 18446744073709551616) : IsRec (tagN n 2 ++ (putL s.length ++ s)) := by
  obtain ⟨R, h, hr⟩ := rec_2 0 n s h1 h2 hv
  refine ⟨R, hr, fun d => ?_⟩
  rw [rec_rst (tag_read n 2 _ h1 h2 (by omega)), rst_2] at h
  rw [rec_rst (tag_read n 2 _ h1 h2 (by omega)), rst_2]
  exact h
theorem bs_recB (n t : Int) (x : ByteArray) (h1 : 1 ≤ n) (h2 : n < 536870912) (ht0 : 0 ≤ t) (ht : t ≤ 5) : bs (recB n t x) = tagN n.toNat t.toNat ++ bs x := by
  unfold recB tagN
  rw [if_neg (by omega), bs_append, bs_put]
  congr 2
  omega
theorem recB_none (n t : Int) (x : ByteArray) (h : n < 1 ∨ 536870911 < n) : recB n t x = ByteArray.empty := by
  unfold recB
  rw [if_pos (by omega)]
  rfl
/-- What stands in all: the records of a list of texts. -/
def AllIn (all : ByteArray) (want : List ByteArray) : Prop := ∃ L : List RecL, (∀ d, recsL d (bs all) = some L) ∧ L.map (fun R => R.raw) = want.map bs ∧ ∀ R ∈ L, ∀ d, recL d R.raw = some (R, R.raw.length)
theorem allIn_nil : AllIn ByteArray.empty [] := ⟨[], fun d => by rw [show bs ByteArray.empty = [] from rfl, recsL_nil], rfl, fun R h => by cases h⟩
theorem allIn_snoc {all t : ByteArray} {want : List ByteArray} (h : AllIn all want) (ht : IsRec (bs t)) : AllIn (all ++ t) (want ++ [t]) := by
  obtain ⟨L, h1, h2, h3⟩ := h
  obtain ⟨R, hr, hd⟩ := ht
  refine ⟨L ++ [R], fun d => ?_, by rw [List.map_append, List.map_append, h2]; simp [hr], fun Q hQ d => ?_⟩
  · have e : recsL d (bs t) = some [R] := by
      have := recs_one (c := []) (hd d)
      rw [List.append_nil] at this
      rw [this, recsL_nil]; rfl
    rw [bs_append, recs_pre (bs t) _ (bs all) d L rfl (h1 d), e]
    rfl
  · rcases List.mem_append.1 hQ with hQ | hQ
    · exact h3 Q hQ d
    · rw [List.mem_singleton] at hQ
      subst hQ
      rw [hr]
      exact hd d

/-! ### groups within groups -/
theorem grp_step {b : List Nat} {d n k : Nat} {R : RecL} (hr : recL d b = some (R, k)) : grp d n b = (grp d n (b.drop k)).map (k + ·) := by
  cases ht : tagL b with
  | none => rw [rec_none ht] at hr; cases hr
  | some q =>
    obtain ⟨m, t, k1⟩ := q
    rw [rec_rst ht] at hr
    cases hs : rst d m t (b.drop k1) with
    | none => rw [hs] at hr; cases hr
    | some k2 =>
      rw [hs] at hr
      simp only [Option.map_some, Option.some.injEq, Prod.mk.injEq] at hr
      obtain ⟨_, rfl⟩ := hr
      have h4 : t ≠ 4 := by
        rintro rfl
        rw [rst_other (by omega) (by omega) (by omega) (by omega) (by omega)] at hs
        cases hs
      exact grp_on ht h4 hs
theorem grp_recs (n : Nat) (c : List Nat) (hn1 : 1 ≤ n) (hn2 : n < 536870912) : ∀ (m : Nat) (x : List Nat) (d : Nat) (L : List RecL), x.length = m → recsL d x = some L → grp d n (x ++ (tagN n 4 ++ c)) = some (x.length + (tagN n 4).length) := by
  intro m
  induction m using Nat.strongRecOn with
  | ind m ih =>
    intro x d L hm h
    rcases recs_step h with ⟨rfl, rfl⟩ | ⟨R, k, L', hr, hs, rfl, h2, hk, _, _⟩
    · rw [List.nil_append, grp_end (tag_read n 4 c hn1 hn2 (by omega)), if_pos rfl, List.length_nil, Nat.zero_add]
    · rw [grp_step (rec_pre _ hr).1, List.drop_append_of_le_length hk, ih (x.drop k).length (by rw [List.length_drop]; omega) (x.drop k) d L' rfl hs, List.length_drop]
      simp only [Option.map_some]
      congr 1
      omega
/-- all, in so many groups. -/
def nestB : Nat → ByteArray → ByteArray
  | 0, b => b
  | k + 1, b => tagB ((k : Int) + 1) 3 ++ nestB k b ++ tagB ((k : Int) + 1) 4
theorem bs_tagB (n t : Nat) (h1 : 1 ≤ n) (h2 : n < 536870912) (ht : t ≤ 5) : bs (tagB n t) = tagN n t := by
  unfold tagB tagN
  rw [if_neg (by omega), bs_put]
  congr 1
theorem bs_nest (k : Nat) (b : ByteArray) (hk : k ≤ 50) : bs (nestB (k + 1) b) = tagN (k + 1) 3 ++ (bs (nestB k b) ++ tagN (k + 1) 4) := by
  rw [show nestB (k + 1) b = tagB ((k : Int) + 1) 3 ++ nestB k b ++ tagB ((k : Int) + 1) 4 from rfl, bs_append, bs_append, List.append_assoc]
  rw [show ((k : Int) + 1) = ((k + 1 : Nat) : Int) by omega, show (3 : Int) = ((3 : Nat) : Int) from rfl, show (4 : Int) = ((4 : Nat) : Int) from rfl, bs_tagB _ _ (by omega) (by omega) (by omega), bs_tagB _ _ (by omega) (by omega) (by omega)]
theorem nest_size : ∀ (k : Nat) (b : ByteArray), k ≤ 50 → (nestB k b).size ≤ b.size + 10 * k := by
  intro k
  induction k with
  | zero => intro b _; exact Nat.le_refl _
  | succ k ih =>
    intro b hk
    have h1 := ih b (by omega)
    have h2 := tagN_len (k + 1) 3 (by omega) (by omega)
    have h3 := tagN_len (k + 1) 4 (by omega) (by omega)
    rw [← bs_length, bs_nest k b (by omega), List.length_append, List.length_append, bs_length]
    omega
/-- One record that is a group. -/
theorem nest_one (b : ByteArray) (L : List RecL) (hL : ∀ d, recsL d (bs b) = some L) : ∀ (k d : Nat), k + 1 ≤ 50 → k + 1 ≤ d → recsL d (bs (nestB (k + 1) b)) = some [⟨k + 1, 3, 0, [], bs (nestB (k + 1) b)⟩] := by
  intro k
  induction k with
  | zero =>
    intro d hk hd
    have hg := grp_recs 1 [] (by omega) (by omega) _ (bs b) (d - 1) L rfl (hL (d - 1))
    rw [List.append_nil] at hg
    have hr : rst d 1 3 (bs b ++ tagN 1 4) = some (bs b ++ tagN 1 4).length := by rw [rst_3, if_neg (by omega), hg, List.length_append]
    rw [bs_nest 0 b (by omega)]
    have h1 := rec_tag d 1 3 (bs b ++ tagN 1 4) (by omega) (by omega) (by omega) hr
    have := recs_one (c := []) h1
    rw [List.append_nil, recsL_nil] at this
    exact this
  | succ k ih =>
    intro d hk hd
    have h := ih (d - 1) (by omega) (by omega)
    have hg := grp_recs (k + 1 + 1) [] (by omega) (by omega) _ (bs (nestB (k + 1) b)) (d - 1) _ rfl h
    rw [List.append_nil] at hg
    have hr : rst d (k + 1 + 1) 3 (bs (nestB (k + 1) b) ++ tagN (k + 1 + 1) 4) = some (bs (nestB (k + 1) b) ++ tagN (k + 1 + 1) 4).length := by rw [rst_3, if_neg (by omega), hg, List.length_append]
    rw [bs_nest (k + 1) b (by omega)]
    have h1 := rec_tag d (k + 1 + 1) 3 _ (by omega) (by omega) (by omega) hr
    have := recs_one (c := []) h1
    rw [List.append_nil, recsL_nil] at this
    exact this
/-- So many groups begin here, one within another. -/
def deepL : Nat → List Nat → Prop
  | 0, _ => True
  | d + 1, x => ∃ m k, tagL x = some (m, 3, k) ∧ deepL d (x.drop k)
theorem deep_nest (b : ByteArray) : ∀ (d j : Nat) (c : List Nat), j ≤ 50 → d ≤ j → deepL d (bs (nestB j b) ++ c) := by
  intro d
  induction d with
  | zero => intro _ _ _ _; trivial
  | succ d ih =>
    intro j c hj hd
    obtain ⟨j, rfl⟩ : ∃ i, j = i + 1 := ⟨j - 1, by omega⟩
    rw [bs_nest j b (by omega), List.append_assoc]
    refine ⟨j + 1, _, tag_read (j + 1) 3 _ (by omega) (by omega) (by omega), ?_⟩
    rw [List.drop_left, List.append_assoc]
    exact ih j _ (by omega) (by omega)
theorem deep_all (b : ByteArray) (j : Nat) (hj : j + 1 ≤ 50) : deepL (j + 1) (bs (nestB (j + 1) b)) := by
  have := deep_nest b (j + 1) (j + 1) [] (by omega) (Nat.le_refl _)
  rwa [List.append_nil] at this
end Go.Proofs.YtklkiofhenhafaaDoor
namespace Go.Proofs.YtklkiofhenhafaaDoor
open Go.RowKit Go.Proofs.YtklkiofhenhafaaDoorW.PrintWords Go.Proofs.YtklkiofhenhafaaDoorW.PrintLast Go.Proofs.YtklkiofhenhafaaDoorW.PrintMore Hy

def WE6 (s : ByteArray) (E : Err) : Prop := ∃ p : Nat, E = .at_ (p : Int) (.code 6) ∧ p ≤ s.size
def WBad6 (w : World) (r : Nat) (s : ByteArray) (dp : Int) (w' : World) : Prop := ∃ (a' T : Nat) (x : Value) (E : Err), a' ≤ s.size ∧ RW w' r s a' (.iface T x) dp ∧ IsE w' E (.iface T x) ∧ WE6 s E ∧ Kp (fun k => k = r) w w'
def GBad6 (r : Nat) (s : ByteArray) (dp : Int) (W : World) (e : Ending) (W' : World) : Prop := e = .returned (.tuple #[]) ∧ WBad6 W r s dp W'
def RBad6 (w : World) (r x : Nat) (s : ByteArray) (dp : Int) (e : Ending) (w' : World) : Prop := e = .returned (.tuple #[]) ∧ ∃ (a' T : Nat) (v : Value) (E : Err), a' ≤ s.size ∧ RW w' r s a' (.iface T v) dp ∧ IsE w' E (.iface T v) ∧ WE6 s E ∧ Kp (RX r x) w w'
theorem wgroup_low6 (w : World) (r n : Nat) (s : ByteArray) (a : Nat) (dp : Int) (h : RW w r s a .nilIface dp) (ha : a ≤ s.size) (hdp : dp < 1) :
    Calls Tryd.prog 51 #[.pointer (some ⟨r, 0, none⟩), .int .i64 (n : Int)] w (GBad6 r s dp w) := by
  have c1 := h.c1
  have c3 := h.c3
  have G := wfails_new w r s a dp (a : Int) 6 h
  clear h
  go_enter Tryd.func51, Tryd.ntmps51
  go_wp2_with fail
  refine G.mono ?_
  rintro e w2 ⟨rfl, T, xv, hr2, hu2, hk2⟩
  have HR2 := Aside0.mk hr2
  have HU2 := Aside0.mk hu2
  have HK2 := Aside0.mk hk2
  clear hr2 hu2 hk2 G
  go_wp2_with fail
  refine bodyPost_ret (results_none rfl _ _ _) rfl ?_
  exact ⟨rfl, a, T, xv, _, ha, HR2.out, HU2.out, ⟨a, rfl, ha⟩, HK2.out⟩
set_option maxHeartbeats 4000000 in
set_option maxRecDepth 100000 in
theorem wrest_bad36 (w : World) (r x : Nat) (s : ByteArray) (a : Nat) (n at_ dp : Int) (_h : RW w r s a .nilIface dp) (hx : XW w x n 3 0 ByteArray.empty ByteArray.empty) (_hxr : x ≠ r) (_ha : a ≤ s.size) (_hs : s.size ≤ 140737488351232) (G : Calls Tryd.prog 51 #[.pointer (some ⟨r, 0, none⟩), .int .i64 n] w fun e w' => e = .returned (.tuple #[]) ∧ WBad6 w r s dp w') :
    Calls Tryd.prog 43 #[.pointer (some ⟨r, 0, none⟩), .pointer (some ⟨x, 0, none⟩), .int .i64 at_] w (RBad6 w r x s dp) := by
  have q0 := hx.c0
  have q1 := hx.c1
  clear _h hx _ha _hs _hxr
  go_enter Tryd.func43, Tryd.ntmps43
  go_wp2_with fail
  refine G.mono ?_
  rintro e w2 ⟨rfl, a', T, xv, E, ha', hr2, hu2, hE2, hk2⟩
  have HR2 := Aside0.mk hr2
  have HU2 := Aside0.mk hu2
  have HK2 := Aside0.mk hk2
  clear hr2 hu2 hk2 G q0 q1
  go_wp2_with fail
  go_end0
  exact ⟨rfl, a', T, xv, E, ha', HR2.out, HU2.out, hE2, rx_of HK2.out⟩
set_option maxHeartbeats 4000000 in
set_option maxRecDepth 100000 in
theorem wrecord_restbad6 (w : World) (r : Nat) (s : ByteArray) (a : Nat) (dp : Int) (h : RW w r s a .nilIface dp) (ha : a ≤ s.size) (hs : s.size ≤ 140737488351232) (n t k : Nat) (ht : tagL ((bs s).drop a) = some (n, t, k))
    (HQ : ∀ W x, RW W r s (a + k) .nilIface dp → XW W x n t 0 ByteArray.empty ByteArray.empty → x ≠ r → Calls Tryd.prog 43 #[.pointer (some ⟨r, 0, none⟩), .pointer (some ⟨x, 0, none⟩), .int .i64 (a : Int)] W (RBad6 W r x s dp)) :
    Calls Tryd.prog 29 #[.pointer (some ⟨r, 0, none⟩)] w fun e w' => e = .returned (recV 0 0 0 ByteArray.empty ByteArray.empty) ∧ WBad6 w r s dp w' := by
  have hq := blk_lt h
  have hr1 : RW (w.alloc (.cells #[.int .i64 0, .int .i64 0, .int .u64 0, .string ⟨#[]⟩, .string ⟨#[]⟩] 25)) r s a .nilIface dp := h.below ((Below.refl _ _).alloc (Nat.le_refl _) _)
  have hz1 : XW (w.alloc (.cells #[.int .i64 0, .int .i64 0, .int .u64 0, .string ⟨#[]⟩, .string ⟨#[]⟩] 25)) w.heap.size 0 0 0 ByteArray.empty ByteArray.empty := heap_alloc_new w _
  have hk1 : Kp (fun k => k = r) w (w.alloc (.cells #[.int .i64 0, .int .i64 0, .int .u64 0, .string ⟨#[]⟩, .string ⟨#[]⟩] 25)) := (Kp.refl _ w).alloc _
  have hsz : (w.alloc (.cells #[.int .i64 0, .int .i64 0, .int .u64 0, .string ⟨#[]⟩, .string ⟨#[]⟩] 25)).heap.size = w.heap.size + 1 := Array.size_push _
  have c1 := hr1.c1
  have HR1 := Aside0.mk hr1
  have HZ1 := Aside0.mk hz1
  have HK1 := Aside0.mk hk1
  have G := fun W (hW : RW W r s a .nilIface dp) => wtag_ok W r s a n t k dp hW ha hs ht
  have HG := Aside0.mk HQ
  clear h ht HQ hr1 hz1 hk1
  go_enter Tryd.func29, Tryd.ntmps29
  go_wp2_with fail
  generalize w.alloc (.cells #[.int .i64 0, .int .i64 0, .int .u64 0, .string ⟨#[]⟩, .string ⟨#[]⟩] 25) = W1 at *
  have hr2 : RW (W1.alloc (.cells #[.int .i64 0, .int .i64 0, .int .u64 0, .string ⟨#[]⟩, .string ⟨#[]⟩] 25)) r s a .nilIface dp := HR1.out.below ((Below.refl _ _).alloc (Nat.le_refl _) _)
  have hz2 : XW (W1.alloc (.cells #[.int .i64 0, .int .i64 0, .int .u64 0, .string ⟨#[]⟩, .string ⟨#[]⟩] 25)) W1.heap.size 0 0 0 ByteArray.empty ByteArray.empty := heap_alloc_new W1 _
  rw [hsz] at hz2
  have hz3 : XW (W1.alloc (.cells #[.int .i64 0, .int .i64 0, .int .u64 0, .string ⟨#[]⟩, .string ⟨#[]⟩] 25)) w.heap.size 0 0 0 ByteArray.empty ByteArray.empty := blk_below HZ1.out ((Below.refl _ _).alloc (Nat.le_refl _) _)
  have HK2 := Aside0.mk (HK1.out.alloc (.cells #[.int .i64 0, .int .i64 0, .int .u64 0, .string ⟨#[]⟩, .string ⟨#[]⟩] 25))
  have HZ2 := Aside0.mk hz2
  have HZ3 := Aside0.mk hz3
  clear hsz
  generalize hg : w.heap.size = g at *
  generalize hx : g + 1 = x at *
  refine (G _ hr2).mono ?_
  rintro e w2 ⟨rfl, hr3, hk3⟩
  have hxr : x ≠ r := by omega
  have hgr : g ≠ r := by omega
  have hgx : g ≠ x := by omega
  have HX3 := Aside0.mk (HZ2.out.kp hk3 hxr)
  have HZ4 := Aside0.mk (HZ3.out.kp hk3 hgr)
  have HR3 := Aside0.mk hr3
  have HK3 := Aside0.mk (HK2.out.trans hk3)
  have q0 := HX3.out.c0
  have q1 := (HX3.out.set0 (n : Int)).c1
  have f0 := HX3.out.fz 0
  have f1 := (HX3.out.set0 (n : Int)).fz 1
  have hk4 : Kp (fun k => k = x) w2 ((w2.setCell ⟨x, 0, none⟩ (.int .i64 (n : Int))).setCell ⟨x, 1, none⟩ (.int .i64 (t : Int))) := (((Kp.refl (fun k => k = x) w2).set (p := ⟨x, 0, none⟩) rfl _)).set (p := ⟨x, 1, none⟩) rfl _
  have hr4 := hr3.kp hk4 (fun e => hxr e.symm)
  have q2 := hr4.c2
  have HR4 := Aside0.mk hr4
  have HX4 := Aside0.mk ((HX3.out.set0 (n : Int)).set1 (t : Int))
  have HZ5 := Aside0.mk (HZ4.out.kp hk4 hgx)
  have HK4 := Aside0.mk hk4
  clear hr2 hz2 hz3 hk3 hr3 hr4 hk4 c1 HZ2 HZ3 HX3 HZ4 HR1 HZ1 HK1 HK2 G HR3
  go_wp2_with fail
  generalize (w2.setCell ⟨x, 0, none⟩ (.int .i64 (n : Int))).setCell ⟨x, 1, none⟩ (.int .i64 (t : Int)) = W4 at *
  refine (HG.out W4 x HR4.out HX4.out hxr).mono ?_
  rintro e W7 ⟨rfl, a', T, v, E, ha', hr5, hu5, hE, hk5⟩
  have HR7 := Aside0.mk hr5
  have HU7 := Aside0.mk hu5
  have HZ7 := Aside0.mk (HZ5.out.kp hk5 (fun e => e.elim hgr hgx))
  have hk6 : Kp (fun k => k = r ∨ w.heap.size ≤ k) w W7 := ((HK3.out.mono (fun _ e => .inl e)).trans (HK4.out.mono (fun k e => .inr (by omega)))).trans (hk5.mono (fun k e => e.elim .inl (fun e => .inr (by omega))))
  have HK7 := Aside0.mk hk6
  clear hr5 hu5 hk5 hk6 q0 q1 f0 f1 HG HR4 HX4 HZ5 HK4 HK3
  have z0 := HZ7.out.c0
  have z1 := HZ7.out.c1
  have z2 := HZ7.out.c2
  have z3 := HZ7.out.c3
  have z4 := HZ7.out.c4
  have zf := fun i => HZ7.out.fz i
  have q2 := HR7.out.c2
  go_wp2_with fail
  refine bodyPost_ret (results_cell_row rfl _ _ g 25 #[.int .i64 0, .int .i64 0, .int .u64 0, .string ByteArray.empty, .string ByteArray.empty] (0, 0) _ rfl (HZ7.out.all 0 0 0 ByteArray.empty ByteArray.empty) Tryd.underlying25 rfl (by kernel_rfl)) rfl ?_
  have hk7 := kp_all W7 g (.int .i64 0) (.int .i64 0) (.int .u64 0) (.string ByteArray.empty) (.string ByteArray.empty)
  refine ⟨rfl, a', T, v, E, ha', HR7.out.kp hk7 (fun e => hgr e.symm), HU7.out.xkp HZ7.out hk7, hE, ?_⟩
  have hk9 : Kp (fun k => k = r ∨ w.heap.size ≤ k) w _ := HK7.out.trans (hk7.mono (fun k e => .inr (by omega)))
  exact ⟨hk9.os, hk9.tape, hk9.output, hk9.size, fun k hk hn => hk9.block k hk (fun e => e.elim hn (fun e => absurd e (Nat.not_le.2 hk)))⟩
set_option maxHeartbeats 4000000 in
set_option maxRecDepth 100000 in
theorem wgroup_in6 (w : World) (r n m k : Nat) (s : ByteArray) (a : Nat) (d : Int) (h : RW w r s a .nilIface (d + 1)) (ha : a ≤ s.size) (hs : s.size ≤ 140737488351232) (hd0 : 0 ≤ d) (hd1 : d + 1 < 9223372036854775808) (ht : tagL ((bs s).drop a) = some (m, 3, k))
    (HQ : ∀ W x, RW W r s (a + k) .nilIface d → XW W x (m : Int) 3 0 ByteArray.empty ByteArray.empty → x ≠ r → Calls Tryd.prog 43 #[.pointer (some ⟨r, 0, none⟩), .pointer (some ⟨x, 0, none⟩), .int .i64 (a : Int)] W (RBad6 W r x s d)) :
    Calls Tryd.prog 51 #[.pointer (some ⟨r, 0, none⟩), .int .i64 (n : Int)] w (GBad6 r s (d + 1) w) := by
  have c3 := h.c3
  have f3 := h.fz 3
  have HI := Aside0.mk HQ
  have hdp : ¬ d + 1 < 1 := by omega
  have hr2 := h.dep d
  have hk2 := kp_r (r := r) (Kp.refl (fun k => k = r) w) 3 (.int .i64 d)
  have HR0 := Aside0.mk hr2
  have HK0 := Aside0.mk hk2
  have HT := Aside0.mk (fun W (hW : RW W r s a .nilIface d) => wtag_ok W r s a m 3 k d hW ha hs ht)
  clear h hr2 hk2 HQ ht
  go_enter Tryd.func51, Tryd.ntmps51
  go_wp2_with fail
  generalize w.setCell ⟨r, 3, none⟩ (.int .i64 d) = W at *
  go_loopg [4] 1 (fun kq _ w' => Aside0 (Kp (fun k => k = r) w w') ∧ ((kq = 1 ∧ Aside0 (RW w' r s a .nilIface d)) ∨ (kq = 0 ∧ ∃ (a' T : Nat) (v : Value) (E : Err), Aside0 (a' ≤ s.size) ∧ Aside0 (RW w' r s a' (.iface T v) d) ∧ Aside0 (IsE w' E (.iface T v)) ∧ Aside0 (WE6 s E))))
  case atStart => exact ⟨HK0, .inl ⟨rfl, HR0⟩⟩
  case round =>
    clear HK0 HR0
    obtain ⟨HK, ⟨hkq, HR⟩ | ⟨hkq, a', T, v, E, HA, HR, HU, HE⟩⟩ := hrel
    · have c2 := HR.out.c2
      have c1 := HR.out.c1
      have HKQ := Aside0.mk hkq
      have G := HT.out wr HR.out
      have hm3 : ((3 : Nat) : Int) = 3 := rfl
      rw [hm3] at G
      clear hkq hm3
      go_wp2_with fail
      refine G.mono ?_
      rintro e w2 ⟨rfl, hr2, hk2⟩
      have c2 := hr2.c2
      have HR2 := Aside0.mk hr2
      have HK2 := Aside0.mk (HK.out.trans hk2)
      clear hr2 hk2 G
      go_wp2_with fail
      have hx3 : XW (w2.alloc (.cells #[.int .i64 (m : Int), .int .i64 3, .int .u64 0, .string ⟨#[]⟩, .string ⟨#[]⟩] 25)) w2.heap.size (m : Int) 3 0 ByteArray.empty ByteArray.empty := heap_alloc_new w2 _
      have hb3 : Below w2.heap.size w2 (w2.alloc (.cells #[.int .i64 (m : Int), .int .i64 3, .int .u64 0, .string ⟨#[]⟩, .string ⟨#[]⟩] 25)) := (Below.refl _ _).alloc (Nat.le_refl _) _
      have hr3 := HR2.out.below hb3
      have hlt := blk_lt HR2.out
      refine (HI.out _ _ hr3 hx3 (by omega)).mono ?_
      rintro e w4 ⟨rfl, a', T, v, E, ha', hr4, hu4, hE4, hk4⟩
      have HR4 := Aside0.mk hr4
      have HU4 := Aside0.mk hu4
      have HE4 := Aside0.mk hE4
      have HA4 := Aside0.mk ha'
      have HK4 := Aside0.mk (kp_box HK2.out _ hk4)
      clear hx3 hb3 hr3 hlt hr4 hu4 hk4 hE4 ha'
      go_wp2_with fail
      go_roundg 0
      case measure => have := HKQ.out; omega
      case rel => exact ⟨HK4, .inr ⟨rfl, a', T, v, E, HA4, HR4, HU4, HE4⟩⟩
    · have c2 := HR.out.c2
      have c3 := HR.out.c3
      have f3 := HR.out.fz 3
      clear hkq
      go_wp2_with fail
      go_end0
      exact ⟨rfl, a', T, v, E, HA.out, HR.out.dep _, HU.out.rset HR.out _ _, HE.out, kp_r HK.out _ _⟩
/-- A group too deep. -/
theorem grp6 (s : ByteArray) (hs : s.size ≤ 140737488351232) : ∀ (d : Nat) (W : World) (r n a : Nat), d < 1000 → RW W r s a .nilIface (d : Int) → a ≤ s.size → deepL d ((bs s).drop a) →
    Calls Tryd.prog 51 #[.pointer (some ⟨r, 0, none⟩), .int .i64 (n : Int)] W (GBad6 r s (d : Int) W) := by
  intro d
  induction d with
  | zero => intro W r n a _ h ha _; exact wgroup_low6 W r n s a 0 h ha (by omega)
  | succ d ih =>
    intro W r n a hd h ha hl
    obtain ⟨m, k, ht, hl⟩ := hl
    have hp := tagL_pos ht
    rw [List.length_drop, bs_length] at hp
    rw [List.drop_drop] at hl
    rw [show ((d + 1 : Nat) : Int) = (d : Int) + 1 by omega] at h ⊢
    exact wgroup_in6 W r n m k s a d h ha hs (by omega) (by omega) ht (fun W' x hW hx hxr => wrest_bad36 W' r x s (a + k) m a d hW hx hxr (by omega) hs (ih W' r m (a + k) (by omega) hW (by omega) hl))
theorem record6 (s : ByteArray) (hs : s.size ≤ 140737488351232) (W : World) (r d : Nat) (hd : d < 1000) (h : RW W r s 0 .nilIface (d : Int)) (hl : deepL (d + 1) (bs s)) :
    Calls Tryd.prog 29 #[.pointer (some ⟨r, 0, none⟩)] W fun e w' => e = .returned (recV 0 0 0 ByteArray.empty ByteArray.empty) ∧ WBad6 W r s (d : Int) w' := by
  obtain ⟨m, k, ht, hl⟩ := hl
  have hp := tagL_pos ht
  rw [bs_length] at hp
  exact wrecord_restbad6 W r s 0 d h (Nat.zero_le _) hs m 3 k (by rw [List.drop_zero]; exact ht) (fun W' x hW hx hxr => wrest_bad36 W' r x s (0 + k) m (0 : Nat) d hW hx hxr (by omega) hs (grp6 s hs d W' r m (0 + k) hd hW (by omega) (by rw [Nat.zero_add]; exact hl)))
def AErr6 (s : ByteArray) (w : World) (e : Ending) (w' : World) : Prop := ∃ T v E, e = .returned (.tuple #[.slice none 0 0, .iface T v]) ∧ IsE w' E (.iface T v) ∧ WE6 s E ∧ Below w.heap.size w w'
set_option maxHeartbeats 4000000 in
set_option maxRecDepth 100000 in
theorem wall6 (w : World) (s : ByteArray) (d : Nat) (hs : s.size ≤ 100000) (hd : d < 1000) (hl : deepL (d + 1) (bs s)) :
    Calls Tryd.prog 12 #[.string s, .int .i64 (d : Int)] w (AErr6 s w) := by
  have hpos : 0 < s.size := by
    obtain ⟨m, k, ht, _⟩ := hl
    have hp := tagL_pos ht
    rw [bs_length] at hp
    omega
  have HQ := Aside0.mk (fun W r (h : RW W r s 0 .nilIface (d : Int)) => record6 s (by omega) W r d hd h hl)
  have HB0 := Aside0.mk (Below.refl w.heap.size w)
  have d1 : (0 : Int) < (s.size : Int) := by omega
  clear hl hd hpos
  go_enter Tryd.func12, Tryd.ntmps12
  go_wp2_with fail
  have hr1 : RW (w.alloc (.cells #[.string s, .int .i64 0, .nilIface, .int .i64 (d : Int)] 63)) w.heap.size s 0 .nilIface (d : Int) := heap_alloc_new w _
  have HB1 := Aside0.mk (HB0.out.alloc (Nat.le_refl _) (.cells #[.string s, .int .i64 0, .nilIface, .int .i64 (d : Int)] 63))
  have HR1 := Aside0.mk hr1
  clear hr1 HB0
  generalize w.alloc (.cells #[.string s, .int .i64 0, .nilIface, .int .i64 (d : Int)] 63) = W1 at *
  generalize hrr : w.heap.size = r at HR1 ⊢
  have HRR := Aside0.mk hrr
  clear hrr
  go_loopg [6] 0 (fun _ v6 w' => v6 = .slice none 0 0 ∧ Aside0 (RW w' r s 0 .nilIface (d : Int)) ∧ Aside0 (Below w.heap.size w w'))
  case atStart => exact ⟨rfl, HR1, HB1⟩
  case round =>
    clear HR1 HB1
    obtain ⟨rfl, HR, HB⟩ := hrel
    have q1 := HR.out.c1
    have G := HQ.out wr r HR.out
    go_wp2_with fail
    refine G.mono ?_
    rintro e w2 ⟨rfl, a', T, v, E, ha', hr2, hu2, hE2, hk2⟩
    unfold recV
    have HR2 := Aside0.mk hr2
    have HU2 := Aside0.mk hu2
    have HB2 := Aside0.mk (HB.out.trans (hk2.toBelow HB.out.size (fun k e => by rw [e, HRR.out]; exact Nat.le_refl r)))
    clear hr2 hu2 hk2 G HB HR q1
    go_wp2_with (first
      | ((with_reducible refine gate_dst (N := 8) rfl ?_); refine box_event ?hg (N := 8) ?hd (cs := #[.int .i64 0, .int .i64 0, .int .u64 0, .string ⟨#[]⟩, .string ⟨#[]⟩]) (t := 25) ?hr ?_; (case hd => rfl); (case hg => rfl); (case hr => first | (go_simp; done) | (go_simp; rfl)); intro x hx w4 hx4 hb4
         have hx4 : XW w4 x 0 0 0 ByteArray.empty ByteArray.empty := hx4
         have hlt2 := blk_lt HR2.out
         have hxr : x ≠ r := by omega
         have hbx : w.heap.size ≤ x := by have := HB2.out.size; omega
         clear hx
         have HR4 := Aside0.mk (HR2.out.below hb4)
         have hu4 := HU2.out.below hb4
         have HB4 := Aside0.mk (HB2.out.trans (hb4.mono HB2.out.size))
         have z0 := hx4.c0
         have z1 := hx4.c1
         have z2 := hx4.c2
         have z3 := hx4.c3
         have z4 := hx4.c4
         have zf := fun i => hx4.fz i
         have k5 := kp_all w4 x (.int .i64 0) (.int .i64 0) (.int .u64 0) (.string ByteArray.empty) (.string ByteArray.empty)
         have hr5 := HR4.out.kp k5 (fun e => hxr e.symm)
         have HB5 := Aside0.mk (HB4.out.trans (k5.toBelow HB4.out.size (fun k e => by rw [e]; exact hbx)))
         have HU5 := Aside0.mk (hu4.xkp hx4 k5)
         have q2 := hr5.c2
         clear hx4 k5 hr5 hb4 hu4))
    go_quiet (fail)
    go_wp2_with fail
    go_ret2
    exact ⟨T, v, E, rfl, HU5.out.below (by apply pw_below_drewN; exact Below.refl _ _), hE2, by rw [HRR.out]; have h := HB5.out; rw [HRR.out] at h; apply pw_below_drewN; exact h⟩
end Go.Proofs.YtklkiofhenhafaaDoor
namespace Go.Proofs.YtklkiofhenhafaaDoor
open Go.RowKit Go.Proofs.YtklkiofhenhafaaDoorW.PrintWords Go.Proofs.YtklkiofhenhafaaDoorW.PrintLast Go.Proofs.YtklkiofhenhafaaDoorW.PrintMore
open CTexts (hygref_Texts.l0 hygref_Texts.f hygref_Texts.calls)

theorem str_toList {t s : ByteArray} (h : t.toList = s.toList) : t = s := by
  rw [ByteArray.toList_eq, ByteArray.toList_eq] at h
  exact ByteArray.ext (Array.toList_inj.mp h)
theorem str_ne {t s : ByteArray} (h : ¬ t = s) : ¬ t.toList = s.toList := fun e => h (str_toList e)
theorem rdOf_at {l : List ByteArray} {i : Nat} (h : i < l.length) : rdOf ByteArray.empty l (i : Int) = l[i] := by simp [rdOf, List.getD_eq_getElem?_getD, h]
theorem texts_l0 (a b : List ByteArray) (h : a.length = b.length) (hb : a.length ≤ 140737488355328) : ∀ (d i k : Nat), i + d = a.length → d < k → ∃ r, hygref_Texts.l0 k a b (i : Int) = some r ∧ (r = true ↔ a.drop i = b.drop i) := by
  intro d
  induction d with
  | zero =>
    intro i k hi hk
    obtain ⟨k, rfl⟩ : ∃ m, k = m + 1 := ⟨k - 1, by omega⟩
    refine ⟨true, ?_, ?_⟩
    · rw [hygref_Texts.l0, if_neg (by omega)]
    · rw [List.drop_of_length_le (by omega), List.drop_of_length_le (by omega)]; simp
  | succ d ih =>
    intro i k hi hk
    obtain ⟨k, rfl⟩ : ∃ m, k = m + 1 := ⟨k - 1, by omega⟩
    have hi1 : i < a.length := by omega
    have hi2 : i < b.length := by omega
    have hd : (a.drop i = b.drop i) ↔ (a[i] = b[i] ∧ a.drop (i + 1) = b.drop (i + 1)) := by
      rw [List.drop_eq_getElem_cons hi1, List.drop_eq_getElem_cons hi2, List.cons.injEq]
    rw [hygref_Texts.l0, if_pos (by omega), if_pos (by omega), if_pos (by omega), rdOf_at hi1, rdOf_at hi2]
    by_cases he : a[i] = b[i]
    · obtain ⟨r, e1, e2⟩ := ih (i + 1) k (by omega) (by omega)
      refine ⟨r, ?_, ?_⟩
      · rw [if_pos (by rw [he]), show wrap64 ((i : Int) + 1) = ((i + 1 : Nat) : Int) by unfold wrap64; omega, e1]
      · rw [e2, hd]; exact ⟨fun h => ⟨he, h⟩, fun h => h.2⟩
    · refine ⟨false, by rw [if_neg (str_ne he)], ?_⟩
      rw [hd]; exact ⟨fun h => (by cases h), fun h => absurd h.1 he⟩
theorem texts_f (a b : List ByteArray) (hb : a.length ≤ 140737488355328) : ∃ r, hygref_Texts.f (a.length + 1) a b = some r ∧ (r = true ↔ a = b) := by
  unfold hygref_Texts.f
  by_cases h : a.length = b.length
  · rw [if_pos (by omega)]
    have := texts_l0 a b h hb a.length 0 (a.length + 1) (by omega) (by omega)
    simpa using this
  · rw [if_neg (by omega)]
    refine ⟨false, rfl, ?_⟩
    exact ⟨fun h => (by cases h), fun e => absurd (by rw [e]) h⟩
theorem texts_same (A : Option Addr) (c : Nat) (l : List ByteArray) (A' : Option Addr) (c' : Nat) (w : World) (hr : Kd.C Kd.string w A l.length l) (hc : l.length ≤ c) (hr' : Kd.C Kd.string w A' l.length l) (hc' : l.length ≤ c') (hl : l.length ≤ 140737488355328) :
    Calls Tryd.prog 18 #[.slice A l.length c, .slice A' l.length c'] w fun e w' => e = .returned (.bool true) ∧ Drawn0 w w' := by
  obtain ⟨r, h1, h2⟩ := texts_f l l hl
  obtain rfl := h2.2 rfl
  exact hygref_Texts.calls (l.length + 1) A c l A' c' l _ w hr hc hr' hc' h1
theorem texts_other (A : Option Addr) (c : Nat) (l : List ByteArray) (A' : Option Addr) (c' : Nat) (l' : List ByteArray) (w : World) (hr : Kd.C Kd.string w A l.length l) (hc : l.length ≤ c) (hr' : Kd.C Kd.string w A' l'.length l') (hc' : l'.length ≤ c') (hl : l.length ≤ 140737488355328) (hne : l ≠ l') :
    Calls Tryd.prog 18 #[.slice A l.length c, .slice A' l'.length c'] w fun e w' => e = .returned (.bool false) ∧ Drawn0 w w' := by
  obtain ⟨r, h1, h2⟩ := texts_f l l' hl
  have : r = false := by
    cases r with
    | false => rfl
    | true => exact absurd (h2.1 rfl) hne
  subst this
  exact hygref_Texts.calls (l.length + 1) A c l A' c' l' _ w hr hc hr' hc' h1
end Go.Proofs.YtklkiofhenhafaaDoor
