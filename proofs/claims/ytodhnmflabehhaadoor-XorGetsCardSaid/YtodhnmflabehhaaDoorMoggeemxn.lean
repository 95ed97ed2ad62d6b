import Derived.Test.YtodhnmflabehhaaDoorMfknojbzb
import Derived.Test.YtodhnmflabehhaaDoorMcnyatlcb
import Derived.Test.YtodhnmflabehhaaDoorMsvpcawkb
namespace Go.Proofs.YtodhnmflabehhaaDoor
open Go.RowKit Go.Proofs.YtodhnmflabehhaaDoorW.PrintWords Go.Proofs.YtodhnmflabehhaaDoorW.PrintLast Go.Proofs.YtodhnmflabehhaaDoorW.PrintMore Hy

theorem rxorGet_ok (s : ByteArray) (n : Nat) (l : List Int) (w : World) (hs : s.size ≤ 140737488351232) (hn : n ≤ 20000) (hx : u64i l) (h : ColX s n (nat l)) :
    Calls Tryd.prog 33 #[.string s, .int .i64 (n : Int)] w fun e w' => ∃ A c, e = .returned (.tuple #[.slice A l.length c, .bool true]) ∧ Kd.C (Kd.int .u64) w' A l.length l ∧ l.length ≤ c ∧ Below w.heap.size w w' := by
  refine (rxorGet_any s n w hs (by omega) (by omega)).mono ?_
  rintro e w' (⟨m, A, c, rfl, hm, hu, hC, hc, hb⟩ | ⟨hno, _⟩)
  · rw [Int.toNat_natCast] at hm
    obtain rfl : l = m := nat_inj (fun x hx' => (hx x hx').1) (fun x hx' => (hu x hx').1) (col_uniq h hm)
    exact ⟨A, c, rfl, hC, hc, hb⟩
  · rw [Int.toNat_natCast] at hno
    exact absurd h (hno _)
theorem rxorGet_no (s : ByteArray) (n : Nat) (w : World) (hs : s.size ≤ 140737488351232) (hn : n ≤ 20000) (h : ∀ m, ¬ ColX s n m) :
    Calls Tryd.prog 33 #[.string s, .int .i64 (n : Int)] w fun e w' => e = .returned (.tuple #[.slice none 0 0, .bool false]) ∧ Below w.heap.size w w' := by
  refine (rxorGet_any s n w hs (by omega) (by omega)).mono ?_
  rintro e w' (⟨m, A, c, rfl, hm, hu, hC, hc, hb⟩ | ⟨_, h1, h2⟩)
  · rw [Int.toNat_natCast] at hm
    exact absurd hm (h _)
  · exact ⟨h1, h2⟩
theorem same_below {w w' : World} (h : w' = w) : Below w.heap.size w w' := by rw [h]; exact Below.refl _ _
theorem code9 (w : World) (hg : Laid w) : Calls Tryd.prog 12 #[.iface 37 (.int .i64 9)] w fun e w' => e = .returned (.int .i64 9) ∧ Below w.heap.size w w' := code_any (.code 9) _ w hg rfl
theorem numsNil (A : Option Addr) (c : Nat) (w : World) : Calls Tryd.prog 31 #[.slice none 0 0, .slice A 0 c] w fun e w' => e = .returned (.bool true) ∧ Drawn0 w w' := by
  have := nums_any none 0 [] A c [] w (Kd.C_nil _ _) (by simp) (⟨rfl, by simp, fun h => absurd h (Nat.lt_irrefl 0)⟩) (by simp) (by simp)
  exact this
set_option maxHeartbeats 4000000 in
theorem xorGets_walk (s : ByteArray) (count : Int) (w : World) (hs : s.size ≤ 140737488351232) (_hm0 : -9223372036854775808 ≤ count) (_hm1 : count < 9223372036854775808) (hg : Laid w) :
    Calls Tryd.prog 7 #[.string s, .int .i64 count] w fun e w' => e = .returned (.bool true) ∧ Below w.heap.size w w' := by
  have HB := Aside0.mk (Below.refl w.heap.size w)
  have HG := Aside0.mk hg
  clear hg _hm0 _hm1
  by_cases hz : 4000 < s.size
  · go_enter Tryd.func7, Tryd.ntmps7
    go_wp2_with (first
      | (go_at_call 27; refine (xor_first _).mono ?_; rintro e wb ⟨rfl, hb⟩; have HBn : Aside0 (Below w.heap.size w wb) := ⟨below_next (by repeat (first | (with_reducible exact HB.out) | apply below_alloc | apply pw_below_drewN | apply below_drew1)) hb⟩; clear HB hb; have HB := HBn; clear HBn))
    go_ret
    exact ⟨rfl, (by repeat (first | (with_reducible exact HB.out) | apply below_alloc | apply pw_below_drewN | apply below_drew1))⟩
  · by_cases hr : count < 0 ∨ 20000 < count
    · have A1 := fun w => (xorGet_range s count w hr).mono (fun _ _ h => And.intro h.1 (same_below h.2))
      have A2 := fun w => (rxorGet_range s count w hr).mono (fun _ _ h => And.intro h.1 (same_below h.2))
      by_cases h0 : count < 0
      · clear hr
        go_enter Tryd.func7, Tryd.ntmps7
        go_wp2_with (first
          | (go_at_call 27; refine (xor_first _).mono ?_; rintro e wb ⟨rfl, hb⟩; have HBn : Aside0 (Below w.heap.size w wb) := ⟨below_next (by repeat (first | (with_reducible exact HB.out) | apply below_alloc | apply pw_below_drewN | apply below_drew1)) hb⟩; clear HB hb; have HB := HBn; clear HBn)
          | (go_at_call 32; refine (A1 _).mono ?_; rintro e wb ⟨rfl, hb⟩; have HBn : Aside0 (Below w.heap.size w wb) := ⟨below_next (by repeat (first | (with_reducible exact HB.out) | apply below_alloc | apply pw_below_drewN | apply below_drew1)) hb⟩; clear HB hb; have HB := HBn; clear HBn)
          | (go_at_call 33; refine (A2 _).mono ?_; rintro e wb ⟨rfl, hb⟩; have HBn : Aside0 (Below w.heap.size w wb) := ⟨below_next (by repeat (first | (with_reducible exact HB.out) | apply below_alloc | apply pw_below_drewN | apply below_drew1)) hb⟩; clear HB hb; have HB := HBn; clear HBn)
          | (go_at_call 31; refine (numsNil none 0 _).mono ?_; rintro e wd ⟨rfl, ⟨nd, rfl⟩⟩)
          | (go_at_call 12; refine (code9 _ (HG.out.below (by repeat (first | (with_reducible exact HB.out) | apply below_alloc | apply pw_below_drewN | apply below_drew1)))).mono ?_; rintro e wb ⟨rfl, hb⟩; have HBn : Aside0 (Below w.heap.size w wb) := ⟨below_next (by repeat (first | (with_reducible exact HB.out) | apply below_alloc | apply pw_below_drewN | apply below_drew1)) hb⟩; clear HB hb; have HB := HBn; clear HBn))
        go_ret
        exact ⟨rfl, (by repeat (first | (with_reducible exact HB.out) | apply below_alloc | apply pw_below_drewN | apply below_drew1))⟩
      · have h1 : 20000 < count := by omega
        have h2 : 0 ≤ count := by omega
        clear hr h0
        go_enter Tryd.func7, Tryd.ntmps7
        go_wp2_with (first
          | (go_at_call 27; refine (xor_first _).mono ?_; rintro e wb ⟨rfl, hb⟩; have HBn : Aside0 (Below w.heap.size w wb) := ⟨below_next (by repeat (first | (with_reducible exact HB.out) | apply below_alloc | apply pw_below_drewN | apply below_drew1)) hb⟩; clear HB hb; have HB := HBn; clear HBn)
          | (go_at_call 32; refine (A1 _).mono ?_; rintro e wb ⟨rfl, hb⟩; have HBn : Aside0 (Below w.heap.size w wb) := ⟨below_next (by repeat (first | (with_reducible exact HB.out) | apply below_alloc | apply pw_below_drewN | apply below_drew1)) hb⟩; clear HB hb; have HB := HBn; clear HBn)
          | (go_at_call 33; refine (A2 _).mono ?_; rintro e wb ⟨rfl, hb⟩; have HBn : Aside0 (Below w.heap.size w wb) := ⟨below_next (by repeat (first | (with_reducible exact HB.out) | apply below_alloc | apply pw_below_drewN | apply below_drew1)) hb⟩; clear HB hb; have HB := HBn; clear HBn)
          | (go_at_call 31; refine (numsNil none 0 _).mono ?_; rintro e wd ⟨rfl, ⟨nd, rfl⟩⟩)
          | (go_at_call 12; refine (code9 _ (HG.out.below (by repeat (first | (with_reducible exact HB.out) | apply below_alloc | apply pw_below_drewN | apply below_drew1)))).mono ?_; rintro e wb ⟨rfl, hb⟩; have HBn : Aside0 (Below w.heap.size w wb) := ⟨below_next (by repeat (first | (with_reducible exact HB.out) | apply below_alloc | apply pw_below_drewN | apply below_drew1)) hb⟩; clear HB hb; have HB := HBn; clear HBn))
        go_ret
        exact ⟨rfl, (by repeat (first | (with_reducible exact HB.out) | apply below_alloc | apply pw_below_drewN | apply below_drew1))⟩
    · obtain ⟨n, rfl⟩ := Int.eq_ofNat_of_zero_le (show 0 ≤ count by omega)
      have hn : n ≤ 20000 := by omega
      by_cases hok : ∃ l, ColX s n (nat l) ∧ u64i l
      · obtain ⟨l, hvs, hu⟩ := hok
        have hln : l.length = n := by have := hvs.1; rw [nat_length] at this; exact this
        have hl : l.length ≤ 20000 := by omega
        have A1 := fun w => xorGet_ok s (n : Int) l w hs (by omega) (by omega) hu (by rw [Int.toNat_natCast]; exact hvs)
        have A2 := fun w => rxorGet_ok s n l w hs hn hu hvs
        clear hvs hr hln
        go_enter Tryd.func7, Tryd.ntmps7
        go_wp2_with (first
          | (go_at_call 27; refine (xor_first _).mono ?_; rintro e wb ⟨rfl, hb⟩; have HBn : Aside0 (Below w.heap.size w wb) := ⟨below_next (by repeat (first | (with_reducible exact HB.out) | apply below_alloc | apply pw_below_drewN | apply below_drew1)) hb⟩; clear HB hb; have HB := HBn; clear HBn))
        refine (A1 _).mono ?_
        rintro e wb ⟨A, c, rfl, hC, hc, hb⟩
        have HBn : Aside0 (Below w.heap.size w wb) := ⟨below_next HB.out hb⟩
        have HC1 := Aside0.mk hC
        have HC2 := Aside0.mk hc
        clear HB hb hC hc
        have HB := HBn
        clear HBn
        go_wp2_with fail
        refine (A2 _).mono ?_
        rintro e wc ⟨A', c', rfl, hC, hc, hb⟩
        have HBn : Aside0 (Below w.heap.size w wc) := ⟨below_next HB.out hb⟩
        have HC3 := Aside0.mk (Kd.C_below HC1.out hb)
        have HC4 := Aside0.mk hC
        have HC5 := Aside0.mk hc
        clear HB hb hC hc HC1
        have HB := HBn
        clear HBn
        have HN := fun w' (h1 : Kd.C (Kd.int .u64) w' A l.length l) (h2 : Kd.C (Kd.int .u64) w' A' l.length l) => nums_any A c l A' c' l w' h1 HC2.out h2 HC5.out (by omega)
        rw [decide_eq_true rfl] at HN
        go_wp2_with (first
          | (go_at_call 27; refine (xor_first _).mono ?_; rintro e wb ⟨rfl, hb⟩; have HC6 := Aside0.mk (Kd.C_below HC3.out hb); have HC7 := Aside0.mk (Kd.C_below HC4.out hb); have HBn : Aside0 (Below w.heap.size w wb) := ⟨below_next (by repeat (first | (with_reducible exact HB.out) | apply below_alloc | apply pw_below_drewN | apply below_drew1)) hb⟩; clear HB hb; have HB := HBn; clear HBn)
          | (go_at_call 31; refine (HN _ HC6.out HC7.out).mono ?_; rintro e wd ⟨rfl, ⟨nd, rfl⟩⟩))
        go_ret
        exact ⟨rfl, (by repeat (first | (with_reducible exact HB.out) | apply below_alloc | apply pw_below_drewN | apply below_drew1))⟩
      · have hno : ∀ m, ¬ ColX s n m := fun m hm => hok ⟨m.map (fun x : Nat => (x : Int)), by
          have e : nat (m.map (fun x : Nat => (x : Int))) = m := by unfold nat; rw [List.map_map]; exact (List.map_congr_left (fun x _ => Int.toNat_natCast x)).trans (List.map_id _)
          refine ⟨by rw [e]; exact hm, ?_⟩
          intro y hy
          obtain ⟨x, hx, rfl⟩ := List.mem_map.1 hy
          have := hm.2.1 x hx
          omega⟩
        have A1 := fun w => xorGet_no s (n : Int) w hs (by omega) (by omega) (by rw [Int.toNat_natCast]; exact hno)
        have A2 := fun w => rxorGet_no s n w hs hn hno
        clear hok hr hno
        go_enter Tryd.func7, Tryd.ntmps7
        go_wp2_with (first
          | (go_at_call 27; refine (xor_first _).mono ?_; rintro e wb ⟨rfl, hb⟩; have HBn : Aside0 (Below w.heap.size w wb) := ⟨below_next (by repeat (first | (with_reducible exact HB.out) | apply below_alloc | apply pw_below_drewN | apply below_drew1)) hb⟩; clear HB hb; have HB := HBn; clear HBn))
        refine (A1 _).mono ?_
        rintro e wb ⟨uT, ux, rfl, hb⟩
        have HBn : Aside0 (Below w.heap.size w wb) := ⟨below_next HB.out hb⟩
        clear HB hb
        have HB := HBn
        clear HBn
        go_wp2_with (first
          | (go_at_call 33; refine (A2 _).mono ?_; rintro e wb ⟨rfl, hb⟩; have HBn : Aside0 (Below w.heap.size w wb) := ⟨below_next (by repeat (first | (with_reducible exact HB.out) | apply below_alloc | apply pw_below_drewN | apply below_drew1)) hb⟩; clear HB hb; have HB := HBn; clear HBn)
          | (go_at_call 27; refine (xor_first _).mono ?_; rintro e wb ⟨rfl, hb⟩; have HBn : Aside0 (Below w.heap.size w wb) := ⟨below_next (by repeat (first | (with_reducible exact HB.out) | apply below_alloc | apply pw_below_drewN | apply below_drew1)) hb⟩; clear HB hb; have HB := HBn; clear HBn)
          | (go_at_call 31; refine (numsNil none 0 _).mono ?_; rintro e wd ⟨rfl, ⟨nd, rfl⟩⟩))
        go_ret
        exact ⟨rfl, (by repeat (first | (with_reducible exact HB.out) | apply below_alloc | apply pw_below_drewN | apply below_drew1))⟩
end Go.Proofs.YtodhnmflabehhaaDoor
