/- StoreReads's walk. Condition: how the two slices of strings lie. -/
import Derived.Test.YtffljpchkdhbhaaUp
namespace Go.Proofs.Ytffljpchkdhbhaa
open Go.RowKit

set_option maxRecDepth 100000 in
set_option maxHeartbeats 4000000 in
theorem reads_main (n c : Nat) (A : Option Addr) (ls : List ByteArray) (m d : Nat) (D : Option Addr) (ms : List ByteArray) (hn : n ≤ 40) (hm : m ≤ 40) (hln : ls.length = n) (hlm : ms.length = m) (w : World)
    (hr : Reads w w.heap.size 1 A n (ls.map Value.string)) (hs : Reads w w.heap.size 1 D m (ms.map Value.string)) :
    Calls Try.prog 5 #[.slice A n c, .slice D m d] w fun e w' => e = .returned (.bool true) ∧ Below w.heap.size w w' := by
  have q1 : (n : Int) ≤ 40 := by omega
  have q2 : (m : Int) ≤ 40 := by omega
  have W1 : IntKind.i64.wrap ((n : Int) + m) = (n : Int) + m := IntWalk.i64_in _ (by omega)
  have W2 : IntKind.i64.wrap ((n : Int) - 1) = (n : Int) - 1 := IntWalk.i64_in _ (by omega)
  go_enter Try.func5, Try.ntmps5
  go_wp2_with (first | (go_at_call 10; refine (awake_any w _ (Below.refl _ _)).mono ?_; rintro e w1 ⟨rfl, hb⟩) | (go_at_call 11; refine (up_new hb).mono ?_; rintro e w2 ⟨rfl, h2⟩))
  go_loopw [6, 7] (fun i _ wr => ∃ (k : Nat), k ≤ n + m ∧ i = .int .i64 k ∧ Up w wr w1.heap.size ((ls ++ ms).take k) (if k < n then 0 else n)) (fun i _ _ => n + m - (intOf i).toNat)
  case atStart =>
    refine ⟨0, by omega, rfl, ?_⟩
    have : (if 0 < n then (0 : Int) else (n : Int)) = 0 := by split <;> omega
    rw [this]
    exact h2
  case round =>
    obtain ⟨k, hk, rfl, hU⟩ := hrel
    clear h2
    by_cases hlt : k < n
    · obtain ⟨a, u, rfl, hbk, hu, hc⟩ := hr.at_ hlt
      simp only [List.getElem?_map, Option.map_eq_some_iff] at hu
      obtain ⟨s, hs', rfl⟩ := hu
      have hc' := (hU.bel.cell (by rw [block_of_add]; exact hbk)).trans hc
      have Tk := Lib.hid (take_next (l := ls ++ ms) (k := k) (s := s) (by rw [List.getElem?_append_left (by omega)]; exact hs'))
      have Ln : Hid (((ls ++ ms).take k).length = k) := by show ((ls ++ ms).take k).length = k; rw [List.length_take, List.length_append]; omega
      have Ln' : Hid ((((ls ++ ms).take (k + 1)).length : Int) = (k : Int) + 1) := by show (((ls ++ ms).take (k + 1)).length : Int) = (k : Int) + 1; rw [List.length_take, List.length_append]; omega
      have qa : (k : Int) < (n : Int) + m := by omega
      have qb : (k : Int) < n := by omega
      have Wk : IntKind.i64.wrap ((k : Int) + 1) = (k : Int) + 1 := IntWalk.i64_in _ (by omega)
      rw [if_pos hlt] at hU
      clear hs' hc
      by_cases hsz : s.size ≤ 300
      · have qs : (s.size : Int) ≤ 300 := by omega
        by_cases hke : k + 1 = n
        · have qe : ((k : Int) == (n : Int) - 1) = true := by simp; omega
          have Kn : Hid (k + 1 = n) := hke
          clear hke
          go_wp2_with fail
          refine (up_write hU _ (by omega) (by have := Ln.out; omega)).mono ?_
          rintro e w4 ⟨rfl, hx⟩
          rw [← Tk.out] at hx
          go_wp2_with fail
          refine (up_len hx Ln'.out).mono ?_
          rintro e w5 ⟨rfl, rfl⟩
          go_wp2_with fail
          refine (up_sync hx).mono ?_
          rintro e w5 ⟨rfl, hy⟩
          go_wp2_with fail
          refine (up_sync hy).mono ?_
          rintro e w6 ⟨rfl, hz⟩
          rw [Ln'.out] at hz
          go_wp2_with fail
          go_roundw
          case rel =>
            refine ⟨k + 1, by omega, by go_num, ?_⟩
            rw [if_neg (by have := Kn.out; omega), ← Kn.out]
            exact hz
          case measure => simp [intOf]; omega
        · have qe : ((k : Int) == (n : Int) - 1) = false := by simp; omega
          have Kn : Hid (k + 1 ≠ n) := hke
          clear hke
          go_wp2_with fail
          refine (up_write hU _ (by omega) (by have := Ln.out; omega)).mono ?_
          rintro e w4 ⟨rfl, hx⟩
          rw [← Tk.out] at hx
          go_wp2_with fail
          refine (up_len hx Ln'.out).mono ?_
          rintro e w5 ⟨rfl, rfl⟩
          go_wp2_with fail
          go_roundw
          case rel =>
            refine ⟨k + 1, by omega, by go_num, ?_⟩
            rw [if_pos (by have := Kn.out; omega)]
            exact hx
          case measure => simp [intOf]; omega
      · have qs : (300 : Int) < (s.size : Int) := by omega
        go_wp2_with fail
        go_ret
        exact ⟨rfl, hU.bel⟩
    · by_cases hlt2 : k < n + m
      · obtain ⟨a, u, rfl, hbk, hu, hc⟩ := hs.at_ (show k - n < m by omega)
        simp only [List.getElem?_map, Option.map_eq_some_iff] at hu
        obtain ⟨s, hs', rfl⟩ := hu
        have hc' := (hU.bel.cell (by rw [block_of_add]; exact hbk)).trans hc
        have Tk := Lib.hid (take_next (l := ls ++ ms) (k := k) (s := s) (by rw [List.getElem?_append_right (by omega), hln]; exact hs'))
        have Ln : Hid (((ls ++ ms).take k).length = k) := by show ((ls ++ ms).take k).length = k; rw [List.length_take, List.length_append]; omega
        have Ln' : Hid ((((ls ++ ms).take (k + 1)).length : Int) = (k : Int) + 1) := by show (((ls ++ ms).take (k + 1)).length : Int) = (k : Int) + 1; rw [List.length_take, List.length_append]; omega
        have qa : (k : Int) < (n : Int) + m := by omega
        have qb : (n : Int) ≤ k := by omega
        have qb' : n ≤ k := by omega
        have Wk : IntKind.i64.wrap ((k : Int) + 1) = (k : Int) + 1 := IntWalk.i64_in _ (by omega)
        have Wd : IntKind.i64.wrap ((k : Int) - n) = ((k - n : Nat) : Int) := by rw [show (k : Int) - n = ((k - n : Nat) : Int) by omega]; exact IntWalk.i64_in _ (by omega)
        have ql : k - n < m := by omega
        have qe : ((k : Int) == (n : Int) - 1) = false := by simp; omega
        rw [if_neg hlt] at hU
        clear hs' hc hlt
        by_cases hsz : s.size ≤ 300
        · have qs : (s.size : Int) ≤ 300 := by omega
          go_wp2_with fail
          refine (up_write hU _ (by omega) (by have := Ln.out; omega)).mono ?_
          rintro e w4 ⟨rfl, hx⟩
          rw [← Tk.out] at hx
          go_wp2_with fail
          refine (up_len hx Ln'.out).mono ?_
          rintro e w5 ⟨rfl, rfl⟩
          go_wp2_with fail
          go_roundw
          case rel =>
            refine ⟨k + 1, by omega, by go_num, ?_⟩
            rw [if_neg (by omega)]
            exact hx
          case measure => simp [intOf]; omega
        · have qs : (300 : Int) < (s.size : Int) := by omega
          go_wp2_with fail
          go_ret
          exact ⟨rfl, hU.bel⟩
      · obtain rfl : k = n + m := by omega
        have qa : ¬ (((n + m : Nat) : Int) < (n : Int) + m) := by omega
        have qa' : ¬ ((n : Int) + m < (n : Int) + m) := by omega
        rw [if_neg (by omega), List.take_of_length_le (by rw [List.length_append]; omega)] at hU
        have Cn : Hid ((n : Int) = (n : Int) + min (max 0 0) (((ls ++ ms).length : Int) - n)) := by show (n : Int) = (n : Int) + min (max 0 0) (((ls ++ ms).length : Int) - n); rw [List.length_append]; omega
        have Ln : Hid ((((ls ++ ms).take n).length : Int) = n) := by show (((ls ++ ms).take n).length : Int) = n; rw [List.length_take, List.length_append]; omega
        have qq : ((n : Int) == (n : Int)) = true := by simp
        go_wp2_with fail
        go_loopw [8, 9, 10] (fun i _ _ v => ∃ (k : Nat), k ≤ n ∧ i = .int .i64 k ∧ v = wr) (fun i _ _ _ => n - (intOf i).toNat)
        case atStart => exact ⟨0, by omega, rfl, rfl⟩
        case round =>
          obtain ⟨k, hk, rfl, rfl⟩ := hrel
          by_cases hlt : k < n
          · obtain ⟨a, u, rfl, hbk, hu, hc⟩ := hr.at_ hlt
            simp only [List.getElem?_map, Option.map_eq_some_iff] at hu
            obtain ⟨s, hs', rfl⟩ := hu
            have hc' := (hU.bel.cell (by rw [block_of_add]; exact hbk)).trans hc
            have Gt : Hid ((ls ++ ms)[k]? = some s) := by show (ls ++ ms)[k]? = some s; rw [List.getElem?_append_left (by omega)]; exact hs'
            have ss := str_same s
            clear hs' hc
            go_wp2_with (go_at_call 17; refine (up_read hU Gt.out).mono ?_; rintro e w4 ⟨rfl, rfl⟩)
            go_roundw
            case rel => exact ⟨k + 1, by omega, by go_num, trivial⟩
            case measure => simp [intOf]; omega
          · obtain rfl : k = n := by omega
            go_wp2_with fail
            refine (up_lasting hU).mono ?_
            rintro e w5 ⟨rfl, rfl⟩
            go_wp2_with fail
            refine (up_crash hU 0 k Cn.out).mono ?_
            rintro e w6 ⟨rfl, hz⟩
            go_wp2_with fail
            refine (up_len hz Ln.out).mono ?_
            rintro e w7 ⟨rfl, rfl⟩
            go_wp2
            go_ret
            exact ⟨rfl, hz.bel⟩

set_option maxHeartbeats 400000 in
theorem reads_long (n c m d : Nat) (A D : Option Addr) (h : 40 < n ∨ 40 < m) (w : World) :
    Calls Try.prog 5 #[.slice A n c, .slice D m d] w fun e w' => e = .returned (.bool true) ∧ Below w.heap.size w w' := by
  by_cases hn : 40 < n
  · have q : (40 : Int) < (n : Int) := by omega
    go_enter Try.func5, Try.ntmps5
    go_wp2_with (go_at_call 10; refine (awake_any w _ (Below.refl _ _)).mono ?_; rintro e w1 ⟨rfl, hb⟩)
    go_ret
    exact ⟨rfl, hb⟩
  · have q : (n : Int) ≤ 40 := by omega
    have q2 : (40 : Int) < (m : Int) := by omega
    go_enter Try.func5, Try.ntmps5
    go_wp2_with (go_at_call 10; refine (awake_any w _ (Below.refl _ _)).mono ?_; rintro e w1 ⟨rfl, hb⟩)
    go_ret
    exact ⟨rfl, hb⟩
theorem reads_any (n c : Nat) (A : Option Addr) (ls : List ByteArray) (hln : ls.length = n) (m d : Nat) (D : Option Addr) (ms : List ByteArray) (hlm : ms.length = m) (w : World)
    (hr : Reads w w.heap.size 1 A n (ls.map Value.string)) (hs : Reads w w.heap.size 1 D m (ms.map Value.string)) :
    Calls Try.prog 5 #[.slice A n c, .slice D m d] w fun e w' => e = .returned (.bool true) ∧ Below w.heap.size w w' := by
  by_cases h : n ≤ 40 ∧ m ≤ 40
  · exact reads_main n c A ls m d D ms h.1 h.2 hln hlm w hr hs
  · exact reads_long n c m d A D (by omega) w
end Go.Proofs.Ytffljpchkdhbhaa
