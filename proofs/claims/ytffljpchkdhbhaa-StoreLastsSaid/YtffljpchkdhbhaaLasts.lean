/- StoreLasts's walk. Condition: how the slices lie. -/
import Derived.Test.YtffljpchkdhbhaaUp
namespace Go.Proofs.Ytffljpchkdhbhaa
open Go.RowKit

set_option maxRecDepth 100000 in
set_option maxHeartbeats 4000000 in
theorem lasts_main (n c : Nat) (A : Option Addr) (ls : List ByteArray) (p d : Nat) (D : Option Addr) (ats : List Int) (keep again : Int) (hn : n ≤ 60) (hp : p ≤ 60) (hln : ls.length = n) (hlp : ats.length = p) (w : World)
    (hr : Reads w w.heap.size 1 A n (ls.map Value.string)) (hs : Reads w w.heap.size 1 D p (ats.map (Value.int .i64))) :
    Calls Try.prog 3 #[.slice A n c, .slice D p d, .int .i64 keep, .int .i64 again] w fun e w' => e = .returned (.bool true) ∧ Below w.heap.size w w' := by
  have q1 : (n : Int) ≤ 60 := by omega
  have q2 : (p : Int) ≤ 60 := by omega
  go_enter Try.func3, Try.ntmps3
  go_wp2_with (first | (go_at_call 10; refine (awake_any w _ (Below.refl _ _)).mono ?_; rintro e w1 ⟨rfl, hb⟩) | (go_at_call 11; refine (up_new hb).mono ?_; rintro e w2 ⟨rfl, h2⟩))
  go_loopw [10, 11, 12] (fun la i _ wr => ∃ (k : Nat) (L : Int), k ≤ n ∧ la = .int .i64 L ∧ i = .int .i64 k ∧ Up w wr w1.heap.size (ls.take k) L) (fun _ i _ _ => n - (intOf i).toNat)
  case atStart => exact ⟨0, 0, by omega, rfl, rfl, h2⟩
  case round =>
    obtain ⟨k, L, hk, rfl, rfl, hU⟩ := hrel
    clear h2
    by_cases hlt : k < n
    · obtain ⟨a, u, rfl, hbk, hu, hc⟩ := hr.at_ hlt
      simp only [List.getElem?_map, Option.map_eq_some_iff] at hu
      obtain ⟨s, hs', rfl⟩ := hu
      have hc' := (hU.bel.cell (by rw [block_of_add]; exact hbk)).trans hc
      have Tk := Lib.hid (take_next hs')
      have Ln : Hid ((ls.take k).length = k) := by show (ls.take k).length = k; rw [List.length_take]; omega
      have Ln' : Hid (((ls.take (k + 1)).length : Int) = (k : Int) + 1) := by show ((ls.take (k + 1)).length : Int) = (k : Int) + 1; rw [List.length_take]; omega
      have Wk : IntKind.i64.wrap ((k : Int) + 1) = (k : Int) + 1 := IntWalk.i64_in _ (by omega)
      clear hs' hc
      by_cases hsz : s.size ≤ 200
      · have qs : (s.size : Int) ≤ 200 := by omega
        go_wp2_with fail
        refine (up_write hU _ (by omega) (by have := Ln.out; omega)).mono ?_
        rintro e w4 ⟨rfl, hx⟩
        rw [← Tk.out] at hx
        go_wp2_with fail
        go_loopw [10, 12] (fun la i v => ∃ (j : Nat) (L : Int), j ≤ p ∧ la = .int .i64 L ∧ i = .int .i64 j ∧ Up w v w1.heap.size (ls.take (k + 1)) L) (fun _ i _ => p - (intOf i).toNat)
        case atStart => exact ⟨0, L, by omega, rfl, rfl, hx⟩
        case round =>
          obtain ⟨j, L2, hj, rfl, rfl, hV⟩ := hrel
          clear hx
          by_cases hlj : j < p
          · obtain ⟨b, u, rfl, hbj, hu, hd⟩ := hs.at_ hlj
            simp only [List.getElem?_map, Option.map_eq_some_iff] at hu
            obtain ⟨z, hz', rfl⟩ := hu
            have hd' := (hV.bel.cell (by rw [block_of_add]; exact hbj)).trans hd
            clear hz' hd
            by_cases hz : z = k
            · subst hz
              have qz : ((k : Int) == (k : Int)) = true := by simp
              go_wp2_with fail
              refine (up_sync hV).mono ?_
              rintro e w5 ⟨rfl, hy⟩
              rw [Ln'.out] at hy
              go_wp2_with fail
              go_roundw
              case rel => exact ⟨j + 1, _, by omega, by go_num, by go_num, hy⟩
              case measure => simp [intOf]; omega
            · have qz : (z == (k : Int)) = false := by simpa using hz
              go_wp2_with fail
              go_roundw
              case rel => exact ⟨j + 1, _, by omega, rfl, by go_num, hV⟩
              case measure => simp [intOf]; omega
          · obtain rfl : j = p := by omega
            go_wp2_with fail
            go_roundw
            case rel => exact ⟨k + 1, _, by omega, rfl, by go_num, hV⟩
            case measure => simp [intOf]; omega
      · have qs : (200 : Int) < (s.size : Int) := by omega
        go_wp2_with fail
        go_ret
        exact ⟨rfl, hU.bel⟩
    · obtain rfl : k = n := by omega
      rw [List.take_of_length_le (by omega)] at hU
      obtain ⟨o1, o2, _⟩ := hU.ok
      obtain ⟨K, hK⟩ : ∃ K : Nat, (K : Int) = L + min (max keep 0) ((ls.length : Int) - L) := ⟨(L + min (max keep 0) ((ls.length : Int) - L)).toNat, by omega⟩
      have hK1 : K ≤ k := by omega
      have Cn := Lib.hid hK
      have Ln : Hid (((ls.take K).length : Int) = K) := by show ((ls.take K).length : Int) = K; rw [List.length_take]; omega
      have Cn2 : Hid ((K : Int) = (K : Int) + min (max again 0) (((ls.take K).length : Int) - K)) := by show (K : Int) = (K : Int) + min (max again 0) (((ls.take K).length : Int) - K); rw [Ln.out]; omega
      have Ws : IntKind.i64.wrap ((k : Int) - L) = (k : Int) - L := IntWalk.i64_in _ (by omega)
      have qL : (L == L) = true := by simp
      have qK : ((K : Int) == (K : Int)) = true := by simp
      rcases (show (keep < 0) ∨ (0 ≤ keep ∧ keep ≤ (k : Int) - L) ∨ (0 ≤ keep ∧ (k : Int) - L < keep) by omega) with h | ⟨h, h'⟩ | ⟨h, h'⟩
      · have W2 : IntKind.i64.wrap L = (K : Int) := by rw [show L = (K : Int) by omega]; exact IntWalk.i64_in _ (by omega)
        have W3 : L = (K : Int) := by omega
        have h0 : 0 ≤ (k : Int) - L := by omega
        clear hK hln
        go_wp2_with fail
        refine (up_lasting hU).mono ?_
        rintro e w5 ⟨rfl, rfl⟩
        go_wp2_with fail
        refine (up_crash hU keep K Cn.out).mono ?_
        rintro e w6 ⟨rfl, hy⟩
        go_wp2_with fail
        refine (up_len hy Ln.out).mono ?_
        rintro e w7 ⟨rfl, rfl⟩
        go_wp2_with fail
        refine (up_lasting hy).mono ?_
        rintro e w7 ⟨rfl, rfl⟩
        go_wp2_with fail
        refine (up_crash hy again K Cn2.out).mono ?_
        rintro e w7 ⟨rfl, hz⟩
        rw [List.take_take, Nat.min_self] at hz
        go_wp2_with fail
        go_loopw [14, 15, 16] (fun i _ _ v => ∃ (j : Nat), j ≤ K ∧ i = .int .i64 j ∧ v = w7) (fun i _ _ _ => K - (intOf i).toNat)
        case atStart => exact ⟨0, by omega, rfl, rfl⟩
        case round =>
          obtain ⟨j, hj, rfl, rfl⟩ := hrel
          by_cases hlj : j < K
          · obtain ⟨a, u, rfl, hbk, hu, hc⟩ := hr.at_ (show j < k by omega)
            simp only [List.getElem?_map, Option.map_eq_some_iff] at hu
            obtain ⟨s, hs', rfl⟩ := hu
            have hc' := (hz.bel.cell (by rw [block_of_add]; exact hbk)).trans hc
            have Gt : Hid ((ls.take K)[j]? = some s) := by show (ls.take K)[j]? = some s; rw [List.getElem?_take_of_lt hlj]; exact hs'
            have ss := str_same s
            have hjk : j < k := by omega
            clear hs' hc
            go_wp2_with (go_at_call 17; refine (up_read hz Gt.out).mono ?_; rintro e w8 ⟨rfl, rfl⟩)
            go_roundw
            case rel => exact ⟨j + 1, by omega, by go_num, trivial⟩
            case measure => simp [intOf]; omega
          · obtain rfl : j = K := by omega
            have Pt : Hid ((ls.take j).length ≤ j) := by show (ls.take j).length ≤ j; rw [List.length_take]; omega
            go_wp2_with fail
            refine (up_past hz Pt.out).mono ?_
            rintro e w9 ⟨rfl, rfl⟩
            go_wp2_with fail
            refine (up_len hz Ln.out).mono ?_
            rintro e w9 ⟨rfl, rfl⟩
            go_wp2
            go_ret
            exact ⟨rfl, hz.bel⟩
      · have W2 : IntKind.i64.wrap (L + keep) = (K : Int) := by rw [show L + keep = (K : Int) by omega]; exact IntWalk.i64_in _ (by omega)
        have W3 : L + keep = (K : Int) := by omega
        clear hK hln
        go_wp2_with fail
        refine (up_lasting hU).mono ?_
        rintro e w5 ⟨rfl, rfl⟩
        go_wp2_with fail
        refine (up_crash hU keep K Cn.out).mono ?_
        rintro e w6 ⟨rfl, hy⟩
        go_wp2_with fail
        refine (up_len hy Ln.out).mono ?_
        rintro e w7 ⟨rfl, rfl⟩
        go_wp2_with fail
        refine (up_lasting hy).mono ?_
        rintro e w7 ⟨rfl, rfl⟩
        go_wp2_with fail
        refine (up_crash hy again K Cn2.out).mono ?_
        rintro e w7 ⟨rfl, hz⟩
        rw [List.take_take, Nat.min_self] at hz
        go_wp2_with fail
        go_loopw [14, 15, 16] (fun i _ _ v => ∃ (j : Nat), j ≤ K ∧ i = .int .i64 j ∧ v = w7) (fun i _ _ _ => K - (intOf i).toNat)
        case atStart => exact ⟨0, by omega, rfl, rfl⟩
        case round =>
          obtain ⟨j, hj, rfl, rfl⟩ := hrel
          by_cases hlj : j < K
          · obtain ⟨a, u, rfl, hbk, hu, hc⟩ := hr.at_ (show j < k by omega)
            simp only [List.getElem?_map, Option.map_eq_some_iff] at hu
            obtain ⟨s, hs', rfl⟩ := hu
            have hc' := (hz.bel.cell (by rw [block_of_add]; exact hbk)).trans hc
            have Gt : Hid ((ls.take K)[j]? = some s) := by show (ls.take K)[j]? = some s; rw [List.getElem?_take_of_lt hlj]; exact hs'
            have ss := str_same s
            have hjk : j < k := by omega
            clear hs' hc
            go_wp2_with (go_at_call 17; refine (up_read hz Gt.out).mono ?_; rintro e w8 ⟨rfl, rfl⟩)
            go_roundw
            case rel => exact ⟨j + 1, by omega, by go_num, trivial⟩
            case measure => simp [intOf]; omega
          · obtain rfl : j = K := by omega
            have Pt : Hid ((ls.take j).length ≤ j) := by show (ls.take j).length ≤ j; rw [List.length_take]; omega
            go_wp2_with fail
            refine (up_past hz Pt.out).mono ?_
            rintro e w9 ⟨rfl, rfl⟩
            go_wp2_with fail
            refine (up_len hz Ln.out).mono ?_
            rintro e w9 ⟨rfl, rfl⟩
            go_wp2
            go_ret
            exact ⟨rfl, hz.bel⟩
      · have W2 : IntKind.i64.wrap (L + ((k : Int) - L)) = (K : Int) := by rw [show L + ((k : Int) - L) = (K : Int) by omega]; exact IntWalk.i64_in _ (by omega)
        have W3 : L + ((k : Int) - L) = (K : Int) := by omega
        clear hK hln
        go_wp2_with fail
        refine (up_lasting hU).mono ?_
        rintro e w5 ⟨rfl, rfl⟩
        go_wp2_with fail
        refine (up_crash hU keep K Cn.out).mono ?_
        rintro e w6 ⟨rfl, hy⟩
        go_wp2_with fail
        refine (up_len hy Ln.out).mono ?_
        rintro e w7 ⟨rfl, rfl⟩
        go_wp2_with fail
        refine (up_lasting hy).mono ?_
        rintro e w7 ⟨rfl, rfl⟩
        go_wp2_with fail
        refine (up_crash hy again K Cn2.out).mono ?_
        rintro e w7 ⟨rfl, hz⟩
        rw [List.take_take, Nat.min_self] at hz
        go_wp2_with fail
        go_loopw [14, 15, 16] (fun i _ _ v => ∃ (j : Nat), j ≤ K ∧ i = .int .i64 j ∧ v = w7) (fun i _ _ _ => K - (intOf i).toNat)
        case atStart => exact ⟨0, by omega, rfl, rfl⟩
        case round =>
          obtain ⟨j, hj, rfl, rfl⟩ := hrel
          by_cases hlj : j < K
          · obtain ⟨a, u, rfl, hbk, hu, hc⟩ := hr.at_ (show j < k by omega)
            simp only [List.getElem?_map, Option.map_eq_some_iff] at hu
            obtain ⟨s, hs', rfl⟩ := hu
            have hc' := (hz.bel.cell (by rw [block_of_add]; exact hbk)).trans hc
            have Gt : Hid ((ls.take K)[j]? = some s) := by show (ls.take K)[j]? = some s; rw [List.getElem?_take_of_lt hlj]; exact hs'
            have ss := str_same s
            have hjk : j < k := by omega
            clear hs' hc
            go_wp2_with (go_at_call 17; refine (up_read hz Gt.out).mono ?_; rintro e w8 ⟨rfl, rfl⟩)
            go_roundw
            case rel => exact ⟨j + 1, by omega, by go_num, trivial⟩
            case measure => simp [intOf]; omega
          · obtain rfl : j = K := by omega
            have Pt : Hid ((ls.take j).length ≤ j) := by show (ls.take j).length ≤ j; rw [List.length_take]; omega
            go_wp2_with fail
            refine (up_past hz Pt.out).mono ?_
            rintro e w9 ⟨rfl, rfl⟩
            go_wp2_with fail
            refine (up_len hz Ln.out).mono ?_
            rintro e w9 ⟨rfl, rfl⟩
            go_wp2
            go_ret
            exact ⟨rfl, hz.bel⟩

set_option maxHeartbeats 400000 in
theorem lasts_long (n c p d : Nat) (A D : Option Addr) (keep again : Int) (h : 60 < n ∨ 60 < p) (w : World) :
    Calls Try.prog 3 #[.slice A n c, .slice D p d, .int .i64 keep, .int .i64 again] w fun e w' => e = .returned (.bool true) ∧ Below w.heap.size w w' := by
  by_cases hn : 60 < n
  · have q : (60 : Int) < (n : Int) := by omega
    go_enter Try.func3, Try.ntmps3
    go_wp2_with (go_at_call 10; refine (awake_any w _ (Below.refl _ _)).mono ?_; rintro e w1 ⟨rfl, hb⟩)
    go_ret
    exact ⟨rfl, hb⟩
  · have q : (n : Int) ≤ 60 := by omega
    have q2 : (60 : Int) < (p : Int) := by omega
    go_enter Try.func3, Try.ntmps3
    go_wp2_with (go_at_call 10; refine (awake_any w _ (Below.refl _ _)).mono ?_; rintro e w1 ⟨rfl, hb⟩)
    go_ret
    exact ⟨rfl, hb⟩
theorem lasts_any (n c : Nat) (A : Option Addr) (ls : List ByteArray) (hln : ls.length = n) (p d : Nat) (D : Option Addr) (ats : List Int) (hlp : ats.length = p) (keep again : Int) (w : World)
    (hr : Reads w w.heap.size 1 A n (ls.map Value.string)) (hs : Reads w w.heap.size 1 D p (ats.map (Value.int .i64))) :
    Calls Try.prog 3 #[.slice A n c, .slice D p d, .int .i64 keep, .int .i64 again] w fun e w' => e = .returned (.bool true) ∧ Below w.heap.size w w' := by
  by_cases h : n ≤ 60 ∧ p ≤ 60
  · exact lasts_main n c A ls p d D ats keep again h.1 h.2 hln hlp w hr hs
  · exact lasts_long n c p d A D keep again (by omega) w
end Go.Proofs.Ytffljpchkdhbhaa
