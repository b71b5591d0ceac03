/- TermOnce's walk: whatever the four numbers, the law's text returns true and changes nothing that was there. Condition: the table ('Tab'). -/
import Derived.Test.YtkjebkdecakceaaDoorBase
namespace Go.Proofs.YtkjebkdecakceaaDoor
open Go.RowKit
set_option maxHeartbeats 800000 in
theorem once (t u a b : Nat) (ht : t < 8) (hu : u < 8) (ha : a < 8) (hb : b < 8) (hab : a ≤ b) {w : World} {PA : Nat → Addr} {cp : Nat → Nat} (T : Tab w PA cp) :
    Calls Tryd.prog 3 #[.int .i64 t, .int .i64 u, .int .i64 a, .int .i64 b] w fun e w' => e = .returned (.bool true) ∧ Below w.heap.size w w' := by
  have c1 := risk_bd t
  have c2 := cost_le t u
  have s1 := sb1
  have s2 := sb2
  have s3 := sb3
  have s4 := sb4
  have hB := Below.refl w.heap.size w
  have hB := Below.refl w.heap.size w
  rcases sd_cases a (tCost t) with ⟨h1, e1⟩ | ⟨h1, e1⟩ <;> rcases sd_cases b (tCost t) with ⟨h2, e2⟩ | ⟨h2, e2⟩ <;> (try (exfalso; omega)) <;>
  rcases sd_cases a (tRisk t) with ⟨h3, e3⟩ | ⟨h3, e3⟩ <;> (try (exfalso; omega)) <;> rcases sd_cases b (tRisk t) with ⟨h4, e4⟩ | ⟨h4, e4⟩ <;> (try (exfalso; omega)) <;>
  by_cases h0 : (u : Int) < (t : Int) <;> rcases sd_cases a (tCost u) with ⟨h5, e5⟩ | ⟨h5, e5⟩ <;> (try (exfalso; omega)) <;>
  · go_enter Tryd.func3, Tryd.ntmps3
    go_wp2_with (first | (go_at_call 9; refine (awake_any T _ (by assumption)).mono ?_; rintro e w' ⟨rfl, hb⟩) | (go_at_call 10; refine (is_yes _ _ (by omega) (by omega)).mono ?_; rintro e w' ⟨rfl, rfl⟩) | (go_at_call 11; refine (pays_any T _ (by assumption) _ (by assumption) _ (by omega) (by omega)).mono ?_; rintro e w' ⟨rfl, hb⟩) | (go_at_call 12; refine (risk_any T _ (by assumption) _ (by assumption) _ (by omega) (by omega)).mono ?_; rintro e w' ⟨rfl, hb⟩))
    go_ret
    exact ⟨rfl, by assumption⟩

set_option maxHeartbeats 800000 in
theorem once_out (t u a b : Int) (h : (t < 0 ∨ 7 < t) ∨ (u < 0 ∨ 7 < u) ∨ (a < 0 ∨ 7 < a) ∨ (b < 0 ∨ 7 < b) ∨ b < a) {w : World} {PA : Nat → Addr} {cp : Nat → Nat} (T : Tab w PA cp) :
    Calls Tryd.prog 3 #[.int .i64 t, .int .i64 u, .int .i64 a, .int .i64 b] w fun e w' => e = .returned (.bool true) ∧ Below w.heap.size w w' := by
  have hB := Below.refl w.heap.size w
  rcases Classical.em (t < 0 ∨ 7 < t) with g | g
  · go_enter Tryd.func3, Tryd.ntmps3
    go_wp2_with (first | (go_at_call 9; refine (awake_any T _ (by assumption)).mono ?_; rintro e w' ⟨rfl, hb⟩) | (go_at_call 10; refine (is_no _ _ g).mono ?_; rintro e w' ⟨rfl, rfl⟩))
    go_ret
    exact ⟨rfl, by assumption⟩
  have t0 : 0 ≤ t := by omega
  have t7 : t ≤ 7 := by omega
  rcases Classical.em (u < 0 ∨ 7 < u) with g2 | g2
  · clear h g
    go_enter Tryd.func3, Tryd.ntmps3
    go_wp2_with (first | (go_at_call 9; refine (awake_any T _ (by assumption)).mono ?_; rintro e w' ⟨rfl, hb⟩) | (go_at_call_of 10 t; refine (is_yes _ _ t0 t7).mono ?_; rintro e w' ⟨rfl, rfl⟩) | (go_at_call 10; refine (is_no _ _ g2).mono ?_; rintro e w' ⟨rfl, rfl⟩))
    go_ret
    exact ⟨rfl, by assumption⟩
  have u0 : 0 ≤ u := by omega
  have u7 : u ≤ 7 := by omega
  rcases Classical.em (a < 0 ∨ 7 < a) with g3 | g3
  · clear h g g2
    go_enter Tryd.func3, Tryd.ntmps3
    go_wp2_with (first | (go_at_call 9; refine (awake_any T _ (by assumption)).mono ?_; rintro e w' ⟨rfl, hb⟩) | (go_at_call_of 10 t; refine (is_yes _ _ t0 t7).mono ?_; rintro e w' ⟨rfl, rfl⟩) | (go_at_call_of 10 u; refine (is_yes _ _ u0 u7).mono ?_; rintro e w' ⟨rfl, rfl⟩) | (go_at_call 10; refine (is_no _ _ g3).mono ?_; rintro e w' ⟨rfl, rfl⟩))
    go_ret
    exact ⟨rfl, by assumption⟩
  have a0 : 0 ≤ a := by omega
  have a7 : a ≤ 7 := by omega
  rcases Classical.em (b < 0 ∨ 7 < b) with g4 | g4
  · clear h g g2 g3
    go_enter Tryd.func3, Tryd.ntmps3
    go_wp2_with (first | (go_at_call 9; refine (awake_any T _ (by assumption)).mono ?_; rintro e w' ⟨rfl, hb⟩) | (go_at_call_of 10 t; refine (is_yes _ _ t0 t7).mono ?_; rintro e w' ⟨rfl, rfl⟩) | (go_at_call_of 10 u; refine (is_yes _ _ u0 u7).mono ?_; rintro e w' ⟨rfl, rfl⟩) | (go_at_call_of 10 a; refine (is_yes _ _ a0 a7).mono ?_; rintro e w' ⟨rfl, rfl⟩) | (go_at_call 10; refine (is_no _ _ g4).mono ?_; rintro e w' ⟨rfl, rfl⟩))
    go_ret
    exact ⟨rfl, by assumption⟩
  have b0 : 0 ≤ b := by omega
  have b7 : b ≤ 7 := by omega
  have hba : b < a := by omega
  clear h g g2 g3 g4
  go_enter Tryd.func3, Tryd.ntmps3
  go_wp2_with (first | (go_at_call 9; refine (awake_any T _ (by assumption)).mono ?_; rintro e w' ⟨rfl, hb⟩) | (go_at_call 10; refine (is_yes _ _ (by assumption) (by assumption)).mono ?_; rintro e w' ⟨rfl, rfl⟩))
  go_ret
  exact ⟨rfl, by assumption⟩

theorem once_any (t u a b : Int) {w : World} {PA : Nat → Addr} {cp : Nat → Nat} (T : Tab w PA cp) :
    Calls Tryd.prog 3 #[.int .i64 t, .int .i64 u, .int .i64 a, .int .i64 b] w fun e w' => e = .returned (.bool true) ∧ Below w.heap.size w w' := by
  by_cases h : (t < 0 ∨ 7 < t) ∨ (u < 0 ∨ 7 < u) ∨ (a < 0 ∨ 7 < a) ∨ (b < 0 ∨ 7 < b) ∨ b < a
  · exact once_out t u a b h T
  · obtain ⟨t', rfl⟩ := Int.eq_ofNat_of_zero_le (show 0 ≤ t by omega)
    obtain ⟨u', rfl⟩ := Int.eq_ofNat_of_zero_le (show 0 ≤ u by omega)
    obtain ⟨a', rfl⟩ := Int.eq_ofNat_of_zero_le (show 0 ≤ a by omega)
    obtain ⟨b', rfl⟩ := Int.eq_ofNat_of_zero_le (show 0 ≤ b by omega)
    exact once t' u' a' b' (by omega) (by omega) (by omega) (by omega) (by omega) T
end Go.Proofs.YtkjebkdecakceaaDoor
