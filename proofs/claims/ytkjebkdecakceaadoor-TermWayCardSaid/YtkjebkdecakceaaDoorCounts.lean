/- TermCounts's walk: whatever the number, the law's text returns true and changes nothing that was there. Condition: the table ('Tab'). -/
import Derived.Test.YtkjebkdecakceaaDoorBase
namespace Go.Proofs.YtkjebkdecakceaaDoor
open Go.RowKit

set_option maxHeartbeats 400000 in
theorem pays_none (t s : Int) (w : World) (h : t < 0 ∨ 8 ≤ t) {W : World} (hW : Below W.heap.size W w) :
    Calls Tryd.prog 11 #[.int .i64 t, .int .i64 s] w fun e w' => e = .returned (.string ⟨#[]⟩) ∧ Below W.heap.size W w' := by
  go_enter Tryd.func11, Tryd.ntmps11
  go_wp2_with (first | (go_at_call 13; refine (passes_out t h w).mono ?_; rintro e w' ⟨rfl, hb⟩) | (go_at_call 26; refine (side_none t s _ w' h).mono ?_; rintro e w2 ⟨rfl, hb2⟩))
  go_ret
  exact ⟨rfl, below_trans (below_trans hW hb) hb2⟩
set_option maxHeartbeats 400000 in
theorem risk_none (t s : Int) (w : World) (h : t < 0 ∨ 8 ≤ t) {W : World} (hW : Below W.heap.size W w) :
    Calls Tryd.prog 12 #[.int .i64 t, .int .i64 s] w fun e w' => e = .returned (.string ⟨#[]⟩) ∧ Below W.heap.size W w' := by
  go_enter Tryd.func12, Tryd.ntmps12
  go_wp2_with (first | (go_at_call 13; refine (passes_out t h w).mono ?_; rintro e w' ⟨rfl, hb⟩) | (go_at_call 26; refine (side_none t s _ w' h).mono ?_; rintro e w2 ⟨rfl, hb2⟩))
  go_ret
  exact ⟨rfl, below_trans (below_trans hW hb) hb2⟩

theorem val_num {k : IntKind} {a b : Int} (h : a = b) : Value.int k a = Value.int k b := by rw [h]
theorem mini {a c : Int} (h : a < c) : min a c = a := by omega
set_option maxHeartbeats 800000 in
theorem counts_in (t : Nat) (ht : t < 8) {w : World} {PA : Nat → Addr} {cp : Nat → Nat} (T : Tab w PA cp) :
    Calls Tryd.prog 4 #[.int .i64 t] w fun e w' => e = .returned (.bool true) ∧ Below w.heap.size w w' := by
  have hB := Below.refl w.heap.size w
  have c1 := risk_bd t
  have c2 := cost_bd t
  have s1 := sb1
  have s3 := sb3
  go_enter Tryd.func4, Tryd.ntmps4
  go_wp2_with (first | (go_at_call 9; refine (awake_any T _ (by assumption)).mono ?_; rintro e w' ⟨rfl, hb⟩) | (go_at_call 13; refine (passes_in t ht _ (tb T _ (by assumption))).mono ?_; rintro e w' ⟨rfl, hb⟩; have hbb := below_trans (by assumption) hb))
  go_loopw [5, 6, 7] (fun p b i wr => ∃ k : Nat, k ≤ 8 ∧ i = .int .i64 k ∧ p = .int .i64 (min (k : Int) (tCost t)) ∧ b = .int .i64 (min (k : Int) (tRisk t)) ∧ Below w.heap.size w wr) (fun _ _ i _ => 8 - (intOf i).toNat)
  case atStart => exact ⟨0, by omega, rfl, by rw [mini (by omega)]; rfl, by rw [mini (by omega)]; rfl, hbb⟩
  case round =>
    obtain ⟨k, hk, rfl, rfl, rfl, hbr⟩ := hrel
    by_cases hlt : k < 8
    · rcases sd_cases k (tCost t) with ⟨h1, e1⟩ | ⟨h1, e1⟩ <;> rcases sd_cases k (tRisk t) with ⟨h2, e2⟩ | ⟨h2, e2⟩ <;> (try (exfalso; omega)) <;>
      · go_wp2_with (first | (go_at_call 11; refine (pays_any T _ (by assumption) _ (by assumption) _ (by omega) (by omega)).mono ?_; rintro e w' ⟨rfl, hb⟩) | (go_at_call 12; refine (risk_any T _ (by assumption) _ (by assumption) _ (by omega) (by omega)).mono ?_; rintro e w' ⟨rfl, hb⟩))
        go_roundw
        case rel => exact ⟨k + 1, by omega, by go_num, val_num (by omega), val_num (by omega), by assumption⟩
        case measure => simp [intOf]; omega
    · obtain rfl : k = 8 := by omega
      have m1 : min ((8 : Nat) : Int) (tCost t) = tCost t := by omega
      have m2 : min ((8 : Nat) : Int) (tRisk t) = tRisk t := by omega
      rw [m1, m2]
      have g1 : (tCost t == tCost t) = true := by simp
      go_wp2
      go_ret
      exact ⟨by simp, by assumption⟩

set_option maxHeartbeats 800000 in
theorem counts_out (t : Int) (ht : t < 0 ∨ 8 ≤ t) {w : World} {PA : Nat → Addr} {cp : Nat → Nat} (T : Tab w PA cp) :
    Calls Tryd.prog 4 #[.int .i64 t] w fun e w' => e = .returned (.bool true) ∧ Below w.heap.size w w' := by
  have hB := Below.refl w.heap.size w
  go_enter Tryd.func4, Tryd.ntmps4
  go_wp2_with (first | (go_at_call 9; refine (awake_any T _ (by assumption)).mono ?_; rintro e w' ⟨rfl, hb⟩) | (go_at_call 13; refine (passes_out t ht _).mono ?_; rintro e w' ⟨rfl, hb⟩; have hbb := below_trans (by assumption) hb))
  go_loopw [5, 6, 7] (fun p b i wr => ∃ k : Nat, k ≤ 8 ∧ i = .int .i64 k ∧ p = .int .i64 0 ∧ b = .int .i64 0 ∧ Below w.heap.size w wr) (fun _ _ i _ => 8 - (intOf i).toNat)
  case atStart => exact ⟨0, by omega, rfl, rfl, rfl, hbb⟩
  case round =>
    obtain ⟨k, hk, rfl, rfl, rfl, hbr⟩ := hrel
    by_cases hlt : k < 8
    · go_wp2_with (first | (go_at_call 11; refine (pays_none _ _ _ ht (by assumption)).mono ?_; rintro e w' ⟨rfl, hb⟩) | (go_at_call 12; refine (risk_none _ _ _ ht (by assumption)).mono ?_; rintro e w' ⟨rfl, hb⟩))
      go_roundw
      case rel => exact ⟨k + 1, by omega, by go_num, rfl, rfl, by assumption⟩
      case measure => simp [intOf]; omega
    · obtain rfl : k = 8 := by omega
      go_wp2
      go_ret
      exact ⟨rfl, by assumption⟩

theorem counts_any (t : Int) {w : World} {PA : Nat → Addr} {cp : Nat → Nat} (T : Tab w PA cp) :
    Calls Tryd.prog 4 #[.int .i64 t] w fun e w' => e = .returned (.bool true) ∧ Below w.heap.size w w' := by
  by_cases h : t < 0 ∨ 8 ≤ t
  · exact counts_out t h T
  · obtain ⟨t', rfl⟩ := Int.eq_ofNat_of_zero_le (show 0 ≤ t by omega)
    exact counts_in t' (by omega) T
end Go.Proofs.YtkjebkdecakceaaDoor
