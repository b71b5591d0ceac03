/- TermPays's walk: whatever the two numbers, the law's text returns true and changes nothing that was there. Condition: the table ('Tab'). -/
import Derived.Test.YtkjebkdecakceaaDoorNeeds
namespace Go.Proofs.YtkjebkdecakceaaDoor
open Go.RowKit

section
variable {W : World} {PA : Nat → Addr} {cp : Nat → Nat} (T : Tab W PA cp) (w : World) (hW : Below W.heap.size W w)
include T hW
set_option maxHeartbeats 400000 in
theorem pays_off (t : Nat) (ht : t < 8) (s : Int) (h : s < 0 ∨ 7 < s) :
    Calls Tryd.prog 11 #[.int .i64 t, .int .i64 s] w fun e w' => e = .returned (.string ⟨#[]⟩) ∧ Below W.heap.size W w' := by
  have T1 := tb T w hW
  go_enter Tryd.func11, Tryd.ntmps11
  go_wp2_with (first | (go_at_call 13; refine (passes_in t ht w T1).mono ?_; rintro e w' ⟨rfl, hb⟩) | (go_at_call 26; refine (side_off t ht s _ w' (T1.below hb) h).mono ?_; rintro e w2 ⟨rfl, hb2⟩))
  go_ret
  exact ⟨rfl, below_trans (below_trans hW hb) hb2⟩
set_option maxHeartbeats 400000 in
theorem risk_off (t : Nat) (ht : t < 8) (s : Int) (h : s < 0 ∨ 7 < s) :
    Calls Tryd.prog 12 #[.int .i64 t, .int .i64 s] w fun e w' => e = .returned (.string ⟨#[]⟩) ∧ Below W.heap.size W w' := by
  have T1 := tb T w hW
  go_enter Tryd.func12, Tryd.ntmps12
  go_wp2_with (first | (go_at_call 13; refine (passes_in t ht w T1).mono ?_; rintro e w' ⟨rfl, hb⟩) | (go_at_call 26; refine (side_off t ht s _ w' (T1.below hb) h).mono ?_; rintro e w2 ⟨rfl, hb2⟩))
  go_ret
  exact ⟨rfl, below_trans (below_trans hW hb) hb2⟩
end

set_option maxHeartbeats 800000 in
theorem paysLaw_out (t s : Int) (h : t < 0 ∨ 8 ≤ t) {w : World} {PA : Nat → Addr} {cp : Nat → Nat} (T : Tab w PA cp) :
    Calls Tryd.prog 5 #[.int .i64 t, .int .i64 s] w fun e w' => e = .returned (.bool true) ∧ Below w.heap.size w w' := by
  have hB := Below.refl w.heap.size w
  go_enter Tryd.func5, Tryd.ntmps5
  go_wp2_with (first | (go_at_call 9; refine (awake_any T _ (by assumption)).mono ?_; rintro e w' ⟨rfl, hb⟩) | (go_at_call 13; refine (passes_out t h _).mono ?_; rintro e w' ⟨rfl, hb⟩; have hbb := below_trans (by assumption) hb; clear hb) | (go_at_call 10; refine (is_no _ _ (by omega)).mono ?_; rintro e w' ⟨rfl, rfl⟩) | (go_at_call 14; refine (needs_out t h _).mono ?_; rintro e w' ⟨rfl, hb⟩; have hbb := below_trans (by assumption) hb; clear hb) | (go_at_call 11; refine (pays_none _ _ _ h (by assumption)).mono ?_; rintro e w' ⟨rfl, hb⟩) | (go_at_call 12; refine (risk_none _ _ _ h (by assumption)).mono ?_; rintro e w' ⟨rfl, hb⟩))
  go_ret
  exact ⟨rfl, by assumption⟩

set_option maxHeartbeats 800000 in
theorem paysLaw_in (t : Nat) (ht : t < 8) (s : Int) {w : World} {PA : Nat → Addr} {cp : Nat → Nat} (T : Tab w PA cp) :
    Calls Tryd.prog 5 #[.int .i64 t, .int .i64 s] w fun e w' => e = .returned (.bool true) ∧ Below w.heap.size w w' := by
  have hB := Below.refl w.heap.size w
  have hl := (papers_len t).1
  have s1 := sb1
  have s2 := sb2
  have s3 := sb3
  have s4 := sb4
  have q1 : (tCost t != tCost t) = false := by simp
  have q2 : (tRisk t != tRisk t) = false := by simp
  by_cases hs : s < 0 ∨ 7 < s
  · go_enter Tryd.func5, Tryd.ntmps5
    go_wp2_with (first | (go_at_call 9; refine (awake_any T _ (by assumption)).mono ?_; rintro e w' ⟨rfl, hb⟩) | (go_at_call 13; refine (passes_in t ht _ (tb T _ (by assumption))).mono ?_; rintro e w' ⟨rfl, hb⟩; have hbb := below_trans (by assumption) hb; clear hb) | (go_at_call_of 10 t; refine (is_yes _ _ (by omega) (by omega)).mono ?_; rintro e w' ⟨rfl, rfl⟩) | (go_at_call_of 10 s; refine (is_no _ _ hs).mono ?_; rintro e w' ⟨rfl, rfl⟩) | (go_at_call 15; refine (refcost t ht _).mono ?_; rintro e w' ⟨rfl, hb⟩; have hbb := below_trans (by assumption) hb; clear hb) | (go_at_call 16; refine (refrisk t ht _).mono ?_; rintro e w' ⟨rfl, hb⟩; have hbb := below_trans (by assumption) hb; clear hb) | (go_at_call 14; refine (needs_in t ht _ (tb T _ (by assumption))).mono ?_; rintro e wA ⟨A1, c1, rfl, hr1, hb⟩; have hbb := below_trans (by assumption) hb; clear hb) | (go_at_call 18; refine (refneeds t ht _).mono ?_; rintro e wB ⟨A2, c2, rfl, hr2, hb⟩; have hbb2 := below_trans (by assumption) hb; have hr1' := (hr1.below hb).more hb.size; clear hb hr1) | (go_at_call 17; refine (same_yes _ _ _ _ _ (tPapers t) _ hr1' hr2 (by omega)).mono ?_; rintro e w' ⟨rfl, hb⟩; have hbb3 := below_trans (by assumption) hb; clear hb) | (go_at_call 11; refine (pays_off T _ (by assumption) t ht _ hs).mono ?_; rintro e w' ⟨rfl, hb⟩) | (go_at_call 12; refine (risk_off T _ (by assumption) t ht _ hs).mono ?_; rintro e w' ⟨rfl, hb⟩))
    go_ret
    exact ⟨rfl, by assumption⟩
  · have h0 : 0 ≤ s := by omega
    have h7 : s ≤ 7 := by omega
    clear hs
    rcases sd_cases s (tCost t) with ⟨h1, e1⟩ | ⟨h1, e1⟩ <;> rcases sd_cases s (tRisk t) with ⟨h2, e2⟩ | ⟨h2, e2⟩ <;>
    · go_enter Tryd.func5, Tryd.ntmps5
      go_wp2_with (first | (go_at_call 9; refine (awake_any T _ (by assumption)).mono ?_; rintro e w' ⟨rfl, hb⟩) | (go_at_call 13; refine (passes_in t ht _ (tb T _ (by assumption))).mono ?_; rintro e w' ⟨rfl, hb⟩; have hbb := below_trans (by assumption) hb; clear hb) | (go_at_call 10; refine (is_yes _ _ (by omega) (by omega)).mono ?_; rintro e w' ⟨rfl, rfl⟩) | (go_at_call 15; refine (refcost t ht _).mono ?_; rintro e w' ⟨rfl, hb⟩; have hbb := below_trans (by assumption) hb; clear hb) | (go_at_call 16; refine (refrisk t ht _).mono ?_; rintro e w' ⟨rfl, hb⟩; have hbb := below_trans (by assumption) hb; clear hb) | (go_at_call 14; refine (needs_in t ht _ (tb T _ (by assumption))).mono ?_; rintro e wA ⟨A1, c1, rfl, hr1, hb⟩; have hbb := below_trans (by assumption) hb; clear hb) | (go_at_call 18; refine (refneeds t ht _).mono ?_; rintro e wB ⟨A2, c2, rfl, hr2, hb⟩; have hbb2 := below_trans (by assumption) hb; have hr1' := (hr1.below hb).more hb.size; clear hb hr1) | (go_at_call 17; refine (same_yes _ _ _ _ _ (tPapers t) _ hr1' hr2 (by omega)).mono ?_; rintro e w' ⟨rfl, hb⟩; have hbb3 := below_trans (by assumption) hb; clear hb) | (go_at_call 11; refine (pays_any T _ (by assumption) t ht _ h0 h7).mono ?_; rintro e w' ⟨rfl, hb⟩) | (go_at_call 12; refine (risk_any T _ (by assumption) t ht _ h0 h7).mono ?_; rintro e w' ⟨rfl, hb⟩))
      go_ret
      exact ⟨rfl, by assumption⟩
theorem paysLaw_any (t s : Int) {w : World} {PA : Nat → Addr} {cp : Nat → Nat} (T : Tab w PA cp) :
    Calls Tryd.prog 5 #[.int .i64 t, .int .i64 s] w fun e w' => e = .returned (.bool true) ∧ Below w.heap.size w w' := by
  by_cases h : t < 0 ∨ 8 ≤ t
  · exact paysLaw_out t s h T
  · obtain ⟨t', rfl⟩ := Int.eq_ofNat_of_zero_le (show 0 ≤ t by omega)
    exact paysLaw_in t' (by omega) s T
end Go.Proofs.YtkjebkdecakceaaDoor
