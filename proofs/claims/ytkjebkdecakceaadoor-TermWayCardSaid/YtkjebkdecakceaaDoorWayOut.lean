/- TermWay's walk where the law asks nothing: it returns true at once. Condition: the table ('Tab'). -/
import Derived.Test.YtkjebkdecakceaaDoorWayPlain
namespace Go.Proofs.YtkjebkdecakceaaDoor
open Go.RowKit

set_option maxRecDepth 100000 in
set_option maxHeartbeats 1000000 in
theorem way_out (t : Int) (n1 c1 n2 c2 : Nat) (A1 A2 : Option Addr) (sel buy : ByteArray) (D E : Int) (hm1 : n1 ≤ maxLen)
    (h : (t < 0 ∨ 7 < t) ∨ 20 < n1 ∨ n2 ≠ n1 + 2 ∨ sel = buy ∨ 100 < sel.size ∨ 100 < buy.size ∨ E < D)
    {w : World} {PA : Nat → Addr} {cp : Nat → Nat} (T : Tab w PA cp) :
    Calls Tryd.prog 8 #[.int .i64 t, .slice A1 n1 c1, .slice A2 n2 c2, .string sel, .string buy, .int .i64 D, .int .i64 E] w fun e w' => e = .returned (.bool true) ∧ Below w.heap.size w w' := by
  unfold maxLen at hm1
  have hB := Below.refl w.heap.size w
  by_cases g1 : t < 0 ∨ 7 < t
  · clear h
    go_enter Tryd.func8, Tryd.ntmps8
    go_wp2_with (first | (go_at_call 9; refine (awake_any T _ (by assumption)).mono ?_; rintro e w1 ⟨rfl, hb⟩) | (go_at_call 10; refine (is_no _ _ g1).mono ?_; rintro e w' ⟨rfl, rfl⟩))
    go_ret
    exact ⟨rfl, by assumption⟩
  have t0 : 0 ≤ t := by omega
  have t7 : t ≤ 7 := by omega
  by_cases g2 : 20 < n1
  · clear h g1
    have q : (20 : Int) < (n1 : Int) := by omega
    go_enter Tryd.func8, Tryd.ntmps8
    go_wp2_with (first | (go_at_call 9; refine (awake_any T _ (by assumption)).mono ?_; rintro e w1 ⟨rfl, hb⟩) | (go_at_call 10; refine (is_yes _ _ t0 t7).mono ?_; rintro e w' ⟨rfl, rfl⟩))
    go_ret
    exact ⟨rfl, by assumption⟩
  have q2 : (n1 : Int) ≤ 20 := by omega
  have d2 : decide ((20 : Int) < (n1 : Int)) = false := by simp; omega
  have d2' : decide (20 < n1) = false := by simp; omega
  by_cases g3 : n2 ≠ n1 + 2
  · clear h g1 g2
    have q3 : ((n2 : Int) != (n1 : Int) + 2) = true := by rw [bne_iff_ne]; omega
    go_enter Tryd.func8, Tryd.ntmps8
    go_wp2_with (first | (go_at_call 9; refine (awake_any T _ (by assumption)).mono ?_; rintro e w1 ⟨rfl, hb⟩) | (go_at_call 10; refine (is_yes _ _ t0 t7).mono ?_; rintro e w' ⟨rfl, rfl⟩))
    go_ret
    exact ⟨rfl, by assumption⟩
  have q3 : ((n2 : Int) != (n1 : Int) + 2) = false := by rw [bne_eq_false_iff_eq]; omega
  by_cases g4 : sel = buy
  · subst g4
    have q4 := str_same sel
    clear h g1 g2 g3
    go_enter Tryd.func8, Tryd.ntmps8
    go_wp2_with (first | (go_at_call 9; refine (awake_any T _ (by assumption)).mono ?_; rintro e w1 ⟨rfl, hb⟩) | (go_at_call 10; refine (is_yes _ _ t0 t7).mono ?_; rintro e w' ⟨rfl, rfl⟩))
    go_ret
    exact ⟨rfl, by assumption⟩
  have q4 := str_ne g4
  by_cases g5 : 100 < sel.size
  · have q5 : (100 : Int) < (sel.size : Int) := by omega
    clear h g1 g2 g3 g4
    go_enter Tryd.func8, Tryd.ntmps8
    go_wp2_with (first | (go_at_call 9; refine (awake_any T _ (by assumption)).mono ?_; rintro e w1 ⟨rfl, hb⟩) | (go_at_call 10; refine (is_yes _ _ t0 t7).mono ?_; rintro e w' ⟨rfl, rfl⟩))
    go_ret
    exact ⟨rfl, by assumption⟩
  have q5 : (sel.size : Int) ≤ 100 := by omega
  have d5 : decide (100 < sel.size) = false := by simp; omega
  by_cases g6 : 100 < buy.size
  · have q6 : (100 : Int) < (buy.size : Int) := by omega
    clear h g1 g2 g3 g4 g5
    go_enter Tryd.func8, Tryd.ntmps8
    go_wp2_with (first | (go_at_call 9; refine (awake_any T _ (by assumption)).mono ?_; rintro e w1 ⟨rfl, hb⟩) | (go_at_call 10; refine (is_yes _ _ t0 t7).mono ?_; rintro e w' ⟨rfl, rfl⟩))
    go_ret
    exact ⟨rfl, by assumption⟩
  have q6 : (buy.size : Int) ≤ 100 := by omega
  have d6 : decide (100 < buy.size) = false := by simp; omega
  have q7 : E < D := by
    rcases h with h | h | h | h | h | h | h
    · exact absurd h g1
    · exact absurd h g2
    · exact absurd h g3
    · exact absurd h g4
    · exact absurd h g5
    · exact absurd h g6
    · exact h
  clear h g1 g2 g3 g4 g5 g6
  go_enter Tryd.func8, Tryd.ntmps8
  go_wp2_with (first | (go_at_call 9; refine (awake_any T _ (by assumption)).mono ?_; rintro e w1 ⟨rfl, hb⟩) | (go_at_call 10; refine (is_yes _ _ t0 t7).mono ?_; rintro e w' ⟨rfl, rfl⟩))
  go_ret
  exact ⟨rfl, by assumption⟩
end Go.Proofs.YtkjebkdecakceaaDoor
