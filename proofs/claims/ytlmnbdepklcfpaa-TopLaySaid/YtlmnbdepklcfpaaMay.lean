/- The walks of May, and of the checks. Condition: how the stretches lie. -/
import Derived.Test.YtlmnbdepklcfpaaStrs
namespace Go.Proofs.Ytlmnbdepklcfpaa
open Go.RowKit
set_option linter.unusedVariables false

def withinB (n m : Int) : Bool := decide (0 ≤ n ∧ n ≤ m)
theorem within_yes {n m : Int} (h : 0 ≤ n ∧ n ≤ m) : withinB n m = true := by unfold withinB; simpa using h
theorem within_no {n m : Int} (h : ¬ (0 ≤ n ∧ n ≤ m)) : withinB n m = false := by unfold withinB; simpa using h
theorem within_any (n m : Int) (w : World) : Calls Try.prog 28 #[.int .i64 n, .int .i64 m] w fun e w' => e = .returned (.bool (withinB n m)) ∧ w = w' := by
  by_cases h0 : 0 ≤ n
  · by_cases h1 : n ≤ m
    · rw [within_yes ⟨h0, h1⟩]
      go_enter Try.func28, Try.ntmps28
      go_wp2
      go_ret
      exact ⟨rfl, rfl⟩
    · rw [within_no (by omega)]
      have h1' : m < n := by omega
      go_enter Try.func28, Try.ntmps28
      go_wp2
      go_ret
      exact ⟨rfl, rfl⟩
  · rw [within_no (by omega)]
    have h0' : n < 0 := by omega
    go_enter Try.func28, Try.ntmps28
    go_wp2
    go_ret
    exact ⟨rfl, rfl⟩
/-- may a lay be? -/
def mayB (a b c : Int) : Bool := withinB a 1048576 && withinB b 1099511627776 && withinB c 1099511627776
theorem mayB_yes {a b c : Int} (h : mayB a b c = true) : 0 ≤ a ∧ a ≤ 1048576 ∧ 0 ≤ b ∧ b ≤ 1099511627776 ∧ 0 ≤ c ∧ c ≤ 1099511627776 := by
  unfold mayB withinB at h
  simp at h
  omega
theorem mayB_mk {a b c : Int} (h : 0 ≤ a ∧ a ≤ 1048576 ∧ 0 ≤ b ∧ b ≤ 1099511627776 ∧ 0 ≤ c ∧ c ≤ 1099511627776) : mayB a b c = true := by
  unfold mayB withinB
  simp
  omega
def layV (a b c : Int) : Value := .agg #[.int .i64 a, .int .i64 b, .int .i64 c]
set_option maxHeartbeats 1000000 in
theorem may_any (a b c : Int) (w : World) : Calls Try.prog 14 #[layV a b c] w fun e w' => e = .returned (.bool (mayB a b c)) ∧ Below w.heap.size w w' := by
  have hb : Below w.heap.size w (w.alloc (.cells #[.int .i64 a, .int .i64 b, .int .i64 c] 23)) := (Below.refl _ _).alloc (Nat.le_refl _) _
  unfold layV mayB
  generalize hx : withinB a 1048576 = x
  generalize hy : withinB b 1099511627776 = y
  generalize hz : withinB c 1099511627776 = z
  have HX := Lib.hid hx
  have HY := Lib.hid hy
  have HZ := Lib.hid hz
  clear hx hy hz
  cases x
  · go_enter Try.func14, Try.ntmps14
    go_wp2_with fail
    refine (within_any _ _ _).mono ?_
    rintro e w' ⟨rfl, rfl⟩
    rw [HX.out]
    go_wp2_with fail
    go_ret
    exact ⟨rfl, hb⟩
  · cases y
    · go_enter Try.func14, Try.ntmps14
      go_wp2_with fail
      refine (within_any _ _ _).mono ?_
      rintro e w' ⟨rfl, rfl⟩
      rw [HX.out]
      go_wp2_with fail
      refine (within_any _ _ _).mono ?_
      rintro e w' ⟨rfl, rfl⟩
      rw [HY.out]
      go_wp2_with fail
      go_ret
      exact ⟨rfl, hb⟩
    · go_enter Try.func14, Try.ntmps14
      go_wp2_with fail
      refine (within_any _ _ _).mono ?_
      rintro e w' ⟨rfl, rfl⟩
      rw [HX.out]
      go_wp2_with fail
      refine (within_any _ _ _).mono ?_
      rintro e w' ⟨rfl, rfl⟩
      rw [HY.out]
      go_wp2_with fail
      refine (within_any _ _ _).mono ?_
      rintro e w' ⟨rfl, rfl⟩
      rw [HZ.out]
      go_wp2_with fail
      go_ret
      exact ⟨rfl, hb⟩
set_option maxHeartbeats 1000000 in
theorem rmay_any (a b c : Int) (w : World) : Calls Try.prog 15 #[layV a b c] w fun e w' => e = .returned (.bool (mayB a b c)) ∧ Below w.heap.size w w' := by
  have hb : Below w.heap.size w (w.alloc (.cells #[.int .i64 a, .int .i64 b, .int .i64 c] 23)) := (Below.refl _ _).alloc (Nat.le_refl _) _
  obtain ⟨m, hm⟩ : ∃ m, m = mayB a b c := ⟨_, rfl⟩
  have hm2 : m = (decide (0 ≤ a) && decide (a ≤ 1048576) && decide (0 ≤ b) && decide (b ≤ 1099511627776) && decide (0 ≤ c) && decide (c ≤ 1099511627776)) := by
    rw [hm]
    unfold mayB withinB
    simp [Bool.and_assoc, Bool.decide_and]
  have HM := Lib.hid hm2
  rw [← hm]
  clear hm hm2
  unfold layV
  by_cases h1 : 0 ≤ a
  · by_cases h2 : a ≤ 1048576
    · by_cases h3 : 0 ≤ b
      · by_cases h4 : b ≤ 1099511627776
        · by_cases h5 : 0 ≤ c
          · by_cases h6 : c ≤ 1099511627776
            · go_enter Try.func15, Try.ntmps15
              go_wp2
              go_ret
              exact ⟨by rw [HM.out]; simp [h1, h2, h3, h4, h5, h6], hb⟩
            · have h6' : 1099511627776 < c := by omega
              go_enter Try.func15, Try.ntmps15
              go_wp2
              go_ret
              exact ⟨by rw [HM.out]; simp; omega, hb⟩
          · have h5' : c < 0 := by omega
            go_enter Try.func15, Try.ntmps15
            go_wp2
            go_ret
            exact ⟨by rw [HM.out]; simp; omega, hb⟩
        · have h4' : 1099511627776 < b := by omega
          go_enter Try.func15, Try.ntmps15
          go_wp2
          go_ret
          exact ⟨by rw [HM.out]; simp; omega, hb⟩
      · have h3' : b < 0 := by omega
        go_enter Try.func15, Try.ntmps15
        go_wp2
        go_ret
        exact ⟨by rw [HM.out]; simp; omega, hb⟩
    · have h2' : 1048576 < a := by omega
      go_enter Try.func15, Try.ntmps15
      go_wp2
      go_ret
      exact ⟨by rw [HM.out]; simp; omega, hb⟩
  · have h1' : a < 0 := by omega
    go_enter Try.func15, Try.ntmps15
    go_wp2
    go_ret
    exact ⟨by rw [HM.out]; simp; omega, hb⟩
end Go.Proofs.Ytlmnbdepklcfpaa
