/- Long division by two digits, plainly. No program. No condition. -/
namespace Go.Proofs.Ytlmgkkdjjoimnaa
set_option linter.unusedVariables false

/-- a divisor of two digits, what is left, the next digit -/
structure DV (a b U d Y : Int) : Prop where
  hY : Y = a * 4294967296 + b
  ha : 2147483648 ≤ a
  hb0 : 0 ≤ b
  hb1 : b < 4294967296
  hU0 : 0 ≤ U
  hU : U < Y
  hd0 : 0 ≤ d
  hd1 : d < 4294967296
section
variable {a b U d Y : Int} (H : DV a b U d Y)
include H
theorem dq_pos : 0 < Y := by
  obtain ⟨hY, ha, hb0, hb1, hU0, hU, hd0, hd1⟩ := id H
  omega
theorem dq_bd : 0 ≤ (U * 4294967296 + d) / Y ∧ (U * 4294967296 + d) / Y < 4294967296 := by
  obtain ⟨hY, ha, hb0, hb1, hU0, hU, hd0, hd1⟩ := id H
  refine ⟨Int.ediv_nonneg (by omega) (by omega), Int.ediv_lt_of_lt_mul (by omega) ?_⟩
  omega
theorem dq_mul (q : Int) : q * Y = q * a * 4294967296 + q * b := by
  obtain ⟨hY, ha, hb0, hb1, hU0, hU, hd0, hd1⟩ := id H
  rw [hY, Int.mul_add, Int.mul_assoc]
/-- too great a guess is seen -/
theorem dq_big {q r : Int} (hqr : q * a + r = U) (h : 4294967296 ≤ q ∨ 4294967296 * r + d < q * b) : (U * 4294967296 + d) / Y < q := by
  obtain ⟨hY, ha, hb0, hb1, hU0, hU, hd0, hd1⟩ := id H
  rcases h with h | h
  · have := dq_bd H
    omega
  · refine Int.ediv_lt_of_lt_mul (by omega) ?_
    rw [dq_mul H q]
    omega
/-- a guess that passes is right -/
theorem dq_ok {q r : Int} (hqr : q * a + r = U) (hge : (U * 4294967296 + d) / Y ≤ q) (h : q * b ≤ 4294967296 * r + d) : q = (U * 4294967296 + d) / Y := by
  obtain ⟨hY, ha, hb0, hb1, hU0, hU, hd0, hd1⟩ := id H
  have : q ≤ (U * 4294967296 + d) / Y := by
    refine Int.le_ediv_of_mul_le (by omega) ?_
    rw [dq_mul H q]
    omega
  omega
theorem mul_le_small {q : Int} (h0 : 0 ≤ q) (h1 : q ≤ 4294967296) : q * b ≤ 4294967296 * 4294967295 := by
  obtain ⟨hY, ha, hb0, hb1, hU0, hU, hd0, hd1⟩ := id H
  have h2 : q * b ≤ 4294967296 * b := Int.mul_le_mul_of_nonneg_right h1 hb0
  omega
/-- a guess whose rest is a digit's or more is right -/
theorem dq_brk {q r : Int} (hqr : q * a + r = U) (hge : (U * 4294967296 + d) / Y ≤ q) (hq : q ≤ 4294967296) (hr : 4294967296 ≤ r) : q = (U * 4294967296 + d) / Y := by
  obtain ⟨hY, ha, hb0, hb1, hU0, hU, hd0, hd1⟩ := id H
  have hbd := dq_bd H
  have := mul_le_small H (show 0 ≤ q by omega) hq
  exact dq_ok H hqr hge (by omega)
/-- the first guess -/
theorem dq_first : (U * 4294967296 + d) / Y ≤ U / a ∧ U / a ≤ 4294967297 ∧ 0 ≤ U / a := by
  obtain ⟨hY, ha, hb0, hb1, hU0, hU, hd0, hd1⟩ := id H
  have hbd := dq_bd H
  refine ⟨?_, ?_, Int.ediv_nonneg hU0 (by omega)⟩
  · generalize hQ : (U * 4294967296 + d) / Y = Q at *
    refine Int.le_ediv_of_mul_le (by omega) ?_
    have h1 : Q * Y ≤ U * 4294967296 + d := by rw [← hQ]; exact Int.ediv_mul_le _ (by omega)
    rw [dq_mul H Q] at h1
    have h2 : 0 ≤ Q * b := Int.mul_nonneg hbd.1 hb0
    omega
  · have : U / a < 4294967298 := Int.ediv_lt_of_lt_mul (by omega) (by omega)
    omega
/-- the rest of a digit -/
theorem dq_rest : (U * 4294967296 + d) / Y * Y ≤ U * 4294967296 + d ∧ U * 4294967296 + d < (U * 4294967296 + d) / Y * Y + Y := by
  obtain ⟨hY, ha, hb0, hb1, hU0, hU, hd0, hd1⟩ := id H
  have h1 := Int.ediv_mul_le (U * 4294967296 + d) (show Y ≠ 0 by omega)
  have h2 := Int.lt_ediv_add_one_mul_self (U * 4294967296 + d) (show 0 < Y by omega)
  rw [Int.add_mul] at h2
  omega
end
/-- two digits, one behind the other -/
theorem dq_two {N Y U d1 d0 Q1 U2 : Int} (hY : 0 < Y) (hN : N = (U * 4294967296 + d1) * 4294967296 + d0) (h1 : Q1 = (U * 4294967296 + d1) / Y) (h2 : U2 = U * 4294967296 + d1 - Q1 * Y) (hd0 : 0 ≤ d0) (hd1 : d0 < 4294967296) (hU2 : 0 ≤ U2) :
    Q1 * 4294967296 + (U2 * 4294967296 + d0) / Y = N / Y := by
  have e : N = (U2 * 4294967296 + d0) + Q1 * 4294967296 * Y := by
    rw [Int.mul_assoc, Int.mul_comm 4294967296 Y, ← Int.mul_assoc]
    omega
  rw [e, Int.add_mul_ediv_right _ _ (by omega)]
  omega
theorem mul_bd2 {q b : Int} (h0 : 0 ≤ q) (h1 : q ≤ 4294967295) (hb0 : 0 ≤ b) (hb1 : b ≤ 4294967295) : 0 ≤ q * b ∧ q * b ≤ 18446744065119617025 := by
  refine ⟨Int.mul_nonneg h0 hb0, ?_⟩
  have h2 : q * b ≤ 4294967295 * b := Int.mul_le_mul_of_nonneg_right h1 hb0
  omega
end Go.Proofs.Ytlmgkkdjjoimnaa
