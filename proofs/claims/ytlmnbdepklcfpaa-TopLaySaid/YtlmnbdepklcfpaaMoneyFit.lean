/- The walk of Money where it does not go out of range. Condition: how the stretches lie; small prices. -/
import Derived.Test.YtlmnbdepklcfpaaMoney
namespace Go.Proofs.Ytlmnbdepklcfpaa
open Go.RowKit
set_option linter.unusedVariables false
set_option linter.unusedSimpArgs false
theorem mul_bd255 {x y : Int} (hx : 0 ≤ x) (hx2 : x ≤ 255) (hy : 0 ≤ y) (hy2 : y ≤ 2097152) : 0 ≤ x * y ∧ x * y ≤ 534773760 := by
  refine ⟨Int.mul_nonneg hx hy, ?_⟩
  have h1 : x * y ≤ 255 * y := Int.mul_le_mul_of_nonneg_right hx2 hy
  omega
theorem fit_is {m x : Int} (h : x = m) : Ending.returned (.tuple #[.int .i64 x, .int .i64 0]) = .returned (.tuple #[.int .i64 m, .int .i64 0]) := by rw [h]
section
variable (a b c : Int) (A : Option Addr) (n k : Nat) (l : List Str) (w : World) (h : Strs w w.heap.size A n l) (hn : n ≤ maxLen) (hm : mayB a b c = true) (hr : (chk l).2 = 0)
include h hn hm hr
set_option maxRecDepth 100000 in
set_option maxHeartbeats 4000000 in
theorem money_fit (hb8 : b ≤ 255) (hc8 : c ≤ 255) : Calls Try.prog 22 #[layV a b c, .slice A n k] w fun e w' => e = .returned (.tuple #[.int .i64 (money b c (2 * a) (U a l)), .int .i64 0]) ∧ Below w.heap.size w w' := by
  have K0 := Lib.hid (Kp.new w a b c)
  have H := Lib.hid h
  have HM := Lib.hid hm
  have HR := Lib.hid hr
  obtain ⟨a1, a2, b1, b2, c1, c2⟩ := mayB_yes hm
  obtain ⟨u1, u2⟩ := U_bd (a := a) hr
  obtain ⟨u, hu⟩ : ∃ u, u = U a l := ⟨_, rfl⟩
  rw [← hu] at u1 u2 ⊢
  have HU := Lib.hid hu
  clear h hm hr hu
  unfold layV
  by_cases m1 : 2 * a < u
  · obtain ⟨x1, x2⟩ := mul_bd255 b1 hb8 (show 0 ≤ u - 2 * a by omega) (by omega)
    have hmo : money b c (2 * a) u = (b * (u - 2 * a) + 1) / 2 := by unfold money; rw [if_pos m1]
    rw [hmo]
    clear hmo
    have m1' : 0 < u - 2 * a := by omega
    obtain ⟨x, hx⟩ : ∃ x, b * (u - 2 * a) = x := ⟨_, rfl⟩
    rw [hx] at x1 x2 ⊢
    by_cases big : 1099511627776 < (x + 2 - 1) / 2
    · exfalso; omega
    · have big' : (x + 2 - 1) / 2 ≤ 1099511627776 := by omega
      clear big
      go_enter Try.func22, Try.ntmps22
      go_wp2_with fail
      refine (used_ok a b c A n k l _ (K0.out.strs H.out) hn HM.out HR.out).mono ?_
      rintro e w1 ⟨rfl, hb⟩
      rw [← HU.out]
      have K1 := Lib.hid (K0.out.step hb)
      obtain ⟨p0, p1, p2⟩ := K1.out.three
      clear hb
      go_wp2_with fail
      go_ret2
      exact ⟨fit_is (by omega), K1.out.1⟩
  · by_cases m2 : u < 2 * a
    · obtain ⟨x1, x2⟩ := mul_bd255 c1 hc8 (show 0 ≤ 2 * a - u by omega) (by omega)
      have hmo : money b c (2 * a) u = -(c * (2 * a - u) / 2) := by unfold money; rw [if_neg m1, if_pos m2]
      rw [hmo]
      clear hmo
      have m2' : u - 2 * a < 0 := by omega
      have m3 : -(u - 2 * a) = 2 * a - u := by omega
      obtain ⟨x, hx⟩ : ∃ x, c * (2 * a - u) = x := ⟨_, rfl⟩
      rw [hx] at x1 x2 ⊢
      clear m1
      by_cases big : 1099511627776 < x / 2
      · exfalso; omega
      · have big' : x / 2 ≤ 1099511627776 := by omega
        clear big
        go_enter Try.func22, Try.ntmps22
        go_wp2_with fail
        refine (used_ok a b c A n k l _ (K0.out.strs H.out) hn HM.out HR.out).mono ?_
        rintro e w1 ⟨rfl, hb⟩
        rw [← HU.out]
        have K1 := Lib.hid (K0.out.step hb)
        obtain ⟨p0, p1, p2⟩ := K1.out.three
        clear hb
        go_wp2_with fail
        all_goals
          go_ret2
          exact ⟨fit_is (by omega), K1.out.1⟩
    · have hmo : money b c (2 * a) u = 0 := by unfold money; rw [if_neg m1, if_neg m2]
      rw [hmo]
      clear hmo
      obtain rfl : u = 2 * a := by omega
      clear m1 m2
      go_enter Try.func22, Try.ntmps22
      go_wp2_with fail
      refine (used_ok a b c A n k l _ (K0.out.strs H.out) hn HM.out HR.out).mono ?_
      rintro e w1 ⟨rfl, hb⟩
      rw [← HU.out]
      have K1 := Lib.hid (K0.out.step hb)
      obtain ⟨p0, p1, p2⟩ := K1.out.three
      clear hb
      go_wp2_with fail
      go_ret2
      exact ⟨fit_is (by omega), K1.out.1⟩
end
end Go.Proofs.Ytlmnbdepklcfpaa
