/- Walk of the chapter's Scaled. Condition: the numbers in their range. -/
import Derived.Test.YtlmgkkdjjoimnaaDiv
import Derived.Test.YtlmgkkdjjoimnaaHands
namespace Go.Proofs.Ytlmgkkdjjoimnaa
open Go.RowKit
set_option linter.unusedVariables false
set_option linter.unusedSimpArgs false

theorem sc_two {q r c hh : Int} {k : Nat} (h : q * c + r = hh * 2 ^ k) : (q * 2) * c + r * 2 = hh * 2 ^ (k + 1) := by
  rw [Int.pow_succ, ← Int.mul_assoc, ← h, Int.add_mul, Int.mul_right_comm]
theorem sc_one {q r c T : Int} (h : q * c + r = T) : (q + 1) * c + (r - c) = T := by
  rw [Int.add_mul]
  omega
theorem sc_bd {q r c hh : Int} {k : Nat} (h : q * c + r = hh * 2 ^ k) (hr : 0 ≤ r) (hk : k ≤ 20) (h0 : 0 ≤ hh) (h1 : hh * 1048576 ≤ 1099511627776 * c) (hc : 1 ≤ c) : q ≤ 1099511627776 := by
  have e : ((2 : Int) ^ k) = ((2 ^ k : Nat) : Int) := by simp
  have hp : 2 ^ k ≤ 2 ^ 20 := Nat.pow_le_pow_right (by omega) hk
  have h2 : hh * 2 ^ k ≤ hh * 1048576 := Int.mul_le_mul_of_nonneg_left (by omega) h0
  exact Int.le_of_mul_le_mul_right (show q * c ≤ 1099511627776 * c by omega) (by omega)
theorem div_is {x y c T : Int} (h : x * c + y = T) (h0 : 0 ≤ y) (h1 : y < c) : T / c = x := by
  rw [← h, Int.add_comm, Int.add_mul_ediv_right _ _ (by omega), Int.ediv_eq_zero_of_lt h0 h1]
  omega
set_option maxRecDepth 100000 in
set_option maxHeartbeats 4000000 in
theorem scaled_core (a b c b1 b0 hh ll q0 r0 q1 r1 Q : Int) (w : World)
    (ha0 : 0 ≤ a) (ha1 : a ≤ 1099511627776) (hb0 : 0 ≤ b) (hb1 : b ≤ 1099511627776) (hc0 : 1 ≤ c) (hc1 : c ≤ 1099511627776)
    (e1 : b / 1048576 = b1) (e0 : b % 1048576 = b0) (e0' : b.tmod 1048576 = b0) (eh : a * b1 = hh) (el : a * b0 = ll)
    (eq0 : hh / c = q0) (eq0' : hh.tdiv c = q0) (er0 : hh % c = r0) (er0' : hh.tmod c = r0)
    (eq1 : ll / c = q1) (eq1' : ll.tdiv c = q1) (er1 : ll % c = r1) (er1' : ll.tmod c = r1)
    (h1 : 0 ≤ hh) (h2 : hh ≤ 1152921504606846976) (h3 : 0 ≤ ll) (h4 : ll ≤ 1152921504606846976)
    (g1 : 0 ≤ r0) (g2 : r0 < c) (g3 : 0 ≤ q0) (g4 : 0 ≤ r1) (g5 : r1 < c) (g6 : 0 ≤ q1) (g7 : q1 ≤ 1152921504606846976) (g8 : q0 ≤ 1152921504606846976)
    (hbd : hh * 1048576 ≤ 1099511627776 * c) (hq0 : q0 * c + r0 = hh) (hq1 : q1 * c + r1 = ll) (hQ : (hh * 1048576 + ll) / c = Q) :
    Calls Try.prog 29 #[.int .i64 a, .int .i64 b, .int .i64 c] w fun e w' => e = .returned (.int .i64 Q) ∧ Below w.heap.size w w' := by
  have H0 : Hid (q0 * c + r0 = hh * 2 ^ 0) := by show q0 * c + r0 = hh * 2 ^ 0; omega
  have H1 := Lib.hid hq1
  have HQ := Lib.hid hQ
  have HB := Lib.hid hbd
  have n1 : ¬ c = 0 := by omega
  clear hq0 hq1 hQ hbd
  go_enter Try.func29, Try.ntmps29
  go_wp2_with fail
  go_quiet (fail)
  go_wp2_with fail
  go_loopw [9, 10, 11] (fun qv rv iv wv => ∃ (q r : Int) (k : Nat), qv = .int .i64 q ∧ rv = .int .i64 r ∧ iv = .int .i64 k ∧ k ≤ 20 ∧ Hid (q * c + r = hh * 2 ^ k) ∧ 0 ≤ q ∧ 0 ≤ r ∧ r < c ∧ Below w.heap.size w wv) (fun _ _ iv _ => 20 - (intOf iv).toNat)
  case atStart => exact ⟨q0, r0, 0, rfl, rfl, rfl, by omega, H0, by omega, by omega, by omega, below_drewN' (Below.refl _ _) _⟩
  case round =>
    obtain ⟨q, r, k, rfl, rfl, rfl, hk, hqr, hq, hr0, hr1, hb⟩ := hrel
    have HW := Lib.hid hb
    have hqb := sc_bd hqr.out hr0 hk h1 HB.out hc0
    clear hb
    by_cases hlt : k < 20
    · have q20 : (k : Int) < 20 := by omega
      have HN := Lib.hid (sc_two hqr.out)
      by_cases hge : c ≤ r * 2
      · have HN1 := Lib.hid (sc_one HN.out)
        go_wp2_with fail
        go_roundw
        case rel => exact ⟨q * 2 + 1, r * 2 - c, k + 1, rfl, rfl, by go_num, by omega, HN1, by omega, by omega, by omega, HW.out⟩
        case measure => simp [intOf]; omega
      · have hge' : r * 2 < c := by omega
        clear hge
        go_wp2_with fail
        go_roundw
        case rel => exact ⟨q * 2, r * 2, k + 1, rfl, rfl, by go_num, by omega, HN, by omega, by omega, by omega, HW.out⟩
        case measure => simp [intOf]; omega
    · obtain rfl : k = 20 := by omega
      have ht : (q + q1) * c + (r + r1) = hh * 1048576 + ll := by
        have := hqr.out
        have := H1.out
        rw [Int.add_mul]
        omega
      by_cases hge : c ≤ r + r1
      · have hv := div_is (sc_one ht) (by omega) (by omega)
        rw [HQ.out] at hv
        have HV := Lib.hid hv
        clear hv ht hlt
        go_wp2_with fail
        go_ret
        exact ⟨ret_i HV.out, HW.out⟩
      · have hv := div_is ht (by omega) (by omega)
        rw [HQ.out] at hv
        have HV := Lib.hid hv
        have hge' : r + r1 < c := by omega
        clear hv ht hlt hge
        go_wp2_with fail
        go_ret
        exact ⟨ret_i HV.out, HW.out⟩
theorem scaled_any (a b c : Int) (w : World) (ha0 : 0 ≤ a) (ha1 : a ≤ 1099511627776) (hb0 : 0 ≤ b) (hbc : b ≤ c) (hc0 : 1 ≤ c) (hc1 : c ≤ 1099511627776) :
    Calls Try.prog 29 #[.int .i64 a, .int .i64 b, .int .i64 c] w fun e w' => e = .returned (.int .i64 (a * b / c)) ∧ Below w.heap.size w w' := by
  have h1 : 0 ≤ a * (b / 1048576) := Int.mul_nonneg ha0 (by omega)
  have h2 : a * (b / 1048576) ≤ 1099511627776 * (b / 1048576) := Int.mul_le_mul_of_nonneg_right ha1 (by omega)
  have h3 : 0 ≤ a * (b % 1048576) := Int.mul_nonneg ha0 (by omega)
  have h4 : a * (b % 1048576) ≤ 1099511627776 * (b % 1048576) := Int.mul_le_mul_of_nonneg_right ha1 (by omega)
  have eT : a * (b / 1048576) * 1048576 + a * (b % 1048576) = a * b := by
    rw [Int.mul_assoc, ← Int.mul_add]
    congr 1
    omega
  have h5 : a * b ≤ 1099511627776 * c := Int.le_trans (Int.mul_le_mul_of_nonneg_right ha1 hb0) (Int.mul_le_mul_of_nonneg_left hbc (by omega))
  have n1 : c ≠ 0 := by omega
  have d1 := Int.mul_ediv_add_emod (a * (b / 1048576)) c
  have d2 := Int.mul_ediv_add_emod (a * (b % 1048576)) c
  rw [Int.mul_comm] at d1 d2
  have l1 := Int.ediv_le_self c h1
  have l2 := Int.ediv_le_self c h3
  exact scaled_core a b c _ _ _ _ _ _ _ _ _ w ha0 ha1 hb0 (by omega) hc0 hc1 rfl rfl (Int.tmod_eq_emod_of_nonneg hb0) rfl rfl rfl (Int.tdiv_eq_ediv_of_nonneg h1) rfl (Int.tmod_eq_emod_of_nonneg h1) rfl (Int.tdiv_eq_ediv_of_nonneg h3) rfl (Int.tmod_eq_emod_of_nonneg h3)
    h1 (by omega) h3 (by omega) (Int.emod_nonneg _ n1) (Int.emod_lt_of_pos _ (by omega)) (Int.ediv_nonneg h1 (by omega)) (Int.emod_nonneg _ n1) (Int.emod_lt_of_pos _ (by omega)) (Int.ediv_nonneg h3 (by omega)) (by omega) (by omega)
    (by omega) d1 d2 (by rw [eT])
end Go.Proofs.Ytlmgkkdjjoimnaa
