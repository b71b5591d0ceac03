/- Walk of bits.Div64, whole. Condition: hi below y. -/
import Derived.Test.YtlmgkkdjjoimnaaDivX
import Derived.Test.YtlmgkkdjjoimnaaDivBits
namespace Go.Proofs.Ytlmgkkdjjoimnaa
open Go.RowKit
set_option linter.unusedVariables false
set_option linter.unusedSimpArgs false

set_option maxHeartbeats 2000000 in
theorem div_long (hi lo y : Int) (w : World) (h0 : 1 ≤ hi) (hy : hi < y) (hy1 : y ≤ 18446744073709551615) (hlo0 : 0 ≤ lo) (hlo1 : lo ≤ 18446744073709551615) :
    Calls Try.prog 43 #[.int .u64 hi, .int .u64 lo, .int .u64 y] w fun e w' => (∃ r : Int, e = .returned (.tuple #[.int .u64 ((hi * 18446744073709551616 + lo) / y), .int .u64 r])) ∧ Below w.heap.size w w' := by
  obtain ⟨n, hn⟩ : ∃ n : Nat, Lib.bitLen y.toNat = n := ⟨_, rfl⟩
  have hb := bl_two 64 y.toNat (by omega) (by omega)
  rw [show Lib.bitLenAux 64 y.toNat = n from hn] at hb
  obtain ⟨b1, b2, b3, b4⟩ := hb
  obtain ⟨s, rfl⟩ : ∃ s, n = 64 - s := ⟨64 - n, by omega⟩
  have hs : s ≤ 63 := by omega
  have hPR : (2 : Int) ^ s * 2 ^ (64 - s) = 18446744073709551616 := by
    rw [← Int.pow_add, show s + (64 - s) = 64 by omega]
    rfl
  have hP : (1 : Int) ≤ 2 ^ s := by
    have := Nat.one_le_two_pow (n := s)
    have e : ((2 : Int) ^ s) = ((2 ^ s : Nat) : Int) := by simp
    omega
  have eR : ((2 : Int) ^ (64 - s)) = ((2 ^ (64 - s) : Nat) : Int) := by simp
  have hR : (1 : Int) ≤ 2 ^ (64 - s) := by
    have := Nat.one_le_two_pow (n := 64 - s)
    omega
  have hyR : (2 : Int) ^ (64 - s) ≤ 2 * y := by omega
  have hyR2 : y + 1 ≤ (2 : Int) ^ (64 - s) := by omega
  have big : 9223372036854775808 ≤ y * 2 ^ s := by
    have := Int.mul_le_mul_of_nonneg_right hyR (show 0 ≤ (2 : Int) ^ s by omega)
    rw [Int.mul_comm, hPR, Int.mul_assoc] at this
    omega
  have fit : y * 2 ^ s ≤ 18446744073709551615 := by
    have := Int.mul_le_mul_of_nonneg_right hyR2 (show 0 ≤ (2 : Int) ^ s by omega)
    rw [Int.mul_comm _ ((2 : Int) ^ s), Int.mul_comm _ ((2 : Int) ^ s), hPR, Int.mul_add] at this
    rw [Int.mul_comm]
    omega
  have H : Sh hi lo y (2 ^ s) (2 ^ (64 - s)) := ⟨h0, hy, hlo0, hlo1, hP, hR, hPR, big, fit⟩
  obtain ⟨p0, p1⟩ := H.hiP
  obtain ⟨r0, r1⟩ := H.loR
  obtain ⟨_, l0, l1⟩ := H.loP
  have eU := or_int hi (lo / 2 ^ (64 - s)) s (by omega) r0 r1 (by omega) (by omega)
  have eL := H.low
  have eN := H.num
  have wY : IntKind.u64.wrap (y * 2 ^ s) = y * 2 ^ s := IntWalk.u64_in _ (by omega)
  have wU : IntKind.u64.wrap (hi * 2 ^ s) = hi * 2 ^ s := IntWalk.u64_in _ (by omega)
  obtain ⟨Y, eY⟩ : ∃ Y, y * 2 ^ s = Y := ⟨_, rfl⟩
  obtain ⟨U, eUU⟩ : ∃ U, hi * 2 ^ s + lo / 2 ^ (64 - s) = U := ⟨_, rfl⟩
  obtain ⟨L, eLL⟩ : ∃ L, lo % 2 ^ (64 - s) * 2 ^ s = L := ⟨_, rfl⟩
  rw [eY] at big fit p1 eN wY
  rw [eUU] at eU eN
  rw [eLL] at eL eN l0 l1
  have D1 : DV (Y / 4294967296) (Y % 4294967296) U (L / 4294967296) Y := ⟨by omega, by omega, by omega, by omega, by omega, by omega, by omega, by omega⟩
  obtain ⟨m1, m2⟩ := dq_rest D1
  have nV : 0 ≤ U * 4294967296 + L / 4294967296 - (U * 4294967296 + L / 4294967296) / Y * Y := by omega
  have eV := wrap_rest (Y := Y) nV (by omega)
  have D2 : DV (Y / 4294967296) (Y % 4294967296) (U * 4294967296 + L / 4294967296 - (U * 4294967296 + L / 4294967296) / Y * Y) (L % 4294967296) Y := ⟨by omega, by omega, by omega, by omega, by omega, by omega, by omega, by omega⟩
  have e2 := dq_two (N := U * 18446744073709551616 + L) (d1 := L / 4294967296) (d0 := L % 4294967296) (show 0 < Y by omega) (by omega) rfl rfl (by omega) (by omega) nV
  rw [eN, ← e2]
  refine div_core hi lo y Y (Y / 4294967296) (Y % 4294967296) U L (L / 4294967296) (L % 4294967296) _ _ _ _ _ _ _ s w h0 hy hy1 hlo0 hlo1 hs ?_ (by rw [eY]; exact wY) rfl (mask_ Y (by omega) (by omega)) (by rw [wU]; exact eU) eL rfl (mask_ L (by omega) (by omega)) rfl ?_ rfl eV rfl ?_ rfl D1 rfl D2 rfl (by omega)
  · rw [hn]
    omega
  · exact Int.tdiv_eq_ediv_of_nonneg D1.hU0
  · exact Int.tdiv_eq_ediv_of_nonneg D2.hU0
set_option maxRecDepth 100000 in
set_option maxHeartbeats 1000000 in
theorem div_short (lo y : Int) (w : World) (hy : 1 ≤ y) (hy1 : y ≤ 18446744073709551615) (hlo0 : 0 ≤ lo) (hlo1 : lo ≤ 18446744073709551615) :
    Calls Try.prog 43 #[.int .u64 0, .int .u64 lo, .int .u64 y] w fun e w' => (∃ r : Int, e = .returned (.tuple #[.int .u64 (lo / y), .int .u64 r])) ∧ Below w.heap.size w w' := by
  have n1 : (y == 0) = false := by simp; omega
  have n2 : ¬ y ≤ 0 := by omega
  have n3 : ¬ y = 0 := by omega
  have d0 : 0 ≤ lo / y := Int.ediv_nonneg hlo0 (by omega)
  have d1 : lo / y ≤ lo := Int.ediv_le_self _ hlo0
  have m0 := Int.emod_nonneg lo n3
  have m1 := Int.emod_lt_of_pos lo (show 0 < y by omega)
  have e1 : lo.tdiv y = lo / y := Int.tdiv_eq_ediv_of_nonneg hlo0
  have e2 : lo.tmod y = lo % y := Int.tmod_eq_emod_of_nonneg hlo0
  go_enter Try.func43, Try.ntmps43
  go_wp2
  go_quiet (fail)
  go_wp2
  go_ret2
  exact ⟨⟨_, rfl⟩, below_drewN' (Below.refl _ _) _⟩
theorem div_any (hi lo y : Int) (w : World) (h0 : 0 ≤ hi) (hy : hi < y) (hy1 : y ≤ 18446744073709551615) (hlo0 : 0 ≤ lo) (hlo1 : lo ≤ 18446744073709551615) :
    Calls Try.prog 43 #[.int .u64 hi, .int .u64 lo, .int .u64 y] w fun e w' => (∃ r : Int, e = .returned (.tuple #[.int .u64 ((hi * 18446744073709551616 + lo) / y), .int .u64 r])) ∧ Below w.heap.size w w' := by
  rcases (show hi = 0 ∨ 1 ≤ hi by omega) with rfl | h
  · have := div_short lo y w (by omega) hy1 hlo0 hlo1
    rw [show (0 : Int) * 18446744073709551616 + lo = lo by omega]
    exact this
  · exact div_long hi lo y w h hy hy1 hlo0 hlo1
end Go.Proofs.Ytlmgkkdjjoimnaa
