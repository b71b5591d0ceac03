/- Digits of a shifted number, plainly. No program. No condition. -/
import Derived.Laws.BitsAllLaws
import Derived.Lib.BitFns
import Derived.Test.YtlmgkkdjjoimnaaDivPlain
namespace Go.Proofs.Ytlmgkkdjjoimnaa
set_option linter.unusedVariables false

theorem bl_two (f : Nat) : ∀ x : Nat, x ≠ 0 → x < 2 ^ f → 1 ≤ Lib.bitLenAux f x ∧ Lib.bitLenAux f x ≤ f ∧ 2 ^ Lib.bitLenAux f x ≤ 2 * x ∧ x < 2 ^ Lib.bitLenAux f x := by
  induction f with
  | zero => intro x h0 h; simp at h; omega
  | succ f ih =>
    intro x h0 h
    unfold Lib.bitLenAux
    rw [if_neg h0]
    by_cases h1 : x / 2 = 0
    · rw [h1]
      have : Lib.bitLenAux f 0 = 0 := by cases f <;> simp [Lib.bitLenAux]
      rw [this]
      omega
    · rw [Nat.pow_succ] at h
      obtain ⟨a1, a2, a3, a4⟩ := ih (x / 2) h1 (by omega)
      rw [Nat.pow_add]
      omega
theorem mask_ (x : Int) (h0 : 0 ≤ x) (h1 : x < 18446744073709551616) : bits .and .u64 x 4294967295 = x % 4294967296 := by
  rw [u64_and x _ h0 h1 (by omega) (by omega)]
  have : x.toNat &&& (4294967295 : Int).toNat = x.toNat % 4294967296 := Nat.and_two_pow_sub_one_eq_mod x.toNat 32
  rw [this]
  omega
theorem or_low (a b : Nat) (s : Nat) (hb : b < 2 ^ s) : (a * 2 ^ s) ||| b = a * 2 ^ s + b := by
  rw [Nat.mul_comm]
  exact (Nat.two_pow_add_eq_or_of_lt hb a).symm
theorem or_int (A B : Int) (s : Nat) (hA : 0 ≤ A) (hB : 0 ≤ B) (hb : B < 2 ^ s) (h1 : A * 2 ^ s < 18446744073709551616) (h2 : B < 18446744073709551616) : bits .or .u64 (A * 2 ^ s) B = A * 2 ^ s + B := by
  obtain ⟨a, rfl⟩ := Int.eq_ofNat_of_zero_le hA
  obtain ⟨b, rfl⟩ := Int.eq_ofNat_of_zero_le hB
  have e : ((a : Int) * 2 ^ s) = ((a * 2 ^ s : Nat) : Int) := by simp
  have e2 : ((2 : Int) ^ s) = ((2 ^ s : Nat) : Int) := by simp
  rw [e2] at hb
  rw [e] at h1 ⊢
  rw [u64_or_nat _ _ (by omega) (by omega), or_low a b s (by omega)]
  simp
/-- what the shift makes -/
structure Sh (hi lo y P R : Int) : Prop where
  h0 : 1 ≤ hi
  hy : hi < y
  lo0 : 0 ≤ lo
  lo1 : lo ≤ 18446744073709551615
  hP : 1 ≤ P
  hR : 1 ≤ R
  hPR : P * R = 18446744073709551616
  big : 9223372036854775808 ≤ y * P
  fit : y * P ≤ 18446744073709551615
section
variable {hi lo y P R : Int} (H : Sh hi lo y P R)
include H
theorem Sh.hiP : 0 ≤ hi * P ∧ hi * P + P ≤ y * P := by
  obtain ⟨h0, hy, lo0, lo1, hP, hR, hPR, big, fit⟩ := id H
  refine ⟨Int.mul_nonneg (by omega) (by omega), ?_⟩
  have := Int.mul_le_mul_of_nonneg_right (show hi + 1 ≤ y by omega) (show 0 ≤ P by omega)
  rw [Int.add_mul] at this
  omega
theorem Sh.loR : 0 ≤ lo / R ∧ lo / R < P := by
  obtain ⟨h0, hy, lo0, lo1, hP, hR, hPR, big, fit⟩ := id H
  refine ⟨Int.ediv_nonneg lo0 (by omega), Int.ediv_lt_of_lt_mul (by omega) (by omega)⟩
theorem Sh.loP : lo * P = lo / R * 18446744073709551616 + lo % R * P ∧ 0 ≤ lo % R * P ∧ lo % R * P < 18446744073709551616 := by
  obtain ⟨h0, hy, lo0, lo1, hP, hR, hPR, big, fit⟩ := id H
  have e := Int.mul_ediv_add_emod lo R
  have m0 := Int.emod_nonneg lo (show R ≠ 0 by omega)
  have m1 := Int.emod_lt_of_pos lo (show 0 < R by omega)
  refine ⟨?_, Int.mul_nonneg m0 (by omega), ?_⟩
  · have : lo * P = (R * (lo / R) + lo % R) * P := by rw [e]
    rw [this, Int.add_mul, Int.mul_right_comm, Int.mul_comm R P, hPR, Int.mul_comm]
  · have := Int.mul_lt_mul_of_pos_right m1 (show 0 < P by omega)
    rw [Int.mul_comm R P, hPR] at this
    exact this
theorem Sh.low : IntKind.u64.wrap (lo * P) = lo % R * P := by
  obtain ⟨e, m0, m1⟩ := H.loP
  rw [IntKind.wrap_u64, e]
  omega
theorem Sh.num : (hi * 18446744073709551616 + lo) / y = ((hi * P + lo / R) * 18446744073709551616 + lo % R * P) / (y * P) := by
  obtain ⟨e, m0, m1⟩ := H.loP
  have : (hi * P + lo / R) * 18446744073709551616 + lo % R * P = (hi * 18446744073709551616 + lo) * P := by
    rw [Int.add_mul (hi * 18446744073709551616), e, Int.add_mul, Int.mul_right_comm]
    omega
  rw [this, Int.mul_ediv_mul_of_pos_left _ _ (by have := H.hP; omega)]
end
theorem wrap_rest {U d1 Z Y : Int} (h0 : 0 ≤ U * 4294967296 + d1 - Z) (h1 : U * 4294967296 + d1 - Z < 18446744073709551616) :
    IntKind.u64.wrap (IntKind.u64.wrap (IntKind.u64.wrap (U * 4294967296) + d1) - IntKind.u64.wrap Z) = U * 4294967296 + d1 - Z := by
  rw [IntKind.wrap_u64, IntKind.wrap_u64, IntKind.wrap_u64, IntKind.wrap_u64]
  omega
end Go.Proofs.Ytlmgkkdjjoimnaa
