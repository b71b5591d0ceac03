/- Walks of share.Of, of Insured and of Pays. Condition: how the causes lie. -/
import Derived.Test.YtlmgkkdjjoimnaaDiv
import Derived.Test.YtlmgkkdjjoimnaaHands
import Derived.Test.YtlmgkkdjjoimnaaPayPlain
namespace Go.Proofs.Ytlmgkkdjjoimnaa
open Go.RowKit
set_option linter.unusedVariables false
set_option linter.unusedSimpArgs false

set_option maxHeartbeats 1000000 in
theorem smay_any (a b : Int) (w : World) (ha : 0 ≤ a) (hb : 1 ≤ b) : Calls Try.prog 41 #[.agg #[.int .i64 a, .int .i64 b]] w fun e w' => e = .returned (.bool true) ∧ Below w.heap.size w w' := by
  go_enter Try.func41, Try.ntmps41
  go_wp2
  go_ret
  exact ⟨rfl, (Below.refl _ _).alloc (Nat.le_refl _) _⟩
theorem mul_any (a b : Int) (w : World) (ha : 0 ≤ a) (ha1 : a ≤ 18446744073709551615) (hb : 0 ≤ b) (hb1 : b ≤ 18446744073709551615) : Calls Try.prog 42 #[.int .u64 a, .int .u64 b] w fun e w' => e = .returned (.tuple #[.int .u64 (a * b / 18446744073709551616), .int .u64 (a * b % 18446744073709551616)]) ∧ w = w' := by
  obtain ⟨x, rfl⟩ := Int.eq_ofNat_of_zero_le ha
  obtain ⟨y, rfl⟩ := Int.eq_ofNat_of_zero_le hb
  refine (Try.bits_Mul64 x y (by omega) (by omega) w).mono fun e w' h => ⟨?_, h.2.symm⟩
  rw [h.1]
  simp
set_option maxRecDepth 100000 in
set_option maxHeartbeats 2000000 in
theorem of_any (n a c : Int) (w : World) (h0 : 0 ≤ n) (h1 : n ≤ 1099511627776) (ha : 0 ≤ a) (hac : a ≤ c) (hc : 1 ≤ c) (hc1 : c ≤ 1099511627776) :
    Calls Try.prog 26 #[.int .i64 n, .agg #[.int .i64 a, .int .i64 c]] w fun e w' => e = .returned (.tuple #[.int .i64 (n * a / c), .bool true]) ∧ Below w.heap.size w w' := by
  have m0 : 0 ≤ n * a := Int.mul_nonneg h0 ha
  have m1 : n * a ≤ n * c := Int.mul_le_mul_of_nonneg_left hac h0
  have m2 : n * c ≤ 1099511627776 * c := Int.mul_le_mul_of_nonneg_right h1 (by omega)
  obtain ⟨T, eT⟩ : ∃ T, n * a = T := ⟨_, rfl⟩
  obtain ⟨hi, eH⟩ : ∃ hi, T / 18446744073709551616 = hi := ⟨_, rfl⟩
  obtain ⟨lo, eL⟩ : ∃ lo, T % 18446744073709551616 = lo := ⟨_, rfl⟩
  obtain ⟨q, eq⟩ : ∃ q, T / c = q := ⟨_, rfl⟩
  rw [eT] at m0 m1
  have q0 : 0 ≤ q := by rw [← eq]; exact Int.ediv_nonneg m0 (by omega)
  have q1 : q ≤ 1099511627776 := by
    have h := Int.mul_le_mul_of_nonneg_left (show T ≤ 1099511627776 * c by omega) (show (0 : Int) ≤ 1 by omega)
    rw [← eq]
    have := Int.ediv_le_ediv (show 0 < c by omega) (show T ≤ 1099511627776 * c by omega)
    rw [Int.mul_ediv_cancel _ (by omega)] at this
    exact this
  have hlo0 : 0 ≤ lo := by omega
  have hlo1 : lo ≤ 18446744073709551615 := by omega
  have hhi0 : 0 ≤ hi := by omega
  have hhi1 : hi < c := by omega
  have hhi2 : hi ≤ 1099511627776 := by omega
  have HD := Lib.hid fun w => div_any hi lo c w hhi0 hhi1 (by omega) hlo0 hlo1
  rw [show hi * 18446744073709551616 + lo = T by omega, eq] at HD
  have HM := Lib.hid fun w => mul_any n a w (by omega) (by omega) (by omega) (by omega)
  rw [eT, eH, eL] at HM
  have HS := Lib.hid fun w => smay_any a c w ha hc
  have hac' : a ≤ 1099511627776 := by omega
  rw [eT, eq]
  clear eT eH eL eq m0 m1 m2
  have bx := Blk.new w 60 #[.int .i64 a, .int .i64 c]
  have HB := Lib.hid (show Below w.heap.size w (w.alloc (.cells #[.int .i64 a, .int .i64 c] 60)) from (Below.refl _ _).alloc (Nat.le_refl _) _)
  have BX := Lib.hid bx
  clear bx
  go_enter Try.func26, Try.ntmps26
  go_wp2_with fail
  refine (HS.out _).mono ?_
  rintro e w1 ⟨rfl, hb⟩
  have HB1 := Lib.hid (below_trans HB.out hb)
  have BX1 := Lib.hid (BX.out.below hb BX.out.lt)
  obtain ⟨c0, c1⟩ := BX1.out.two_
  clear hb
  go_wp2_with fail
  refine (HM.out _).mono ?_
  rintro e w2 ⟨rfl, rfl⟩
  go_wp2_with fail
  refine (HD.out _).mono ?_
  rintro e w3 ⟨⟨r, rfl⟩, hb⟩
  have HB3 := Lib.hid (below_trans HB1.out hb)
  clear hb
  go_wp2_with fail
  go_ret2
  exact ⟨rfl, HB3.out⟩
section
variable (p : Pol) (hp : p.wf) (A : Option Addr) (n c : Nat) (w : World) (hc : Cs w w.heap.size A n p.causes)
include hp hc
set_option maxRecDepth 100000 in
set_option maxHeartbeats 2000000 in
theorem insured_any (v : Int) : Calls Try.prog 11 #[polV p A n c, .int .i64 v] w fun e w' => e = .returned (.tuple #[.int .i64 (insV p v), .bool (fineB p v)]) ∧ Below w.heap.size w w' := by
  have K0 := Lib.hid (Kp.new w (p.cells A n c))
  have HC := Lib.hid hc
  have HP := Lib.hid hp
  clear hc hp
  have e0 : mayP p = false → insV p v = 0 ∧ fineB p v = false := fun h => by simp [insV, fineB, h]
  have e1 : mayP p = true → inB v 1 1099511627776 = false → insV p v = 0 ∧ fineB p v = false := fun h h' => by simp [insV, fineB, h, h']
  have e2 : mayP p = true → inB v 1 1099511627776 = true → insV p v = insI p v ∧ fineB p v = true := fun h h' => by simp [insV, fineB, h, h']
  generalize hV : insV p v = V at *
  generalize hF : fineB p v = F at *
  have E0 := Lib.hid e0
  have E1 := Lib.hid e1
  have E2 := Lib.hid e2
  clear e0 e1 e2 hV hF
  unfold polV
  unfold Pol.cells at K0 ⊢
  go_enter Try.func11, Try.ntmps11
  go_wp2_with fail
  refine (may_any p HP.out A n c _ (K0.out.csat HC.out)).mono ?_
  rintro e w1 ⟨rfl, hb⟩
  have K1 := Lib.hid (K0.out.step hb)
  obtain ⟨c0, c1, c2, c3, c4, c5, c6, c7, c8⟩ := K1.out.2.nine_
  clear hb
  generalize hm : mayP p = m
  have HM := Lib.hid hm
  clear hm
  cases m
  case false =>
    obtain ⟨rfl, rfl⟩ := E0.out HM.out
    go_wp2_with fail
    go_ret2
    exact ⟨rfl, K1.out.1⟩
  go_wp2_with fail
  refine (within_any v 1 1099511627776 w1).mono ?_
  rintro e w2 ⟨rfl, rfl⟩
  generalize hi : inB v 1 1099511627776 = i
  have HI := Lib.hid hi
  clear hi
  cases i
  case false =>
    obtain ⟨rfl, rfl⟩ := E1.out HM.out HI.out
    go_wp2_with fail
    go_ret2
    exact ⟨rfl, K1.out.1⟩
  obtain ⟨rfl, rfl⟩ := E2.out HM.out HI.out
  by_cases hl : v < p.sum
  · have HV := Lib.hid (show insI p v = v by unfold insI; rw [if_pos hl])
    have hl' : v ≤ p.sum := by omega
    have hmin : min v p.sum = v := by omega
    go_wp2_with fail
    go_ret2
    exact ⟨by rw [HV.out]; rfl, K1.out.1⟩
  · have HV := Lib.hid (show insI p v = p.sum by unfold insI; rw [if_neg hl])
    have hmin : min v p.sum = p.sum := by omega
    go_wp2_with fail
    go_ret2
    exact ⟨by rw [HV.out]; rfl, K1.out.1⟩
set_option maxRecDepth 100000 in
set_option maxHeartbeats 4000000 in
theorem pays_any (loss v : Int) : Calls Try.prog 12 #[polV p A n c, .int .i64 loss, .int .i64 v] w fun e w' => e = .returned (.tuple #[.int .i64 (payV p loss v), .bool (payB p loss v)]) ∧ Below w.heap.size w w' := by
  have K0 := Lib.hid (Kp.new w (p.cells A n c))
  have HC := Lib.hid hc
  have HP := Lib.hid hp
  clear hc hp
  have e0 : fineB p v = false → payV p loss v = 0 ∧ payB p loss v = false := fun h => by simp [payV, payB, h]
  have e1 : inB loss 0 1099511627776 = false → payV p loss v = 0 ∧ payB p loss v = false := fun h' => by simp [payV, payB, h']
  have e2 : fineB p v = true → inB loss 0 1099511627776 = true → payV p loss v = paysI p loss v ∧ payB p loss v = true := fun h h' => by simp [payV, payB, h, h']
  generalize hV : payV p loss v = V at *
  generalize hF : payB p loss v = F at *
  have E0 := Lib.hid e0
  have E1 := Lib.hid e1
  have E2 := Lib.hid e2
  have EI := Lib.hid fun h => insV_yes (p := p) (v := v) h
  clear e0 e1 e2 hV hF
  unfold polV
  unfold Pol.cells at K0 ⊢
  go_enter Try.func12, Try.ntmps12
  go_wp2_with fail
  refine (insured_any p HP.out A n c _ (K0.out.csat HC.out) v).mono ?_
  rintro e w1 ⟨rfl, hb⟩
  have K1 := Lib.hid (K0.out.step hb)
  obtain ⟨c0, c1, c2, c3, c4, c5, c6, c7, c8⟩ := K1.out.2.nine_
  clear hb
  generalize hf : fineB p v = f
  have HF := Lib.hid hf
  clear hf
  cases f
  case false =>
    obtain ⟨rfl, rfl⟩ := E0.out HF.out
    generalize insV p v = iv
    go_wp2_with fail
    go_ret2
    exact ⟨rfl, K1.out.1⟩
  rw [EI.out HF.out]
  obtain ⟨v1, v2, i1, i2, i3, o1, o2, s1, s2⟩ := fine_all HF.out
  clear i2
  generalize hI : insI p v = I at *
  go_wp2_with fail
  refine (within_any loss 0 1099511627776 w1).mono ?_
  rintro e w2 ⟨rfl, rfl⟩
  generalize hi : inB loss 0 1099511627776 = i
  have HI := Lib.hid hi
  clear hi
  cases i
  case false =>
    obtain ⟨rfl, rfl⟩ := E1.out HI.out
    go_wp2_with fail
    go_ret2
    exact ⟨rfl, K1.out.1⟩
  obtain ⟨l0, l1⟩ := inB_of HI.out
  obtain ⟨rfl, rfl⟩ := E2.out HF.out HI.out
  have HII := Lib.hid hI
  clear hI E0 E1 E2 EI
  rcases (show loss ≤ v ∨ v < loss by omega) with hl | hl
  · have HL : Hid (lossI loss v = loss) := by show lossI loss v = loss; unfold lossI; rw [if_pos hl]
    have hmin : min loss v = loss := by omega
    have HD : Hid (∀ w, Calls Try.prog 26 #[.int .i64 loss, .agg #[.int .i64 I, .int .i64 v]] w fun e w' => e = .returned (.tuple #[.int .i64 (loss * I / v), .bool true]) ∧ Below w.heap.size w w') := fun w => of_any loss I v w l0 l1 (by omega) i3 v1 v2
    obtain ⟨d0, d1⟩ := quot_bd l0 (show 0 ≤ I by omega) i3 v1
    obtain ⟨D, eD⟩ : ∃ D, loss * I / v = D := ⟨_, rfl⟩
    rw [eD] at HD d0 d1
    have HDD := Lib.hid eD
    clear eD
    go_wp2_with fail
    refine (HD.out _).mono ?_
    rintro e w3 ⟨rfl, hb⟩
    have K3 := Lib.hid (K1.out.step hb)
    clear c0 c1 c2 c3 c4 c5 c6 c7 c8
    obtain ⟨c0, c1, c2, c3, c4, c5, c6, c7, c8⟩ := K3.out.2.nine_
    clear hb
    rcases (show D ≤ p.own ∨ p.own < D by omega) with ho | ho
    · have hmax : max (D - p.own) 0 = 0 := by omega
      have ho' : D - p.own ≤ 0 := by omega
      have HE : Hid (paysI p loss v = 0) := by show paysI p loss v = 0; unfold paysI; rw [HL.out, HII.out, HDD.out]; exact paid_low ho
      go_wp2_with fail
      go_ret2
      exact ⟨by rw [HE.out]; rfl, K3.out.1⟩
    · have hmax : max (D - p.own) 0 = D - p.own := by omega
      have ho' : 0 ≤ D - p.own := by omega
      obtain ⟨x0, x1⟩ := share_bd ho' (show D - p.own ≤ 1099511627776 by omega) s1 s2
      obtain ⟨X, eX⟩ : ∃ X, (D - p.own) * p.share = X := ⟨_, rfl⟩
      rw [eX] at x0 x1
      have eT : X.tdiv 1000 = X / 1000 := Int.tdiv_eq_ediv_of_nonneg x0
      have HE : Hid (paysI p loss v = X / 1000) := by show paysI p loss v = X / 1000; unfold paysI; rw [HL.out, HII.out, HDD.out, paid_high (by omega), eX]
      go_wp2_with fail
      go_ret2
      exact ⟨by rw [HE.out]; rfl, K3.out.1⟩
  · have HL : Hid (lossI loss v = v) := by show lossI loss v = v; unfold lossI; rw [if_neg (by omega)]
    have hl' : v ≤ loss := by omega
    have hmin : min loss v = v := by omega
    have HD : Hid (∀ w, Calls Try.prog 26 #[.int .i64 v, .agg #[.int .i64 I, .int .i64 v]] w fun e w' => e = .returned (.tuple #[.int .i64 (v * I / v), .bool true]) ∧ Below w.heap.size w w') := fun w => of_any v I v w (by omega) v2 (by omega) i3 v1 v2
    obtain ⟨d0, d1⟩ := quot_bd (show 0 ≤ v by omega) (show 0 ≤ I by omega) i3 v1
    obtain ⟨D, eD⟩ : ∃ D, v * I / v = D := ⟨_, rfl⟩
    rw [eD] at HD d0 d1
    have HDD := Lib.hid eD
    clear eD
    go_wp2_with fail
    refine (HD.out _).mono ?_
    rintro e w3 ⟨rfl, hb⟩
    have K3 := Lib.hid (K1.out.step hb)
    clear c0 c1 c2 c3 c4 c5 c6 c7 c8
    obtain ⟨c0, c1, c2, c3, c4, c5, c6, c7, c8⟩ := K3.out.2.nine_
    clear hb
    rcases (show D ≤ p.own ∨ p.own < D by omega) with ho | ho
    · have hmax : max (D - p.own) 0 = 0 := by omega
      have ho' : D - p.own ≤ 0 := by omega
      have HE : Hid (paysI p loss v = 0) := by show paysI p loss v = 0; unfold paysI; rw [HL.out, HII.out, HDD.out]; exact paid_low ho
      go_wp2_with fail
      go_ret2
      exact ⟨by rw [HE.out]; rfl, K3.out.1⟩
    · have hmax : max (D - p.own) 0 = D - p.own := by omega
      have ho' : 0 ≤ D - p.own := by omega
      obtain ⟨x0, x1⟩ := share_bd ho' (show D - p.own ≤ 1099511627776 by omega) s1 s2
      obtain ⟨X, eX⟩ : ∃ X, (D - p.own) * p.share = X := ⟨_, rfl⟩
      rw [eX] at x0 x1
      have eT : X.tdiv 1000 = X / 1000 := Int.tdiv_eq_ediv_of_nonneg x0
      have HE : Hid (paysI p loss v = X / 1000) := by show paysI p loss v = X / 1000; unfold paysI; rw [HL.out, HII.out, HDD.out, paid_high (by omega), eX]
      go_wp2_with fail
      go_ret2
      exact ⟨by rw [HE.out]; rfl, K3.out.1⟩
end
end Go.Proofs.Ytlmgkkdjjoimnaa
