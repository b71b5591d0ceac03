/- PolicyPays's walk. Condition: how the causes lie. -/
import Derived.Test.YtlmgkkdjjoimnaaPays
import Derived.Test.YtlmgkkdjjoimnaaRefPays
import Derived.Test.YtlmgkkdjjoimnaaCovers
namespace Go.Proofs.Ytlmgkkdjjoimnaa
open Go.RowKit
set_option linter.unusedVariables false
set_option linter.unusedSimpArgs false

theorem quot_bd2 {l I v : Int} (l0 : 0 ≤ l) (lv : l ≤ v) (i0 : 0 ≤ I) (v1 : 1 ≤ v) : l * I / v ≤ I := by
  have m1 : l * I ≤ v * I := Int.mul_le_mul_of_nonneg_right lv i0
  have := Int.ediv_le_ediv (show 0 < v by omega) m1
  rw [Int.mul_ediv_cancel_left _ (by omega)] at this
  exact this
theorem paid_bd {D own share : Int} (d0 : 0 ≤ D) (d1 : D ≤ 1099511627776) (o : 0 ≤ own) (s0 : 1 ≤ share) (s1 : share ≤ 1000) : 0 ≤ paidI D own share ∧ paidI D own share ≤ D := by
  rcases (show D ≤ own ∨ own < D by omega) with h | h
  · rw [paid_low h]
    omega
  · rw [paid_high (by omega)]
    obtain ⟨x0, x1⟩ := share_bd (show 0 ≤ D - own by omega) (show D - own ≤ 1099511627776 by omega) s0 s1
    have h1 : (D - own) * share ≤ (D - own) * 1000 := Int.mul_le_mul_of_nonneg_left s1 (by omega)
    omega
theorem pays_bd {p : Pol} {loss v : Int} (hf : fineB p v = true) (l0 : 0 ≤ loss) : 0 ≤ paysI p loss v ∧ paysI p loss v ≤ loss ∧ paysI p loss v ≤ v ∧ paysI p loss v ≤ insI p v := by
  obtain ⟨v1, v2, i1, i2, i3, o1, o2, s1, s2⟩ := fine_all hf
  have hl : 0 ≤ lossI loss v ∧ lossI loss v ≤ loss ∧ lossI loss v ≤ v := by
    unfold lossI
    split <;> omega
  obtain ⟨a, b, c⟩ := hl
  obtain ⟨d0, d1⟩ := quot_bd a (show 0 ≤ insI p v by omega) i3 v1
  have d2 := quot_bd2 a c (show 0 ≤ insI p v by omega) v1
  unfold paysI
  obtain ⟨e0, e1⟩ := paid_bd d0 (by omega) o1 s1 s2
  omega
set_option maxRecDepth 100000 in
set_option maxHeartbeats 8000000 in
theorem paysLaw_any (p : Pol) (hp : p.wf) (A : Option Addr) (n c : Nat) (loss v : Int) (w : World) (hc : Cs w w.heap.size A n p.causes) :
    Calls Try.prog 3 #[polV p A n c, .int .i64 loss, .int .i64 v] w fun e w' => e = .returned (.bool true) ∧ Below w.heap.size w w' := by
  have K := Lib.hid (Kp.new w (p.cells A n c))
  have HC := Lib.hid hc
  have HP := Lib.hid hp
  clear hc hp
  unfold polV Pol.cells at *
  go_enter Try.func3, Try.ntmps3
  go_wp2_with fail
  refine (awake_any _).mono ?_
  rintro e w1 ⟨rfl, hb⟩
  have K1 := Lib.hid (K.out.step hb)
  obtain ⟨c0, c1, c2, c3, c4, c5, c6, c7, c8⟩ := K1.out.2.nine_
  clear hb K
  go_wp2_with fail
  refine (long_any p A n c w1).mono ?_
  rintro e w2 ⟨lg, rfl, hb⟩
  have K2 := Lib.hid (K1.out.step hb)
  clear hb K1 c0 c1 c2 c3 c4 c5 c6 c7 c8
  cases lg
  case true =>
    go_wp2_with fail
    go_ret
    exact ⟨rfl, K2.out.1⟩
  obtain ⟨c0, c1, c2, c3, c4, c5, c6, c7, c8⟩ := K2.out.2.nine_
  go_wp2_with fail
  refine (insured_any p HP.out A n c _ (K2.out.csat HC.out) v).mono ?_
  rintro e w3 ⟨rfl, hb⟩
  have K3 := Lib.hid (K2.out.step hb)
  clear hb K2 c0 c1 c2 c3 c4 c5 c6 c7 c8
  obtain ⟨c0, c1, c2, c3, c4, c5, c6, c7, c8⟩ := K3.out.2.nine_
  go_wp2_with fail
  refine (pays_any p HP.out A n c _ (K3.out.csat HC.out) loss v).mono ?_
  rintro e w4 ⟨rfl, hb⟩
  have K4 := Lib.hid (K3.out.step hb)
  clear hb K3 c0 c1 c2 c3 c4 c5 c6 c7 c8
  obtain ⟨c0, c1, c2, c3, c4, c5, c6, c7, c8⟩ := K4.out.2.nine_
  go_wp2_with fail
  refine (rmay_any p HP.out A n c _ (K4.out.csat HC.out)).mono ?_
  rintro e w5 ⟨rfl, hb⟩
  have K5 := Lib.hid (K4.out.step hb)
  clear hb K4 c0 c1 c2 c3 c4 c5 c6 c7 c8
  obtain ⟨c0, c1, c2, c3, c4, c5, c6, c7, c8⟩ := K5.out.2.nine_
  by_cases hm : mayP p = true
  case neg =>
    have hm' := mayP_not hm
    have f0 : fineB p v = false := by simp [fineB, hm']
    have f1 : insV p v = 0 := by simp [insV, f0]
    have f2 : payB p loss v = false := by simp [payB, f0]
    have f3 : payV p loss v = 0 := by simp [payV, f2]
    rw [f0, f1, f2, f3, hm']
    clear f0 f1 f2 f3 hm' hm
    go_wp2_with fail
    go_ret
    exact ⟨rfl, K5.out.1⟩
  by_cases hv : 1 ≤ v ∧ v ≤ 1099511627776
  case neg =>
    have f0 : fineB p v = false := by simp [fineB, inB_no hv]
    have f1 : insV p v = 0 := by simp [insV, f0]
    have f2 : payB p loss v = false := by simp [payB, f0]
    have f3 : payV p loss v = 0 := by simp [payV, f2]
    rw [f0, f1, f2, f3, hm]
    clear f0 f1 f2 f3 hm
    rcases (show v < 1 ∨ (1 ≤ v ∧ 1099511627776 < v) by omega) with h | ⟨h, h'⟩
    · clear hv
      go_wp2_with fail
      go_ret
      exact ⟨rfl, K5.out.1⟩
    · clear hv
      go_wp2_with fail
      go_ret
      exact ⟨rfl, K5.out.1⟩
  obtain ⟨v0, v1⟩ := hv
  have f0 := fine_of hm v0 v1
  have F0 := Lib.hid f0
  have f1 := insV_yes f0
  by_cases hl : 0 ≤ loss ∧ loss ≤ 1099511627776
  case neg =>
    have f2 : payB p loss v = false := by simp [payB, inB_no hl]
    have f3 : payV p loss v = 0 := by simp [payV, f2]
    rw [f0, f1, f2, f3, hm]
    clear f0 f1 f2 f3 hm
    have HR := Lib.hid fun w => rins_any p A n c w v
    generalize insI p v = I at *
    rcases (show loss < 0 ∨ (0 ≤ loss ∧ 1099511627776 < loss) by omega) with h | ⟨h, h'⟩
    · clear hl
      go_wp2_with fail
      refine (HR.out _).mono ?_
      rintro e w6 ⟨rfl, hb⟩
      have K6 := Lib.hid (K5.out.step hb)
      clear hb
      go_wp2_with fail
      go_ret
      exact ⟨rfl, K6.out.1⟩
    · clear hl
      go_wp2_with fail
      refine (HR.out _).mono ?_
      rintro e w6 ⟨rfl, hb⟩
      have K6 := Lib.hid (K5.out.step hb)
      clear hb
      go_wp2_with fail
      go_ret
      exact ⟨rfl, K6.out.1⟩
  obtain ⟨l0, l1⟩ := hl
  have f2 : payB p loss v = true := by simp [payB, f0, inB_yes ⟨l0, l1⟩]
  have f3 : payV p loss v = paysI p loss v := by simp [payV, f2]
  obtain ⟨b0, b1, b2, b3⟩ := pays_bd f0 l0
  obtain ⟨_, _, _, b4, _⟩ := fine_all f0
  rw [f0, f1, f2, f3, hm]
  clear f0 f1 f2 f3 hm
  have HR := Lib.hid fun w => rins_any p A n c w v
  have HQ := Lib.hid fun w => rpays_any p A n c w loss v F0.out l0 l1
  generalize insI p v = I at *
  generalize paysI p loss v = P at *
  go_wp2_with fail
  refine (HR.out _).mono ?_
  rintro e w6 ⟨rfl, hb⟩
  have K6 := Lib.hid (K5.out.step hb)
  clear hb K5 c0 c1 c2 c3 c4 c5 c6 c7 c8
  obtain ⟨c0, c1, c2, c3, c4, c5, c6, c7, c8⟩ := K6.out.2.nine_
  go_wp2_with fail
  refine (HQ.out _).mono ?_
  rintro e w7 ⟨rfl, hb⟩
  have K7 := Lib.hid (K6.out.step hb)
  clear hb K6 c0 c1 c2 c3 c4 c5 c6 c7 c8
  obtain ⟨c0, c1, c2, c3, c4, c5, c6, c7, c8⟩ := K7.out.2.nine_
  go_wp2_with fail
  go_ret
  exact ⟨rfl, K7.out.1⟩
end Go.Proofs.Ytlmgkkdjjoimnaa
