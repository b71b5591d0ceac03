/- What is insured, and what is paid, plainly. No condition. -/
import Derived.Test.YtlmgkkdjjoimnaaMay
namespace Go.Proofs.Ytlmgkkdjjoimnaa
set_option linter.unusedVariables false

/-- what is insured -/
def insI (p : Pol) (v : Int) : Int := if v < p.sum then v else p.sum
def fineB (p : Pol) (v : Int) : Bool := mayP p && inB v 1 1099511627776
def insV (p : Pol) (v : Int) : Int := if fineB p v then insI p v else 0
def lossI (loss v : Int) : Int := if loss ≤ v then loss else v
def paidI (D own share : Int) : Int := if D - own < 0 then 0 else (D - own) * share / 1000
def paysI (p : Pol) (loss v : Int) : Int := paidI (lossI loss v * insI p v / v) p.own p.share
def payB (p : Pol) (loss v : Int) : Bool := fineB p v && inB loss 0 1099511627776
def payV (p : Pol) (loss v : Int) : Int := if payB p loss v then paysI p loss v else 0
section
variable {p : Pol} {loss v : Int}
theorem insV_yes (h : fineB p v = true) : insV p v = insI p v := by simp [insV, h]
theorem fine_of (h : mayP p = true) (h0 : 1 ≤ v) (h1 : v ≤ 1099511627776) : fineB p v = true := by
  unfold fineB
  rw [h, inB_yes ⟨h0, h1⟩]
  rfl
theorem fine_all (h : fineB p v = true) : 1 ≤ v ∧ v ≤ 1099511627776 ∧ 1 ≤ insI p v ∧ insI p v ≤ p.sum ∧ insI p v ≤ v ∧ 0 ≤ p.own ∧ p.own ≤ 1099511627776 ∧ 1 ≤ p.share ∧ p.share ≤ 1000 := by
  unfold fineB at h
  simp only [Bool.and_eq_true] at h
  obtain ⟨h1, h2⟩ := inB_of h.2
  obtain ⟨_, _, _, _, _, s, o, sh, _⟩ := mayP_all.1 h.1
  unfold insI
  refine ⟨h1, h2, ?_⟩
  split <;> omega
end
theorem quot_bd {l I v : Int} (l0 : 0 ≤ l) (i0 : 0 ≤ I) (iv : I ≤ v) (v1 : 1 ≤ v) : 0 ≤ l * I / v ∧ l * I / v ≤ l := by
  have m0 : 0 ≤ l * I := Int.mul_nonneg l0 i0
  have m1 : l * I ≤ l * v := Int.mul_le_mul_of_nonneg_left iv l0
  refine ⟨Int.ediv_nonneg m0 (by omega), ?_⟩
  have := Int.ediv_le_ediv (show 0 < v by omega) m1
  rw [Int.mul_ediv_cancel _ (by omega)] at this
  exact this
theorem share_bd {x s : Int} (x0 : 0 ≤ x) (x1 : x ≤ 1099511627776) (s0 : 1 ≤ s) (s1 : s ≤ 1000) : 0 ≤ x * s ∧ x * s ≤ 1099511627776000 := by
  refine ⟨Int.mul_nonneg x0 (by omega), ?_⟩
  have h1 : x * s ≤ x * 1000 := Int.mul_le_mul_of_nonneg_left s1 x0
  omega
theorem paid_low {D own share : Int} (h : D ≤ own) : paidI D own share = 0 := by
  unfold paidI
  split
  · rfl
  · rw [show D - own = 0 by omega]
    simp
theorem paid_high {D own share : Int} (h : own ≤ D) : paidI D own share = (D - own) * share / 1000 := by
  unfold paidI
  rw [if_neg (by omega)]
end Go.Proofs.Ytlmgkkdjjoimnaa
