/- More is no less, and two shares, plainly. No condition. -/
import Derived.Test.YtlmgkkdjjoimnaaPayPlain
namespace Go.Proofs.Ytlmgkkdjjoimnaa
set_option linter.unusedVariables false

def Pol.with2 (p : Pol) (o s : Int) : Pol := ⟨p.ins, p.fr, p.to_, p.sum, o, p.causes, p.first, p.last, s⟩
theorem may_with {p : Pol} {o s : Int} (h : mayP p = true) (ho : 0 ≤ o ∧ o ≤ p.sum) (hs : 1 ≤ s ∧ s ≤ 1000) : mayP (p.with2 o s) = true := by
  obtain ⟨h1, h2, h3, h4, h5, h6, h7, h8, h9⟩ := mayP_all.1 h
  exact mayP_all.2 ⟨h1, h2, h3, h4, h5, h6, ho, hs, h9⟩
theorem pay_ok {p : Pol} {loss v : Int} (hm : mayP p = true) (v0 : 1 ≤ v) (v1 : v ≤ 1099511627776) (l0 : 0 ≤ loss) (l1 : loss ≤ 1099511627776) : payB p loss v = true ∧ payV p loss v = paysI p loss v := by
  have f := fine_of hm v0 v1
  have h : payB p loss v = true := by
    unfold payB
    rw [f, inB_yes ⟨l0, l1⟩]
    rfl
  refine ⟨h, ?_⟩
  unfold payV
  rw [if_pos h]
theorem paid_mono {D D' o o' s : Int} (h : D - o ≤ D' - o') (s0 : 0 ≤ s) : paidI D o s ≤ paidI D' o' s := by
  unfold paidI
  split
  · split
    · omega
    · exact Int.ediv_nonneg (Int.mul_nonneg (by omega) s0) (by omega)
  · rw [if_neg (by omega)]
    exact Int.ediv_le_ediv (by omega) (Int.mul_le_mul_of_nonneg_right h s0)
theorem more_up {p : Pol} {loss more v : Int} (hm : mayP p = true) (v0 : 1 ≤ v) (l0 : 0 ≤ loss) (m0 : 0 ≤ more) : paysI p loss v ≤ paysI p (loss + more) v := by
  obtain ⟨_, _, _, _, _, s, o, sh, _⟩ := mayP_all.1 hm
  have hl : lossI loss v ≤ lossI (loss + more) v := by
    unfold lossI
    split <;> split <;> omega
  have hI : 0 ≤ insI p v := by
    unfold insI
    split <;> omega
  unfold paysI
  have := Int.ediv_le_ediv (show 0 < v by omega) (Int.mul_le_mul_of_nonneg_right hl hI)
  exact paid_mono (by omega) (by omega)
theorem own_down {p : Pol} {loss v own : Int} (hm : mayP p = true) (o0 : 0 ≤ own) : paysI (p.with2 (p.own + own) p.share) loss v ≤ paysI p loss v := by
  obtain ⟨_, _, _, _, _, s, o, sh, _⟩ := mayP_all.1 hm
  unfold paysI
  exact paid_mono (by show lossI loss v * insI p v / v - (p.own + own) ≤ _; omega) (by show 0 ≤ p.share; omega)
theorem whole_pays {p : Pol} {loss v : Int} (hv : v ≤ p.sum) (v0 : 1 ≤ v) (l0 : 0 ≤ loss) : paysI (p.with2 0 1000) loss v = lossI loss v := by
  have hI : insI (p.with2 0 1000) v = v := by
    show insI p v = v
    unfold insI
    split <;> omega
  have hl : 0 ≤ lossI loss v := by
    unfold lossI
    split <;> omega
  unfold paysI
  rw [hI, Int.mul_ediv_cancel _ (by omega), paid_high (by show (0 : Int) ≤ _; exact hl)]
  show (lossI loss v - 0) * 1000 / 1000 = lossI loss v
  omega
theorem may_eq {p : Pol} {s t : Int} (hs : 1 ≤ s ∧ s ≤ 1000) (ht : 1 ≤ t ∧ t ≤ 1000) : mayP (p.with2 p.own s) = mayP (p.with2 p.own t) := by
  unfold mayP
  show (_ && inB s 1 1000 && _ && _ && _) = (_ && inB t 1 1000 && _ && _ && _)
  rw [inB_yes hs, inB_yes ht]
  rfl
theorem two_shares {p : Pol} {loss v s : Int} (h0 : 1 ≤ s) (h1 : s ≤ 999) : paysI (p.with2 p.own s) loss v + paysI (p.with2 p.own (1000 - s)) loss v ≤ paysI (p.with2 p.own 1000) loss v ∧ paysI (p.with2 p.own 1000) loss v - 1 ≤ paysI (p.with2 p.own s) loss v + paysI (p.with2 p.own (1000 - s)) loss v := by
  unfold paysI
  show paidI (lossI loss v * insI p v / v) p.own s + paidI (lossI loss v * insI p v / v) p.own (1000 - s) ≤ paidI (lossI loss v * insI p v / v) p.own 1000 ∧ paidI (lossI loss v * insI p v / v) p.own 1000 - 1 ≤ paidI (lossI loss v * insI p v / v) p.own s + paidI (lossI loss v * insI p v / v) p.own (1000 - s)
  generalize lossI loss v * insI p v / v = D
  unfold paidI
  split
  · omega
  · rw [Int.mul_sub]
    generalize (D - p.own) * s = X
    omega
end Go.Proofs.Ytlmgkkdjjoimnaa
