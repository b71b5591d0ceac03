/- Numbers as texts, plainly: what is above the greatest amount. No condition. -/
import Derived.Test.YtnffnkmghghmlaaDoorRun
namespace Go.Proofs.YtnffnkmghghmlaaDoor
set_option linter.unusedVariables false
set_option linter.unusedSimpArgs false
def dgt (c : UInt8) : Nat := c.toNat - 48
def valH : Bs → Nat
  | [] => 0
  | c :: l => dgt c * 10 ^ l.length + valH l
theorem valH_cons (c : UInt8) (l : Bs) : valH (c :: l) = (c.toNat - 48) * 10 ^ l.length + valH l := rfl
theorem foldl_val (l : Bs) : ∀ n : Nat, l.foldl (fun n c => n * 10 + (c.toNat - 48)) n = n * 10 ^ l.length + valH l := by
  induction l with
  | nil => intro n; simp [valH]
  | cons c l ih =>
    intro n
    rw [List.foldl_cons, ih]
    rw [valH_cons]
    rw [List.length_cons, Nat.pow_succ, Nat.add_mul, Nat.mul_assoc, Nat.mul_comm 10, Nat.add_assoc]
theorem valOf_eq (l : Bs) : valOf l = valH l := by
  unfold valOf
  rw [foldl_val]
  simp
def isDig (l : Bs) : Prop := ∀ c ∈ l, 48 ≤ c.toNat ∧ c.toNat ≤ 57
theorem valH_lt {l : Bs} (h : isDig l) : valH l < 10 ^ l.length := by
  induction l with
  | nil => simp [valH]
  | cons c l ih =>
    have h1 := ih fun d hd => h d (by simp [hd])
    have h2 := h c (by simp)
    rw [valH_cons]
    rw [List.length_cons, Nat.pow_succ]
    have h3 : (c.toNat - 48) * 10 ^ l.length ≤ 9 * 10 ^ l.length := Nat.mul_le_mul_right _ (by omega)
    omega
theorem less_val : ∀ a b : Bs, a.length = b.length → isDig a → isDig b → Op.bytesLess a b = decide (valH a < valH b)
  | [], [], _, _, _ => by simp [Op.bytesLess, valH]
  | [], b :: l, h, _, _ => by simp at h
  | a :: l, [], h, _, _ => by simp at h
  | a :: x, b :: y, h, ha, hb => by
    have hl : x.length = y.length := by simpa using h
    have h1 := valH_lt (l := x) fun d hd => ha d (by simp [hd])
    have h2 := valH_lt (l := y) fun d hd => hb d (by simp [hd])
    have a1 := ha a (by simp)
    have b1 := hb b (by simp)
    have ih := less_val x y hl (fun d hd => ha d (by simp [hd])) fun d hd => hb d (by simp [hd])
    unfold Op.bytesLess
    rw [ih]
    rw [valH_cons, valH_cons]
    rw [hl] at h1 ⊢
    generalize 10 ^ y.length = P at *
    rcases Nat.lt_trichotomy a.toNat b.toNat with h | h | h
    · have e : decide (a < b) = true := by simpa [UInt8.lt_iff_toNat_lt] using h
      rw [e]
      have h3 : (a.toNat - 48) * P + P ≤ (b.toNat - 48) * P := by
        rw [← Nat.succ_mul]
        exact Nat.mul_le_mul_right _ (by omega)
      simp
      omega
    · have e : a = b := UInt8.toNat_inj.1 h
      subst e
      have e2 : decide (a < a) = false := by simp
      rw [e2]
      simp
    · have e : decide (a < b) = false := by simpa [UInt8.lt_iff_toNat_lt] using Nat.le_of_lt h
      have e2 : (a == b) = false := by
        simp
        rintro rfl
        omega
      rw [e, e2]
      have h3 : (b.toNat - 48) * P + P ≤ (a.toNat - 48) * P := by
        rw [← Nat.succ_mul]
        exact Nat.mul_le_mul_right _ (by omega)
      simp
      omega
def most : Bs := [49, 48, 57, 57, 53, 49, 49, 54, 50, 55, 55, 55, 54]
def aboveL (l : Bs) : Bool := decide (13 < l.length) || (decide (l.length = 13) && Op.bytesLess most l)
theorem above_eq {l : Bs} (h : isDig l) (h0 : ¬ (1 < l.length ∧ l.head? = some 48)) : aboveL l = decide (1099511627776 < valOf l) := by
  rw [valOf_eq]
  unfold aboveL
  rcases Nat.lt_trichotomy l.length 13 with h1 | h1 | h1
  · have h2 := valH_lt h
    have h3 : (10 : Nat) ^ l.length ≤ 10 ^ 12 := Nat.pow_le_pow_right (by omega) (by omega)
    rw [decide_eq_false (p := 13 < l.length) (by omega), decide_eq_false (p := l.length = 13) (by omega)]
    simp
    omega
  · rw [decide_eq_false (p := 13 < l.length) (by omega), decide_eq_true (p := l.length = 13) h1, less_val most l (by rw [h1]; rfl) (by unfold isDig; decide) h]
    have : valH most = 1099511627776 := by decide
    rw [this]
    rfl
  · rw [decide_eq_true (p := 13 < l.length) h1]
    cases l with
    | nil => simp at h1
    | cons c l =>
      have hc : c.toNat ≠ 48 := fun e => h0 ⟨by simp at h1 ⊢; omega, by simp; exact UInt8.toNat_inj.1 (by rw [e]; rfl)⟩
      have h2 := h c (by simp)
      have h3 : (10 : Nat) ^ 13 ≤ 10 ^ l.length := Nat.pow_le_pow_right (by omega) (by simp at h1; omega)
      have h4 : 1 * 10 ^ l.length ≤ (c.toNat - 48) * 10 ^ l.length := Nat.mul_le_mul_right _ (by omega)
      rw [valH_cons]
      simp
      omega
theorem dig_of {l : Bs} (h : spanN digI l = l.length) : isDig l := by
  intro c hc
  obtain ⟨i, hi⟩ := List.mem_iff_getElem?.1 hc
  have := spanN_get l i c (by rw [h]; exact (List.getElem?_eq_some_iff.1 hi).1) hi
  simp [on, digI] at this
  omega
theorem amt_above {l : Bs} (h : spanN digI l = l.length) : amtC l = if 1 < l.length ∧ l.head? = some 48 then 2 else if aboveL l = true then 3 else 0 := by
  unfold amtC
  by_cases h0 : 1 < l.length ∧ l.head? = some 48
  · rw [if_pos h0, if_pos h0]
  · rw [if_neg h0, if_neg h0, above_eq (dig_of h) h0]
    simp
end Go.Proofs.YtnffnkmghghmlaaDoor
