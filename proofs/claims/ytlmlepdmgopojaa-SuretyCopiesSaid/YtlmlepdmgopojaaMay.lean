/- The walks of the two Mays. Condition: the sizes of the texts. -/
import Derived.Test.YtlmlepdmgopojaaNames
import Derived.Test.YtlmlepdmgopojaaPlain
namespace Go.Proofs.Ytlmlepdmgopojaa
open Go.RowKit
set_option linter.unusedVariables false
set_option linter.unusedSimpArgs false

def Bnd.cells (b : Bnd) : Array Value := #[.string b.num, .string b.gua, .string b.for_, .string b.to_, .string b.cur, .int .i64 b.amt, .int .i64 b.exp]
def Bnd.wf (b : Bnd) : Prop := b.num.size ≤ maxLen ∧ b.gua.size ≤ maxLen ∧ b.for_.size ≤ maxLen ∧ b.to_.size ≤ maxLen ∧ b.cur.size ≤ maxLen
def bndV (b : Bnd) : Value := .agg b.cells
def capB (c : Int) : Bool := decide (65 ≤ c ∧ c ≤ 90)
def curB (s : ByteArray) : Bool := decide (s.size = 3) && s.data.toList.all fun c => capB c.toNat
def mayS (b : Bnd) : Bool := nameB b.num && nameB b.gua && nameB b.for_ && nameB b.to_ && !eqS b.gua b.for_ && !eqS b.gua b.to_ && !eqS b.for_ b.to_ && curB b.cur && decide (1 ≤ b.amt ∧ b.amt ≤ 1099511627776) && decide (0 ≤ b.exp ∧ b.exp ≤ 1048576)
theorem mayS_all {b : Bnd} : mayS b = true ↔ nameB b.num = true ∧ nameB b.gua = true ∧ nameB b.for_ = true ∧ nameB b.to_ = true ∧ eqS b.gua b.for_ = false ∧ eqS b.gua b.to_ = false ∧ eqS b.for_ b.to_ = false ∧ curB b.cur = true ∧ (1 ≤ b.amt ∧ b.amt ≤ 1099511627776) ∧ (0 ≤ b.exp ∧ b.exp ≤ 1048576) := by
  unfold mayS
  simp only [Bool.and_eq_true, decide_eq_true_eq, and_assoc, Bool.not_eq_true']
theorem mayS_not {b : Bnd} (h : ¬ mayS b = true) : mayS b = false := by simpa using h
theorem curB_of {s : ByteArray} (h1 : s.size = 3) (h : ∀ j (hj : j < s.size), capB s[j].toNat = true) : curB s = true := by
  unfold curB
  simp only [Bool.and_eq_true, decide_eq_true_eq, List.all_eq_true]
  refine ⟨h1, fun c hc => ?_⟩
  obtain ⟨j, hj, rfl⟩ := List.mem_iff_getElem.1 hc
  exact h j (by simpa using hj)
theorem curB_bad {s : ByteArray} {j : Nat} (hj : j < s.size) (h : capB s[j].toNat = false) : curB s = false := by
  unfold curB
  simp only [Bool.and_eq_false_iff]
  right
  rw [List.all_eq_false]
  refine ⟨s[j], ?_, by simp [h]⟩
  exact List.mem_iff_getElem.2 ⟨j, by simpa using hj, rfl⟩
theorem curB_size {s : ByteArray} (h : s.size ≠ 3) : curB s = false := by unfold curB; simp [h]
def CapTo (s : ByteArray) (k : Nat) : Prop := ∀ j (hj : j < s.size), j < k → capB s[j].toNat = true
theorem CapTo.next {s : ByteArray} {k : Nat} (h : CapTo s k) (hk : k < s.size) (hb : capB s[k].toNat = true) : CapTo s (k + 1) := fun j hj hlt => by
  rcases Nat.lt_or_ge j k with h' | h'
  · exact h j hj h'
  · obtain rfl : j = k := by omega
    exact hb
theorem amount_any (c : Int) (w : World) : Calls Try.prog 26 #[.int .i64 c] w fun e w' => e = .returned (.bool (decide (1 ≤ c ∧ c ≤ 1099511627776))) ∧ w = w' := by
  by_cases h0 : 1 ≤ c
  · by_cases h1 : c ≤ 1099511627776
    · rw [show decide (1 ≤ c ∧ c ≤ 1099511627776) = true by simp; omega]
      go_enter Try.func26, Try.ntmps26
      go_wp2
      go_ret
      exact ⟨rfl, rfl⟩
    · rw [show decide (1 ≤ c ∧ c ≤ 1099511627776) = false by simp; omega]
      have h1' : 1099511627776 < c := by omega
      go_enter Try.func26, Try.ntmps26
      go_wp2
      go_ret
      exact ⟨rfl, rfl⟩
  · rw [show decide (1 ≤ c ∧ c ≤ 1099511627776) = false by simp; omega]
    have h0' : c < 1 := by omega
    go_enter Try.func26, Try.ntmps26
    go_wp2
    go_ret
    exact ⟨rfl, rfl⟩
theorem day_any (c : Int) (w : World) : Calls Try.prog 27 #[.int .i64 c] w fun e w' => e = .returned (.bool (decide (0 ≤ c ∧ c ≤ 1048576))) ∧ w = w' := by
  by_cases h0 : 0 ≤ c
  · by_cases h1 : c ≤ 1048576
    · rw [show decide (0 ≤ c ∧ c ≤ 1048576) = true by simp; omega]
      go_enter Try.func27, Try.ntmps27
      go_wp2
      go_ret
      exact ⟨rfl, rfl⟩
    · rw [show decide (0 ≤ c ∧ c ≤ 1048576) = false by simp; omega]
      have h1' : 1048576 < c := by omega
      go_enter Try.func27, Try.ntmps27
      go_wp2
      go_ret
      exact ⟨rfl, rfl⟩
  · rw [show decide (0 ≤ c ∧ c ≤ 1048576) = false by simp; omega]
    have h0' : c < 0 := by omega
    go_enter Try.func27, Try.ntmps27
    go_wp2
    go_ret
    exact ⟨rfl, rfl⟩
set_option maxRecDepth 100000 in
set_option maxHeartbeats 2000000 in
theorem currency_any (s : ByteArray) (w : World) (hs : s.size ≤ maxLen) : Calls Try.prog 25 #[.string s] w fun e w' => e = .returned (.bool (curB s)) ∧ w = w' := by
  unfold maxLen at hs
  go_enter Try.func25, Try.ntmps25
  go_wp2_with fail
  go_loopw [3, 6] (fun _ i v => ∃ k : Nat, k ≤ s.size ∧ i = .int .i64 k ∧ Hid (CapTo s k) ∧ w = v) (fun _ i _ => s.size - (intOf i).toNat)
  case atStart => exact ⟨0, Nat.zero_le _, rfl, fun j _ h => by omega, rfl⟩
  case round =>
    obtain ⟨k, hk, rfl, ha, rfl⟩ := hrel
    by_cases hlt : k < s.size
    · have HA := ha
      obtain ⟨c, hc⟩ : ∃ c : Int, c = s[k].toNat := ⟨_, rfl⟩
      have yes : capB c = true → Hid (CapTo s (k + 1)) := fun h => HA.out.next hlt (by rw [← hc]; exact h)
      have no : capB c = false → Hid (curB s = false) := fun h => curB_bad hlt (by rw [← hc]; exact h)
      rcases (show (65 ≤ c ∧ c ≤ 90) ∨ c < 65 ∨ 90 < c by omega) with g | g | g
      · have HY := yes (by unfold capB; simpa using g)
        rw [hc] at g
        obtain ⟨g1, g2⟩ := g
        clear yes no hc
        go_wp2_with fail
        go_roundw
        case rel => exact ⟨k + 1, by omega, by go_num, HY, trivial⟩
        case measure => simp [intOf]; omega
      · have HY := no (by unfold capB; simp; omega)
        rw [hc] at g
        clear yes no hc
        go_wp2_with fail
        all_goals first | (go_ret; exact ⟨ret_bool HY.out, rfl⟩) | (exfalso; rename_i hq; simp at hq; omega)
      · have HY := no (by unfold capB; simp; omega)
        rw [hc] at g
        have g2 : (65 : Int) ≤ s[k].toNat := by omega
        clear yes no hc
        go_wp2_with fail
        all_goals first | (go_ret; exact ⟨ret_bool HY.out, rfl⟩) | (exfalso; rename_i hq; simp at hq; omega)
    · obtain rfl : k = s.size := by omega
      by_cases h3 : s.size = 3
      · have HY := Lib.hid (curB_of h3 fun j hj => ha.out j hj hj)
        go_wp2_with fail
        go_ret
        exact ⟨ret_bool (HY.out.trans (by simp [h3])), rfl⟩
      · have HY := Lib.hid (curB_size h3)
        have h3' : ((s.size : Int) == 3) = false := by simp; omega
        go_wp2_with fail
        go_ret
        first | exact ⟨ret_bool (HY.out.trans h3'.symm), rfl⟩ | exact ⟨ret_bool HY.out, rfl⟩
end Go.Proofs.Ytlmlepdmgopojaa
