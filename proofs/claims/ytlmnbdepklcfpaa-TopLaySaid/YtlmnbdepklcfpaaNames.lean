/- The walks of names: the program's, the document's. No condition. -/
import Derived.Test.YtlmnbdepklcfpaaView
import Derived.Test.YtlmnbdepklcfpaaRow
namespace Go.Proofs.Ytlmnbdepklcfpaa
open Go.RowKit
set_option linter.unusedVariables false
set_option linter.unusedSimpArgs false

theorem ret_bool {a b : Bool} (h : b = a) : Ending.returned (.bool a) = .returned (.bool b) := by rw [h]
def okB (c : Int) : Bool := decide (97 ≤ c ∧ c ≤ 122) || decide (48 ≤ c ∧ c ≤ 57) || decide (c = 45)
def nameB (s : ByteArray) : Bool := decide (1 ≤ s.size) && decide (s.size ≤ 16) && s.data.toList.all fun c => okB c.toNat
theorem okB_yes {c : Int} (h : (97 ≤ c ∧ c ≤ 122) ∨ (48 ≤ c ∧ c ≤ 57) ∨ c = 45) : okB c = true := by unfold okB; simp; omega
theorem okB_no {c : Int} (h : ¬ ((97 ≤ c ∧ c ≤ 122) ∨ (48 ≤ c ∧ c ≤ 57) ∨ c = 45)) : okB c = false := by unfold okB; simp; omega
theorem name_of {s : ByteArray} (h1 : 1 ≤ s.size) (h2 : s.size ≤ 16) (h : ∀ j (hj : j < s.size), okB s[j].toNat = true) : nameB s = true := by
  unfold nameB
  simp only [Bool.and_eq_true, decide_eq_true_eq, List.all_eq_true]
  refine ⟨⟨h1, h2⟩, fun c hc => ?_⟩
  obtain ⟨j, hj, rfl⟩ := List.mem_iff_getElem.1 hc
  exact h j (by simpa using hj)
theorem name_bad {s : ByteArray} {j : Nat} (hj : j < s.size) (h : okB s[j].toNat = false) : nameB s = false := by
  unfold nameB
  simp only [Bool.and_eq_false_iff]
  right
  rw [List.all_eq_false]
  refine ⟨s[j], ?_, by simp [h]⟩
  exact List.mem_iff_getElem.2 ⟨j, by simpa using hj, rfl⟩
theorem name_size {s : ByteArray} (h : s.size < 1 ∨ 16 < s.size) : nameB s = false := by
  unfold nameB
  rcases h with h | h
  · rw [show decide (1 ≤ s.size) = false from decide_eq_false (by omega)]
    rfl
  · rw [show decide (s.size ≤ 16) = false from decide_eq_false (by omega)]
    simp
theorem lower_any (c : Int) (w : World) : Calls Try.prog 65 #[.int .u8 c] w fun e w' => e = .returned (.bool (decide (97 ≤ c ∧ c ≤ 122))) ∧ w = w' := by
  by_cases h0 : 97 ≤ c
  · by_cases h1 : c ≤ 122
    · have e : decide (97 ≤ c ∧ c ≤ 122) = true := by simp; omega
      rw [e]
      clear e
      go_enter Try.func65, Try.ntmps65
      go_wp2
      go_ret
      exact ⟨rfl, rfl⟩
    · have e : decide (97 ≤ c ∧ c ≤ 122) = false := by simp; omega
      have h1' : 122 < c := by omega
      rw [e]
      clear e
      go_enter Try.func65, Try.ntmps65
      go_wp2
      go_ret
      exact ⟨rfl, rfl⟩
  · have e : decide (97 ≤ c ∧ c ≤ 122) = false := by simp; omega
    have h0' : c < 97 := by omega
    rw [e]
    clear e
    go_enter Try.func65, Try.ntmps65
    go_wp2
    go_ret
    exact ⟨rfl, rfl⟩
theorem digit_any (c : Int) (w : World) : Calls Try.prog 66 #[.int .u8 c] w fun e w' => e = .returned (.bool (decide (48 ≤ c ∧ c ≤ 57))) ∧ w = w' := by
  by_cases h0 : 48 ≤ c
  · by_cases h1 : c ≤ 57
    · have e : decide (48 ≤ c ∧ c ≤ 57) = true := by simp; omega
      rw [e]
      clear e
      go_enter Try.func66, Try.ntmps66
      go_wp2
      go_ret
      exact ⟨rfl, rfl⟩
    · have e : decide (48 ≤ c ∧ c ≤ 57) = false := by simp; omega
      have h1' : 57 < c := by omega
      rw [e]
      clear e
      go_enter Try.func66, Try.ntmps66
      go_wp2
      go_ret
      exact ⟨rfl, rfl⟩
  · have e : decide (48 ≤ c ∧ c ≤ 57) = false := by simp; omega
    have h0' : c < 48 := by omega
    rw [e]
    clear e
    go_enter Try.func66, Try.ntmps66
    go_wp2
    go_ret
    exact ⟨rfl, rfl⟩
theorem okc_any (c : Int) (w : World) : Calls Try.prog 64 #[.int .u8 c] w fun e w' => e = .returned (.bool (okB c)) ∧ w = w' := by
  by_cases h1 : 97 ≤ c ∧ c ≤ 122
  · have HD := Lib.hid (show decide (97 ≤ c ∧ c ≤ 122) = true by simpa using h1)
    rw [okB_yes (.inl h1)]
    clear h1
    go_enter Try.func64, Try.ntmps64
    go_wp2_with fail
    refine (lower_any c w).mono ?_
    rintro e w' ⟨rfl, rfl⟩
    rw [HD.out]
    go_wp2
    go_ret
    exact ⟨rfl, rfl⟩
  · have HD := Lib.hid (show decide (97 ≤ c ∧ c ≤ 122) = false by simpa using h1)
    by_cases h2 : 48 ≤ c ∧ c ≤ 57
    · have HE := Lib.hid (show decide (48 ≤ c ∧ c ≤ 57) = true by simpa using h2)
      rw [okB_yes (.inr (.inl h2))]
      clear h1 h2
      go_enter Try.func64, Try.ntmps64
      go_wp2_with fail
      refine (lower_any c w).mono ?_
      rintro e w' ⟨rfl, rfl⟩
      rw [HD.out]
      go_wp2_with fail
      refine (digit_any c w).mono ?_
      rintro e w' ⟨rfl, rfl⟩
      rw [HE.out]
      go_wp2
      go_ret
      exact ⟨rfl, rfl⟩
    · have HE := Lib.hid (show decide (48 ≤ c ∧ c ≤ 57) = false by simpa using h2)
      have hk : okB c = (c == 45) := by
        unfold okB
        rw [HD.out, HE.out]
        simp only [Bool.false_or]
        rw [Bool.eq_iff_iff]
        simp
      rw [hk]
      clear h1 h2 hk
      go_enter Try.func64, Try.ntmps64
      go_wp2_with fail
      refine (lower_any c w).mono ?_
      rintro e w' ⟨rfl, rfl⟩
      rw [HD.out]
      go_wp2_with fail
      refine (digit_any c w).mono ?_
      rintro e w' ⟨rfl, rfl⟩
      rw [HE.out]
      go_wp2
      go_ret
      exact ⟨rfl, rfl⟩
def AllTo (s : ByteArray) (k : Nat) : Prop := ∀ j (hj : j < s.size), j < k → okB s[j].toNat = true
theorem AllTo.next {s : ByteArray} {k : Nat} (h : AllTo s k) (hk : k < s.size) (hb : okB s[k].toNat = true) : AllTo s (k + 1) := fun j hj hlt => by
  rcases Nat.lt_or_ge j k with h' | h'
  · exact h j hj h'
  · obtain rfl : j = k := by omega
    exact hb
set_option maxRecDepth 100000 in
set_option maxHeartbeats 1000000 in
theorem mall_any (s : ByteArray) (w : World) (hs : s.size ≤ maxLen) : Calls Try.prog 63 #[.string s, .func (.func 64) #[] #[]] w fun e w' => (∃ b, e = .returned (.bool b) ∧ (b = true → AllTo s s.size) ∧ (b = false → ∃ j, ∃ hj : j < s.size, okB s[j].toNat = false)) ∧ w = w' := by
  unfold maxLen at hs
  go_enter Try.func63, Try.ntmps63
  go_wp2_with fail
  go_loopw [5, 8] (fun _ i v => ∃ k : Nat, k ≤ s.size ∧ i = .int .i64 k ∧ Hid (AllTo s k) ∧ w = v) (fun _ i _ => s.size - (intOf i).toNat)
  case atStart => exact ⟨0, Nat.zero_le _, rfl, fun j _ h => by omega, rfl⟩
  case round =>
    obtain ⟨k, hk, rfl, ha, rfl⟩ := hrel
    by_cases hlt : k < s.size
    · cases hb : okB s[k].toNat
      · have HB := Lib.hid hb
        clear hb
        go_wp2_with fail
        refine (okc_any _ w).mono ?_
        rintro e w' ⟨rfl, rfl⟩
        rw [HB.out]
        go_wp2_with fail
        go_ret
        exact ⟨⟨false, rfl, by simp, fun _ => ⟨k, hlt, HB.out⟩⟩, rfl⟩
      · have HB := Lib.hid hb
        clear hb
        go_wp2_with fail
        refine (okc_any _ w).mono ?_
        rintro e w' ⟨rfl, rfl⟩
        rw [HB.out]
        go_wp2_with fail
        go_roundw
        case rel => exact ⟨k + 1, by omega, by go_num, ha.out.next hlt HB.out, trivial⟩
        case measure => simp [intOf]; omega
    · obtain rfl : k = s.size := by omega
      go_wp2_with fail
      go_ret
      exact ⟨⟨true, rfl, fun _ => ha.out, by simp⟩, rfl⟩
set_option maxHeartbeats 1000000 in
theorem name_any (s : ByteArray) (w : World) (hs : s.size ≤ maxLen) : Calls Try.prog 50 #[.string s] w fun e w' => e = .returned (.bool (nameB s)) ∧ w = w' := by
  by_cases h1 : s.size < 1
  · rw [name_size (.inl h1)]
    have h1' : (s.size : Int) < 1 := by omega
    go_enter Try.func50, Try.ntmps50
    go_wp2_with fail
    go_ret
    exact ⟨rfl, rfl⟩
  · by_cases h2 : 16 < s.size
    · rw [name_size (.inr h2)]
      have h1' : (1 : Int) ≤ s.size := by omega
      have h2' : (16 : Int) < s.size := by omega
      go_enter Try.func50, Try.ntmps50
      go_wp2_with fail
      go_ret
      exact ⟨rfl, rfl⟩
    · have h1' : (1 : Int) ≤ s.size := by omega
      have h2' : (s.size : Int) ≤ 16 := by omega
      have n1 : 1 ≤ s.size := by omega
      have n2 : s.size ≤ 16 := by omega
      clear h1 h2
      go_enter Try.func50, Try.ntmps50
      go_wp2_with fail
      refine (mall_any s w hs).mono ?_
      rintro e w' ⟨⟨b, rfl, hy, hn⟩, rfl⟩
      have HN : Hid (nameB s = b) := by
        show nameB s = b
        cases b
        · obtain ⟨j, hj, h⟩ := hn rfl
          exact name_bad hj h
        · exact name_of n1 n2 fun j hj => hy rfl j hj hj
      clear hy hn
      go_wp2_with fail
      go_ret
      exact ⟨ret_bool HN.out, rfl⟩
end Go.Proofs.Ytlmnbdepklcfpaa
