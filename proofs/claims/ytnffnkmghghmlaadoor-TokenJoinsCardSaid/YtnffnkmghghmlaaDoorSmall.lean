/- The walks of the bool functions of one byte. No condition. -/
import Derived.Test.YtnffnkmghghmlaaDoorLex
import Derived.Test.YtnffnkmghghmlaaDoorRow
namespace Go.Proofs.YtnffnkmghghmlaaDoor
open Go.RowKit
set_option linter.unusedVariables false
set_option linter.unusedSimpArgs false
theorem ret_bool {a b : Bool} (h : b = a) : Ending.returned (.bool a) = .returned (.bool b) := by rw [h]
theorem ret_int {a b : Int} (h : b = a) : Ending.returned (.int .i64 a) = .returned (.int .i64 b) := by rw [h]
def lowI (c : Int) : Bool := decide (97 ≤ c ∧ c ≤ 122)
theorem digit_any (c : Int) (w : World) : Calls Tryd.prog 46 #[.int .u8 c] w fun e w' => e = .returned (.bool (digI c)) ∧ w = w' := by
  go_enter Tryd.func46, Tryd.ntmps46
  go_wp2
  all_goals go_ret
  all_goals refine ⟨ret_bool ?_, rfl⟩
  all_goals first | (simp [digI]; omega) | (rw [Bool.eq_iff_iff]; simp [digI]; omega) | (rw [Bool.eq_iff_iff]; simp [digI]; done) | (simp [digI])
theorem running_any (c : Int) (w : World) : Calls Tryd.prog 34 #[.int .u8 c] w fun e w' => e = .returned (.bool (runI c)) ∧ w = w' := by
  go_enter Tryd.func34, Tryd.ntmps34
  go_wp2
  all_goals go_ret
  all_goals refine ⟨ret_bool ?_, rfl⟩
  all_goals first | (simp [runI]; omega) | (rw [Bool.eq_iff_iff]; simp [runI]; omega) | (rw [Bool.eq_iff_iff]; simp [runI]; done) | (simp [runI])
theorem capital_any (c : Int) (w : World) : Calls Tryd.prog 36 #[.int .u8 c] w fun e w' => e = .returned (.bool (capI c)) ∧ w = w' := by
  go_enter Tryd.func36, Tryd.ntmps36
  go_wp2
  all_goals go_ret
  all_goals refine ⟨ret_bool ?_, rfl⟩
  all_goals first | (simp [capI]; omega) | (rw [Bool.eq_iff_iff]; simp [capI]; omega) | (rw [Bool.eq_iff_iff]; simp [capI]; done) | (simp [capI])
theorem plain_any (c : Int) (w : World) : Calls Tryd.prog 37 #[.int .u8 c] w fun e w' => e = .returned (.bool (plI c)) ∧ w = w' := by
  go_enter Tryd.func37, Tryd.ntmps37
  go_wp2
  all_goals go_ret
  all_goals refine ⟨ret_bool ?_, rfl⟩
  all_goals first | (simp [plI]; omega) | (rw [Bool.eq_iff_iff]; simp [plI]; omega) | (rw [Bool.eq_iff_iff]; simp [plI]; done) | (simp [plI])
theorem blank_any (c : Int) (w : World) : Calls Tryd.prog 24 #[.int .u8 c] w fun e w' => e = .returned (.bool (blI c)) ∧ w = w' := by
  go_enter Tryd.func24, Tryd.ntmps24
  go_wp2
  all_goals go_ret
  all_goals refine ⟨ret_bool ?_, rfl⟩
  all_goals first | (simp [blI]; omega) | (rw [Bool.eq_iff_iff]; simp [blI]; omega) | (rw [Bool.eq_iff_iff]; simp [blI]; done) | (simp [blI])
theorem mlower_any (c : Int) (w : World) : Calls Tryd.prog 57 #[.int .u8 c] w fun e w' => e = .returned (.bool (lowI c)) ∧ w = w' := by
  go_enter Tryd.func57, Tryd.ntmps57
  go_wp2
  all_goals go_ret
  all_goals refine ⟨ret_bool ?_, rfl⟩
  all_goals first | (simp [lowI]; omega) | (rw [Bool.eq_iff_iff]; simp [lowI]; omega) | (rw [Bool.eq_iff_iff]; simp [lowI]; done) | (simp [lowI])
theorem mdigit_any (c : Int) (w : World) : Calls Tryd.prog 58 #[.int .u8 c] w fun e w' => e = .returned (.bool (digI c)) ∧ w = w' := by
  go_enter Tryd.func58, Tryd.ntmps58
  go_wp2
  all_goals go_ret
  all_goals refine ⟨ret_bool ?_, rfl⟩
  all_goals first | (simp [digI]; omega) | (rw [Bool.eq_iff_iff]; simp [digI]; omega) | (rw [Bool.eq_iff_iff]; simp [digI]; done) | (simp [digI])
theorem mname1_any (c : Int) (w : World) : Calls Tryd.prog 56 #[.int .u8 c] w fun e w' => e = .returned (.bool (runI c)) ∧ w = w' := by
  go_enter Tryd.func56, Tryd.ntmps56
  go_wp2
  all_goals go_ret
  all_goals refine ⟨ret_bool ?_, rfl⟩
  all_goals first | (simp [runI]; omega) | (rw [Bool.eq_iff_iff]; simp [runI]; omega) | (rw [Bool.eq_iff_iff]; simp [runI]; done) | (simp [runI])
theorem rletter_any (c : Int) (w : World) : Calls Tryd.prog 28 #[.int .u8 c] w fun e w' => e = .returned (.bool (lowI c)) ∧ w = w' := by
  go_enter Tryd.func28, Tryd.ntmps28
  go_wp2
  all_goals go_ret
  all_goals refine ⟨ret_bool ?_, rfl⟩
  all_goals first | (simp [lowI]; omega) | (rw [Bool.eq_iff_iff]; simp [lowI]; omega) | (rw [Bool.eq_iff_iff]; simp [lowI]; done) | (simp [lowI])
theorem rdigit_any (c : Int) (w : World) : Calls Tryd.prog 29 #[.int .u8 c] w fun e w' => e = .returned (.bool (digI c)) ∧ w = w' := by
  go_enter Tryd.func29, Tryd.ntmps29
  go_wp2
  all_goals go_ret
  all_goals refine ⟨ret_bool ?_, rfl⟩
  all_goals first | (simp [digI]; omega) | (rw [Bool.eq_iff_iff]; simp [digI]; omega) | (rw [Bool.eq_iff_iff]; simp [digI]; done) | (simp [digI])
theorem rrun_any (c : Int) (w : World) : Calls Tryd.prog 39 #[.int .u8 c] w fun e w' => e = .returned (.bool (runI c)) ∧ w = w' := by
  go_enter Tryd.func39, Tryd.ntmps39
  go_wp2
  all_goals go_ret
  all_goals refine ⟨ret_bool ?_, rfl⟩
  all_goals first | (simp [runI]; omega) | (rw [Bool.eq_iff_iff]; simp [runI]; omega) | (rw [Bool.eq_iff_iff]; simp [runI]; done) | (simp [runI])
end Go.Proofs.YtnffnkmghghmlaaDoor
