/- slices.SortFunc of one debt. No condition. -/
import Derived.Test.YtlmnbdepklcfpaaShelf
import Derived.Test.YtlmnbdepklcfpaaRow
namespace Go.Proofs.Ytlmnbdepklcfpaa
open Go.RowKit
set_option linter.unusedVariables false
set_option linter.unusedSimpArgs false
set_option maxRecDepth 100000 in
set_option maxHeartbeats 2000000 in
theorem insort_one (A : Option Addr) (c : Nat) (f : Value) (w : World) : Calls Try.prog 52 #[.slice A 1 c, .int .i64 0, .int .i64 1, f] w fun e w' => e = .returned (.tuple #[]) ∧ w = w' := by
  go_enter Try.func52, Try.ntmps52
  go_wp2_with fail
  refine wp_loop_rounds 1 ?_
  rw [rounds_succ]
  go_wp2
  go_end0
  exact ⟨rfl, rfl⟩
set_option maxRecDepth 100000 in
set_option maxHeartbeats 2000000 in
theorem pdq_one (A : Option Addr) (c : Nat) (f : Value) (l : Int) (w : World) : Calls Try.prog 46 #[.slice A 1 c, .int .i64 0, .int .i64 1, .int .i64 l, f] w fun e w' => e = .returned (.tuple #[]) ∧ w = w' := by
  go_enter Try.func46, Try.ntmps46
  go_wp2_with fail
  refine wp_loop_rounds 1 ?_
  rw [rounds_succ]
  go_wp2_with fail
  refine (insort_one A c f _).mono ?_
  rintro e w2 ⟨rfl, rfl⟩
  go_wp2
  exact bodyPost_ret (results_none (by rfl) _ _ _) rfl ⟨rfl, rfl⟩
theorem sort_one (A : Option Addr) (c : Nat) (f : Value) (w : World) : Calls Try.prog 39 #[.slice A 1 c, f] w fun e w' => e = .returned (.tuple #[]) ∧ w = w' := by
  go_enter Try.func39, Try.ntmps39
  go_wp2_with fail
  refine (Try.bits_Len 1 _ (by omega) (by omega)).mono ?_
  rintro e w2 ⟨rfl, rfl⟩
  go_wp2_with fail
  refine (pdq_one A c f _ _).mono ?_
  rintro e w2 ⟨rfl, rfl⟩
  go_wp2
  go_end0
  exact ⟨rfl, rfl⟩
end Go.Proofs.Ytlmnbdepklcfpaa
