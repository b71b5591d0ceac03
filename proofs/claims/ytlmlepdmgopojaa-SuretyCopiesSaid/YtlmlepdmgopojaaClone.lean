/- slices.Clone of the draws and of the demands. Condition: how the slice lies. -/
import Derived.Lib.SliceRun
import Derived.Test.YtlmlepdmgopojaaSmall
import Derived.Test.YtlmlepdmgopojaaDemand
import Derived.Test.YtlmlepdmgopojaaReduce
namespace Go.Proofs.Ytlmlepdmgopojaa
open Go.RowKit
set_option linter.unusedVariables false
set_option linter.unusedSimpArgs false
theorem eqnil46 (w : World) (a : Option Addr) (n c : Nat) : (binOp .eql 32 (.slice a n c) (.slice none 0 0)).run Try.prog w = .ok (.bool a.isNone) w := by
  exact Lib.run_eql_slice_nil w 32 48 a n c 0 0 Try.underlying32
set_option maxRecDepth 100000 in
set_option maxHeartbeats 4000000 in
theorem clone46_any (w : World) (A : Option Addr) (c : Nat) (l : List Cut) (h : CutR w A l) (hl : l.length < 4096) :
    Calls Try.prog 46 #[.slice A l.length c] w fun e w' => ∃ A' c', e = .returned (.slice A' l.length c') ∧ Row w' w.heap.size 48 2 A' l.length c' (flatC l) ∧ Below w.heap.size w w' := by
  cases A with
  | none =>
    have hl0 : l = [] := by
      cases l with
      | nil => rfl
      | cons x xs => obtain ⟨a, e, _⟩ := h.2 (by simp); simp at e
    subst hl0
    have EN : ∀ v, (binOp .eql 32 (.slice none 0 c) (.slice none 0 0)).run Try.prog v = .ok (.bool true) v := fun v => eqnil46 v none 0 c
    go_enter Try.func46, Try.ntmps46
    go_wp2_with fail
    refine bodyPost_ret (v := .slice none 0 0) (by simp [results, Try.results46, go_sem]) rfl ?_
    exact ⟨none, 0, rfl, Row.nil _ _ _ _, Below.refl _ _⟩
  | some ad =>
    have HR := Lib.hid h
    obtain ⟨i0, hi, hz0, hz1, hz2⟩ := info_parts info48
    have HI := Lib.hid hi
    have Z0 := Lib.hid hz0
    have Z1 := Lib.hid hz1
    have Z2 := Lib.hid hz2
    clear hi hz0 hz1 hz2
    obtain ⟨w3, hw3⟩ : ∃ w3, w3 = w.alloc (.cells #[] 48) := ⟨_, rfl⟩
    have o3 : Hid (w3.ownsRow w.heap.size 48 2 (.slice (some ⟨w.heap.size, 0, none⟩) 0 0) 0 []) := by
      show w3.ownsRow _ _ _ _ _ _
      rw [hw3]
      exact World.ownsRow_lit (base := w.heap.size) (e := 48) (size := 2) w #[] 0 (Nat.le_refl _) (Nat.zero_le _) (by simp)
    have b3 : Hid (Below w.heap.size w w3) := by show Below _ _ _; rw [hw3]; exact (Below.refl _ _).alloc (Nat.le_refl _) _
    have r3 : Hid (CutR w3 (some ad) l) := h.up b3.out
    have HW3 := Lib.hid hw3
    clear hw3 h
    have EN : ∀ v, (binOp .eql 32 (.slice (some ad) l.length c) (.slice none 0 0)).run Try.prog v = .ok (.bool false) v := fun v => eqnil46 v (some ad) l.length c
    go_enter Try.func46, Try.ntmps46
    go_wp2_with (at_builtin; rw [← HW3.out]; refine wpList_append_any _ rfl (.tmp 5) (.tmp 6) 32 rfl w.heap.size 48 i0 (.agg #[.int .i64 0, .int .i64 0]) 2 16 Try.underlying32 HI.out Z0.out Z1.out Z2.out rfl (by decide) (.slice (some ⟨w.heap.size, 0, none⟩) 0 0) 0 [] rfl o3.out w3.heap.size (some ad) l.length c (flatC l) rfl r3.out (flatF_one cut_one _) (by unfold maxLen; omega) (by omega) (by have := b3.out.size; omega) ?_)
    intro v4 w4 hown4 hgr4 hnew4
    have b4 : Hid (Below w.heap.size w w4) := below_own b3.out o3.out (Nat.le_refl _) hgr4
    replace hown4 : w4.ownsRow w.heap.size 48 2 v4 l.length (flatC l) := by simpa using hown4
    obtain ⟨A4, c4, rfl, _⟩ := own_form hown4
    have HROW := Lib.hid (Row.of_own hown4)
    clear hown4 hgr4 hnew4 o3 r3 HW3
    go_wp2_with fail
    refine bodyPost_ret (v := .slice A4 l.length c4) (by simp [results, Try.results46, go_sem]) rfl ?_
    exact ⟨A4, c4, rfl, HROW.out, b4.out⟩
theorem eqnil47 (w : World) (a : Option Addr) (n c : Nat) : (binOp .eql 61 (.slice a n c) (.slice none 0 0)).run Try.prog w = .ok (.bool a.isNone) w := by
  exact Lib.run_eql_slice_nil w 61 67 a n c 0 0 Try.underlying61
set_option maxRecDepth 100000 in
set_option maxHeartbeats 4000000 in
theorem clone47_any (w : World) (A : Option Addr) (c : Nat) (l : List Dem) (h : DemR w A l) (hl : l.length < 4096) :
    Calls Try.prog 47 #[.slice A l.length c] w fun e w' => ∃ A' c', e = .returned (.slice A' l.length c') ∧ Row w' w.heap.size 67 3 A' l.length c' (flatD l) ∧ Below w.heap.size w w' := by
  cases A with
  | none =>
    have hl0 : l = [] := by
      cases l with
      | nil => rfl
      | cons x xs => obtain ⟨a, e, _⟩ := h.2 (by simp); simp at e
    subst hl0
    have EN : ∀ v, (binOp .eql 61 (.slice none 0 c) (.slice none 0 0)).run Try.prog v = .ok (.bool true) v := fun v => eqnil47 v none 0 c
    go_enter Try.func47, Try.ntmps47
    go_wp2_with fail
    refine bodyPost_ret (v := .slice none 0 0) (by simp [results, Try.results47, go_sem]) rfl ?_
    exact ⟨none, 0, rfl, Row.nil _ _ _ _, Below.refl _ _⟩
  | some ad =>
    have HR := Lib.hid h
    obtain ⟨i0, hi, hz0, hz1, hz2⟩ := info_parts info67
    have HI := Lib.hid hi
    have Z0 := Lib.hid hz0
    have Z1 := Lib.hid hz1
    have Z2 := Lib.hid hz2
    clear hi hz0 hz1 hz2
    obtain ⟨w3, hw3⟩ : ∃ w3, w3 = w.alloc (.cells #[] 67) := ⟨_, rfl⟩
    have o3 : Hid (w3.ownsRow w.heap.size 67 3 (.slice (some ⟨w.heap.size, 0, none⟩) 0 0) 0 []) := by
      show w3.ownsRow _ _ _ _ _ _
      rw [hw3]
      exact World.ownsRow_lit (base := w.heap.size) (e := 67) (size := 3) w #[] 0 (Nat.le_refl _) (Nat.zero_le _) (by simp)
    have b3 : Hid (Below w.heap.size w w3) := by show Below _ _ _; rw [hw3]; exact (Below.refl _ _).alloc (Nat.le_refl _) _
    have r3 : Hid (DemR w3 (some ad) l) := h.up b3.out
    have HW3 := Lib.hid hw3
    clear hw3 h
    have EN : ∀ v, (binOp .eql 61 (.slice (some ad) l.length c) (.slice none 0 0)).run Try.prog v = .ok (.bool false) v := fun v => eqnil47 v (some ad) l.length c
    go_enter Try.func47, Try.ntmps47
    go_wp2_with (at_builtin; rw [← HW3.out]; refine wpList_append_any _ rfl (.tmp 5) (.tmp 6) 61 rfl w.heap.size 67 i0 (.agg #[.int .i64 0, .int .i64 0, .int .i64 0]) 3 24 Try.underlying61 HI.out Z0.out Z1.out Z2.out rfl (by decide) (.slice (some ⟨w.heap.size, 0, none⟩) 0 0) 0 [] rfl o3.out w3.heap.size (some ad) l.length c (flatD l) rfl r3.out (flatF_one dem_one _) (by unfold maxLen; omega) (by omega) (by have := b3.out.size; omega) ?_)
    intro v4 w4 hown4 hgr4 hnew4
    have b4 : Hid (Below w.heap.size w w4) := below_own b3.out o3.out (Nat.le_refl _) hgr4
    replace hown4 : w4.ownsRow w.heap.size 67 3 v4 l.length (flatD l) := by simpa using hown4
    obtain ⟨A4, c4, rfl, _⟩ := own_form hown4
    have HROW := Lib.hid (Row.of_own hown4)
    clear hown4 hgr4 hnew4 o3 r3 HW3
    go_wp2_with fail
    refine bodyPost_ret (v := .slice A4 l.length c4) (by simp [results, Try.results47, go_sem]) rfl ?_
    exact ⟨A4, c4, rfl, HROW.out, b4.out⟩
end Go.Proofs.Ytlmlepdmgopojaa
