/- nets(): all its debts may be. No condition. -/
import Derived.Test.YtlmnbdepklcfpaaNetA
namespace Go.Proofs.Ytlmnbdepklcfpaa
open Go.RowKit
set_option linter.unusedVariables false
set_option linter.unusedSimpArgs false

/-- the two debts -/
def two : Array Value := #[.string ⟨#[97]⟩, .string ⟨#[98]⟩, .string ⟨#[85, 83, 68]⟩, .int .i64 5, .string ⟨#[98]⟩, .string ⟨#[97]⟩, .string ⟨#[85, 83, 68]⟩, .int .i64 3]
set_option maxRecDepth 100000 in
set_option maxHeartbeats 2000000 in
theorem nidx_any (g : Nat) (w : World) (h : Blk w g 64 two) : Calls Try.prog 49 #[.slice (some ⟨g, 0, none⟩) 2 2, .func (.func 44) #[] #[]] w fun e w' => e = .returned (.int .i64 (-1)) ∧ Below w.heap.size w w' := by
  have hg := h.lt
  have HB := Lib.hid h
  clear h
  go_enter Try.func49, Try.ntmps49
  go_wp2_with fail
  go_loopw [5, 8] (fun _ i v => ∃ k : Nat, k ≤ 2 ∧ i = .int .i64 k ∧ Hid (Below w.heap.size w v)) (fun _ i _ => 2 - (intOf i).toNat)
  case atStart => exact ⟨0, by omega, rfl, Below.refl _ _⟩
  case round =>
    obtain ⟨k, hk, rfl, hb⟩ := hrel
    have HW := Lib.hid (HB.out.below hb.out hg)
    have c := fun i => HW.out.cell i
    have c0 := c 0
    have c1 := c 1
    have c2 := c 2
    have c3 := c 3
    have c4 := c 4
    have c5 := c 5
    have c6 := c 6
    have c7 := c 7
    clear c
    simp [two] at c0 c1 c2 c3 c4 c5 c6 c7
    rcases (show k = 0 ∨ k = 1 ∨ k = 2 by omega) with rfl | rfl | rfl
    · go_wp2_with fail
      refine (nall1_any _ _ 5 (by omega) (by omega) nameA nameB_ (by decide) (by decide) (by decide +kernel) _).mono ?_
      rintro e w2 ⟨rfl, hb2⟩
      have HH := Lib.hid (below_trans hb.out hb2)
      clear hb hb2 c0 c1 c2 c3 c4 c5 c6 c7
      go_wp2_with fail
      go_roundw
      case rel => exact ⟨1, by omega, by go_num, HH⟩
      case measure => simp [intOf]
    · go_wp2_with fail
      refine (nall1_any _ _ 3 (by omega) (by omega) nameB_ nameA (by decide) (by decide) (by decide +kernel) _).mono ?_
      rintro e w2 ⟨rfl, hb2⟩
      have HH := Lib.hid (below_trans hb.out hb2)
      clear hb hb2 c0 c1 c2 c3 c4 c5 c6 c7
      go_wp2_with fail
      go_roundw
      case rel => exact ⟨2, by omega, by go_num, HH⟩
      case measure => simp [intOf]
    · go_wp2_with fail
      go_ret
      exact ⟨rfl, hb.out⟩
theorem ncon_any (g : Nat) (w : World) (h : Blk w g 64 two) : Calls Try.prog 43 #[.slice (some ⟨g, 0, none⟩) 2 2, .func (.func 44) #[] #[]] w fun e w' => e = .returned (.bool false) ∧ Below w.heap.size w w' := by
  have HB := Lib.hid h
  clear h
  go_enter Try.func43, Try.ntmps43
  go_wp2_with fail
  refine (nidx_any g _ HB.out).mono ?_
  rintro e w2 ⟨rfl, hb2⟩
  go_wp2
  go_ret
  exact ⟨rfl, hb2⟩
theorem nallof_any (g : Nat) (w : World) (h : Blk w g 64 two) : Calls Try.prog 37 #[.slice (some ⟨g, 0, none⟩) 2 2] w fun e w' => e = .returned (.bool true) ∧ Below w.heap.size w w' := by
  have HB := Lib.hid h
  clear h
  go_enter Try.func37, Try.ntmps37
  go_wp2_with fail
  refine (ncon_any g _ HB.out).mono ?_
  rintro e w2 ⟨rfl, hb2⟩
  go_wp2
  go_ret
  exact ⟨rfl, hb2⟩
end Go.Proofs.Ytlmnbdepklcfpaa
