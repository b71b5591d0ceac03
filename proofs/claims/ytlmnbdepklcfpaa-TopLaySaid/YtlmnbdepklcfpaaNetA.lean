/- nets(): may its two debts be? No condition. -/
import Derived.Test.YtlmnbdepklcfpaaNames
import Derived.Test.YtlmnbdepklcfpaaShelf
namespace Go.Proofs.Ytlmnbdepklcfpaa
open Go.RowKit
set_option linter.unusedVariables false
set_option linter.unusedSimpArgs false

theorem ballo (w : World) (o : Obj) : Below w.heap.size w (w.alloc o) := (Below.refl _ _).alloc (Nat.le_refl _) _
def sA : ByteArray := ⟨#[97]⟩
def sB : ByteArray := ⟨#[98]⟩
def sU : ByteArray := ⟨#[85, 83, 68]⟩
theorem nameA : nameB ⟨#[97]⟩ = true := by decide
theorem nameB_ : nameB ⟨#[98]⟩ = true := by decide
def outC (r : Nat) : Bool := decide (r < 65) || decide (90 < r)
theorem cap_any (r : Nat) (W : World) : Calls Try.prog 75 #[.int .i32 r] W fun e w' => e = .returned (.bool (outC r)) ∧ W = w' := by
  by_cases h0 : r < 65
  · rw [show outC r = true by unfold outC; simp [h0]]
    have h0' : (r : Int) < 65 := by omega
    go_enter Try.func75, Try.ntmps75
    go_wp2
    go_ret
    exact ⟨rfl, rfl⟩
  · by_cases h1 : 90 < r
    · rw [show outC r = true by unfold outC; simp [h1]]
      have h0' : ¬ (r : Int) < 65 := by omega
      have h1' : (90 : Int) < r := by omega
      have h2' : 65 ≤ (r : Int) := by omega
      go_enter Try.func75, Try.ntmps75
      go_wp2
      go_ret
      exact ⟨rfl, rfl⟩
    · rw [show outC r = false by unfold outC; simp [h1, h0]]
      have h1' : (r : Int) ≤ 90 := by omega
      have h2' : 65 ≤ (r : Int) := by omega
      have d1 : decide ((r : Int) < 65) = false := decide_eq_false (by omega)
      have d2 : decide (90 < (r : Int)) = false := decide_eq_false (by omega)
      go_enter Try.func75, Try.ntmps75
      go_wp2
      go_ret
      exact ⟨by simp [d1, d2], rfl⟩
theorem cap_at (w : World) : PredAt Try.prog 75 #[] encR outC w := fun W x _ => by
  unfold FnGives
  exact (cap_any x W).mono fun e w' h => ⟨h.1, 0, h.2.symm⟩
theorem usd : decide (0 ≤ Lib.idxFunc outC true ⟨#[85, 83, 68]⟩) = false := by decide
theorem cur_usd (w : World) : Calls Try.prog 67 #[.string ⟨#[85, 83, 68]⟩] w fun e w' => e = .returned (.bool true) ∧ Below w.heap.size w w' := by
  go_enter Try.func67, Try.ntmps67
  go_wp2_with fail
  refine (Try.strings_ContainsFunc 75 #[] (enters_of Try.func75 (by kernel_rfl) rfl) outC _ _ (cap_at w)).mono ?_
  rintro e w' ⟨rfl, hb⟩
  rw [usd]
  go_wp2
  go_ret
  exact ⟨rfl, hb⟩
theorem mwithin_any (n : Int) (h : 0 ≤ n) (h2 : n ≤ 100) (w : World) : Calls Try.prog 68 #[.int .i64 n] w fun e w' => e = .returned (.bool true) ∧ w = w' := by
  have h' : -1099511627776 ≤ n := by omega
  have h2' : n ≤ 1099511627776 := by omega
  go_enter Try.func68, Try.ntmps68
  go_wp2
  go_ret
  exact ⟨rfl, rfl⟩
set_option maxHeartbeats 1000000 in
theorem mmay_any (n : Int) (h : 0 ≤ n) (h2 : n ≤ 100) (w : World) : Calls Try.prog 51 #[.agg #[.string ⟨#[85, 83, 68]⟩, .int .i64 n]] w fun e w' => e = .returned (.bool true) ∧ Below w.heap.size w w' := by
  go_enter Try.func51, Try.ntmps51
  go_wp2_with fail
  refine (cur_usd _).mono ?_
  rintro e w' ⟨rfl, hb⟩
  have hB := (Blk.new w 89 #[.string ⟨#[85, 83, 68]⟩, .int .i64 n]).below hb (by simp [World.size_alloc])
  have c1 := hB.cell 1
  have c0 := hB.cell 0
  have hl := hB.lt
  simp at c1 c0
  have HH := Lib.hid (below_trans (ballo w (.cells #[.string ⟨#[85, 83, 68]⟩, .int .i64 n] 89)) hb)
  clear hb hB
  go_wp2_with fail
  refine (mwithin_any n h h2 _).mono ?_
  rintro e w2 ⟨rfl, rfl⟩
  go_wp2
  go_ret
  exact ⟨rfl, HH.out⟩
set_option maxHeartbeats 2000000 in
theorem nmay_any (f t : ByteArray) (n : Int) (h : 1 ≤ n) (h2 : n ≤ 100) (hf : nameB f = true) (ht : nameB t = true) (hfs : f.size ≤ maxLen) (hts : t.size ≤ maxLen) (hne : (f.toList == t.toList) = false) (w : World) :
    Calls Try.prog 45 #[.agg #[.string f, .string t, .string ⟨#[85, 83, 68]⟩, .int .i64 n]] w fun e w' => e = .returned (.bool true) ∧ Below w.heap.size w w' := by
  go_enter Try.func45, Try.ntmps45
  go_wp2_with fail
  refine (name_any f _ hfs).mono ?_
  rintro e w' ⟨rfl, rfl⟩
  rw [hf]
  go_wp2_with fail
  refine (name_any t _ hts).mono ?_
  rintro e w' ⟨rfl, rfl⟩
  rw [ht]
  go_wp2_with fail
  refine (mmay_any n (by omega) h2 _).mono ?_
  rintro e w' ⟨rfl, hb⟩
  have HH := Lib.hid (below_trans (ballo w (.cells #[.string f, .string t, .string ⟨#[85, 83, 68]⟩, .int .i64 n] 64)) hb)
  clear hb
  go_wp2
  go_ret
  exact ⟨rfl, HH.out⟩
theorem nall1_any (f t : ByteArray) (n : Int) (h : 1 ≤ n) (h2 : n ≤ 100) (hf : nameB f = true) (ht : nameB t = true) (hfs : f.size ≤ maxLen) (hts : t.size ≤ maxLen) (hne : (f.toList == t.toList) = false) (w : World) :
    Calls Try.prog 44 #[.agg #[.string f, .string t, .string ⟨#[85, 83, 68]⟩, .int .i64 n]] w fun e w' => e = .returned (.bool false) ∧ Below w.heap.size w w' := by
  go_enter Try.func44, Try.ntmps44
  go_wp2_with fail
  refine (nmay_any f t n h h2 hf ht hfs hts hne _).mono ?_
  rintro e w' ⟨rfl, hb⟩
  have HH := Lib.hid (below_trans (ballo w (.cells #[.string f, .string t, .string ⟨#[85, 83, 68]⟩, .int .i64 n] 64)) hb)
  clear hb
  go_wp2
  go_ret
  exact ⟨rfl, HH.out⟩
end Go.Proofs.Ytlmnbdepklcfpaa
