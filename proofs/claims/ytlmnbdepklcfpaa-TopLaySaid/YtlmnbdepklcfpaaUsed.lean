/- The walks of Used, Expires, Money. Condition: how the stretches lie. -/
import Derived.Test.YtlmnbdepklcfpaaRun
namespace Go.Proofs.Ytlmnbdepklcfpaa
open Go.RowKit
set_option linter.unusedVariables false
set_option linter.unusedSimpArgs false

/-- what is wrong with a lay, and stretches -/
def badC (a b c : Int) (l : List Str) : Int := if mayB a b c = true then (chk l).2 else 1
def U (a : Int) (l : List Str) : Int := fold (2 * a) 0 (hours l)
theorem headF_ok {l : List Str} (h : (chk l).2 = 0) : 0 ≤ headF l := by
  cases l with
  | nil => simp [headF]
  | cons s l =>
    have := (chk_chain h).1.2.1
    unfold Str.ok at this
    exact this.1
theorem U_run {a : Int} {l : List Str} (h : (chk l).2 = 0) : (Clk.run (2 * a) l).used = U a l := run_used (chk_chain h).1 (headF_ok h)
theorem U_bd {a : Int} {l : List Str} (h : (chk l).2 = 0) : 0 ≤ U a l ∧ U a l ≤ 2097152 := by
  rw [← U_run h]
  exact run_bd (chk_chain h).1 (headF_ok h)
section
variable (a b c : Int) (A : Option Addr) (n k : Nat) (l : List Str) (w : World) (h : Strs w w.heap.size A n l) (hn : n ≤ maxLen)
include h hn
set_option maxHeartbeats 1000000 in
theorem bad_any : Calls Try.prog 26 #[layV a b c, .slice A n k] w fun e w' => e = .returned (.int .i64 (badC a b c l)) ∧ Below w.heap.size w w' := by
  have HB1 := Lib.hid (show Below w.heap.size w (w.alloc (.cells #[.int .i64 a, .int .i64 b, .int .i64 c] 23)) from (Below.refl _ _).alloc (Nat.le_refl _) _)
  unfold badC layV
  generalize hm : mayB a b c = m
  have HM := Lib.hid hm
  clear hm
  cases m
  · simp only [Bool.false_eq_true, if_false]
    go_enter Try.func26, Try.ntmps26
    go_wp2_with fail
    refine (may_any a b c _).mono ?_
    rintro e w1 ⟨rfl, hb⟩
    rw [HM.out]
    have HB := Lib.hid (below_trans HB1.out hb)
    clear hb
    go_wp2_with fail
    go_ret
    exact ⟨rfl, HB.out⟩
  · simp only [if_true]
    go_enter Try.func26, Try.ntmps26
    go_wp2_with fail
    refine (may_any a b c _).mono ?_
    rintro e w1 ⟨rfl, hb⟩
    rw [HM.out]
    have HB := Lib.hid (below_trans HB1.out hb)
    clear hb
    go_wp2_with fail
    refine (check_any A n k l w1 (h.up HB.out) hn).mono ?_
    rintro e w2 ⟨rfl, hb2⟩
    have HB2 := Lib.hid (below_trans HB.out hb2)
    clear hb2
    unfold chkV
    go_wp2_with fail
    go_ret
    exact ⟨rfl, HB2.out⟩
set_option maxHeartbeats 1000000 in
theorem used_bad (hbad : badC a b c l ≠ 0) : Calls Try.prog 13 #[layV a b c, .slice A n k] w fun e w' => e = .returned (.tuple #[.int .i64 0, .int .i64 (badC a b c l)]) ∧ Below w.heap.size w w' := by
  have HB1 := Lib.hid (show Below w.heap.size w (w.alloc (.cells #[.int .i64 a, .int .i64 b, .int .i64 c] 23)) from (Below.refl _ _).alloc (Nat.le_refl _) _)
  have H1 := Lib.hid (h.up HB1.out)
  have q : (badC a b c l != 0) = true := by simpa using hbad
  generalize hbc : badC a b c l = bc at *
  have HBC := Lib.hid hbc
  clear hbc hbad h
  unfold layV
  go_enter Try.func13, Try.ntmps13
  go_wp2_with fail
  refine (bad_any a b c A n k l _ H1.out hn).mono ?_
  rintro e w1 ⟨rfl, hb⟩
  rw [HBC.out]
  have HB := Lib.hid (below_trans HB1.out hb)
  clear hb
  go_wp2_with fail
  go_ret2
  exact ⟨rfl, HB.out⟩
variable (hm : mayB a b c = true) (hr : (chk l).2 = 0)
include hm hr
omit h hn in
theorem bad_no : badC a b c l = 0 := by unfold badC; rw [if_pos hm, hr]
set_option maxHeartbeats 1000000 in
theorem used_ok : Calls Try.prog 13 #[layV a b c, .slice A n k] w fun e w' => e = .returned (.tuple #[.int .i64 (U a l), .int .i64 0]) ∧ Below w.heap.size w w' := by
  have HB1 := Lib.hid (show Below w.heap.size w (w.alloc (.cells #[.int .i64 a, .int .i64 b, .int .i64 c] 23)) from (Below.refl _ _).alloc (Nat.le_refl _) _)
  have bm := Blk.new w 23 #[.int .i64 a, .int .i64 b, .int .i64 c]
  have H1 := Lib.hid (h.up HB1.out)
  have HN := Lib.hid (bad_no a b c l hm hr)
  have HM := Lib.hid (mayB_yes hm)
  have HR := Lib.hid hr
  clear hm hr
  have BM := Lib.hid bm
  clear bm
  unfold layV
  go_enter Try.func13, Try.ntmps13
  go_wp2_with fail
  refine (bad_any a b c A n k l _ H1.out hn).mono ?_
  rintro e w1 ⟨rfl, hb⟩
  rw [HN.out]
  have HB := Lib.hid (below_trans HB1.out hb)
  obtain ⟨c0, c1, c2, _, _, _⟩ := (BM.out.below hb BM.out.lt).three_
  clear hb
  go_wp2_with fail
  refine (run_any a b c HM.out.1 HM.out.2.1 A n k l w1 (h.up HB.out) hn _ (chk_chain HR.out).1 (headF_ok HR.out)).mono ?_
  rintro e w2 ⟨rfl, hk, hb2⟩
  obtain ⟨d0, d1, d2, _, _, _⟩ := hk.three_
  rw [U_run HR.out] at d1
  have HB2 := Lib.hid (below_trans HB.out hb2)
  clear hk hb2
  go_wp2_with fail
  go_ret2
  exact ⟨rfl, HB2.out⟩
set_option maxHeartbeats 1000000 in
theorem expires_any (h1 : 1 ≤ n) : Calls Try.prog 21 #[layV a b c, .slice A n k] w fun e w' =>
    e = .returned (if (Clk.run (2 * a) l).out < 0 then .tuple #[.int .i64 0, .bool false] else .tuple #[.int .i64 (Clk.run (2 * a) l).out, .bool true]) ∧ Below w.heap.size w w' := by
  have HB1 := Lib.hid (show Below w.heap.size w (w.alloc (.cells #[.int .i64 a, .int .i64 b, .int .i64 c] 23)) from (Below.refl _ _).alloc (Nat.le_refl _) _)
  have bm := Blk.new w 23 #[.int .i64 a, .int .i64 b, .int .i64 c]
  have H1 := Lib.hid (h.up HB1.out)
  have HN := Lib.hid (bad_no a b c l hm hr)
  have HM := Lib.hid (mayB_yes hm)
  have HR := Lib.hid hr
  clear hm hr
  have BM := Lib.hid bm
  have q : ((n : Int) == 0) = false := by simp; omega
  clear bm
  generalize hck : Clk.run (2 * a) l = ck
  obtain ⟨ku, ko⟩ := ck
  simp only
  have HCK := Lib.hid hck
  clear hck
  unfold layV
  by_cases ho : ko < 0
  · rw [if_pos ho]
    go_enter Try.func21, Try.ntmps21
    go_wp2_with fail
    refine (bad_any a b c A n k l _ H1.out hn).mono ?_
    rintro e w1 ⟨rfl, hb⟩
    rw [HN.out]
    have HB := Lib.hid (below_trans HB1.out hb)
    obtain ⟨c0, c1, c2, _, _, _⟩ := (BM.out.below hb BM.out.lt).three_
    clear hb
    go_wp2_with fail
    refine (run_any a b c HM.out.1 HM.out.2.1 A n k l w1 (h.up HB.out) hn _ (chk_chain HR.out).1 (headF_ok HR.out)).mono ?_
    rintro e w2 ⟨rfl, hk, hb2⟩
    rw [HCK.out] at hk
    obtain ⟨d0, d1, d2, _, _, _⟩ := hk.three_
    have HB2 := Lib.hid (below_trans HB.out hb2)
    clear hk hb2
    go_wp2_with fail
    go_ret2
    exact ⟨rfl, HB2.out⟩
  · rw [if_neg ho]
    have ho' : 0 ≤ ko := by omega
    go_enter Try.func21, Try.ntmps21
    go_wp2_with fail
    refine (bad_any a b c A n k l _ H1.out hn).mono ?_
    rintro e w1 ⟨rfl, hb⟩
    rw [HN.out]
    have HB := Lib.hid (below_trans HB1.out hb)
    obtain ⟨c0, c1, c2, _, _, _⟩ := (BM.out.below hb BM.out.lt).three_
    clear hb
    go_wp2_with fail
    refine (run_any a b c HM.out.1 HM.out.2.1 A n k l w1 (h.up HB.out) hn _ (chk_chain HR.out).1 (headF_ok HR.out)).mono ?_
    rintro e w2 ⟨rfl, hk, hb2⟩
    rw [HCK.out] at hk
    obtain ⟨d0, d1, d2, _, _, _⟩ := hk.three_
    have HB2 := Lib.hid (below_trans HB.out hb2)
    clear hk hb2
    go_wp2_with fail
    go_ret2
    exact ⟨rfl, HB2.out⟩
end
end Go.Proofs.Ytlmnbdepklcfpaa
