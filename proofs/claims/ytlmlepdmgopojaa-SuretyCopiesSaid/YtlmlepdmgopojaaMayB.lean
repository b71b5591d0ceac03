/- The walks of the two Mays. Condition: the sizes of the texts. -/
import Derived.Test.YtlmlepdmgopojaaMay
import Derived.LoopN
namespace Go.Proofs.Ytlmlepdmgopojaa
open Go.RowKit
set_option linter.unusedVariables false
set_option linter.unusedSimpArgs false
/-- the eight facts by which a bond may be -/
theorem mayS_no1 {b : Bnd} (h : nameB b.num = false) : mayS b = false := by unfold mayS; simp [h]
theorem mayS_no2 {b : Bnd} (h : nameB b.gua = false) : mayS b = false := by unfold mayS; simp [h]
theorem mayS_no3 {b : Bnd} (h : nameB b.for_ = false) : mayS b = false := by unfold mayS; simp [h]
theorem mayS_no4 {b : Bnd} (h : nameB b.to_ = false) : mayS b = false := by unfold mayS; simp [h]
theorem mayS_no5 {b : Bnd} (h : (b.gua.toList == b.for_.toList) = true) : mayS b = false := by unfold mayS eqS; simp [h]
theorem mayS_no6 {b : Bnd} (h : (b.gua.toList == b.to_.toList) = true) : mayS b = false := by unfold mayS eqS; simp [h]
theorem mayS_no7 {b : Bnd} (h : (b.for_.toList == b.to_.toList) = true) : mayS b = false := by unfold mayS eqS; simp [h]
theorem mayS_no8 {b : Bnd} (h : curB b.cur = false) : mayS b = false := by unfold mayS; simp [h]
theorem mayS_no9 {b : Bnd} (h : ¬ (1 ≤ b.amt ∧ b.amt ≤ 1099511627776)) : mayS b = false := by unfold mayS; simp [h]
theorem mayS_no0 {b : Bnd} (h : ¬ (0 ≤ b.exp ∧ b.exp ≤ 1048576)) : mayS b = false := by unfold mayS; simp [h]
theorem mayS_yes {b : Bnd} (h1 : nameB b.num = true) (h2 : nameB b.gua = true) (h3 : nameB b.for_ = true) (h4 : nameB b.to_ = true) (h5 : (b.gua.toList == b.for_.toList) = false) (h6 : (b.gua.toList == b.to_.toList) = false)
    (h7 : (b.for_.toList == b.to_.toList) = false) (h8 : curB b.cur = true) (h9 : 1 ≤ b.amt ∧ b.amt ≤ 1099511627776) (h0 : 0 ≤ b.exp ∧ b.exp ≤ 1048576) : mayS b = true := mayS_all.2 ⟨h1, h2, h3, h4, h5, h6, h7, h8, h9, h0⟩
set_option maxRecDepth 100000 in
set_option maxHeartbeats 4000000 in
theorem may_any (b : Bnd) (hb : b.wf) (w : World) : Calls Try.prog 10 #[bndV b] w fun e w' => e = .returned (.bool (mayS b)) ∧ Below w.heap.size w w' := by
  obtain ⟨z0, z1, z2, z3, z4⟩ := hb
  have HB := Lib.hid (show Below w.heap.size w ((w.alloc (.cells b.cells 25)).alloc (.cells #[.string b.num, .string b.gua, .string b.for_, .string b.to_] 9)) from ((Below.refl _ _).alloc (Nat.le_refl _) _).alloc (by simp) _)
  unfold Bnd.cells at HB
  unfold bndV Bnd.cells
  cases g0 : nameB b.num
  · have H0 := Lib.hid g0
    have HR := Lib.hid (mayS_no1 g0)
    clear g0
    go_enter Try.func10, Try.ntmps10
    go_wp2_with fail
    refine wp_loop_rounds 5 ?_
    rw [rounds_succ]
    go_wp2_with fail
    refine (name_any _ _ z0).mono ?_
    rintro e w' ⟨rfl, rfl⟩
    rw [H0.out]
    go_wp2_with fail
    go_ret
    exact ⟨ret_bool HR.out, HB.out⟩
  have H0 := Lib.hid g0
  cases g1 : nameB b.gua
  · have H1 := Lib.hid g1
    have HR := Lib.hid (mayS_no2 g1)
    clear g0 g1
    go_enter Try.func10, Try.ntmps10
    go_wp2_with fail
    refine wp_loop_rounds 5 ?_
    rw [rounds_succ]
    go_wp2_with fail
    refine (name_any _ _ z0).mono ?_
    rintro e w' ⟨rfl, rfl⟩
    rw [H0.out]
    go_wp2_with fail
    rw [rounds_succ]
    go_wp2_with fail
    refine (name_any _ _ z1).mono ?_
    rintro e w' ⟨rfl, rfl⟩
    rw [H1.out]
    go_wp2_with fail
    go_ret
    exact ⟨ret_bool HR.out, HB.out⟩
  have H1 := Lib.hid g1
  cases g2 : nameB b.for_
  · have H2 := Lib.hid g2
    have HR := Lib.hid (mayS_no3 g2)
    clear g0 g1 g2
    go_enter Try.func10, Try.ntmps10
    go_wp2_with fail
    refine wp_loop_rounds 5 ?_
    rw [rounds_succ]
    go_wp2_with fail
    refine (name_any _ _ z0).mono ?_
    rintro e w' ⟨rfl, rfl⟩
    rw [H0.out]
    go_wp2_with fail
    rw [rounds_succ]
    go_wp2_with fail
    refine (name_any _ _ z1).mono ?_
    rintro e w' ⟨rfl, rfl⟩
    rw [H1.out]
    go_wp2_with fail
    rw [rounds_succ]
    go_wp2_with fail
    refine (name_any _ _ z2).mono ?_
    rintro e w' ⟨rfl, rfl⟩
    rw [H2.out]
    go_wp2_with fail
    go_ret
    exact ⟨ret_bool HR.out, HB.out⟩
  have H2 := Lib.hid g2
  cases g3 : nameB b.to_
  · have H3 := Lib.hid g3
    have HR := Lib.hid (mayS_no4 g3)
    clear g0 g1 g2 g3
    go_enter Try.func10, Try.ntmps10
    go_wp2_with fail
    refine wp_loop_rounds 5 ?_
    rw [rounds_succ]
    go_wp2_with fail
    refine (name_any _ _ z0).mono ?_
    rintro e w' ⟨rfl, rfl⟩
    rw [H0.out]
    go_wp2_with fail
    rw [rounds_succ]
    go_wp2_with fail
    refine (name_any _ _ z1).mono ?_
    rintro e w' ⟨rfl, rfl⟩
    rw [H1.out]
    go_wp2_with fail
    rw [rounds_succ]
    go_wp2_with fail
    refine (name_any _ _ z2).mono ?_
    rintro e w' ⟨rfl, rfl⟩
    rw [H2.out]
    go_wp2_with fail
    rw [rounds_succ]
    go_wp2_with fail
    refine (name_any _ _ z3).mono ?_
    rintro e w' ⟨rfl, rfl⟩
    rw [H3.out]
    go_wp2_with fail
    go_ret
    exact ⟨ret_bool HR.out, HB.out⟩
  have H3 := Lib.hid g3
  cases g4 : (b.gua.toList == b.for_.toList)
  rotate_left
  · have HR := Lib.hid (mayS_no5 g4)
    clear g0 g1 g2 g3
    go_enter Try.func10, Try.ntmps10
    go_wp2_with fail
    refine wp_loop_rounds 5 ?_
    rw [rounds_succ]
    go_wp2_with fail
    refine (name_any _ _ z0).mono ?_
    rintro e w' ⟨rfl, rfl⟩
    rw [H0.out]
    go_wp2_with fail
    rw [rounds_succ]
    go_wp2_with fail
    refine (name_any _ _ z1).mono ?_
    rintro e w' ⟨rfl, rfl⟩
    rw [H1.out]
    go_wp2_with fail
    rw [rounds_succ]
    go_wp2_with fail
    refine (name_any _ _ z2).mono ?_
    rintro e w' ⟨rfl, rfl⟩
    rw [H2.out]
    go_wp2_with fail
    rw [rounds_succ]
    go_wp2_with fail
    refine (name_any _ _ z3).mono ?_
    rintro e w' ⟨rfl, rfl⟩
    rw [H3.out]
    go_wp2_with fail
    rw [rounds_succ]
    go_wp2_with fail
    go_ret
    exact ⟨ret_bool HR.out, HB.out⟩
  cases g5 : (b.gua.toList == b.to_.toList)
  rotate_left
  · have HR := Lib.hid (mayS_no6 g5)
    clear g0 g1 g2 g3
    go_enter Try.func10, Try.ntmps10
    go_wp2_with fail
    refine wp_loop_rounds 5 ?_
    rw [rounds_succ]
    go_wp2_with fail
    refine (name_any _ _ z0).mono ?_
    rintro e w' ⟨rfl, rfl⟩
    rw [H0.out]
    go_wp2_with fail
    rw [rounds_succ]
    go_wp2_with fail
    refine (name_any _ _ z1).mono ?_
    rintro e w' ⟨rfl, rfl⟩
    rw [H1.out]
    go_wp2_with fail
    rw [rounds_succ]
    go_wp2_with fail
    refine (name_any _ _ z2).mono ?_
    rintro e w' ⟨rfl, rfl⟩
    rw [H2.out]
    go_wp2_with fail
    rw [rounds_succ]
    go_wp2_with fail
    refine (name_any _ _ z3).mono ?_
    rintro e w' ⟨rfl, rfl⟩
    rw [H3.out]
    go_wp2_with fail
    rw [rounds_succ]
    go_wp2_with fail
    go_ret
    exact ⟨ret_bool HR.out, HB.out⟩
  cases g6 : (b.for_.toList == b.to_.toList)
  rotate_left
  · have HR := Lib.hid (mayS_no7 g6)
    clear g0 g1 g2 g3
    go_enter Try.func10, Try.ntmps10
    go_wp2_with fail
    refine wp_loop_rounds 5 ?_
    rw [rounds_succ]
    go_wp2_with fail
    refine (name_any _ _ z0).mono ?_
    rintro e w' ⟨rfl, rfl⟩
    rw [H0.out]
    go_wp2_with fail
    rw [rounds_succ]
    go_wp2_with fail
    refine (name_any _ _ z1).mono ?_
    rintro e w' ⟨rfl, rfl⟩
    rw [H1.out]
    go_wp2_with fail
    rw [rounds_succ]
    go_wp2_with fail
    refine (name_any _ _ z2).mono ?_
    rintro e w' ⟨rfl, rfl⟩
    rw [H2.out]
    go_wp2_with fail
    rw [rounds_succ]
    go_wp2_with fail
    refine (name_any _ _ z3).mono ?_
    rintro e w' ⟨rfl, rfl⟩
    rw [H3.out]
    go_wp2_with fail
    rw [rounds_succ]
    go_wp2_with fail
    go_ret
    exact ⟨ret_bool HR.out, HB.out⟩
  cases g8 : curB b.cur
  · have H8 := Lib.hid g8
    have HR := Lib.hid (mayS_no8 g8)
    clear g0 g1 g2 g3 g8
    go_enter Try.func10, Try.ntmps10
    go_wp2_with fail
    refine wp_loop_rounds 5 ?_
    rw [rounds_succ]
    go_wp2_with fail
    refine (name_any _ _ z0).mono ?_
    rintro e w' ⟨rfl, rfl⟩
    rw [H0.out]
    go_wp2_with fail
    rw [rounds_succ]
    go_wp2_with fail
    refine (name_any _ _ z1).mono ?_
    rintro e w' ⟨rfl, rfl⟩
    rw [H1.out]
    go_wp2_with fail
    rw [rounds_succ]
    go_wp2_with fail
    refine (name_any _ _ z2).mono ?_
    rintro e w' ⟨rfl, rfl⟩
    rw [H2.out]
    go_wp2_with fail
    rw [rounds_succ]
    go_wp2_with fail
    refine (name_any _ _ z3).mono ?_
    rintro e w' ⟨rfl, rfl⟩
    rw [H3.out]
    go_wp2_with fail
    rw [rounds_succ]
    go_wp2_with fail
    refine (currency_any _ _ z4).mono ?_
    rintro e w' ⟨rfl, rfl⟩
    rw [H8.out]
    go_wp2_with fail
    go_ret
    exact ⟨ret_bool HR.out, HB.out⟩
  have H8 := Lib.hid g8
  by_cases g9 : 1 ≤ b.amt ∧ b.amt ≤ 1099511627776
  rotate_left
  · have H9 := Lib.hid (decide_eq_false g9)
    have HR := Lib.hid (mayS_no9 g9)
    clear g0 g1 g2 g3 g8 g9
    go_enter Try.func10, Try.ntmps10
    go_wp2_with fail
    refine wp_loop_rounds 5 ?_
    rw [rounds_succ]
    go_wp2_with fail
    refine (name_any _ _ z0).mono ?_
    rintro e w' ⟨rfl, rfl⟩
    rw [H0.out]
    go_wp2_with fail
    rw [rounds_succ]
    go_wp2_with fail
    refine (name_any _ _ z1).mono ?_
    rintro e w' ⟨rfl, rfl⟩
    rw [H1.out]
    go_wp2_with fail
    rw [rounds_succ]
    go_wp2_with fail
    refine (name_any _ _ z2).mono ?_
    rintro e w' ⟨rfl, rfl⟩
    rw [H2.out]
    go_wp2_with fail
    rw [rounds_succ]
    go_wp2_with fail
    refine (name_any _ _ z3).mono ?_
    rintro e w' ⟨rfl, rfl⟩
    rw [H3.out]
    go_wp2_with fail
    rw [rounds_succ]
    go_wp2_with fail
    refine (currency_any _ _ z4).mono ?_
    rintro e w' ⟨rfl, rfl⟩
    rw [H8.out]
    go_wp2_with fail
    refine (amount_any _ _).mono ?_
    rintro e w' ⟨rfl, rfl⟩
    rw [H9.out]
    go_wp2_with fail
    go_ret
    exact ⟨ret_bool HR.out, HB.out⟩
  have H9 := Lib.hid (decide_eq_true g9)
  by_cases gx : 0 ≤ b.exp ∧ b.exp ≤ 1048576
  rotate_left
  · have H0' := Lib.hid (decide_eq_false gx)
    have HR := Lib.hid (mayS_no0 gx)
    clear g0 g1 g2 g3 g8 g9 gx
    go_enter Try.func10, Try.ntmps10
    go_wp2_with fail
    refine wp_loop_rounds 5 ?_
    rw [rounds_succ]
    go_wp2_with fail
    refine (name_any _ _ z0).mono ?_
    rintro e w' ⟨rfl, rfl⟩
    rw [H0.out]
    go_wp2_with fail
    rw [rounds_succ]
    go_wp2_with fail
    refine (name_any _ _ z1).mono ?_
    rintro e w' ⟨rfl, rfl⟩
    rw [H1.out]
    go_wp2_with fail
    rw [rounds_succ]
    go_wp2_with fail
    refine (name_any _ _ z2).mono ?_
    rintro e w' ⟨rfl, rfl⟩
    rw [H2.out]
    go_wp2_with fail
    rw [rounds_succ]
    go_wp2_with fail
    refine (name_any _ _ z3).mono ?_
    rintro e w' ⟨rfl, rfl⟩
    rw [H3.out]
    go_wp2_with fail
    rw [rounds_succ]
    go_wp2_with fail
    refine (currency_any _ _ z4).mono ?_
    rintro e w' ⟨rfl, rfl⟩
    rw [H8.out]
    go_wp2_with fail
    refine (amount_any _ _).mono ?_
    rintro e w' ⟨rfl, rfl⟩
    rw [H9.out]
    go_wp2_with fail
    refine (day_any _ _).mono ?_
    rintro e w' ⟨rfl, rfl⟩
    rw [H0'.out]
    go_wp2_with fail
    go_ret
    exact ⟨ret_bool HR.out, HB.out⟩
  have H0' := Lib.hid (decide_eq_true gx)
  have HR := Lib.hid (mayS_yes g0 g1 g2 g3 g4 g5 g6 g8 g9 gx)
  clear g0 g1 g2 g3 g8 g9 gx
  go_enter Try.func10, Try.ntmps10
  go_wp2_with fail
  refine wp_loop_rounds 5 ?_
  rw [rounds_succ]
  go_wp2_with fail
  refine (name_any _ _ z0).mono ?_
  rintro e w' ⟨rfl, rfl⟩
  rw [H0.out]
  go_wp2_with fail
  rw [rounds_succ]
  go_wp2_with fail
  refine (name_any _ _ z1).mono ?_
  rintro e w' ⟨rfl, rfl⟩
  rw [H1.out]
  go_wp2_with fail
  rw [rounds_succ]
  go_wp2_with fail
  refine (name_any _ _ z2).mono ?_
  rintro e w' ⟨rfl, rfl⟩
  rw [H2.out]
  go_wp2_with fail
  rw [rounds_succ]
  go_wp2_with fail
  refine (name_any _ _ z3).mono ?_
  rintro e w' ⟨rfl, rfl⟩
  rw [H3.out]
  go_wp2_with fail
  rw [rounds_succ]
  go_wp2_with fail
  refine (currency_any _ _ z4).mono ?_
  rintro e w' ⟨rfl, rfl⟩
  rw [H8.out]
  go_wp2_with fail
  refine (amount_any _ _).mono ?_
  rintro e w' ⟨rfl, rfl⟩
  rw [H9.out]
  go_wp2_with fail
  refine (day_any _ _).mono ?_
  rintro e w' ⟨rfl, rfl⟩
  rw [H0'.out]
  go_wp2_with fail
  go_ret
  exact ⟨ret_bool HR.out, HB.out⟩
end Go.Proofs.Ytlmlepdmgopojaa
