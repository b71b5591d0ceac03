/- The walk of the reference's May. Condition: the sizes of the texts. -/
import Derived.Test.YtlmlepdmgopojaaMayB
namespace Go.Proofs.Ytlmlepdmgopojaa
open Go.RowKit
set_option linter.unusedVariables false
set_option linter.unusedSimpArgs false
set_option maxRecDepth 100000 in
set_option maxHeartbeats 4000000 in
theorem rmay_any (b : Bnd) (hb : b.wf) (w : World) : Calls Try.prog 8 #[bndV b] w fun e w' => e = .returned (.bool (mayS b)) ∧ Below w.heap.size w w' := by
  obtain ⟨num, gua, for_, to_, cu, amt, exp⟩ := b
  obtain ⟨z0, z1, z2, z3, z4⟩ := hb
  simp only at z0 z1 z2 z3 z4
  have HB := Lib.hid (show Below w.heap.size w (w.alloc (.cells (Bnd.cells ⟨num, gua, for_, to_, cu, amt, exp⟩) 25)) from (Below.refl _ _).alloc (Nat.le_refl _) _)
  unfold Bnd.cells at HB
  unfold bndV Bnd.cells
  cases g0 : nameB num
  · have H0 := Lib.hid g0
    have HR := Lib.hid (show mayS ⟨num, gua, for_, to_, cu, amt, exp⟩ = false from mayS_no1 g0)
    clear g0
    go_enter Try.func8, Try.ntmps8
    go_wp2_with fail
    refine (rname_any _ _ z0).mono ?_
    rintro e w' ⟨rfl, rfl⟩
    rw [H0.out]
    go_wp2_with fail
    go_ret
    first | exact ⟨ret_bool HR.out, HB.out⟩ | exact ⟨ret_bool (HR.out.trans (decide_eq_false (by omega)).symm), HB.out⟩ | exact ⟨ret_bool (HR.out.trans (decide_eq_true (by omega)).symm), HB.out⟩
  have H0 := Lib.hid g0
  cases g1 : nameB gua
  · have H1 := Lib.hid g1
    have HR := Lib.hid (show mayS ⟨num, gua, for_, to_, cu, amt, exp⟩ = false from mayS_no2 g1)
    clear g0 g1
    go_enter Try.func8, Try.ntmps8
    go_wp2_with fail
    refine (rname_any _ _ z0).mono ?_
    rintro e w' ⟨rfl, rfl⟩
    rw [H0.out]
    go_wp2_with fail
    refine (rname_any _ _ z1).mono ?_
    rintro e w' ⟨rfl, rfl⟩
    rw [H1.out]
    go_wp2_with fail
    go_ret
    first | exact ⟨ret_bool HR.out, HB.out⟩ | exact ⟨ret_bool (HR.out.trans (decide_eq_false (by omega)).symm), HB.out⟩ | exact ⟨ret_bool (HR.out.trans (decide_eq_true (by omega)).symm), HB.out⟩
  have H1 := Lib.hid g1
  cases g2 : nameB for_
  · have H2 := Lib.hid g2
    have HR := Lib.hid (show mayS ⟨num, gua, for_, to_, cu, amt, exp⟩ = false from mayS_no3 g2)
    clear g0 g1 g2
    go_enter Try.func8, Try.ntmps8
    go_wp2_with fail
    refine (rname_any _ _ z0).mono ?_
    rintro e w' ⟨rfl, rfl⟩
    rw [H0.out]
    go_wp2_with fail
    refine (rname_any _ _ z1).mono ?_
    rintro e w' ⟨rfl, rfl⟩
    rw [H1.out]
    go_wp2_with fail
    refine (rname_any _ _ z2).mono ?_
    rintro e w' ⟨rfl, rfl⟩
    rw [H2.out]
    go_wp2_with fail
    go_ret
    first | exact ⟨ret_bool HR.out, HB.out⟩ | exact ⟨ret_bool (HR.out.trans (decide_eq_false (by omega)).symm), HB.out⟩ | exact ⟨ret_bool (HR.out.trans (decide_eq_true (by omega)).symm), HB.out⟩
  have H2 := Lib.hid g2
  cases g3 : nameB to_
  · have H3 := Lib.hid g3
    have HR := Lib.hid (show mayS ⟨num, gua, for_, to_, cu, amt, exp⟩ = false from mayS_no4 g3)
    clear g0 g1 g2 g3
    go_enter Try.func8, Try.ntmps8
    go_wp2_with fail
    refine (rname_any _ _ z0).mono ?_
    rintro e w' ⟨rfl, rfl⟩
    rw [H0.out]
    go_wp2_with fail
    refine (rname_any _ _ z1).mono ?_
    rintro e w' ⟨rfl, rfl⟩
    rw [H1.out]
    go_wp2_with fail
    refine (rname_any _ _ z2).mono ?_
    rintro e w' ⟨rfl, rfl⟩
    rw [H2.out]
    go_wp2_with fail
    refine (rname_any _ _ z3).mono ?_
    rintro e w' ⟨rfl, rfl⟩
    rw [H3.out]
    go_wp2_with fail
    go_ret
    first | exact ⟨ret_bool HR.out, HB.out⟩ | exact ⟨ret_bool (HR.out.trans (decide_eq_false (by omega)).symm), HB.out⟩ | exact ⟨ret_bool (HR.out.trans (decide_eq_true (by omega)).symm), HB.out⟩
  have H3 := Lib.hid g3
  cases g4 : (gua.toList == for_.toList)
  rotate_left
  · have HR := Lib.hid (show mayS ⟨num, gua, for_, to_, cu, amt, exp⟩ = false from mayS_no5 g4)
    clear g0 g1 g2 g3
    go_enter Try.func8, Try.ntmps8
    go_wp2_with fail
    refine (rname_any _ _ z0).mono ?_
    rintro e w' ⟨rfl, rfl⟩
    rw [H0.out]
    go_wp2_with fail
    refine (rname_any _ _ z1).mono ?_
    rintro e w' ⟨rfl, rfl⟩
    rw [H1.out]
    go_wp2_with fail
    refine (rname_any _ _ z2).mono ?_
    rintro e w' ⟨rfl, rfl⟩
    rw [H2.out]
    go_wp2_with fail
    refine (rname_any _ _ z3).mono ?_
    rintro e w' ⟨rfl, rfl⟩
    rw [H3.out]
    go_wp2_with fail
    go_ret
    first | exact ⟨ret_bool HR.out, HB.out⟩ | exact ⟨ret_bool (HR.out.trans (decide_eq_false (by omega)).symm), HB.out⟩ | exact ⟨ret_bool (HR.out.trans (decide_eq_true (by omega)).symm), HB.out⟩
  cases g5 : (gua.toList == to_.toList)
  rotate_left
  · have HR := Lib.hid (show mayS ⟨num, gua, for_, to_, cu, amt, exp⟩ = false from mayS_no6 g5)
    clear g0 g1 g2 g3
    go_enter Try.func8, Try.ntmps8
    go_wp2_with fail
    refine (rname_any _ _ z0).mono ?_
    rintro e w' ⟨rfl, rfl⟩
    rw [H0.out]
    go_wp2_with fail
    refine (rname_any _ _ z1).mono ?_
    rintro e w' ⟨rfl, rfl⟩
    rw [H1.out]
    go_wp2_with fail
    refine (rname_any _ _ z2).mono ?_
    rintro e w' ⟨rfl, rfl⟩
    rw [H2.out]
    go_wp2_with fail
    refine (rname_any _ _ z3).mono ?_
    rintro e w' ⟨rfl, rfl⟩
    rw [H3.out]
    go_wp2_with fail
    go_ret
    first | exact ⟨ret_bool HR.out, HB.out⟩ | exact ⟨ret_bool (HR.out.trans (decide_eq_false (by omega)).symm), HB.out⟩ | exact ⟨ret_bool (HR.out.trans (decide_eq_true (by omega)).symm), HB.out⟩
  cases g6 : (for_.toList == to_.toList)
  rotate_left
  · have HR := Lib.hid (show mayS ⟨num, gua, for_, to_, cu, amt, exp⟩ = false from mayS_no7 g6)
    clear g0 g1 g2 g3
    go_enter Try.func8, Try.ntmps8
    go_wp2_with fail
    refine (rname_any _ _ z0).mono ?_
    rintro e w' ⟨rfl, rfl⟩
    rw [H0.out]
    go_wp2_with fail
    refine (rname_any _ _ z1).mono ?_
    rintro e w' ⟨rfl, rfl⟩
    rw [H1.out]
    go_wp2_with fail
    refine (rname_any _ _ z2).mono ?_
    rintro e w' ⟨rfl, rfl⟩
    rw [H2.out]
    go_wp2_with fail
    refine (rname_any _ _ z3).mono ?_
    rintro e w' ⟨rfl, rfl⟩
    rw [H3.out]
    go_wp2_with fail
    go_ret
    first | exact ⟨ret_bool HR.out, HB.out⟩ | exact ⟨ret_bool (HR.out.trans (decide_eq_false (by omega)).symm), HB.out⟩ | exact ⟨ret_bool (HR.out.trans (decide_eq_true (by omega)).symm), HB.out⟩
  by_cases gz : cu.size = 3
  rotate_left
  · have HR := Lib.hid (show mayS ⟨num, gua, for_, to_, cu, amt, exp⟩ = false from mayS_no8 (curB_size gz))
    have gz' : ((cu.size : Int) != 3) = true := by simp; omega
    clear g0 g1 g2 g3
    go_enter Try.func8, Try.ntmps8
    go_wp2_with fail
    refine (rname_any _ _ z0).mono ?_
    rintro e w' ⟨rfl, rfl⟩
    rw [H0.out]
    go_wp2_with fail
    refine (rname_any _ _ z1).mono ?_
    rintro e w' ⟨rfl, rfl⟩
    rw [H1.out]
    go_wp2_with fail
    refine (rname_any _ _ z2).mono ?_
    rintro e w' ⟨rfl, rfl⟩
    rw [H2.out]
    go_wp2_with fail
    refine (rname_any _ _ z3).mono ?_
    rintro e w' ⟨rfl, rfl⟩
    rw [H3.out]
    go_wp2_with fail
    go_ret
    first | exact ⟨ret_bool HR.out, HB.out⟩ | exact ⟨ret_bool (HR.out.trans (decide_eq_false (by omega)).symm), HB.out⟩ | exact ⟨ret_bool (HR.out.trans (decide_eq_true (by omega)).symm), HB.out⟩
  have gz' : ((cu.size : Int) != 3) = false := by simp; omega
  rcases (show (65 ≤ (cu[0].toNat : Int) ∧ (cu[0].toNat : Int) ≤ 90) ∨ (cu[0].toNat : Int) < 65 ∨ 90 < (cu[0].toNat : Int) by omega) with r0 | r0 | r0
  rotate_left
  · have HR := Lib.hid (show mayS ⟨num, gua, for_, to_, cu, amt, exp⟩ = false from mayS_no8 (curB_bad (s := cu) (j := 0) (by omega) (by unfold capB; simp; omega)))
    clear g0 g1 g2 g3
    go_enter Try.func8, Try.ntmps8
    go_wp2_with fail
    refine (rname_any _ _ z0).mono ?_
    rintro e w' ⟨rfl, rfl⟩
    rw [H0.out]
    go_wp2_with fail
    refine (rname_any _ _ z1).mono ?_
    rintro e w' ⟨rfl, rfl⟩
    rw [H1.out]
    go_wp2_with fail
    refine (rname_any _ _ z2).mono ?_
    rintro e w' ⟨rfl, rfl⟩
    rw [H2.out]
    go_wp2_with fail
    refine (rname_any _ _ z3).mono ?_
    rintro e w' ⟨rfl, rfl⟩
    rw [H3.out]
    go_wp2_with fail
    refine wp_loop_rounds 4 ?_
    rw [rounds_succ]
    go_wp2_with fail
    go_ret
    first | exact ⟨ret_bool HR.out, HB.out⟩ | exact ⟨ret_bool (HR.out.trans (decide_eq_false (by omega)).symm), HB.out⟩ | exact ⟨ret_bool (HR.out.trans (decide_eq_true (by omega)).symm), HB.out⟩
  · have HR := Lib.hid (show mayS ⟨num, gua, for_, to_, cu, amt, exp⟩ = false from mayS_no8 (curB_bad (s := cu) (j := 0) (by omega) (by unfold capB; simp; omega)))
    have rr : 65 ≤ (cu[0].toNat : Int) := by omega
    clear g0 g1 g2 g3
    go_enter Try.func8, Try.ntmps8
    go_wp2_with fail
    refine (rname_any _ _ z0).mono ?_
    rintro e w' ⟨rfl, rfl⟩
    rw [H0.out]
    go_wp2_with fail
    refine (rname_any _ _ z1).mono ?_
    rintro e w' ⟨rfl, rfl⟩
    rw [H1.out]
    go_wp2_with fail
    refine (rname_any _ _ z2).mono ?_
    rintro e w' ⟨rfl, rfl⟩
    rw [H2.out]
    go_wp2_with fail
    refine (rname_any _ _ z3).mono ?_
    rintro e w' ⟨rfl, rfl⟩
    rw [H3.out]
    go_wp2_with fail
    refine wp_loop_rounds 4 ?_
    rw [rounds_succ]
    go_wp2_with fail
    go_ret
    first | exact ⟨ret_bool HR.out, HB.out⟩ | exact ⟨ret_bool (HR.out.trans (decide_eq_false (by omega)).symm), HB.out⟩ | exact ⟨ret_bool (HR.out.trans (decide_eq_true (by omega)).symm), HB.out⟩
  obtain ⟨r0a, r0b⟩ := r0
  rcases (show (65 ≤ (cu[1].toNat : Int) ∧ (cu[1].toNat : Int) ≤ 90) ∨ (cu[1].toNat : Int) < 65 ∨ 90 < (cu[1].toNat : Int) by omega) with r1 | r1 | r1
  rotate_left
  · have HR := Lib.hid (show mayS ⟨num, gua, for_, to_, cu, amt, exp⟩ = false from mayS_no8 (curB_bad (s := cu) (j := 1) (by omega) (by unfold capB; simp; omega)))
    clear g0 g1 g2 g3
    go_enter Try.func8, Try.ntmps8
    go_wp2_with fail
    refine (rname_any _ _ z0).mono ?_
    rintro e w' ⟨rfl, rfl⟩
    rw [H0.out]
    go_wp2_with fail
    refine (rname_any _ _ z1).mono ?_
    rintro e w' ⟨rfl, rfl⟩
    rw [H1.out]
    go_wp2_with fail
    refine (rname_any _ _ z2).mono ?_
    rintro e w' ⟨rfl, rfl⟩
    rw [H2.out]
    go_wp2_with fail
    refine (rname_any _ _ z3).mono ?_
    rintro e w' ⟨rfl, rfl⟩
    rw [H3.out]
    go_wp2_with fail
    refine wp_loop_rounds 4 ?_
    rw [rounds_succ]
    go_wp2_with fail
    rw [rounds_succ]
    go_wp2_with fail
    go_ret
    first | exact ⟨ret_bool HR.out, HB.out⟩ | exact ⟨ret_bool (HR.out.trans (decide_eq_false (by omega)).symm), HB.out⟩ | exact ⟨ret_bool (HR.out.trans (decide_eq_true (by omega)).symm), HB.out⟩
  · have HR := Lib.hid (show mayS ⟨num, gua, for_, to_, cu, amt, exp⟩ = false from mayS_no8 (curB_bad (s := cu) (j := 1) (by omega) (by unfold capB; simp; omega)))
    have rr : 65 ≤ (cu[1].toNat : Int) := by omega
    clear g0 g1 g2 g3
    go_enter Try.func8, Try.ntmps8
    go_wp2_with fail
    refine (rname_any _ _ z0).mono ?_
    rintro e w' ⟨rfl, rfl⟩
    rw [H0.out]
    go_wp2_with fail
    refine (rname_any _ _ z1).mono ?_
    rintro e w' ⟨rfl, rfl⟩
    rw [H1.out]
    go_wp2_with fail
    refine (rname_any _ _ z2).mono ?_
    rintro e w' ⟨rfl, rfl⟩
    rw [H2.out]
    go_wp2_with fail
    refine (rname_any _ _ z3).mono ?_
    rintro e w' ⟨rfl, rfl⟩
    rw [H3.out]
    go_wp2_with fail
    refine wp_loop_rounds 4 ?_
    rw [rounds_succ]
    go_wp2_with fail
    rw [rounds_succ]
    go_wp2_with fail
    go_ret
    first | exact ⟨ret_bool HR.out, HB.out⟩ | exact ⟨ret_bool (HR.out.trans (decide_eq_false (by omega)).symm), HB.out⟩ | exact ⟨ret_bool (HR.out.trans (decide_eq_true (by omega)).symm), HB.out⟩
  obtain ⟨r1a, r1b⟩ := r1
  rcases (show (65 ≤ (cu[2].toNat : Int) ∧ (cu[2].toNat : Int) ≤ 90) ∨ (cu[2].toNat : Int) < 65 ∨ 90 < (cu[2].toNat : Int) by omega) with r2 | r2 | r2
  rotate_left
  · have HR := Lib.hid (show mayS ⟨num, gua, for_, to_, cu, amt, exp⟩ = false from mayS_no8 (curB_bad (s := cu) (j := 2) (by omega) (by unfold capB; simp; omega)))
    clear g0 g1 g2 g3
    go_enter Try.func8, Try.ntmps8
    go_wp2_with fail
    refine (rname_any _ _ z0).mono ?_
    rintro e w' ⟨rfl, rfl⟩
    rw [H0.out]
    go_wp2_with fail
    refine (rname_any _ _ z1).mono ?_
    rintro e w' ⟨rfl, rfl⟩
    rw [H1.out]
    go_wp2_with fail
    refine (rname_any _ _ z2).mono ?_
    rintro e w' ⟨rfl, rfl⟩
    rw [H2.out]
    go_wp2_with fail
    refine (rname_any _ _ z3).mono ?_
    rintro e w' ⟨rfl, rfl⟩
    rw [H3.out]
    go_wp2_with fail
    refine wp_loop_rounds 4 ?_
    rw [rounds_succ]
    go_wp2_with fail
    rw [rounds_succ]
    go_wp2_with fail
    rw [rounds_succ]
    go_wp2_with fail
    go_ret
    first | exact ⟨ret_bool HR.out, HB.out⟩ | exact ⟨ret_bool (HR.out.trans (decide_eq_false (by omega)).symm), HB.out⟩ | exact ⟨ret_bool (HR.out.trans (decide_eq_true (by omega)).symm), HB.out⟩
  · have HR := Lib.hid (show mayS ⟨num, gua, for_, to_, cu, amt, exp⟩ = false from mayS_no8 (curB_bad (s := cu) (j := 2) (by omega) (by unfold capB; simp; omega)))
    have rr : 65 ≤ (cu[2].toNat : Int) := by omega
    clear g0 g1 g2 g3
    go_enter Try.func8, Try.ntmps8
    go_wp2_with fail
    refine (rname_any _ _ z0).mono ?_
    rintro e w' ⟨rfl, rfl⟩
    rw [H0.out]
    go_wp2_with fail
    refine (rname_any _ _ z1).mono ?_
    rintro e w' ⟨rfl, rfl⟩
    rw [H1.out]
    go_wp2_with fail
    refine (rname_any _ _ z2).mono ?_
    rintro e w' ⟨rfl, rfl⟩
    rw [H2.out]
    go_wp2_with fail
    refine (rname_any _ _ z3).mono ?_
    rintro e w' ⟨rfl, rfl⟩
    rw [H3.out]
    go_wp2_with fail
    refine wp_loop_rounds 4 ?_
    rw [rounds_succ]
    go_wp2_with fail
    rw [rounds_succ]
    go_wp2_with fail
    rw [rounds_succ]
    go_wp2_with fail
    go_ret
    first | exact ⟨ret_bool HR.out, HB.out⟩ | exact ⟨ret_bool (HR.out.trans (decide_eq_false (by omega)).symm), HB.out⟩ | exact ⟨ret_bool (HR.out.trans (decide_eq_true (by omega)).symm), HB.out⟩
  obtain ⟨r2a, r2b⟩ := r2
  have g8 : curB cu = true := by
    refine curB_of gz fun j hj => ?_
    rcases (show j = 0 ∨ j = 1 ∨ j = 2 by omega) with rfl | rfl | rfl <;> (unfold capB; simp; omega)
  by_cases q0 : 1 ≤ amt
  rotate_left
  · have q0' : amt < 1 := by omega
    have HR := Lib.hid (show mayS ⟨num, gua, for_, to_, cu, amt, exp⟩ = false from mayS_no9 (by simp only; omega))
    clear g0 g1 g2 g3 g8 q0
    go_enter Try.func8, Try.ntmps8
    go_wp2_with fail
    refine (rname_any _ _ z0).mono ?_
    rintro e w' ⟨rfl, rfl⟩
    rw [H0.out]
    go_wp2_with fail
    refine (rname_any _ _ z1).mono ?_
    rintro e w' ⟨rfl, rfl⟩
    rw [H1.out]
    go_wp2_with fail
    refine (rname_any _ _ z2).mono ?_
    rintro e w' ⟨rfl, rfl⟩
    rw [H2.out]
    go_wp2_with fail
    refine (rname_any _ _ z3).mono ?_
    rintro e w' ⟨rfl, rfl⟩
    rw [H3.out]
    go_wp2_with fail
    refine wp_loop_rounds 4 ?_
    rw [rounds_succ]
    go_wp2_with fail
    rw [rounds_succ]
    go_wp2_with fail
    rw [rounds_succ]
    go_wp2_with fail
    rw [rounds_succ]
    go_wp2_with fail
    go_ret
    first | exact ⟨ret_bool HR.out, HB.out⟩ | exact ⟨ret_bool (HR.out.trans (decide_eq_false (by omega)).symm), HB.out⟩ | exact ⟨ret_bool (HR.out.trans (decide_eq_true (by omega)).symm), HB.out⟩
  by_cases q1 : amt ≤ 1099511627776
  rotate_left
  · have q1' : 1099511627776 < amt := by omega
    have HR := Lib.hid (show mayS ⟨num, gua, for_, to_, cu, amt, exp⟩ = false from mayS_no9 (by simp only; omega))
    clear g0 g1 g2 g3 g8 q1
    go_enter Try.func8, Try.ntmps8
    go_wp2_with fail
    refine (rname_any _ _ z0).mono ?_
    rintro e w' ⟨rfl, rfl⟩
    rw [H0.out]
    go_wp2_with fail
    refine (rname_any _ _ z1).mono ?_
    rintro e w' ⟨rfl, rfl⟩
    rw [H1.out]
    go_wp2_with fail
    refine (rname_any _ _ z2).mono ?_
    rintro e w' ⟨rfl, rfl⟩
    rw [H2.out]
    go_wp2_with fail
    refine (rname_any _ _ z3).mono ?_
    rintro e w' ⟨rfl, rfl⟩
    rw [H3.out]
    go_wp2_with fail
    refine wp_loop_rounds 4 ?_
    rw [rounds_succ]
    go_wp2_with fail
    rw [rounds_succ]
    go_wp2_with fail
    rw [rounds_succ]
    go_wp2_with fail
    rw [rounds_succ]
    go_wp2_with fail
    go_ret
    first | exact ⟨ret_bool HR.out, HB.out⟩ | exact ⟨ret_bool (HR.out.trans (decide_eq_false (by omega)).symm), HB.out⟩ | exact ⟨ret_bool (HR.out.trans (decide_eq_true (by omega)).symm), HB.out⟩
  by_cases q2 : 0 ≤ exp
  rotate_left
  · have q2' : exp < 0 := by omega
    have HR := Lib.hid (show mayS ⟨num, gua, for_, to_, cu, amt, exp⟩ = false from mayS_no0 (by simp only; omega))
    clear g0 g1 g2 g3 g8 q2
    go_enter Try.func8, Try.ntmps8
    go_wp2_with fail
    refine (rname_any _ _ z0).mono ?_
    rintro e w' ⟨rfl, rfl⟩
    rw [H0.out]
    go_wp2_with fail
    refine (rname_any _ _ z1).mono ?_
    rintro e w' ⟨rfl, rfl⟩
    rw [H1.out]
    go_wp2_with fail
    refine (rname_any _ _ z2).mono ?_
    rintro e w' ⟨rfl, rfl⟩
    rw [H2.out]
    go_wp2_with fail
    refine (rname_any _ _ z3).mono ?_
    rintro e w' ⟨rfl, rfl⟩
    rw [H3.out]
    go_wp2_with fail
    refine wp_loop_rounds 4 ?_
    rw [rounds_succ]
    go_wp2_with fail
    rw [rounds_succ]
    go_wp2_with fail
    rw [rounds_succ]
    go_wp2_with fail
    rw [rounds_succ]
    go_wp2_with fail
    go_ret
    first | exact ⟨ret_bool HR.out, HB.out⟩ | exact ⟨ret_bool (HR.out.trans (decide_eq_false (by omega)).symm), HB.out⟩ | exact ⟨ret_bool (HR.out.trans (decide_eq_true (by omega)).symm), HB.out⟩
  by_cases q3 : exp ≤ 1048576
  rotate_left
  · have q3' : 1048576 < exp := by omega
    have HR := Lib.hid (show mayS ⟨num, gua, for_, to_, cu, amt, exp⟩ = false from mayS_no0 (by simp only; omega))
    clear g0 g1 g2 g3 g8 q3
    go_enter Try.func8, Try.ntmps8
    go_wp2_with fail
    refine (rname_any _ _ z0).mono ?_
    rintro e w' ⟨rfl, rfl⟩
    rw [H0.out]
    go_wp2_with fail
    refine (rname_any _ _ z1).mono ?_
    rintro e w' ⟨rfl, rfl⟩
    rw [H1.out]
    go_wp2_with fail
    refine (rname_any _ _ z2).mono ?_
    rintro e w' ⟨rfl, rfl⟩
    rw [H2.out]
    go_wp2_with fail
    refine (rname_any _ _ z3).mono ?_
    rintro e w' ⟨rfl, rfl⟩
    rw [H3.out]
    go_wp2_with fail
    refine wp_loop_rounds 4 ?_
    rw [rounds_succ]
    go_wp2_with fail
    rw [rounds_succ]
    go_wp2_with fail
    rw [rounds_succ]
    go_wp2_with fail
    rw [rounds_succ]
    go_wp2_with fail
    go_ret
    first | exact ⟨ret_bool HR.out, HB.out⟩ | exact ⟨ret_bool (HR.out.trans (decide_eq_false (by omega)).symm), HB.out⟩ | exact ⟨ret_bool (HR.out.trans (decide_eq_true (by omega)).symm), HB.out⟩
  have HR := Lib.hid (show mayS ⟨num, gua, for_, to_, cu, amt, exp⟩ = true from mayS_yes g0 g1 g2 g3 g4 g5 g6 g8 ⟨q0, q1⟩ ⟨q2, q3⟩)
  clear g0 g1 g2 g3 g8
  go_enter Try.func8, Try.ntmps8
  go_wp2_with fail
  refine (rname_any _ _ z0).mono ?_
  rintro e w' ⟨rfl, rfl⟩
  rw [H0.out]
  go_wp2_with fail
  refine (rname_any _ _ z1).mono ?_
  rintro e w' ⟨rfl, rfl⟩
  rw [H1.out]
  go_wp2_with fail
  refine (rname_any _ _ z2).mono ?_
  rintro e w' ⟨rfl, rfl⟩
  rw [H2.out]
  go_wp2_with fail
  refine (rname_any _ _ z3).mono ?_
  rintro e w' ⟨rfl, rfl⟩
  rw [H3.out]
  go_wp2_with fail
  refine wp_loop_rounds 4 ?_
  rw [rounds_succ]
  go_wp2_with fail
  rw [rounds_succ]
  go_wp2_with fail
  rw [rounds_succ]
  go_wp2_with fail
  rw [rounds_succ]
  go_wp2_with fail
  go_ret
  first | exact ⟨ret_bool HR.out, HB.out⟩ | exact ⟨ret_bool (HR.out.trans (decide_eq_false (by omega)).symm), HB.out⟩ | exact ⟨ret_bool (HR.out.trans (decide_eq_true (by omega)).symm), HB.out⟩
end Go.Proofs.Ytlmlepdmgopojaa
