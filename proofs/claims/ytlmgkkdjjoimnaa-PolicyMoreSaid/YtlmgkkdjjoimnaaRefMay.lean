/- The walk of the document's May. Condition: how the causes lie. -/
import Derived.Test.YtlmgkkdjjoimnaaMay
namespace Go.Proofs.Ytlmgkkdjjoimnaa
open Go.RowKit
set_option linter.unusedVariables false
set_option linter.unusedSimpArgs false

section
variable (p : Pol) (hp : p.wf) (A : Option Addr) (n c : Nat) (w : World) (hc : Cs w w.heap.size A n p.causes)
include hp hc
set_option maxRecDepth 100000 in
set_option maxHeartbeats 8000000 in
theorem rmay_any : Calls Try.prog 13 #[polV p A n c] w fun e w' => e = .returned (.bool (mayP p)) ∧ Below w.heap.size w w' := by
  obtain ⟨w1, hw1⟩ : ∃ w1, w1 = w.alloc (.cells (p.cells A n c) 24) := ⟨_, rfl⟩
  have hb : Below w.heap.size w w1 := by rw [hw1]; exact (Below.refl _ _).alloc (Nat.le_refl _) _
  have bx : Blk w1 w.heap.size 24 (p.cells A n c) := by rw [hw1]; exact Blk.new _ _ _
  unfold Pol.cells at bx
  obtain ⟨c0, c1, c2, c3, c4, c5, c6, c7, c8⟩ := bx.nine_
  have lb := bx.lt
  have h1 := hc.below hb
  have hm := hc.2.1
  unfold maxLen at hm
  have HM := Lib.hid (mayP_all (p := p))
  have HP := Lib.hid hp
  have HB := Lib.hid hb
  have HL := Lib.hid hc.1
  unfold Pol.cells at hw1
  have HW := Lib.hid hw1
  clear hw1 hb bx hc hp
  unfold polV Pol.cells
  go_enter Try.func13, Try.ntmps13
  go_wp2_with fail
  rw [← HW.out]
  clear HW


  refine (rname_any p.ins w1 HP.out.1).mono ?_
  rintro e w' ⟨rfl, rfl⟩
  generalize hb0 : nameB p.ins = b0
  have HB0 := Lib.hid hb0
  clear hb0
  cases b0
  case false =>
    go_wp2_with fail
    go_ret
    exact ⟨ret_bool (mayP_not fun h => by have := (HM.out.1 h).1; rw [HB0.out] at this; cases this), HB.out⟩
  go_wp2_with fail
  refine (rname_any p.fr w1 HP.out.2.1).mono ?_
  rintro e w' ⟨rfl, rfl⟩
  generalize hb1 : nameB p.fr = b1
  have HB1 := Lib.hid hb1
  clear hb1
  cases b1
  case false =>
    go_wp2_with fail
    go_ret
    exact ⟨ret_bool (mayP_not fun h => by have := (HM.out.1 h).2.1; rw [HB1.out] at this; cases this), HB.out⟩
  go_wp2_with fail
  refine (rname_any p.to_ w1 HP.out.2.2).mono ?_
  rintro e w' ⟨rfl, rfl⟩
  generalize hb2 : nameB p.to_ = b2
  have HB2 := Lib.hid hb2
  clear hb2
  cases b2
  case false =>
    go_wp2_with fail
    go_ret
    exact ⟨ret_bool (mayP_not fun h => by have := (HM.out.1 h).2.2.1; rw [HB2.out] at this; cases this), HB.out⟩
  by_cases hs : 1 ≤ p.sum ∧ p.sum ≤ 1099511627776 ∧ 0 ≤ p.own ∧ p.own ≤ p.sum
  case neg =>
    have HN := Lib.hid (mayP_not (p := p) fun h => hs ⟨(HM.out.1 h).2.2.2.2.2.1.1, (HM.out.1 h).2.2.2.2.2.1.2, (HM.out.1 h).2.2.2.2.2.2.1.1, (HM.out.1 h).2.2.2.2.2.2.1.2⟩)
    rcases (show p.sum < 1 ∨ (1 ≤ p.sum ∧ 1099511627776 < p.sum) ∨ (1 ≤ p.sum ∧ p.sum ≤ 1099511627776 ∧ p.own < 0) ∨ (1 ≤ p.sum ∧ p.sum ≤ 1099511627776 ∧ 0 ≤ p.own ∧ p.sum < p.own) by omega) with g | ⟨g1, g2⟩ | ⟨g1, g2, g3⟩ | ⟨g1, g2, g3, g4⟩
    all_goals
      clear hs
      go_wp2_with fail
      go_ret
      exact ⟨ret_bool HN.out, HB.out⟩
  obtain ⟨s1, s2, s3, s4⟩ := hs

  go_wp2_with fail
  refine (rin_any p.share 1 1000 w1).mono ?_
  rintro e w' ⟨rfl, rfl⟩
  generalize ht0 : inB p.share 1 1000 = t0
  have HT0 := Lib.hid ht0
  clear ht0
  cases t0
  case false =>
    go_wp2_with fail
    go_ret
    exact ⟨ret_bool (mayP_not fun h => by have := inB_yes (HM.out.1 h).2.2.2.2.2.2.2.1; rw [HT0.out] at this; cases this), HB.out⟩
  go_wp2_with fail
  refine (rin_any p.first 0 1048576 w1).mono ?_
  rintro e w' ⟨rfl, rfl⟩
  generalize ht1 : inB p.first 0 1048576 = t1
  have HT1 := Lib.hid ht1
  clear ht1
  cases t1
  case false =>
    go_wp2_with fail
    go_ret
    exact ⟨ret_bool (mayP_not fun h => by have := inB_yes (HM.out.1 h).2.2.2.2.2.2.2.2.1; rw [HT1.out] at this; cases this), HB.out⟩
  go_wp2_with fail
  refine (rin_any p.last p.first 1048576 w1).mono ?_
  rintro e w' ⟨rfl, rfl⟩
  generalize ht2 : inB p.last p.first 1048576 = t2
  have HT2 := Lib.hid ht2
  clear ht2
  cases t2
  case false =>
    go_wp2_with fail
    go_ret
    exact ⟨ret_bool (mayP_not fun h => by have := inB_yes (n := p.last) (lo := p.first) (hi := 1048576) ⟨(HM.out.1 h).2.2.2.2.2.2.2.2.2.2, (HM.out.1 h).2.2.2.2.2.2.2.2.2.1.2⟩; rw [HT2.out] at this; cases this), HB.out⟩
  by_cases h64 : 64 < n
  · have q : (64 : Int) < n := by omega
    go_wp2_with fail
    go_ret
    exact ⟨ret_bool (mayP_not fun h => by have := (HM.out.1 h).2.2.2.1; have := HL.out; omega), HB.out⟩
  have q : (n : Int) ≤ 64 := by omega
  clear h64
  have HF : Hid (causesB p.causes = true → mayP p = true) := fun hcs => HM.out.2 ⟨HB0.out, HB1.out, HB2.out, by have := HL.out; omega, hcs, ⟨s1, s2⟩, ⟨s3, s4⟩, inB_of HT0.out, inB_of HT1.out, ⟨by have := inB_of HT1.out; have := inB_of HT2.out; omega, (inB_of HT2.out).2⟩, (inB_of HT2.out).1⟩
  go_wp2_with fail
  go_loopw [3] (fun i v => ∃ k : Nat, k ≤ n ∧ i = .int .i64 k ∧ Hid (CausesTo p.causes k) ∧ ∃ d, v = w1.drewN d) (fun i _ => n - (intOf i).toNat)
  case atStart => exact ⟨0, by omega, rfl, fun j h => by omega, 0, rfl⟩
  case round =>
    obtain ⟨k, hk, rfl, ha, d, rfl⟩ := hrel
    by_cases hlt : k < n
    · obtain ⟨a, x, hA, hx, hab, x0⟩ := h1.at_ hlt
      subst hA
      have HX := Lib.hid hx
      clear hx
      generalize hbx : inB x 0 1048576 = bx
      have HBX := Lib.hid hbx
      clear hbx
      have HKL : Hid (k < p.causes.length) := by show k < p.causes.length; rw [HL.out]; exact hlt
      cases bx
      · have HCon : ∀ W, Calls Try.prog 28 #[.int .i64 x, .int .i64 0, .int .i64 1048576] W fun e w' => e = .returned (.bool false) ∧ W = w' := fun W => by rw [← HBX.out]; exact rin_any x 0 1048576 W
        have HCC := Lib.hid HCon
        clear HCon
        go_wp2_with fail
        go_quiet ((go_at_call 28; exact (HCC.out _).mono fun e w' h => ⟨h.1, _, h.2.symm⟩))
        go_wp2_with fail
        go_ret
        exact ⟨ret_bool (mayP_not fun h => by have := (HM.out.1 h).2.2.2.2.1; rw [causes_no HKL.out (causeB_out HX.out HBX.out)] at this; cases this), below_drewN' (below_drewN' HB.out _) _⟩
      · have HCon : ∀ W, Calls Try.prog 28 #[.int .i64 x, .int .i64 0, .int .i64 1048576] W fun e w' => e = .returned (.bool true) ∧ W = w' := fun W => by rw [← HBX.out]; exact rin_any x 0 1048576 W
        have HCC := Lib.hid HCon
        clear HCon
        by_cases k0 : k = 0
        · have HC := Lib.hid (causeB_first HX.out HBX.out k0)
          have k0i : (k : Int) ≤ 0 := by omega
          have k0d : decide (0 < k) = false := by simp; omega
          have k0e : decide ((0 : Int) < (k : Int)) = false := by simp; omega
          clear k0
          go_wp2_with fail
          go_quiet ((go_at_call 28; exact (HCC.out _).mono fun e w' h => ⟨h.1, _, h.2.symm⟩))
          go_wp2_with fail
          go_roundw
          case rel => exact ⟨k + 1, by omega, by go_num, ha.out.next HC.out, _, rfl⟩
          case measure => simp [intOf]; omega
        · have k0' : 0 < k := by omega
          have k0i : (0 : Int) < k := by omega
          obtain ⟨a', y, hA, hy, hab', y0⟩ := h1.at_ (show k - 1 < n by omega)
          cases hA
          have HC := Lib.hid (causeB_next HX.out HBX.out k0' hy)
          have W1 : IntKind.i64.wrap ((k : Int) - 1) = ((k - 1 : Nat) : Int) := by rw [show (k : Int) - 1 = ((k - 1 : Nat) : Int) by omega]; exact IntWalk.i64_in _ (by omega)
          have hle : k - 1 < n := by omega
          clear hy k0
          by_cases hxy : y < x
          · have HC2 : Hid (causeB p.causes k = true) := by show causeB p.causes k = true; rw [HC.out]; simpa using hxy
            clear HC
            go_wp2_with fail
            go_quiet ((go_at_call 28; exact (HCC.out _).mono fun e w' h => ⟨h.1, _, h.2.symm⟩))
            go_wp2_with fail
            go_roundw
            case rel => exact ⟨k + 1, by omega, by go_num, ha.out.next HC2.out, _, rfl⟩
            case measure => simp [intOf]; omega
          · have HC2 : Hid (causeB p.causes k = false) := by show causeB p.causes k = false; rw [HC.out]; simpa using hxy
            have hxy' : x ≤ y := by omega
            clear HC hxy
            go_wp2_with fail
            go_quiet ((go_at_call 28; exact (HCC.out _).mono fun e w' h => ⟨h.1, _, h.2.symm⟩))
            go_wp2_with fail
            go_ret
            exact ⟨ret_bool (mayP_not fun h => by have := (HM.out.1 h).2.2.2.2.1; rw [causes_no HKL.out HC2.out] at this; cases this), below_drewN' (below_drewN' HB.out _) _⟩
    · obtain rfl : k = n := by omega
      have HCA : Hid (causesB p.causes = true) := causes_yes (by rw [HL.out]; exact ha.out)
      go_wp2_with fail
      go_ret
      exact ⟨ret_bool (HF.out HCA.out), below_drewN' HB.out _⟩
end
end Go.Proofs.Ytlmgkkdjjoimnaa
