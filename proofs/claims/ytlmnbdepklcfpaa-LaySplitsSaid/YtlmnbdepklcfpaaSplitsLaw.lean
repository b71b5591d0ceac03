/- LaySplits's walk. Condition: how the stretches lie. -/
import Derived.Test.YtlmnbdepklcfpaaSplit
namespace Go.Proofs.Ytlmnbdepklcfpaa
open Go.RowKit
set_option linter.unusedVariables false
set_option linter.unusedSimpArgs false

set_option maxRecDepth 100000 in
set_option maxHeartbeats 4000000 in
theorem splitsLaw_any (a b c at_ : Int) (A : Option Addr) (n k : Nat) (l : List Str) (w : World) (h : Strs w w.heap.size A n l) (hn : n ≤ maxLen) :
    Calls Try.prog 6 #[layV a b c, .int .i64 at_, .slice A n k] w fun e w' => e = .returned (.bool true) ∧ Below w.heap.size w w' := by
  have K0 := Lib.hid (Kp.new w a b c)
  have H := Lib.hid h
  clear h
  unfold layV
  go_enter Try.func6, Try.ntmps6
  go_wp2_with fail
  refine (awake_any _).mono ?_
  rintro e w1 ⟨rfl, hb⟩
  have K1 := Lib.hid (K0.out.step hb)
  clear hb K0
  by_cases h30 : 30 < n
  · have q : (30 : Int) < n := by omega
    go_wp2_with fail
    go_ret
    exact ⟨rfl, K1.out.1⟩
  have q : (n : Int) ≤ 30 := by omega
  have hn5 : n ≤ 100000 := by omega
  clear h30
  go_wp2_with fail
  refine (long_any A n k l w1 (K1.out.strs H.out) hn 2000).mono ?_
  rintro e w2 ⟨lg, rfl, hb⟩
  have K2 := Lib.hid (K1.out.step hb)
  obtain ⟨p0, p1, p2⟩ := K2.out.three
  clear hb K1
  cases lg
  case true =>
    go_wp2_with fail
    go_ret
    exact ⟨rfl, K2.out.1⟩
  by_cases hbad : badC a b c l = 0
  · have hm : mayB a b c = true := by
      by_cases hm : mayB a b c = true
      · exact hm
      · unfold badC at hbad
        rw [if_neg hm] at hbad
        omega
    have hr : (chk l).2 = 0 := by unfold badC at hbad; rwa [if_pos hm] at hbad
    have HM := Lib.hid hm
    have HR := Lib.hid hr
    obtain ⟨v1, v2⟩ := V_bd (a := a) at_ hr
    obtain ⟨u1, u2⟩ := U_bd (a := a) hr
    have e1 : (V a l at_ == V a l at_) = true := by simp
    have e2 : (V a l at_ + (U a l - V a l at_) == U a l) = true := by simp; omega
    have e3 : 0 ≤ U a l - V a l at_ := by omega
    clear hm hr hbad
    go_wp2_with fail
    refine (split_ok a b c at_ A n k l w2 (K2.out.strs H.out) hn5 HM.out HR.out).mono ?_
    rintro e w3 ⟨rfl, hb⟩
    have K3 := Lib.hid (K2.out.step hb)
    obtain ⟨q0, q1, q2⟩ := K3.out.three
    clear hb K2 p0 p1 p2
    go_wp2_with fail
    refine (used_ok a b c A n k l w3 (K3.out.strs H.out) hn HM.out HR.out).mono ?_
    rintro e w4 ⟨rfl, hb⟩
    have K4 := Lib.hid (K3.out.step hb)
    obtain ⟨p0, p1, p2⟩ := K4.out.three
    clear hb K3 q0 q1 q2
    go_wp2_with fail
    refine (rused_any a b c A n k l at_ w4 (K4.out.strs H.out) hn HM.out HR.out).mono ?_
    rintro e w5 ⟨rfl, hb⟩
    have K5 := Lib.hid (K4.out.step hb)
    clear hb K4
    go_wp2_with fail
    go_ret
    exact ⟨rfl, K5.out.1⟩
  · have e1 : (badC a b c l != badC a b c l) = false := by simp
    have e2 : (badC a b c l != 0) = true := by simpa using hbad
    have HNZ := Lib.hid hbad
    clear hbad
    go_wp2_with fail
    refine (split_bad a b c at_ A n k l w2 (K2.out.strs H.out) hn5 HNZ.out).mono ?_
    rintro e w3 ⟨rfl, hb⟩
    have K3 := Lib.hid (K2.out.step hb)
    obtain ⟨q0, q1, q2⟩ := K3.out.three
    clear hb K2 p0 p1 p2
    go_wp2_with fail
    refine (used_bad a b c A n k l w3 (K3.out.strs H.out) hn HNZ.out).mono ?_
    rintro e w4 ⟨rfl, hb⟩
    have K4 := Lib.hid (K3.out.step hb)
    clear hb K3
    go_wp2_with fail
    go_ret
    exact ⟨rfl, K4.out.1⟩
end Go.Proofs.Ytlmnbdepklcfpaa
