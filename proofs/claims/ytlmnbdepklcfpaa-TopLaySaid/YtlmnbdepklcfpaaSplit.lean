/- The walks of Split and of Money. Condition: how the stretches lie. -/
import Derived.Test.YtlmnbdepklcfpaaCut
import Derived.Test.YtlmnbdepklcfpaaUsedLaw
namespace Go.Proofs.Ytlmnbdepklcfpaa
open Go.RowKit
set_option linter.unusedVariables false
set_option linter.unusedSimpArgs false

theorem V_ahead {a : Int} {l : List Str} {at_ : Int} (hr : (chk l).2 = 0) : Chain (headF l) (ahead at_ l) ∧ (Clk.run (2 * a) (ahead at_ l)).used = V a l at_ := by
  have hc := (chk_chain hr).1
  have hch := ((chain_append _ _ _).1 (cut_chain at_ l _ hc).1).1
  refine ⟨hch, ?_⟩
  rw [run_used hch (headF_ok hr)]
  unfold V
  rw [hoursTo_ahead at_ l]
  intro s hs
  obtain ⟨i, hi⟩ := List.mem_iff_getElem?.1 hs
  have := right_get hr hi
  unfold Str.ok at this
  omega
theorem V_bd {a : Int} {l : List Str} (at_ : Int) (hr : (chk l).2 = 0) : 0 ≤ V a l at_ ∧ V a l at_ ≤ U a l := by
  have hc := (chk_chain hr).1
  obtain ⟨h1, h2, h3⟩ := cut_chain at_ l _ hc
  obtain ⟨hch, hu⟩ := V_ahead (a := a) (at_ := at_) hr
  have hb := run_bd (F := 2 * a) hch (headF_ok hr)
  rw [hu] at hb
  refine ⟨hb.1, ?_⟩
  rw [← hu, run_used hch (headF_ok hr)]
  unfold U
  rw [← h2, hours_append, fold_append]
  refine fold_le _ _ _ fun x hx => ?_
  have := (chain_hours l _ hc).1 x (by rw [← h2, hours_append]; exact List.mem_append_right _ hx)
  exact this.1
theorem Row.strs {w : World} {B : Nat} {A : Option Addr} {c : Nat} {xs : List Str} (h : Row w B 44 3 A xs.length c (flat xs)) : Strs w w.heap.size A xs.length xs := ⟨rfl, h.reads⟩
section
variable (a b c : Int) (at_ : Int) (A : Option Addr) (n k : Nat) (l : List Str) (w : World) (h : Strs w w.heap.size A n l) (hn : n ≤ 100000)
include h hn
set_option maxHeartbeats 1000000 in
theorem split_bad (hbad : badC a b c l ≠ 0) : Calls Try.prog 23 #[layV a b c, .int .i64 at_, .slice A n k] w fun e w' => e = .returned (.tuple #[.int .i64 0, .int .i64 0, .int .i64 (badC a b c l)]) ∧ Below w.heap.size w w' := by
  have K0 := Lib.hid (Kp.new w a b c)
  have H := Lib.hid h
  have q : (badC a b c l != 0) = true := by simpa using hbad
  generalize hbc : badC a b c l = bc at *
  have HBC := Lib.hid hbc
  have HNZ := Lib.hid hbad
  clear hbc hbad h
  unfold layV
  go_enter Try.func23, Try.ntmps23
  go_wp2_with fail
  refine (used_bad a b c A n k l _ (K0.out.strs H.out) (by unfold maxLen; omega) (by rw [HBC.out]; exact HNZ.out)).mono ?_
  rintro e w1 ⟨rfl, hb⟩
  rw [HBC.out]
  have HB := Lib.hid (below_trans K0.out.1 hb)
  clear hb
  go_wp2_with fail
  go_ret3
  exact ⟨rfl, HB.out⟩
variable (hm : mayB a b c = true) (hr : (chk l).2 = 0)
include hm hr
set_option maxHeartbeats 2000000 in
theorem split_ok : Calls Try.prog 23 #[layV a b c, .int .i64 at_, .slice A n k] w fun e w' => e = .returned (.tuple #[.int .i64 (V a l at_), .int .i64 (U a l - V a l at_), .int .i64 0]) ∧ Below w.heap.size w w' := by
  have K0 := Lib.hid (Kp.new w a b c)
  have H := Lib.hid h
  have HM := Lib.hid hm
  have HR := Lib.hid hr
  have HMM := Lib.hid (mayB_yes hm)
  obtain ⟨v1, v2⟩ := V_bd (a := a) at_ hr
  obtain ⟨u1, u2⟩ := U_bd (a := a) hr
  obtain ⟨hch, hu⟩ := V_ahead (a := a) (at_ := at_) hr
  have HCH := Lib.hid hch
  have HU := Lib.hid hu
  clear h hm hr hch hu
  have hl := (cut_len at_ l).1
  have hln := H.out.1
  have hl2 : (ahead at_ l).length ≤ 100000 := by omega
  clear hl hln
  unfold layV
  go_enter Try.func23, Try.ntmps23
  go_wp2_with fail
  refine (used_ok a b c A n k l _ (K0.out.strs H.out) (by unfold maxLen; omega) HM.out HR.out).mono ?_
  rintro e w1 ⟨rfl, hb⟩
  have K1 := Lib.hid (K0.out.step hb)
  clear hb K0
  go_wp2_with fail
  refine (cut_any at_ A n k l w1 (K1.out.strs H.out) hn).mono ?_
  rintro e w2 ⟨A', c', D, d, rfl, hb, hrow, hrow2, hap⟩
  have K2 := Lib.hid (K1.out.step hb)
  have HRow := Lib.hid hrow
  obtain ⟨p0, p1, p2⟩ := K2.out.three
  clear hb K1 hrow hrow2 hap
  go_wp2_with fail
  refine (run_any a b c HMM.out.1 HMM.out.2.1 A' _ c' (ahead at_ l) w2 HRow.out.strs (by unfold maxLen; omega) _ HCH.out (headF_ok HR.out)).mono ?_
  rintro e w3 ⟨rfl, hk, hb⟩
  obtain ⟨d0, d1, d2, _, _, _⟩ := hk.three_
  rw [HU.out] at d1
  have K3 := Lib.hid (K2.out.step hb)
  clear hk hb
  go_wp2_with fail
  go_ret3
  exact ⟨rfl, K3.out.1⟩
end
/-- what Money tells: the money, or that it is out of range -/
def MoneyV (m : Int) (v : Value) : Prop := v = .tuple #[.int .i64 m, .int .i64 0] ∨ v = .tuple #[.int .i64 0, .int .i64 3]
end Go.Proofs.Ytlmnbdepklcfpaa
