/- The walk of the laws' example. Condition: where the words lie. -/
import Derived.Test.YtnffnkmghghmlaaDoorScan
import Derived.Test.YtnffnkmghghmlaaDoorSame
namespace Go.Proofs.YtnffnkmghghmlaaDoor
open Go.RowKit
set_option linter.unusedVariables false
set_option linter.unusedSimpArgs false
def exA : ByteArray := ⟨#[115, 117, 109, 32, 60, 61, 32, 49, 50]⟩
def exB : ByteArray := ⟨#[97, 32, 34, 98, 32, 99, 34]⟩
theorem lex_exA : lex 0 (bs exA) = ([⟨0, 0, [115, 117, 109]⟩, ⟨5, 4, [60, 61]⟩, ⟨2, 7, [49, 50]⟩], 9, 0) := by kernel_rfl
theorem lex_exB : lex 0 (bs exB) = ([⟨1, 0, [97]⟩, ⟨3, 2, [98, 32, 99]⟩], 7, 0) := by kernel_rfl
set_option maxRecDepth 100000 in
set_option maxHeartbeats 4000000 in
theorem awake_any (w : World) {b o c : Nat} (T : Tab w b o c) : Calls Tryd.prog 10 #[] w fun e w' => e = .returned (.bool true) ∧ Below w.heap.size w w' := by
  have HT := Lib.hid T
  have SA := Lib.hid fun w (T : Tab w b o c) => scan_any exA w T (by decide) (by rw [lex_exA]; decide)
  have SB := Lib.hid fun w (T : Tab w b o c) => scan_any exB w T (by decide) (by rw [lex_exB]; decide)
  have ea : scan (bs exA) = ([⟨0, 0, [115, 117, 109]⟩, ⟨5, 4, [60, 61]⟩, ⟨2, 7, [49, 50]⟩], 9, 0) := by unfold scan; rw [lex_exA]; rfl
  have eb : scan (bs exB) = ([⟨1, 0, [97]⟩, ⟨3, 2, [98, 32, 99]⟩], 7, 0) := by unfold scan; rw [lex_exB]; rfl
  rw [ea] at SA
  rw [eb] at SB
  unfold ScanR exA at SA
  unfold ScanR exB at SB
  simp only [List.length_cons, List.length_nil] at SA SB
  clear ea eb T
  go_enter Tryd.func10, Tryd.ntmps10
  go_wp2_with fail
  refine (SA.out w HT.out).mono ?_
  rintro e w1 ⟨A, c1, rfl, hl, hb1⟩
  have B1 := Lib.hid hb1
  have L1 := Lib.hid hl
  clear hb1 hl
  go_wp2_with fail
  refine (SB.out w1 (HT.out.below B1.out)).mono ?_
  rintro e w2 ⟨A2, c2, rfl, hl2, hb2⟩
  have B2 := Lib.hid (below_trans B1.out hb2)
  obtain ⟨a, x0, rfl, hx0, hk0, p0, p1, p2⟩ := (L1.out.up hb2).at_ (k := 0) (by decide)
  obtain ⟨a', x1, ha1, hx1, hk1, q0, q1, q2⟩ := (L1.out.up hb2).at_ (k := 1) (by decide)
  obtain rfl : a = a' := Option.some.inj ha1
  obtain ⟨a', x2, ha2, hx2, hk2, r0, r1, r2⟩ := (L1.out.up hb2).at_ (k := 2) (by decide)
  obtain rfl : a = a' := Option.some.inj ha2
  obtain ⟨d, y1, rfl, hy1, hj1, s0, s1, s2⟩ := hl2.at_ (k := 1) (by decide)
  cases hx0; cases hx1; cases hx2; cases hy1
  simp [Addr.add, str] at p0 p1 p2 q0 q1 q2 r0 r1 r2 s0 s1 s2
  clear ha1 ha2 hl2 hb2
  go_wp2_with fail
  go_ret
  exact ⟨rfl, B2.out⟩
end Go.Proofs.YtnffnkmghghmlaaDoor
