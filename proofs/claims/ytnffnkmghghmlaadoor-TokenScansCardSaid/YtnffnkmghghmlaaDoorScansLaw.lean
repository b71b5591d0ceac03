/- TokenScans' walk. Condition: where the words lie. -/
import Derived.Test.YtnffnkmghghmlaaDoorAwake
import Derived.Test.YtnffnkmghghmlaaDoorRScan
namespace Go.Proofs.YtnffnkmghghmlaaDoor
open Go.RowKit
set_option linter.unusedVariables false
set_option linter.unusedSimpArgs false
theorem lex_few {s : ByteArray} (h : s.size ≤ 3000) : (lex 0 (bs s)).1.length < 4096 := by
  have := (lex_len 0 (bs s)).1
  rw [bs_len] at this
  omega
theorem scan_len (l : Bs) : (scan l).1.length ≤ (lex 0 l).1.length := by
  unfold scan
  split
  · exact Nat.le_refl _
  · simp
set_option maxRecDepth 100000 in
set_option maxHeartbeats 4000000 in
theorem scansLaw_any (s : ByteArray) (w : World) {b o c : Nat} (T : Tab w b o c) (hs : s.size ≤ maxLen) : Calls Tryd.prog 3 #[.string s] w fun e w' => e = .returned (.bool true) ∧ Below w.heap.size w w' := by
  have HT := Lib.hid T
  have AW := Lib.hid (awake_any w T)
  by_cases h : 3000 < s.size
  · have h' : (3000 : Int) < s.size := by omega
    clear h T
    unfold maxLen at hs
    go_enter Tryd.func3, Tryd.ntmps3
    go_wp2_with fail
    refine AW.out.mono ?_
    rintro e w1 ⟨rfl, hb1⟩
    have B1 := Lib.hid hb1
    clear hb1
    go_wp2_with fail
    go_ret
    exact ⟨rfl, B1.out⟩
  · have h' : (s.size : Int) ≤ 3000 := by omega
    have few := lex_few (s := s) (by omega)
    have SC := Lib.hid fun w T => scan_any (b := b) (o := o) (c := c) s w T hs few
    have RS := Lib.hid fun w => rscan_any s w hs few
    have hl := Lib.hid (Nat.lt_of_le_of_lt (scan_len (bs s)) few)
    unfold ScanR at SC RS
    generalize scan (bs s) = r at *
    obtain ⟨l, at_, er⟩ := r
    simp only at SC RS hl
    clear few h T
    unfold maxLen at hs
    go_enter Tryd.func3, Tryd.ntmps3
    go_wp2_with fail
    refine AW.out.mono ?_
    rintro e w1 ⟨rfl, hb1⟩
    have B1 := Lib.hid hb1
    clear hb1
    go_wp2_with fail
    refine (SC.out w1 (HT.out.below B1.out)).mono ?_
    rintro e w2 ⟨A, c1, rfl, hl1, hb2⟩
    have B2 := Lib.hid (below_trans B1.out hb2)
    have L2 := Lib.hid hl1
    clear hb2 hl1
    go_wp2_with fail
    refine (RS.out w2).mono ?_
    rintro e w3 ⟨A2, c2, rfl, hl2, hb3⟩
    have B3 := Lib.hid (below_trans B2.out hb3)
    have L3 := Lib.hid (L2.out.up hb3)
    have M3 := Lib.hid hl2
    clear hb3 hl2
    go_wp2_with fail
    refine (same_any l A A2 c1 c2 w3 L3.out M3.out (by have := hl.out; omega)).mono ?_
    rintro e w4 ⟨rfl, hb4⟩
    have B4 := Lib.hid (below_trans B3.out hb4)
    clear hb4
    go_wp2_with fail
    go_ret
    exact ⟨rfl, B4.out⟩
end Go.Proofs.YtnffnkmghghmlaaDoor
