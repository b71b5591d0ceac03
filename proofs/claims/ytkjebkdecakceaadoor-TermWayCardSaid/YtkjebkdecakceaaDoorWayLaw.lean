/- TermWay's walk, whatever the input. Conditions: the table ('Tab'), and how the two slices lie. -/
import Derived.Test.YtkjebkdecakceaaDoorWay
import Derived.Test.YtkjebkdecakceaaDoorWayOut
import Derived.Test.YtkjebkdecakceaaDoorView
namespace Go.Proofs.YtkjebkdecakceaaDoor
open Go.RowKit
theorem way_any (t : Int) (n1 c1 n2 c2 : Nat) (A1 A2 : Option Addr) (os : List ByteArray) (ds : List Int) (sel buy : ByteArray) (D E : Int) (hc1 : n1 ≤ c1) (hm1 : c1 ≤ maxLen) (ho : os.length = n1) (hd : ds.length = n2)
    {w : World} {PA : Nat → Addr} {cp : Nat → Nat} (T : Tab w PA cp) (r1 : Reads w w.heap.size 1 A1 n1 (os.map Value.string)) (r2 : Reads w w.heap.size 1 A2 n2 (ds.map (Value.int .i64))) :
    Calls Tryd.prog 8 #[.int .i64 t, .slice A1 n1 c1, .slice A2 n2 c2, .string sel, .string buy, .int .i64 D, .int .i64 E] w fun e w' => e = .returned (.bool true) ∧ Below w.heap.size w w' := by
  by_cases h : (t < 0 ∨ 7 < t) ∨ 20 < n1 ∨ n2 ≠ n1 + 2 ∨ sel = buy ∨ 100 < sel.size ∨ 100 < buy.size ∨ E < D
  · exact way_out t n1 c1 n2 c2 A1 A2 sel buy D E (Nat.le_trans hc1 hm1) h T
  · simp only [not_or] at h
    obtain ⟨⟨g1, g1'⟩, g2, g3, g4, g5, g6, g7⟩ := h
    obtain ⟨t', rfl⟩ := Int.eq_ofNat_of_zero_le (show 0 ≤ t by omega)
    obtain rfl : n2 = n1 + 2 := by omega
    exact way_main t' (by omega) os ds n1 (by omega) ho hd sel buy g4 (by omega) (by omega) D E (by omega) T A1 A2 c1 c2 r1 r2
end Go.Proofs.YtkjebkdecakceaaDoor
