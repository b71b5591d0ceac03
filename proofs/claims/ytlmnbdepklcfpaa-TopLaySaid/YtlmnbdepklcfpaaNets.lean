/- nets(): it answers true. No condition. -/
import Derived.Test.YtlmnbdepklcfpaaNetE
namespace Go.Proofs.Ytlmnbdepklcfpaa
open Go.RowKit Go.Maps Go.ChangeMaps
set_option linter.unusedVariables false
set_option linter.unusedSimpArgs false
set_option maxHeartbeats 2000000 in
theorem nPairs_any (g : Nat) (w : World) (h : Blk w g 64 two) : Calls Try.prog 31 #[.slice (some ⟨g, 0, none⟩) 2 2] w fun e w' => ∃ A c, e = .returned (.tuple #[.slice A 1 c, .int .i64 0]) ∧ Row w' w.heap.size 64 4 A 1 c one ∧ Below w.heap.size w w' := by
  have HB := Lib.hid h
  clear h
  go_enter Try.func31, Try.ntmps31
  go_wp2_with fail
  refine (npairs_any g _ HB.out).mono ?_
  rintro e w1 ⟨b, rfl, hbs, hb1, hown⟩
  have HO := Lib.hid hown
  have HB1 := Lib.hid hb1
  have hl1 := hb1.size
  clear hown hb1
  go_wp2_with fail
  refine (told_any b _ HO.out).mono ?_
  rintro e w2 ⟨A, c, rfl, hrow, hb2⟩
  have HR := Lib.hid hrow
  have HB2 := Lib.hid (below_trans HB1.out hb2)
  clear hrow hb2
  go_wp2_with fail
  go_ret2
  exact ⟨A, c, rfl, ⟨HR.out.1, HR.out.2.imp id fun ⟨r, cur, h1, h2, h3⟩ => ⟨r, cur, h1, Nat.le_trans hl1 h2, h3⟩⟩, HB2.out⟩
set_option maxRecDepth 100000 in
set_option maxHeartbeats 2000000 in
theorem nets_any (w : World) : Calls Try.prog 24 #[] w fun e w' => e = .returned (.bool true) ∧ Below w.heap.size w w' := by
  have HT := Lib.hid (Blk.new w 64 two)
  have HA := Lib.hid (ballo w (.cells two 64))
  unfold two at HT HA
  go_enter Try.func24, Try.ntmps24
  go_wp2_with fail
  refine (nPairs_any w.heap.size _ (by unfold two; exact HT.out)).mono ?_
  rintro e w1 ⟨A, c, rfl, hrow, hb1⟩
  have HB := Lib.hid (below_trans HA.out hb1)
  obtain ⟨_, ⟨_, h0, _⟩ | ⟨r, cur, rfl, hr, hh, hc1, hc2, hcs, ht, _⟩⟩ := hrow
  · cases h0
  have hbk : Blk w1 r 64 cur := hh
  have hc : ∀ j (v : Value), one[j]? = some v → w1.cell? ⟨r, j, none⟩ = some v := fun j v hv => by
    rw [hbk.cell j, ← Array.getElem?_toList]
    rw [← ht, List.getElem?_take] at hv
    split at hv
    · exact hv
    · cases hv
  have c0 := hc 0 _ rfl
  have c1 := hc 1 _ rfl
  have c2 := hc 2 _ rfl
  have c3 := hc 3 _ rfl
  clear hh ht hc hb1 hbk
  go_wp2_with fail
  go_ret
  exact ⟨rfl, HB.out⟩
end Go.Proofs.Ytlmnbdepklcfpaa
