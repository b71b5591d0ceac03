/- nets(): netting.pairs of its two debts. No condition. -/
import Derived.Test.YtlmnbdepklcfpaaNetC
import Derived.Test.YtlmnbdepklcfpaaNetS
namespace Go.Proofs.Ytlmnbdepklcfpaa
open Go.RowKit Go.Maps Go.ChangeMaps
set_option linter.unusedVariables false
set_option linter.unusedSimpArgs false
theorem E1_cases {kl : Lit} {y : Dm} (hat : ∀ zd, E1.atKey kl zd = y) : kl = kl1 ∧ y = .lit (.int .i64 2) := by
  have h0 := hat .nil
  have h1 := hat (.lit (.bool true))
  unfold E1 DataW.atKey at h0 h1
  simp only [List.find?_cons, List.find?_nil] at h0 h1
  cases e1 : kl1.sameKey kl
  · rw [e1] at h0 h1
    simp at h0 h1
    rw [← h0] at h1
    cases h1
  · rw [e1] at h0
    simp at h0
    exact ⟨(WideAt.sameKey_eq e1).symm, h0.symm⟩
theorem E1has : Maps.has E1 kl1 = true := by kernel_rfl
set_option maxRecDepth 100000 in
set_option maxHeartbeats 4000000 in
theorem npairs_any (g : Nat) (w : World) (h : Blk w g 64 two) : Calls Try.prog 34 #[.slice (some ⟨g, 0, none⟩) 2 2] w fun e w' => ∃ b, e = .returned (.tuple #[.map (some b), .int .i64 0]) ∧ w.heap.size ≤ b ∧ Below w.heap.size w w' ∧ w'.ownsMap Try.prog 74 (plainElem Try.prog 2) b 1 E1 := by
  have HB := Lib.hid h
  have hg := h.lt
  clear h
  go_enter Try.func34, Try.ntmps34
  go_wp2_with fail
  refine (nallof_any g _ HB.out).mono ?_
  rintro e w1 ⟨rfl, hb1⟩
  have HB1 := Lib.hid hb1
  have HW1 := Lib.hid (HB.out.below hb1 hg)
  have hl1 := hb1.size
  clear hb1
  go_wp2_with fail
  refine (paired_any g _ HW1.out).mono ?_
  rintro e w2 ⟨b, rfl, hbs, hb2, hown⟩
  have HO := Lib.hid hown
  have HB2 := Lib.hid (below_trans HB1.out hb2)
  have hl2 := HB2.out.size
  have hlt := hown.lt
  clear hown hb2
  go_wp2_with (first
    | (at_range; refine wpList_range_own _ rfl _ 66 rfl 74 2 road_K road_und _ b 1 E1 rfl HO.out ?_; intro w0 hrg0 hg0 hs0)
    | go_in)
  go_frame
  have HR0 := Lib.hid hrg0
  have HB0 := Lib.hid (HB2.out.grown hg0 hl2 (fun j hj => by cases hj))
  clear hrg0 hg0
  generalize hrr : w2.heap.size = r at *
  have HRR := Lib.hid hrr
  clear hrr
  go_loopw [6] (fun _ v => ∃ (left : Lit → Bool) (cnt : Nat), Hid (v.ranges Try.prog 74 (plainElem Try.prog 2) b r 1 E1 left cnt) ∧ Hid (Below w.heap.size w v)) (fun _ v => v.rangeLeft b r)
  case atStart => exact ⟨_, _, HR0.out, HB0.out⟩
  case round =>
    obtain ⟨left, cnt, hrg, hbv⟩ := hrel
    clear HR0 HO
    go_wp2_with (first
      | (at_next; go_loud (refine wpList_next_ranges _ rfl _ rfl 74 road_K (plainElem Try.prog 2) (fun x : Value => x) (Value.int .i64) (fun key kl _ => ⟨key, rfl⟩) (fun v y hv => by obtain ⟨c, rfl, _⟩ := plainElem_int_inv i64_und hv; exact ⟨c, rfl⟩) b r 1 E1 _ _ rfl hrg.out ?_ ?_))
      | go_in)
    · intro hc0 hl0
      go_wp2
      go_ret2
      exact ⟨b, rfl, by omega, hbv.out, hrg.out.owns⟩
    · intro x c kl y ps w3 cnt1 hkx hlk hRv hat hrg1 hlt1 hg1 hs1 hen
      obtain ⟨rfl, hy5⟩ := E1_cases hat
      obtain rfl := road_law.inj hkx key1
      obtain ⟨c', ec, hc', _⟩ := plainElem_int_inv i64_und hRv
      cases ec
      cases hc'
      cases hy5
      have HRG := Lib.hid hrg1
      have HBL := Lib.hid (hbv.out.grown hg1 hbv.out.size (fun j hj => by cases hj; omega))
      clear hrg1
      go_wp2_with fail
      go_roundw
      case rel => exact ⟨_, cnt1, HRG.out, HBL.out⟩
      case measure => rw [HRG.out.left_eq, hrg.out.left_eq]; exact hlt1
end Go.Proofs.Ytlmnbdepklcfpaa
