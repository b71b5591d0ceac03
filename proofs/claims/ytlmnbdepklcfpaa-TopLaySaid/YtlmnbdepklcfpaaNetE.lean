/- nets(): what is told of its two debts. No condition. -/
import Derived.Test.YtlmnbdepklcfpaaNetD
namespace Go.Proofs.Ytlmnbdepklcfpaa
open Go.RowKit Go.Maps Go.ChangeMaps
set_option linter.unusedVariables false
set_option linter.unusedSimpArgs false
/-- the one debt that is left -/
def one : List Value := [.string ⟨#[97]⟩, .string ⟨#[98]⟩, .string ⟨#[85, 83, 68]⟩, .int .i64 2]
theorem info64 : (Try.prog.info? 64).map (fun i => (i.zero, i.size, i.bytes)) = some (some (.agg #[.string ⟨#[]⟩, .string ⟨#[]⟩, .string ⟨#[]⟩, .int .i64 0]), 4, 56) := by kernel_rfl
set_option maxRecDepth 100000 in
set_option maxHeartbeats 4000000 in
theorem told_any (b : Nat) (w : World) (h : w.ownsMap (H := Unit) Try.prog 74 (plainElem Try.prog 2) b 1 E1) : Calls Try.prog 35 #[.map (some b)] w fun e w' => ∃ A c, e = .returned (.slice A 1 c) ∧ Row w' w.heap.size 64 4 A 1 c one ∧ Below w.heap.size w w' := by
  obtain ⟨i0, hi, hz0, hz1, hz2⟩ := info_parts info64
  have hlt := h.lt
  have HO := Lib.hid h
  clear h
  go_enter Try.func35, Try.ntmps35
  go_wp2_with (first
    | (at_range; refine wpList_range_own _ rfl _ 66 rfl 74 2 road_K road_und _ b 1 E1 rfl HO.out ?_; intro w0 hrg0 hg0 hs0)
    | go_in)
  go_frame
  have HR0 := Lib.hid hrg0
  have HB0 := Lib.hid ((Below.refl w.heap.size w).grown hg0 (Nat.le_refl _) (fun j hj => by cases hj))
  clear hrg0 hg0
  go_loopw [3] (fun o v => ∃ (left : Lit → Bool) (cnt : Nat), Hid (v.ranges Try.prog 74 (plainElem Try.prog 2) b w.heap.size 1 E1 left cnt) ∧ Hid (left kl1 = true → o = .slice none 0 0) ∧ Hid (left kl1 = false → ∃ A c, o = .slice A 1 c ∧ Row v w.heap.size 64 4 A 1 c one) ∧ Hid (Below w.heap.size w v)) (fun _ v => v.rangeLeft b w.heap.size)
  case atStart => exact ⟨_, _, HR0.out, fun _ => rfl, fun h => (by rw [E1has] at h; cases h), HB0.out⟩
  case round =>
    obtain ⟨left, cnt, hrg, hy, hn, hbv⟩ := hrel
    clear HR0 HO
    go_wp2_with (first
      | (at_next; go_loud (refine wpList_next_ranges _ rfl _ rfl 74 road_K (plainElem Try.prog 2) (fun x : Value => x) (Value.int .i64) (fun key kl _ => ⟨key, rfl⟩) (fun v y hv => by obtain ⟨c, rfl, _⟩ := plainElem_int_inv i64_und hv; exact ⟨c, rfl⟩) b w.heap.size 1 E1 _ _ rfl hrg.out ?_ ?_))
      | go_in)
    · intro hc0 hl0
      obtain ⟨A, c, rfl, hrow⟩ := hn.out (hl0 kl1)
      have HRW := Lib.hid hrow
      have HBV := Lib.hid hbv.out
      clear hrow hbv hn hy hrg
      go_wp2_with fail
      refine (sort_one A c _ _).mono ?_
      rintro e w2 ⟨rfl, rfl⟩
      go_wp2
      go_ret
      exact ⟨A, c, rfl, HRW.out, HBV.out⟩
    · intro x c kl y ps w3 cnt1 hkx hlk hRv hat hrg1 hlt1 hg1 hs1 hen
      obtain ⟨rfl, hy5⟩ := E1_cases hat
      obtain rfl := road_law.inj hkx key1
      obtain ⟨c', ec, hc', _⟩ := plainElem_int_inv i64_und hRv
      cases ec
      cases hc'
      cases hy5
      obtain rfl := hy.out hlk
      have HRG := Lib.hid hrg1
      have HBL := Lib.hid (hbv.out.grown hg1 hbv.out.size (fun j hj => by cases hj; omega))
      have hl3 := HBL.out.size
      clear hrg1
      go_wp2_with (at_builtin; go_loud (refine wpList_append_row _ rfl (.tmp 13) (.tmp 22) 60 rfl w.heap.size 64 i0 (.agg #[.string ⟨#[]⟩, .string ⟨#[]⟩, .string ⟨#[]⟩, .int .i64 0]) 4 56 Try.underlying60 hi hz0 hz1 hz2 rfl (by decide) none 0 0 [] rfl (Row.nil _ _ _ _) (by simp; omega) ⟨wr.heap.size + 1, 0, none⟩ 1 1 (by omega) one rfl ((lit_readsN _ #[.string ⟨#[97]⟩, .string ⟨#[98]⟩, .string ⟨#[85, 83, 68]⟩, .int .i64 2] 64 (wr.heap.size + 1) 4 1 _ (by simp [hs1]) rfl rfl).more (by simp)) (by decide) (by unfold maxLen; omega) (by omega) ?_))
      intro A' c' w4 hrow hch _
      have hg : World.grownBy ((w3.alloc (.cells #[.string ⟨#[85, 83, 68]⟩, .string ⟨#[97]⟩, .string ⟨#[98]⟩] 74)).alloc (.cells #[.string ⟨#[97]⟩, .string ⟨#[98]⟩, .string ⟨#[85, 83, 68]⟩, .int .i64 2] 64)) w4 none :=
        ⟨hch.os, hch.tape, hch.output, hch.size, fun i hi _ => hch.block i hi (by rintro ⟨_, h, _⟩; cases h)⟩
      have HR4 := Lib.hid (((HRG.out.alloc _).alloc _).kept hg (by simp) (by simp))
      have HB4 := Lib.hid (((HBL.out.alloc hl3 _).alloc (by simp; omega) _).grown hg (by simp; omega) (fun j hj => by cases hj))
      have HW4 := Lib.hid hrow
      clear hrow hch hg
      go_wp2_with fail
      go_roundw
      case rel => exact ⟨_, cnt1, HR4.out, fun h => (by rw [kl11] at h; simp at h), fun _ => ⟨A', c', rfl, HW4.out⟩, HB4.out⟩
      case measure => rw [HR4.out.left_eq, hrg.out.left_eq]; exact hlt1
end Go.Proofs.Ytlmnbdepklcfpaa
