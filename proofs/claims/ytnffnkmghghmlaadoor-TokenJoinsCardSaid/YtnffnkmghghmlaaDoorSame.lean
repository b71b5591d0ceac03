/- The walks of Same and Alike. Condition: both lists hold the same. -/
import Derived.Test.YtnffnkmghghmlaaDoorToks
namespace Go.Proofs.YtnffnkmghghmlaaDoor
open Go.RowKit
set_option linter.unusedVariables false
set_option linter.unusedSimpArgs false
set_option maxRecDepth 100000 in
set_option maxHeartbeats 4000000 in
theorem same_any (l : List Tk) (A A2 : Option Addr) (c c2 : Nat) (w : World) (h : TokR w A l) (h2 : TokR w A2 l) (hl : l.length ≤ 100000) : Calls Tryd.prog 13 #[.slice A l.length c, .slice A2 l.length c2] w fun e w' => e = .returned (.bool true) ∧ Below w.heap.size w w' := by
  have H := Lib.hid h
  have H2 := Lib.hid h2
  clear h h2
  go_enter Tryd.func13, Tryd.ntmps13
  go_wp2_with fail
  go_loopw [5] (fun i v => ∃ k : Nat, k ≤ l.length ∧ i = .int .i64 k ∧ Hid (Below w.heap.size w v)) (fun i _ => l.length - (intOf i).toNat)
  case atStart => exact ⟨0, Nat.zero_le _, rfl, Lib.hid (Below.refl _ _)⟩
  case round =>
    obtain ⟨k, hk, rfl, hb⟩ := hrel
    by_cases hlt : k < l.length
    · obtain ⟨a, x, rfl, hx, hblk, c0, c1, c2'⟩ := (H.out.up hb.out).at_ hlt
      obtain ⟨a2, y, rfl, hy, hblk2, d0, d1, d2'⟩ := (H2.out.up hb.out).at_ hlt
      rw [hx] at hy
      cases hy
      clear hx
      go_wp2_with fail
      go_quiet (fail)
      go_wp2_with fail
      go_roundw
      case rel => exact ⟨k + 1, by omega, by go_num, below_drewN' hb.out _⟩
      case measure => simp [intOf]; omega
    · have hge : (l.length : Int) ≤ k := by omega
      clear hlt
      go_wp2_with fail
      go_ret
      exact ⟨rfl, hb.out⟩
theorem kt_at {l m : List Tk} (h : l.map kt = m.map kt) {k : Nat} {x y : Tk} (hx : l[k]? = some x) (hy : m[k]? = some y) : x.kind = y.kind ∧ x.text = y.text := by
  have := congrArg (·[k]?) h
  simp only [List.getElem?_map, hx, hy, Option.map_some, Option.some.injEq, kt, Prod.mk.injEq] at this
  exact this
set_option maxRecDepth 100000 in
set_option maxHeartbeats 4000000 in
theorem alike_any (l m : List Tk) (A A2 : Option Addr) (c c2 : Nat) (w : World) (h : TokR w A l) (h2 : TokR w A2 m) (hl : l.length ≤ 100000) (he : l.map kt = m.map kt) : Calls Tryd.prog 14 #[.slice A l.length c, .slice A2 m.length c2] w fun e w' => e = .returned (.bool true) ∧ Below w.heap.size w w' := by
  have H := Lib.hid h
  have H2 := Lib.hid h2
  have HE := Lib.hid he
  have hm : m.length = l.length := by have := congrArg List.length he; simpa using this.symm
  rw [hm]
  have HM := Lib.hid hm
  clear h h2 he hm
  go_enter Tryd.func14, Tryd.ntmps14
  go_wp2_with fail
  go_loopw [5] (fun i v => ∃ k : Nat, k ≤ l.length ∧ i = .int .i64 k ∧ Hid (Below w.heap.size w v)) (fun i _ => l.length - (intOf i).toNat)
  case atStart => exact ⟨0, Nat.zero_le _, rfl, Lib.hid (Below.refl _ _)⟩
  case round =>
    obtain ⟨k, hk, rfl, hb⟩ := hrel
    by_cases hlt : k < l.length
    · obtain ⟨a, x, rfl, hx, hblk, c0, c1, c2'⟩ := (H.out.up hb.out).at_ hlt
      obtain ⟨a2, y, rfl, hy, hblk2, d0, d1, d2'⟩ := (H2.out.up hb.out).at_ (by rw [HM.out]; exact hlt)
      obtain ⟨g1, g2⟩ := kt_at HE.out hx hy
      rw [← g1] at d0
      rw [← g2] at d2'
      clear hx hy g1 g2
      go_wp2_with fail
      go_quiet (fail)
      go_wp2_with fail
      go_roundw
      case rel => exact ⟨k + 1, by omega, by go_num, below_drewN' hb.out _⟩
      case measure => simp [intOf]; omega
    · have hge : (l.length : Int) ≤ k := by omega
      clear hlt
      go_wp2_with fail
      go_ret
      exact ⟨rfl, hb.out⟩
end Go.Proofs.YtnffnkmghghmlaaDoor
