/- PolicyCovers's walk. Condition: how the causes and the hands lie. -/
import Derived.Test.YtlmgkkdjjoimnaaCovers
import Derived.Deep.RegionHeld3
namespace Go.Proofs.Ytlmgkkdjjoimnaa
open Go.RowKit
set_option linter.unusedVariables false
set_option linter.unusedSimpArgs false

set_option maxRecDepth 100000 in
set_option maxHeartbeats 8000000 in
theorem coversLaw_any (p : Pol) (hp : p.wf) (A : Option Addr) (n c : Nat) (D : Option Addr) (m d : Nat) (l : List Hand) (cause day : Int) (w : World) (hc : Cs w w.heap.size A n p.causes) (hh : Hs w w.heap.size D m l) (hmd : m ≤ d) :
    Calls Try.prog 6 #[polV p A n c, .slice D m d, .int .i64 cause, .int .i64 day] w fun e w' => e = .returned (.bool true) ∧ Below w.heap.size w w' := by
  have K := Lib.hid (Kp.new w (p.cells A n c))
  have HC := Lib.hid hc
  have HH := Lib.hid hh
  have eM : (mayP p == mayP p) = true := by simp
  have eC : (coversB p l cause day == coversB p l cause day) = true := by simp
  clear hc hh
  unfold polV Pol.cells at *
  go_enter Try.func6, Try.ntmps6
  go_wp2_with fail
  refine (awake_any _).mono ?_
  rintro e w1 ⟨rfl, hb⟩
  have K1 := Lib.hid (K.out.step hb)
  obtain ⟨c0, c1, c2, c3, c4, c5, c6, c7, c8⟩ := K1.out.2.nine_
  clear hb K
  go_wp2_with fail
  refine (long_any p A n c w1).mono ?_
  rintro e w2 ⟨lg, rfl, hb⟩
  have K2 := Lib.hid (K1.out.step hb)
  clear hb K1 c0 c1 c2 c3 c4 c5 c6 c7 c8
  cases lg
  case true =>
    go_wp2_with fail
    go_ret
    exact ⟨rfl, K2.out.1⟩
  go_wp2_with fail
  refine (heavy_any D m d l w2 (HH.out.up K2.out.1)).mono ?_
  rintro e w3 ⟨hv, rfl, hb⟩
  have K3 := Lib.hid (K2.out.step hb)
  clear hb K2
  cases hv
  case true =>
    go_wp2_with fail
    go_ret
    exact ⟨rfl, K3.out.1⟩
  obtain ⟨c0, c1, c2, c3, c4, c5, c6, c7, c8⟩ := K3.out.2.nine_
  have K0d : Hid (Kp w (p.cells A n c) w3.drew) := K3.out.drew
  go_wp2_with fail
  go_region_held3 (fun v => v.cell? ⟨w.heap.size, 0, none⟩ = some (.string p.ins) ∧ v.cell? ⟨w.heap.size, 1, none⟩ = some (.string p.fr) ∧ v.cell? ⟨w.heap.size, 2, none⟩ = some (.string p.to_) ∧ v.cell? ⟨w.heap.size, 3, none⟩ = some (.int .i64 p.sum) ∧ v.cell? ⟨w.heap.size, 4, none⟩ = some (.int .i64 p.own) ∧ v.cell? ⟨w.heap.size, 5, none⟩ = some (.slice A n c) ∧ v.cell? ⟨w.heap.size, 6, none⟩ = some (.int .i64 p.first) ∧ v.cell? ⟨w.heap.size, 7, none⟩ = some (.int .i64 p.last) ∧ v.cell? ⟨w.heap.size, 8, none⟩ = some (.int .i64 p.share)) (go_keep) (first | (go_at_call 17; refine (may_any p hp A n c _ (by first | exact K13.out.csat HC.out | exact K0d.out.csat HC.out)).mono ?_; rintro e v17 ⟨rfl, hb17⟩; have K17 : Hid (Kp w (p.cells A n c) v17) := (Kp.step (by first | exact K13.out | exact K0d.out) hb17); obtain ⟨r0, r1, r2, r3, r4, r5, r6, r7, r8⟩ := K17.out.2.nine_; clear hb17) | (go_at_call 13; refine (rmay_any p hp A n c _ (by first | exact K17.out.csat HC.out | exact K0d.out.csat HC.out)).mono ?_; rintro e v13 ⟨rfl, hb13⟩; have K13 : Hid (Kp w (p.cells A n c) v13) := (Kp.step (by first | exact K17.out | exact K0d.out) hb13); obtain ⟨r0, r1, r2, r3, r4, r5, r6, r7, r8⟩ := K13.out.2.nine_; clear hb13) | (go_at_call 18; refine (covers_any p hp A n c D m d l cause day _ (by first | exact K19.out.csat HC.out | exact K13.out.csat HC.out | exact K17.out.csat HC.out) (by first | exact HH.out.up K19.out.1 | exact HH.out.up K13.out.1 | exact HH.out.up K17.out.1) hmd).mono ?_; rintro e v18 ⟨rfl, hb18⟩; have K18 : Hid (Kp w (p.cells A n c) v18) := (Kp.step (by first | exact K19.out | exact K13.out | exact K17.out) hb18); obtain ⟨r0, r1, r2, r3, r4, r5, r6, r7, r8⟩ := K18.out.2.nine_; clear hb18) | (go_at_call 19; refine (rcovers_any p hp A n c D m d l cause day _ (by first | exact K18.out.csat HC.out | exact K13.out.csat HC.out | exact K17.out.csat HC.out) (by first | exact HH.out.up K18.out.1 | exact HH.out.up K13.out.1 | exact HH.out.up K17.out.1)).mono ?_; rintro e v19 ⟨rfl, hb19⟩; have K19 : Hid (Kp w (p.cells A n c) v19) := (Kp.step (by first | exact K18.out | exact K13.out | exact K17.out) hb19); obtain ⟨r0, r1, r2, r3, r4, r5, r6, r7, r8⟩ := K19.out.2.nine_; clear hb19))
  all_goals
    go_wp2_with fail
    go_ret
    first | exact ⟨rfl, K19.out.1⟩ | exact ⟨rfl, K18.out.1⟩
end Go.Proofs.Ytlmgkkdjjoimnaa
