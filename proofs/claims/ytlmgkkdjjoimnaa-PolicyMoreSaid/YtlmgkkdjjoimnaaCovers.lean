/- The walks of Covers, of the document's Covers, and of what is too long. Condition: how the hands and the causes lie. -/
import Derived.Test.YtlmgkkdjjoimnaaWay
namespace Go.Proofs.Ytlmgkkdjjoimnaa
open Go.RowKit
set_option linter.unusedVariables false
set_option linter.unusedSimpArgs false

def hasTo (l : List Int) (x : Int) : Nat → Bool
  | 0 => false
  | k + 1 => hasTo l x k || match l[k]? with | some y => decide (y = x) | none => false
def has (l : List Int) (x : Int) : Bool := hasTo l x l.length
theorem hasTo_hit {l : List Int} {x : Int} {k : Nat} (h : l[k]? = some x) : hasTo l x (k + 1) = true := by unfold hasTo; rw [h]; simp
theorem hasTo_miss {l : List Int} {x y : Int} {k : Nat} (h : l[k]? = some y) (hne : y ≠ x) : hasTo l x (k + 1) = hasTo l x k := by rw [hasTo, h]; simp [hne]
theorem hasTo_mono {l : List Int} {x : Int} {k : Nat} (h : hasTo l x k = true) : ∀ m, hasTo l x (k + m) = true
  | 0 => h
  | m + 1 => by rw [← Nat.add_assoc, hasTo, hasTo_mono h m]; rfl
def coversB (p : Pol) (l : List Hand) (cause day : Int) : Bool := mayP p && has p.causes cause && inB day p.first p.last && wayB p l day
set_option maxHeartbeats 1000000 in
theorem index_int (A : Option Addr) (n c : Nat) (l : List Int) (x : Int) (w : World) (h : Cs w w.heap.size A n l) :
    Calls Try.prog 48 #[.slice A n c, .int .i64 x] w fun e w' => (∃ r : Int, e = .returned (.int .i64 r) ∧ (has l x = decide (0 ≤ r))) ∧ w = w' := by
  have hm := h.2.1
  unfold maxLen at hm
  go_enter Try.func48, Try.ntmps48
  go_wp2_with fail
  go_loopw [5, 8] (fun _ i v => ∃ k : Nat, k ≤ n ∧ i = .int .i64 k ∧ Hid (hasTo l x k = false) ∧ w = v) (fun _ i _ => n - (intOf i).toNat)
  case atStart => exact ⟨0, by omega, rfl, rfl, rfl⟩
  case round =>
    obtain ⟨k, hk, rfl, hn, rfl⟩ := hrel
    by_cases hlt : k < n
    · obtain ⟨a, y, hA, hy, hab, x0⟩ := h.at_ hlt
      subst hA
      have HY := Lib.hid hy
      clear hy
      by_cases e : y = x
      · have HH : Hid (has l x = true) := by
          show has l x = true
          have h1 := hasTo_hit (l := l) (x := x) (k := k) (by rw [HY.out, e])
          have := hasTo_mono h1 (l.length - (k + 1))
          unfold has
          rwa [show k + 1 + (l.length - (k + 1)) = l.length by rw [h.1]; omega] at this
        have q : (x == y) = true := by simp [e]
        clear e
        go_wp2_with fail
        go_ret
        exact ⟨⟨k, rfl, by rw [HH.out]; simp⟩, rfl⟩
      · have HN : Hid (hasTo l x (k + 1) = false) := by show hasTo l x (k + 1) = false; rw [hasTo_miss HY.out e]; exact hn.out
        have q : (x == y) = false := by simpa using (Ne.symm e)
        clear e
        go_wp2_with fail
        go_roundw
        case rel => exact ⟨k + 1, by omega, by go_num, HN, trivial⟩
        case measure => simp [intOf]; omega
    · obtain rfl : k = n := by omega
      have HH : Hid (has l x = false) := by show has l x = false; unfold has; rw [h.1]; exact hn.out
      go_wp2_with fail
      go_ret
      exact ⟨⟨-1, rfl, by rw [HH.out]; rfl⟩, rfl⟩
theorem contains_any (A : Option Addr) (n c : Nat) (l : List Int) (x : Int) (w : World) (h : Cs w w.heap.size A n l) :
    Calls Try.prog 32 #[.slice A n c, .int .i64 x] w fun e w' => e = .returned (.bool (has l x)) ∧ w = w' := by
  go_enter Try.func32, Try.ntmps32
  go_wp2_with fail
  refine (index_int A n c l x w h).mono ?_
  rintro e w' ⟨⟨r, rfl, hr⟩, rfl⟩
  have HR := Lib.hid hr
  clear hr
  by_cases h0 : 0 ≤ r
  · have e1 : has l x = true := by rw [HR.out]; simpa using h0
    have E1 := Lib.hid e1
    clear e1
    go_wp2_with fail
    go_ret
    exact ⟨ret_bool (by first | exact E1.out | exact HR.out), rfl⟩
  · have e1 : has l x = false := by rw [HR.out]; simpa using h0
    have E1 := Lib.hid e1
    have h0' : r < 0 := by omega
    clear e1 h0
    go_wp2_with fail
    go_ret
    exact ⟨ret_bool (by first | exact E1.out | exact HR.out), rfl⟩
section
variable (p : Pol) (hp : p.wf) (A : Option Addr) (n c : Nat) (D : Option Addr) (m d : Nat) (l : List Hand) (cause day : Int) (w : World) (hc : Cs w w.heap.size A n p.causes) (hh : Hs w w.heap.size D m l) (hmd : m ≤ d)
include hp hc hh hmd
set_option maxRecDepth 100000 in
set_option maxHeartbeats 4000000 in
theorem covers_any : Calls Try.prog 18 #[polV p A n c, .slice D m d, .int .i64 cause, .int .i64 day] w fun e w' => e = .returned (.bool (coversB p l cause day)) ∧ Below w.heap.size w w' := by
  have K0 := Lib.hid (Kp.new w (p.cells A n c))
  have HC := Lib.hid hc
  have HH := Lib.hid hh
  clear hc hh
  unfold coversB
  generalize hv1 : mayP p = v1
  generalize hv2 : has p.causes cause = v2
  generalize hv3 : inB day p.first p.last = v3
  have V1 := Lib.hid hv1
  have V2 := Lib.hid hv2
  have V3 := Lib.hid hv3
  clear hv1 hv2 hv3
  unfold polV Pol.cells at *
  go_enter Try.func18, Try.ntmps18
  go_wp2_with fail
  refine (may_any p hp A n c _ (K0.out.csat HC.out)).mono ?_
  rintro e w1 ⟨rfl, hb⟩
  rw [V1.out]
  have K1 := Lib.hid (K0.out.step hb)
  obtain ⟨c0, c1, c2, c3, c4, c5, c6, c7, c8⟩ := K1.out.2.nine_
  clear hb K0
  cases v1
  · go_wp2_with fail
    go_ret
    exact ⟨rfl, K1.out.1⟩
  go_wp2_with fail
  refine (contains_any A n c p.causes cause w1 (K1.out.csat HC.out)).mono ?_
  rintro e w' ⟨rfl, rfl⟩
  rw [V2.out]
  cases v2
  · go_wp2_with fail
    go_ret
    exact ⟨rfl, K1.out.1⟩
  go_wp2_with fail
  refine (within_any day p.first p.last w1).mono ?_
  rintro e w' ⟨rfl, rfl⟩
  rw [V3.out]
  cases v3
  · go_wp2_with fail
    go_ret
    exact ⟨rfl, K1.out.1⟩
  go_wp2_with fail
  refine (onway_any p A n c D m d l day w1 (HH.out.up K1.out.1) hmd).mono ?_
  rintro e w2 ⟨rfl, hb⟩
  have K2 := Lib.hid (K1.out.step hb)
  clear hb
  go_wp2_with fail
  go_ret
  exact ⟨ret_bool (by simp), K2.out.1⟩
omit hmd in
set_option maxRecDepth 100000 in
set_option maxHeartbeats 4000000 in
theorem rcovers_any : Calls Try.prog 19 #[polV p A n c, .slice D m d, .int .i64 cause, .int .i64 day] w fun e w' => e = .returned (.bool (coversB p l cause day)) ∧ Below w.heap.size w w' := by
  obtain ⟨w0, hw0⟩ : ∃ w0, w0 = w.alloc (.cells (p.cells A n c) 24) := ⟨_, rfl⟩
  have K0 := Lib.hid (show Kp w (p.cells A n c) w0 by rw [hw0]; exact Kp.new w _)
  have hm := hc.2.1
  unfold maxLen at hm
  have HC := Lib.hid (hc.below K0.out.1)
  have HC0 := Lib.hid hc
  have HH := Lib.hid hh
  clear hc hh
  unfold coversB
  generalize hv1 : mayP p = v1
  generalize hv2 : has p.causes cause = v2
  generalize hv3 : inB day p.first p.last = v3
  have V1 := Lib.hid hv1
  have V2 := Lib.hid hv2
  have V3 := Lib.hid hv3
  clear hv1 hv2 hv3
  unfold Pol.cells at hw0 K0
  have HW0 := Lib.hid hw0
  clear hw0
  obtain ⟨c0, c1, c2, c3, c4, c5, c6, c7, c8⟩ := K0.out.2.nine_
  have l0 := K0.out.2.lt
  unfold polV Pol.cells
  go_enter Try.func19, Try.ntmps19
  go_wp2_with fail
  rw [← HW0.out]
  clear HW0
  go_loopw [9, 10] (fun b i v => ∃ k : Nat, k ≤ n ∧ i = .int .i64 k ∧ (∃ bb : Bool, b = .bool bb ∧ Hid (hasTo p.causes cause k = bb)) ∧ w0 = v) (fun _ i _ => n - (intOf i).toNat)
  case atStart => exact ⟨0, by omega, rfl, ⟨false, rfl, rfl⟩, rfl⟩
  case round =>
    obtain ⟨k, hk, rfl, ⟨bb, rfl, hbb⟩, rfl⟩ := hrel
    by_cases hlt : k < n
    · obtain ⟨a, y, hA, hy, hab, x0⟩ := HC.out.at_ hlt
      subst hA
      have HY := Lib.hid hy
      clear hy
      cases bb
      · by_cases e : y = cause
        · have HN : Hid (hasTo p.causes cause (k + 1) = true) := hasTo_hit (by rw [HY.out, e])
          have q : (y == cause) = true := by simp [e]
          clear e
          go_wp2_with fail
          go_roundw
          case rel => exact ⟨k + 1, by omega, by go_num, ⟨true, rfl, HN⟩, trivial⟩
          case measure => simp [intOf]; omega
        · have HN : Hid (hasTo p.causes cause (k + 1) = false) := by show _ = _; rw [hasTo_miss HY.out e]; exact hbb.out
          have q : (y == cause) = false := by simpa using e
          clear e
          go_wp2_with fail
          go_roundw
          case rel => exact ⟨k + 1, by omega, by go_num, ⟨false, rfl, HN⟩, trivial⟩
          case measure => simp [intOf]; omega
      · have HN : Hid (hasTo p.causes cause (k + 1) = true) := hasTo_mono hbb.out 1
        go_wp2_with fail
        go_roundw
        case rel => exact ⟨k + 1, by omega, by go_num, ⟨true, rfl, HN⟩, trivial⟩
        case measure => simp [intOf]; omega
    · obtain rfl : k = n := by omega
      have hvb : v2 = bb := by rw [← V2.out]; unfold has; rw [HC0.out.1]; exact hbb.out
      subst hvb
      go_wp2_with fail
      refine (rmay_any p hp A k c w0 (HC0.out.up K0.out.1)).mono ?_
      rintro e w1 ⟨rfl, hb⟩
      rw [V1.out]
      have K1 := Lib.hid (K0.out.step hb)
      clear c0 c1 c2 c3 c4 c5 c6 c7 c8 hb
      obtain ⟨c0, c1, c2, c3, c4, c5, c6, c7, c8⟩ := K1.out.2.nine_
      cases v1
      · go_wp2_with fail
        go_ret
        exact ⟨rfl, K1.out.1⟩
      cases v2
      · go_wp2_with fail
        go_ret
        exact ⟨rfl, K1.out.1⟩
      by_cases d1 : p.first ≤ day
      case neg =>
        have d1' : day < p.first := by omega
        have hv3 : v3 = false := by rw [← V3.out]; exact inB_no (by omega)
        subst hv3
        go_wp2_with fail
        go_ret
        exact ⟨rfl, K1.out.1⟩
      by_cases d2 : day ≤ p.last
      case neg =>
        have d2' : p.last < day := by omega
        have hv3 : v3 = false := by rw [← V3.out]; exact inB_no (by omega)
        subst hv3
        go_wp2_with fail
        go_ret
        exact ⟨rfl, K1.out.1⟩
      have hv3 : v3 = true := by rw [← V3.out]; exact inB_yes ⟨d1, d2⟩
      subst hv3
      go_wp2_with fail
      refine (rway_any p A k c D m d l day w1 (HH.out.up K1.out.1)).mono ?_
      rintro e w2 ⟨rfl, hb⟩
      have K2 := Lib.hid (K1.out.step hb)
      clear hb
      go_wp2_with fail
      go_ret
      exact ⟨ret_bool (by simp), K2.out.1⟩
omit hp hc hh hmd in
set_option maxRecDepth 100000 in
theorem long_any : Calls Try.prog 10 #[polV p A n c] w fun e w' => ∃ b, e = .returned (.bool b) ∧ Below w.heap.size w w' := by
  have hb : Below w.heap.size w (w.alloc (.cells (p.cells A n c) 24)) := (Below.refl _ _).alloc (Nat.le_refl _) _
  unfold polV Pol.cells at *
  by_cases q0 : 100 < p.ins.size
  · have q : (100 : Int) < p.ins.size := by omega
    go_enter Try.func10, Try.ntmps10
    go_wp2_with fail
    go_ret
    exact ⟨_, rfl, hb⟩
  have r0 : (p.ins.size : Int) ≤ 100 := by omega
  by_cases q1 : 100 < p.fr.size
  · have q : (100 : Int) < p.fr.size := by omega
    go_enter Try.func10, Try.ntmps10
    go_wp2_with fail
    go_ret
    exact ⟨_, rfl, hb⟩
  have r1 : (p.fr.size : Int) ≤ 100 := by omega
  by_cases q2 : 100 < p.to_.size
  · have q : (100 : Int) < p.to_.size := by omega
    go_enter Try.func10, Try.ntmps10
    go_wp2_with fail
    go_ret
    exact ⟨_, rfl, hb⟩
  have r2 : (p.to_.size : Int) ≤ 100 := by omega
  go_enter Try.func10, Try.ntmps10
  go_wp2_with fail
  go_ret
  exact ⟨_, rfl, hb⟩
omit hp hc hmd in
set_option maxRecDepth 100000 in
set_option maxHeartbeats 2000000 in
theorem heavy_any : Calls Try.prog 16 #[.slice D m d] w fun e w' => ∃ b, e = .returned (.bool b) ∧ Below w.heap.size w w' := by
  have hm := hh.2.1
  unfold maxLen at hm
  by_cases q : 40 < m
  · have qi : (40 : Int) < m := by omega
    go_enter Try.func16, Try.ntmps16
    go_wp2_with fail
    go_ret
    exact ⟨_, rfl, Below.refl _ _⟩
  have qi : (m : Int) ≤ 40 := by omega
  go_enter Try.func16, Try.ntmps16
  go_wp2_with fail
  go_loopw [3] (fun i v => ∃ k : Nat, k ≤ m ∧ i = .int .i64 k ∧ ∃ dd, v = w.drewN dd) (fun i _ => m - (intOf i).toNat)
  case atStart => exact ⟨0, by omega, rfl, 0, rfl⟩
  case round =>
    obtain ⟨k, hk, rfl, dd, rfl⟩ := hrel
    by_cases hlt : k < m
    · obtain ⟨a, x, hA, hx, hab, x0, x1, x2, x3, x4⟩ := hh.at_ hlt
      subst hA
      by_cases s0 : 100 < x.box.size ∨ 100 < x.fr.size ∨ 100 < x.to_.size ∨ 100 < x.place.size
      · have HS := Lib.hid s0
        rcases (show 100 < x.box.size ∨ (x.box.size ≤ 100 ∧ 100 < x.fr.size) ∨ (x.box.size ≤ 100 ∧ x.fr.size ≤ 100 ∧ 100 < x.to_.size) ∨ (x.box.size ≤ 100 ∧ x.fr.size ≤ 100 ∧ x.to_.size ≤ 100 ∧ 100 < x.place.size) by omega) with g | ⟨g1, g⟩ | ⟨g1, g2, g⟩ | ⟨g1, g2, g3, g⟩
        · have t1 : (100 : Int) < x.box.size := by omega
          clear s0
          go_wp2_with fail
          go_ret
          exact ⟨_, rfl, below_drewN' (Below.refl _ _) _⟩
        · have t1 : (x.box.size : Int) ≤ 100 := by omega
          have t2 : (100 : Int) < x.fr.size := by omega
          clear s0
          go_wp2_with fail
          go_ret
          exact ⟨_, rfl, below_drewN' (Below.refl _ _) _⟩
        · have t1 : (x.box.size : Int) ≤ 100 := by omega
          have t2 : (x.fr.size : Int) ≤ 100 := by omega
          have t3 : (100 : Int) < x.to_.size := by omega
          clear s0
          go_wp2_with fail
          go_ret
          exact ⟨_, rfl, below_drewN' (Below.refl _ _) _⟩
        · have t1 : (x.box.size : Int) ≤ 100 := by omega
          have t2 : (x.fr.size : Int) ≤ 100 := by omega
          have t3 : (x.to_.size : Int) ≤ 100 := by omega
          have t4 : (100 : Int) < x.place.size := by omega
          clear s0
          go_wp2_with fail
          go_ret
          exact ⟨_, rfl, below_drewN' (Below.refl _ _) _⟩
      · have t1 : (x.box.size : Int) ≤ 100 := by omega
        have t2 : (x.fr.size : Int) ≤ 100 := by omega
        have t3 : (x.to_.size : Int) ≤ 100 := by omega
        have t4 : (x.place.size : Int) ≤ 100 := by omega
        clear s0
        go_wp2_with fail
        go_roundw
        case rel => exact ⟨k + 1, by omega, by go_num, _, rfl⟩
        case measure => simp [intOf]; omega
    · obtain rfl : k = m := by omega
      go_wp2_with fail
      go_ret
      exact ⟨_, rfl, below_drewN' (Below.refl _ _) _⟩
end
end Go.Proofs.Ytlmgkkdjjoimnaa
