/- The walks of the two checks. Condition: how the stretches lie. -/
import Derived.Test.YtlmnbdepklcfpaaMay
namespace Go.Proofs.Ytlmnbdepklcfpaa
open Go.RowKit
set_option linter.unusedVariables false

section
variable {l : List Str} {k : Nat} {s : Str} (hs : l[k]? = some s)
include hs
theorem code_full (h : 4096 ≤ k) : codeAt l k = 7 := by unfold codeAt; rw [hs]; simp only; rw [if_pos h]
theorem code_arg (h : k < 4096) (ha : s.argB = true) : codeAt l k = 1 := by unfold codeAt; rw [hs]; simp only; rw [if_neg (by omega), if_pos ha]
theorem code_first (h : k < 4096) (ha : s.argB = false) (h0 : k = 0) : codeAt l k = 0 := by
  unfold codeAt; rw [hs]; simp only; rw [if_neg (by omega), if_neg (by simp [ha]), if_pos h0]
theorem code_next (h : k < 4096) (ha : s.argB = false) (h0 : 0 < k) {p : Str} (hp : l[k - 1]? = some p) : codeAt l k = if p.t = s.f then 0 else 6 := by
  unfold codeAt; rw [hs]; simp only; rw [if_neg (by omega), if_neg (by simp [ha]), if_neg (by omega), hp]
end
theorem argB_of {s : Str} (h : s.f < 0 ∨ s.t ≤ s.f ∨ 1048576 < s.t ∨ s.h < 0 ∨ 2 < s.h) : s.argB = true := by
  unfold Str.argB
  simp
  omega
theorem argB_not {s : Str} (h1 : 0 ≤ s.f) (h2 : s.f < s.t) (h3 : s.t ≤ 1048576) (h4 : 0 ≤ s.h) (h5 : s.h ≤ 2) : s.argB = false := argB_yes ⟨h1, h2, h3, h4, h5⟩
set_option maxRecDepth 100000 in
set_option maxHeartbeats 4000000 in
theorem wrong_any (A : Option Addr) (n c : Nat) (l : List Str) (w : World) (h : Strs w w.heap.size A n l) (k : Nat) (hk : k < n) (hn : n ≤ maxLen) :
    Calls Try.prog 25 #[.slice A n c, .int .i64 k] w fun e w' => e = .returned (.int .i64 (codeAt l k)) ∧ Below w.heap.size w w' := by
  unfold maxLen at hn
  obtain ⟨a, s, hA, hs, hab, x0, x1, x2⟩ := h.at_ hk
  obtain ⟨f, t, z⟩ := s
  simp only at x0 x1 x2
  have hB : Below w.heap.size w (w.alloc (.cells #[.int .i64 f, .int .i64 t, .int .i64 z] 44)) := (Below.refl _ _).alloc (Nat.le_refl _) _
  subst hA
  have HS := Lib.hid hs
  clear hs
  by_cases k1 : 4096 ≤ k
  · rw [code_full HS.out k1]
    have k1' : (4096 : Int) ≤ k := by omega
    go_enter Try.func25, Try.ntmps25
    go_wp2
    go_ret
    exact ⟨rfl, hB⟩
  have k1' : (k : Int) < 4096 := by omega
  have k2 : k < 4096 := by omega
  clear k1
  by_cases c1 : f < 0
  · rw [code_arg HS.out k2 (argB_of (.inl c1))]
    go_enter Try.func25, Try.ntmps25
    go_wp2
    go_ret
    exact ⟨rfl, hB⟩
  have c1' : 0 ≤ f := by omega
  clear c1
  by_cases c2 : t ≤ f
  · rw [code_arg HS.out k2 (argB_of (by simp only; omega))]
    go_enter Try.func25, Try.ntmps25
    go_wp2
    go_ret
    exact ⟨rfl, hB⟩
  have c2' : f < t := by omega
  clear c2
  by_cases c3 : 1048576 < t
  · rw [code_arg HS.out k2 (argB_of (by simp only; omega))]
    go_enter Try.func25, Try.ntmps25
    go_wp2
    go_ret
    exact ⟨rfl, hB⟩
  have c3' : t ≤ 1048576 := by omega
  clear c3
  by_cases c4 : z < 0
  · rw [code_arg HS.out k2 (argB_of (by simp only; omega))]
    go_enter Try.func25, Try.ntmps25
    go_wp2
    go_ret
    exact ⟨rfl, hB⟩
  have c4' : 0 ≤ z := by omega
  clear c4
  by_cases c5 : 2 < z
  · rw [code_arg HS.out k2 (argB_of (by simp only; omega))]
    go_enter Try.func25, Try.ntmps25
    go_wp2
    go_ret
    exact ⟨rfl, hB⟩
  have c5' : z ≤ 2 := by omega
  clear c5
  have harg := argB_not (s := ⟨f, t, z⟩) c1' c2' c3' c4' c5'
  by_cases k0 : k = 0
  · rw [code_first HS.out k2 harg k0]
    clear harg
    have k0i : (k : Int) ≤ 0 := by omega
    have k0d : decide (0 < k) = false := by simp; omega
    have k0e : decide ((0 : Int) < (k : Int)) = false := by simp; omega
    clear k0
    go_enter Try.func25, Try.ntmps25
    go_wp2
    go_quiet (fail)
    go_wp2
    go_ret
    exact ⟨rfl, below_drewN' hB _⟩
  · have k0' : 0 < k := by omega
    have k0i : (0 : Int) < k := by omega
    obtain ⟨a', p, hA, hp, hab', y0, y1, y2⟩ := h.at_ (show k - 1 < n by omega)
    cases hA
    obtain ⟨pf, pt, pz⟩ := p
    simp only at y0 y1 y2
    rw [code_next HS.out k2 harg k0' hp]
    simp only
    clear hp y0 y2
    have W1 : IntKind.i64.wrap ((k : Int) - 1) = ((k - 1 : Nat) : Int) := by rw [show (k : Int) - 1 = ((k - 1 : Nat) : Int) by omega]; exact IntWalk.i64_in _ (by omega)
    have hle : k - 1 < n := by omega
    clear k0 harg
    by_cases e : pt = f
    · subst e
      have q : (pt != pt) = false := by simp
      rw [if_pos rfl]
      go_enter Try.func25, Try.ntmps25
      go_wp2
      go_quiet (fail)
      go_wp2
      go_ret
      exact ⟨rfl, below_drewN' hB _⟩
    · rw [if_neg e]
      have q : (pt != f) = true := by simpa using e
      clear e
      go_enter Try.func25, Try.ntmps25
      go_wp2
      go_quiet (fail)
      go_wp2
      go_ret
      exact ⟨rfl, below_drewN' hB _⟩
end Go.Proofs.Ytlmnbdepklcfpaa
