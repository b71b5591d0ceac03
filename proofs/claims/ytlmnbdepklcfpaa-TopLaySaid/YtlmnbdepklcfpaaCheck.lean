/- The walks of the two Checks, and of Long. Condition: how the stretches lie. -/
import Derived.Test.YtlmnbdepklcfpaaWrong
namespace Go.Proofs.Ytlmnbdepklcfpaa
open Go.RowKit
set_option linter.unusedVariables false

def chkV (l : List Str) : Value := .tuple #[.int .i64 (chk l).1, .int .i64 (chk l).2]
theorem chkV_of {l : List Str} {k : Nat} {c : Int} (h : chk l = (k, c)) : Ending.returned (.tuple #[.int .i64 k, .int .i64 c]) = .returned (chkV l) := by unfold chkV; rw [h]
theorem code_some {l : List Str} {k : Nat} : codeAt l k = 0 ∨ codeAt l k = 1 ∨ codeAt l k = 6 ∨ codeAt l k = 7 := by
  unfold codeAt
  split
  · simp
  · split
    · simp
    · split
      · simp
      · split
        · simp
        · split <;> simp
theorem chk_some (l : List Str) : (chk l).2 = 0 ∨ (chk l).2 = 1 ∨ (chk l).2 = 6 ∨ (chk l).2 = 7 := by
  rcases chkFrom_codes l l.length 0 with h | h
  · exact .inl h
  · unfold chk
    rw [h]
    exact code_some
set_option maxRecDepth 100000 in
set_option maxHeartbeats 1000000 in
theorem check_any (A : Option Addr) (n c : Nat) (l : List Str) (w : World) (h : Strs w w.heap.size A n l) (hn : n ≤ maxLen) :
    Calls Try.prog 11 #[.slice A n c] w fun e w' => e = .returned (chkV l) ∧ Below w.heap.size w w' := by
  have hm := hn
  unfold maxLen at hm
  have h0 : Hid (chk l = chkFrom l n 0) := by show chk l = _; rw [← h.1]; rfl
  go_enter Try.func11, Try.ntmps11
  go_wp2_with fail
  go_loopw [4, 5, 8] (fun _ _ i v => ∃ k : Nat, k ≤ n ∧ i = .int .i64 k ∧ Hid (chk l = chkFrom l (n - k) k) ∧ Below w.heap.size w v) (fun _ _ i _ => n - (intOf i).toNat)
  case atStart => exact ⟨0, by omega, rfl, h0, Below.refl _ _⟩
  case round =>
    obtain ⟨k, hk, rfl, hc, hb⟩ := hrel
    clear h0
    by_cases hlt : k < n
    · have hs := h.up hb
      have HB := Lib.hid hb
      clear hb
      have hq : Hid (n - k = (n - (k + 1)) + 1) := by show n - k = _; omega
      rcases code_some (l := l) (k := k) with hz | hz
      · have HZ := Lib.hid hz
        clear hz
        go_wp2_with fail
        refine (wrong_any A n c l _ hs k hlt hn).mono ?_
        rintro e w2 ⟨rfl, hb2⟩
        rw [HZ.out]
        have HB2 := Lib.hid (below_trans HB.out hb2)
        clear hb2 hs
        go_wp2_with fail
        go_roundw
        case rel => exact ⟨k + 1, by omega, by go_num, chk_step (by rw [← hq.out]; exact hc.out) HZ.out, HB2.out⟩
        case measure => simp [intOf]; omega
      · have HZ := Lib.hid (show codeAt l k ≠ 0 by omega)
        have q : (codeAt l k != 0) = true := by simpa using HZ.out
        have hit := Lib.hid (chk_hit (by rw [← hq.out]; exact hc.out) HZ.out)
        clear hz
        go_wp2_with fail
        refine (wrong_any A n c l _ hs k hlt hn).mono ?_
        rintro e w2 ⟨rfl, hb2⟩
        have HB2 := Lib.hid (below_trans HB.out hb2)
        clear hb2 hs
        go_wp2_with fail
        go_ret2
        exact ⟨chkV_of hit.out, HB2.out⟩
    · obtain rfl : k = n := by omega
      have HB := Lib.hid hb
      have hz : chk l = (k, 0) := by rw [hc.out, Nat.sub_self]; rfl
      have HZ := Lib.hid hz
      clear hb hz
      go_wp2_with fail
      go_ret2
      exact ⟨chkV_of HZ.out, HB.out⟩
set_option maxRecDepth 100000 in
set_option maxHeartbeats 8000000 in
theorem rcheck_any (A : Option Addr) (n c : Nat) (l : List Str) (w : World) (h : Strs w w.heap.size A n l) (hn : n ≤ maxLen) :
    Calls Try.prog 12 #[.slice A n c] w fun e w' => e = .returned (chkV l) ∧ Below w.heap.size w w' := by
  have hm := hn
  unfold maxLen at hm
  have h0 : Hid (chk l = chkFrom l n 0) := by show chk l = _; rw [← h.1]; rfl
  go_enter Try.func12, Try.ntmps12
  go_wp2_with fail
  go_loopw [4] (fun i v => ∃ k : Nat, k ≤ n ∧ i = .int .i64 k ∧ Hid (chk l = chkFrom l (n - k) k) ∧ ∃ d, v = w.drewN d) (fun i _ => n - (intOf i).toNat)
  case atStart => exact ⟨0, by omega, rfl, h0, 0, rfl⟩
  case round =>
    obtain ⟨k, hk, rfl, hc, d, rfl⟩ := hrel
    clear h0
    by_cases hlt : k < n
    · obtain ⟨a, s, hA, hs, hab, x0, x1, x2⟩ := h.at_ hlt
      obtain ⟨f, t, z⟩ := s
      simp only at x0 x1 x2
      subst hA
      have HS := Lib.hid hs
      have hq : Hid (n - k = (n - (k + 1)) + 1) := by show n - k = _; omega
      clear hs
      by_cases k1 : 4096 ≤ k
      · have hit := Lib.hid (chk_hit (by rw [← hq.out]; exact hc.out) (by rw [code_full HS.out k1]; omega))
        rw [code_full HS.out k1] at hit
        have k1' : (4096 : Int) ≤ k := by omega
        go_wp2
        go_ret2
        exact ⟨chkV_of hit.out, below_drewN' (Below.refl _ _) _⟩
      have k1' : (k : Int) < 4096 := by omega
      have k2 : k < 4096 := by omega
      clear k1
      by_cases bad : f < 0 ∨ t ≤ f ∨ 1048576 < t ∨ z < 0 ∨ 2 < z
      · have harg := argB_of (s := ⟨f, t, z⟩) bad
        have hit := Lib.hid (chk_hit (by rw [← hq.out]; exact hc.out) (by rw [code_arg HS.out k2 harg]; omega))
        rw [code_arg HS.out k2 harg] at hit
        clear harg
        rcases (show f < 0 ∨ (0 ≤ f ∧ t ≤ f) ∨ (0 ≤ f ∧ f < t ∧ 1048576 < t) ∨ (0 ≤ f ∧ f < t ∧ t ≤ 1048576 ∧ z < 0) ∨ (0 ≤ f ∧ f < t ∧ t ≤ 1048576 ∧ 0 ≤ z ∧ 2 < z) by omega) with c1 | ⟨c1, c2⟩ | ⟨c1, c2, c3⟩ | ⟨c1, c2, c3, c4⟩ | ⟨c1, c2, c3, c4, c5⟩
        · clear bad
          have d0 : decide (f < 0) = true := by simp; omega
          go_wp2
          go_quiet (fail)
          go_wp2
          go_ret2
          exact ⟨chkV_of hit.out, below_drewN' (below_drewN' (Below.refl _ _) _) _⟩
        · clear bad
          have d0 : decide (f < 0) = false := by simp; omega
          have d1 : decide (t ≤ f) = true := by simp; omega
          go_wp2
          go_quiet (fail)
          go_wp2
          go_ret2
          exact ⟨chkV_of hit.out, below_drewN' (below_drewN' (Below.refl _ _) _) _⟩
        · clear bad
          have d0 : decide (f < 0) = false := by simp; omega
          have d1 : decide (t ≤ f) = false := by simp; omega
          have d2 : decide (1048576 < t) = true := by simp; omega
          go_wp2
          go_quiet (fail)
          go_wp2
          go_ret2
          exact ⟨chkV_of hit.out, below_drewN' (below_drewN' (Below.refl _ _) _) _⟩
        · clear bad
          have d0 : decide (f < 0) = false := by simp; omega
          have d1 : decide (t ≤ f) = false := by simp; omega
          have d2 : decide (1048576 < t) = false := by simp; omega
          have d3 : decide (z < 0) = true := by simp; omega
          go_wp2
          go_quiet (fail)
          go_wp2
          go_ret2
          exact ⟨chkV_of hit.out, below_drewN' (below_drewN' (Below.refl _ _) _) _⟩
        · clear bad
          have d0 : decide (f < 0) = false := by simp; omega
          have d1 : decide (t ≤ f) = false := by simp; omega
          have d2 : decide (1048576 < t) = false := by simp; omega
          have d3 : decide (z < 0) = false := by simp; omega
          have d4 : decide (2 < z) = true := by simp; omega
          go_wp2
          go_quiet (fail)
          go_wp2
          go_ret2
          exact ⟨chkV_of hit.out, below_drewN' (below_drewN' (Below.refl _ _) _) _⟩
      · have harg := argB_not (s := ⟨f, t, z⟩) (by simp only; omega) (by simp only; omega) (by simp only; omega) (by simp only; omega) (by simp only; omega)
        have q1 : 0 ≤ f := by omega
        have q2 : f < t := by omega
        have q3 : t ≤ 1048576 := by omega
        have q4 : 0 ≤ z := by omega
        have q5 : z ≤ 2 := by omega
        have d0 : decide (f < 0) = false := by simp; omega
        have d1 : decide (t ≤ f) = false := by simp; omega
        have d2 : decide (1048576 < t) = false := by simp; omega
        have d3 : decide (z < 0) = false := by simp; omega
        have d4 : decide (2 < z) = false := by simp; omega
        clear bad
        by_cases k0 : k = 0
        · have HC := Lib.hid (code_first HS.out k2 harg k0)
          have k0i : (k : Int) ≤ 0 := by omega
          have k0d : decide (0 < k) = false := by simp; omega
          have k0e : decide ((0 : Int) < (k : Int)) = false := by simp; omega
          clear k0 harg
          go_wp2
          go_quiet (fail)
          go_wp2
          go_quiet (fail)
          go_wp2
          go_roundw
          case rel => exact ⟨k + 1, by omega, by go_num, chk_step (by rw [← hq.out]; exact hc.out) HC.out, _, rfl⟩
          case measure => simp [intOf]; omega
        · have k0' : 0 < k := by omega
          have k0i : (0 : Int) < k := by omega
          obtain ⟨a', p, hA, hp, hab', y0, y1, y2⟩ := h.at_ (show k - 1 < n by omega)
          cases hA
          obtain ⟨pf, pt, pz⟩ := p
          simp only at y0 y1 y2
          have HC := Lib.hid (code_next HS.out k2 harg k0' hp)
          clear hp y0 y2
          have W1 : IntKind.i64.wrap ((k : Int) - 1) = ((k - 1 : Nat) : Int) := by rw [show (k : Int) - 1 = ((k - 1 : Nat) : Int) by omega]; exact IntWalk.i64_in _ (by omega)
          have hle : k - 1 < n := by omega
          clear k0 harg
          by_cases e : pt = f
          · have q : (f != pt) = false := by simp [e]
            have HC0 : Hid (codeAt l k = 0) := by show codeAt l k = 0; rw [HC.out, if_pos e]
            clear e HC
            go_wp2
            go_quiet (fail)
            go_wp2
            go_quiet (fail)
            go_wp2
            go_roundw
            case rel => exact ⟨k + 1, by omega, by go_num, chk_step (by rw [← hq.out]; exact hc.out) HC0.out, _, rfl⟩
            case measure => simp [intOf]; omega
          · have q : (f != pt) = true := by simpa using (Ne.symm e)
            have HC6 : codeAt l k = 6 := by rw [HC.out, if_neg e]
            have hit := Lib.hid (chk_hit (by rw [← hq.out]; exact hc.out) (by rw [HC6]; omega))
            rw [HC6] at hit
            clear e HC HC6
            go_wp2
            go_quiet (fail)
            go_wp2
            go_quiet (fail)
            go_wp2
            go_ret2
            exact ⟨chkV_of hit.out, below_drewN' (below_drewN' (below_drewN' (Below.refl _ _) _) _) _⟩
    · obtain rfl : k = n := by omega
      have hz : chk l = (k, 0) := by rw [hc.out, Nat.sub_self]; rfl
      have HZ := Lib.hid hz
      clear hz
      go_wp2_with fail
      go_ret2
      exact ⟨chkV_of HZ.out, below_drewN' (Below.refl _ _) _⟩
end Go.Proofs.Ytlmnbdepklcfpaa
