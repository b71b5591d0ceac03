/- PolicyDays's walk. Condition: how the causes and the hands lie. -/
import Derived.Test.YtlmgkkdjjoimnaaCovers
namespace Go.Proofs.Ytlmgkkdjjoimnaa
open Go.RowKit
set_option linter.unusedVariables false
set_option linter.unusedSimpArgs false

theorem way_mid {p : Pol} {l : List Hand} {a b c : Int} (hab : a ≤ b) (hbc : b ≤ c) (ha : wayB p l a = true) (hc : wayB p l c = true) : wayB p l b = true := by
  unfold wayB at *
  split at ha
  · cases ha
  · rename_i i hi
    simp only [hi] at hc ⊢
    split at ha
    · cases ha
    · rename_i hb hhb
      simp only [hhb] at hc ⊢
      split at ha
      · cases ha
      · rename_i h1
        rw [if_neg (show ¬ c < hb.day by omega)] at hc
        rw [if_neg (show ¬ b < hb.day by omega)]
        cases he : first (l.drop (i + 1)) p.to_ with
        | none => rfl
        | some e =>
          rw [he] at hc
          cases hx : (l.drop (i + 1))[e]? with
          | none => simp only [hx]
          | some y =>
            simp only [hx] at hc ⊢
            simp at hc ⊢
            omega
theorem covers_mid {p : Pol} {l : List Hand} {cause a b c : Int} (hab : a ≤ b) (hbc : b ≤ c) (ha : coversB p l cause a = true) (hc : coversB p l cause c = true) : coversB p l cause b = true := by
  unfold coversB at *
  simp only [Bool.and_eq_true] at *
  obtain ⟨⟨⟨h1, h2⟩, h3⟩, h4⟩ := ha
  obtain ⟨⟨_, g3⟩, g4⟩ := hc
  refine ⟨⟨⟨h1, h2⟩, ?_⟩, way_mid hab hbc h4 g4⟩
  have := inB_of h3
  have := inB_of g3
  exact inB_yes ⟨by omega, by omega⟩
theorem covers_out {p : Pol} {l : List Hand} {cause a : Int} (h : mayP p = true → a < p.first ∨ p.last < a) : coversB p l cause a = false := by
  unfold coversB
  cases hm : mayP p
  · rfl
  · rw [inB_no (by have := h hm; omega)]
    simp
set_option maxRecDepth 100000 in
set_option maxHeartbeats 8000000 in
theorem daysLaw_any (p : Pol) (hp : p.wf) (A : Option Addr) (n c : Nat) (D : Option Addr) (m d : Nat) (l : List Hand) (cause x y z : Int) (w : World) (hc : Cs w w.heap.size A n p.causes) (hh : Hs w w.heap.size D m l) (hmd : m ≤ d) :
    Calls Try.prog 7 #[polV p A n c, .slice D m d, .int .i64 cause, .int .i64 x, .int .i64 y, .int .i64 z] w fun e w' => e = .returned (.bool true) ∧ Below w.heap.size w w' := by
  have K := Lib.hid (Kp.new w (p.cells A n c))
  have HC := Lib.hid hc
  have HH := Lib.hid hh
  have hF : Hid (coversB p l cause (wrap64 (p.first - 1)) = false) := covers_out fun h => by
    have hb := (mayP_all.1 h).2.2.2.2.2.2.2.2.1
    rw [IntWalk.wrap64_in _ ⟨by omega, by omega⟩]
    omega
  have hL : Hid (coversB p l cause (wrap64 (p.last + 1)) = false) := covers_out fun h => by
    have hb := (mayP_all.1 h).2.2.2.2.2.2.2.2.2.1
    rw [IntWalk.wrap64_in _ ⟨by omega, by omega⟩]
    omega
  clear hc hh
  unfold polV Pol.cells at *
  go_enter Try.func7, Try.ntmps7
  go_wp2_with fail
  refine (awake_any _).mono ?_
  rintro e w1 ⟨rfl, hb⟩
  have K1 := Lib.hid (K.out.step hb)
  obtain ⟨c0, c1, c2, c3, c4, c5, c6, c7, c8⟩ := K1.out.2.nine_
  clear hb K
  go_wp2_with fail
  refine (long_any p A n c w1).mono ?_
  rintro e w2 ⟨lg, rfl, hb⟩
  have K2 := Lib.hid (K1.out.step hb)
  clear hb K1 c0 c1 c2 c3 c4 c5 c6 c7 c8
  cases lg
  case true =>
    go_wp2_with fail
    go_ret
    exact ⟨rfl, K2.out.1⟩
  by_cases h30 : 30 < m
  · have q : (30 : Int) < m := by omega
    go_wp2_with fail
    go_ret
    exact ⟨rfl, K2.out.1⟩
  have q : (m : Int) ≤ 30 := by omega
  clear h30
  go_wp2_with fail
  refine (heavy_any D m d l w2 (HH.out.up K2.out.1)).mono ?_
  rintro e w3 ⟨hv, rfl, hb⟩
  have K3 := Lib.hid (K2.out.step hb)
  clear hb K2
  cases hv
  case true =>
    go_wp2_with fail
    go_ret
    exact ⟨rfl, K3.out.1⟩
  by_cases hxy : y < x
  · go_wp2_with fail
    go_ret
    exact ⟨rfl, K3.out.1⟩
  by_cases hyz : z < y
  · have hxy' : x ≤ y := by omega
    clear hxy
    go_wp2_with fail
    go_ret
    exact ⟨rfl, K3.out.1⟩
  have hxy' : x ≤ y := by omega
  have hyz' : y ≤ z := by omega
  clear hxy hyz
  obtain ⟨c0, c1, c2, c3, c4, c5, c6, c7, c8⟩ := K3.out.2.nine_
  have HMid : Hid (coversB p l cause x = true → coversB p l cause z = true → coversB p l cause y = true) := covers_mid hxy' hyz'
  go_wp2_with fail
  refine (covers_any p hp A n c D m d l cause x _ (K3.out.csat HC.out) (HH.out.up K3.out.1) hmd).mono ?_
  rintro e w4 ⟨rfl, hb⟩
  have K4 := Lib.hid (K3.out.step hb)
  clear hb K3 c0 c1 c2 c3 c4 c5 c6 c7 c8
  obtain ⟨c0, c1, c2, c3, c4, c5, c6, c7, c8⟩ := K4.out.2.nine_
  generalize hvx : coversB p l cause x = vx
  have VX := Lib.hid hvx
  clear hvx
  cases vx
  · go_wp2_with fail
    refine (covers_any p hp A n c D m d l cause _ _ (K4.out.csat HC.out) (HH.out.up K4.out.1) hmd).mono ?_
    rintro e w5 ⟨rfl, hb⟩
    have K5 := Lib.hid (K4.out.step hb)
    clear hb c0 c1 c2 c3 c4 c5 c6 c7 c8
    obtain ⟨c0, c1, c2, c3, c4, c5, c6, c7, c8⟩ := K5.out.2.nine_
    rw [hF.out]
    go_wp2_with fail
    refine (covers_any p hp A n c D m d l cause _ _ (K5.out.csat HC.out) (HH.out.up K5.out.1) hmd).mono ?_
    rintro e w6 ⟨rfl, hb⟩
    have K6 := Lib.hid (K5.out.step hb)
    clear hb c0 c1 c2 c3 c4 c5 c6 c7 c8
    obtain ⟨c0, c1, c2, c3, c4, c5, c6, c7, c8⟩ := K6.out.2.nine_
    rw [hL.out]
    go_wp2_with fail
    go_ret
    exact ⟨rfl, K6.out.1⟩
  · generalize hvz : coversB p l cause z = vz
    have VZ := Lib.hid hvz
    clear hvz
    go_wp2_with fail
    refine (covers_any p hp A n c D m d l cause z _ (K4.out.csat HC.out) (HH.out.up K4.out.1) hmd).mono ?_
    rintro e w5 ⟨rfl, hb⟩
    have K5 := Lib.hid (K4.out.step hb)
    clear hb c0 c1 c2 c3 c4 c5 c6 c7 c8
    obtain ⟨c0, c1, c2, c3, c4, c5, c6, c7, c8⟩ := K5.out.2.nine_
    rw [VZ.out]
    cases vz
    · go_wp2_with fail
      refine (covers_any p hp A n c D m d l cause _ _ (K5.out.csat HC.out) (HH.out.up K5.out.1) hmd).mono ?_
      rintro e w6 ⟨rfl, hb⟩
      have K6 := Lib.hid (K5.out.step hb)
      clear hb c0 c1 c2 c3 c4 c5 c6 c7 c8
      obtain ⟨c0, c1, c2, c3, c4, c5, c6, c7, c8⟩ := K6.out.2.nine_
      rw [hF.out]
      go_wp2_with fail
      refine (covers_any p hp A n c D m d l cause _ _ (K6.out.csat HC.out) (HH.out.up K6.out.1) hmd).mono ?_
      rintro e w7 ⟨rfl, hb⟩
      have K7 := Lib.hid (K6.out.step hb)
      clear hb c0 c1 c2 c3 c4 c5 c6 c7 c8
      obtain ⟨c0, c1, c2, c3, c4, c5, c6, c7, c8⟩ := K7.out.2.nine_
      rw [hL.out]
      go_wp2_with fail
      go_ret
      exact ⟨rfl, K7.out.1⟩
    · have VY : Hid (coversB p l cause y = true) := HMid.out VX.out VZ.out
      go_wp2_with fail
      refine (covers_any p hp A n c D m d l cause y _ (K5.out.csat HC.out) (HH.out.up K5.out.1) hmd).mono ?_
      rintro e w6 ⟨rfl, hb⟩
      have K6 := Lib.hid (K5.out.step hb)
      clear hb c0 c1 c2 c3 c4 c5 c6 c7 c8
      obtain ⟨c0, c1, c2, c3, c4, c5, c6, c7, c8⟩ := K6.out.2.nine_
      rw [VY.out]
      go_wp2_with fail
      refine (covers_any p hp A n c D m d l cause _ _ (K6.out.csat HC.out) (HH.out.up K6.out.1) hmd).mono ?_
      rintro e w7 ⟨rfl, hb⟩
      have K7 := Lib.hid (K6.out.step hb)
      clear hb c0 c1 c2 c3 c4 c5 c6 c7 c8
      obtain ⟨c0, c1, c2, c3, c4, c5, c6, c7, c8⟩ := K7.out.2.nine_
      rw [hF.out]
      go_wp2_with fail
      refine (covers_any p hp A n c D m d l cause _ _ (K7.out.csat HC.out) (HH.out.up K7.out.1) hmd).mono ?_
      rintro e w8 ⟨rfl, hb⟩
      have K8 := Lib.hid (K7.out.step hb)
      clear hb c0 c1 c2 c3 c4 c5 c6 c7 c8
      obtain ⟨c0, c1, c2, c3, c4, c5, c6, c7, c8⟩ := K8.out.2.nine_
      rw [hL.out]
      go_wp2_with fail
      go_ret
      exact ⟨rfl, K8.out.1⟩
end Go.Proofs.Ytlmgkkdjjoimnaa
