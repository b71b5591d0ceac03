/- Walk of bits.Div64, its long way. Condition: the parts that the walk meets, each by its name. -/
import Derived.Test.YtlmgkkdjjoimnaaAwake
import Derived.Test.YtlmgkkdjjoimnaaDivPlain
namespace Go.Proofs.Ytlmgkkdjjoimnaa
open Go.RowKit
set_option linter.unusedVariables false
set_option linter.unusedSimpArgs false

theorem hid_step {q a r U : Int} (h : q * a + r = U) : (q - 1) * a + (r + a) = U := by
  rw [Int.sub_mul]
  omega
set_option maxRecDepth 100000 in
set_option maxHeartbeats 4000000 in
theorem div_core (hi lo y Y a b U L d1 d0 q1 X1 Q1 V q2 X2 Q0 : Int) (s : Nat) (w : World)
    (hhi : 1 ≤ hi) (hy : hi < y) (hy1 : y ≤ 18446744073709551615) (hlo0 : 0 ≤ lo) (hlo1 : lo ≤ 18446744073709551615) (hs : s ≤ 63)
    (hz : (64 - (Lib.bitLen y.toNat : Int)) = s)
    (eY : IntKind.u64.wrap (y * 2 ^ s) = Y) (ea : Y / 4294967296 = a) (eb : bits BinOp.and IntKind.u64 Y 4294967295 = b)
    (eU : bits BinOp.or IntKind.u64 (IntKind.u64.wrap (hi * 2 ^ s)) (lo / 2 ^ (64 - s)) = U)
    (eL : IntKind.u64.wrap (lo * 2 ^ s) = L) (ed1 : L / 4294967296 = d1) (ed0 : bits BinOp.and IntKind.u64 L 4294967295 = d0)
    (eq1 : U / a = q1) (eq1' : U.tdiv a = q1) (eX1 : q1 * a = X1)
    (eV : IntKind.u64.wrap (IntKind.u64.wrap (IntKind.u64.wrap (U * 4294967296) + d1) - IntKind.u64.wrap (Q1 * Y)) = V)
    (eq2 : V / a = q2) (eq2' : V.tdiv a = q2) (eX2 : q2 * a = X2)
    (h1 : DV a b U d1 Y) (hQ1 : (U * 4294967296 + d1) / Y = Q1) (h2 : DV a b V d0 Y) (hQ0 : (V * 4294967296 + d0) / Y = Q0)
    (hY1 : Y ≤ 18446744073709551615) :
    Calls Try.prog 43 #[.int .u64 hi, .int .u64 lo, .int .u64 y] w fun e w' => (∃ r : Int, e = .returned (.tuple #[.int .u64 (Q1 * 4294967296 + Q0), .int .u64 r])) ∧ Below w.heap.size w w' := by
  obtain ⟨hY, ha, hb0, hb1, hU0, hU, hd10, hd11⟩ := id h1
  obtain ⟨hYb, _, _, _, hV0, hV, hd00, hd01⟩ := id h2
  clear hYb
  have ha1 : a < 4294967296 := by omega
  obtain ⟨f1, f2, f3⟩ := dq_first h1
  obtain ⟨g1, g2, g3⟩ := dq_first h2
  obtain ⟨k1, k2⟩ := dq_bd h1
  obtain ⟨k3, k4⟩ := dq_bd h2
  rw [hQ1] at f1 k1 k2
  rw [hQ0] at g1 k3 k4
  rw [eq1] at f1 f2 f3
  rw [eq2] at g1 g2 g3
  have x1 : 0 ≤ X1 := by rw [← eX1]; exact Int.mul_nonneg f3 (by omega)
  have x1' : X1 ≤ U := by rw [← eX1, ← eq1]; exact Int.ediv_mul_le _ (by omega)
  have x1'' : U - X1 < a := by
    have := Int.lt_ediv_add_one_mul_self U (show 0 < a by omega)
    rw [eq1, Int.add_mul, eX1] at this
    omega
  have x2 : 0 ≤ X2 := by rw [← eX2]; exact Int.mul_nonneg g3 (by omega)
  have x2' : X2 ≤ V := by rw [← eX2, ← eq2]; exact Int.ediv_mul_le _ (by omega)
  have x2'' : V - X2 < a := by
    have := Int.lt_ediv_add_one_mul_self V (show 0 < a by omega)
    rw [eq2, Int.add_mul, eX2] at this
    omega
  have HI1 := Lib.hid (show q1 * a + (U - X1) = U by omega)
  have HI2 := Lib.hid (show q2 * a + (V - X2) = V by omega)
  have H1 := Lib.hid h1
  have H2 := Lib.hid h2
  have HQ1 := Lib.hid hQ1
  have HQ0 := Lib.hid hQ0
  have HY := Lib.hid hY
  clear h1 h2 hQ1 hQ0 hY
  have n1 : (y == 0) = false := by simp; omega
  have n2 : (hi == 0) = false := by simp; omega
  have n3 : ¬ y ≤ hi := by omega
  have n4 : ¬ a = 0 := by omega
  have HL := Lib.hid fun w => Try.bits_LeadingZeros64 y w (by omega) hy1
  rw [hz] at HL
  clear hz
  go_enter Try.func43, Try.ntmps43
  go_wp2_with fail
  refine (HL.out _).mono ?_
  rintro e w1 ⟨rfl, rfl⟩
  go_wp2_with fail
  go_loopw [15, 16] (fun qv rv wv => ∃ q r : Int, qv = .int .u64 q ∧ rv = .int .u64 r ∧ Hid (q * a + r = U) ∧ Q1 ≤ q ∧ q ≤ 4294967297 ∧ 0 ≤ r ∧ r < 4294967296 ∧ Below w1.heap.size w1 wv) (fun qv _ _ => (intOf qv).toNat)
  case atStart => exact ⟨q1, U - X1, rfl, rfl, HI1, by omega, by omega, by omega, by omega, Below.refl _ _⟩
  case round =>
      obtain ⟨q, r, rfl, rfl, hqr, hq1, hq2, hr0, hr1, hb⟩ := hrel
      have HB := Lib.hid hb
      clear hb
      obtain ⟨X, eX⟩ : ∃ X, q * b = X := ⟨_, rfl⟩
      have hX0 : 0 ≤ X := by rw [← eX]; exact Int.mul_nonneg (by omega) hb0
      have hX1 : q < 4294967296 → X ≤ 18446744065119617025 := fun h => by rw [← eX]; exact (mul_bd2 (by omega) (by omega) hb0 (by omega)).2
      by_cases hbig : 4294967296 ≤ q ∨ 4294967296 * r + d1 < X
      · have hlt := dq_big H1.out hqr.out (by rw [eX]; exact hbig)
        rw [HQ1.out] at hlt
        obtain ⟨p, rfl⟩ : ∃ p, q = p + 1 := ⟨q - 1, by omega⟩
        have HN := Lib.hid (hid_step hqr.out)
        rw [Int.add_sub_cancel] at HN
        by_cases hbr : 4294967296 ≤ r + a
        · have hpQ := dq_brk H1.out HN.out (by rw [HQ1.out]; omega) (by omega) hbr
          rw [HQ1.out] at hpQ
          subst hpQ
          clear hqr HN hq1
          rcases (show 4294967296 ≤ p + 1 ∨ p + 1 < 4294967296 by omega) with hw | hw
          · clear hX1 eX hbig
            go_wp2_with fail
            clear hr0 hr1 hq2 hX0
            obtain ⟨wo, rfl⟩ : ∃ wo : World, wo = wr := ⟨_, rfl⟩
            go_loopw [18, 16] (fun qv rv wv => ∃ q r : Int, qv = .int .u64 q ∧ rv = .int .u64 r ∧ Hid (q * a + r = V) ∧ Q0 ≤ q ∧ q ≤ 4294967297 ∧ 0 ≤ r ∧ r < 4294967296 ∧ Below w1.heap.size w1 wv) (fun qv _ _ => (intOf qv).toNat)
            case atStart => exact ⟨q2, V - X2, rfl, rfl, HI2, by omega, by omega, by omega, by omega, HB.out⟩
            case round =>
                obtain ⟨q, r, rfl, rfl, hqr, hq1, hq2, hr0, hr1, hb⟩ := hrel
                have HB := Lib.hid hb
                clear hb
                obtain ⟨X, eX⟩ : ∃ X, q * b = X := ⟨_, rfl⟩
                have hX0 : 0 ≤ X := by rw [← eX]; exact Int.mul_nonneg (by omega) hb0
                have hX1 : q < 4294967296 → X ≤ 18446744065119617025 := fun h => by rw [← eX]; exact (mul_bd2 (by omega) (by omega) hb0 (by omega)).2
                by_cases hbig : 4294967296 ≤ q ∨ 4294967296 * r + d0 < X
                · have hlt := dq_big H2.out hqr.out (by rw [eX]; exact hbig)
                  rw [HQ0.out] at hlt
                  obtain ⟨p, rfl⟩ : ∃ p, q = p + 1 := ⟨q - 1, by omega⟩
                  have HN := Lib.hid (hid_step hqr.out)
                  rw [Int.add_sub_cancel] at HN
                  by_cases hbr : 4294967296 ≤ r + a
                  · have hpQ := dq_brk H2.out HN.out (by rw [HQ0.out]; omega) (by omega) hbr
                    rw [HQ0.out] at hpQ
                    subst hpQ
                    clear hqr HN hq1
                    rcases (show 4294967296 ≤ p + 1 ∨ p + 1 < 4294967296 by omega) with hw | hw
                    · clear hX1 eX hbig
                      go_wp2_with fail
                      go_ret2
                      exact ⟨⟨_, rfl⟩, HB.out⟩
                    · have hX := hX1 hw
                      have hgt : 4294967296 * r + d0 < X := by omega
                      clear hX1 hbig
                      go_wp2_with fail
                      go_ret2
                      exact ⟨⟨_, rfl⟩, HB.out⟩
                  · rcases (show 4294967296 ≤ p + 1 ∨ p + 1 < 4294967296 by omega) with hw | hw
                    · clear hX1 eX hbig
                      go_wp2_with fail
                      go_roundw
                      case rel => exact ⟨p, r + a, rfl, rfl, HN, by omega, by omega, by omega, by omega, HB.out⟩
                      case measure => simp [intOf]; omega
                    · have hX := hX1 hw
                      have hgt : 4294967296 * r + d0 < X := by omega
                      clear hX1 hbig
                      go_wp2_with fail
                      go_roundw
                      case rel => exact ⟨p, r + a, rfl, rfl, HN, by omega, by omega, by omega, by omega, HB.out⟩
                      case measure => simp [intOf]; omega
                · have hw : q < 4294967296 := by omega
                  have hX := hX1 hw
                  have hle : X ≤ 4294967296 * r + d0 := by omega
                  have hpQ := dq_ok H2.out hqr.out (by rw [HQ0.out]; omega) (by rw [eX]; exact hle)
                  rw [HQ0.out] at hpQ
                  subst hpQ
                  clear hqr hX1 hbig hq1
                  go_wp2_with fail
                  go_ret2
                  exact ⟨⟨_, rfl⟩, HB.out⟩
          · have hX := hX1 hw
            have hgt : 4294967296 * r + d1 < X := by omega
            clear hX1 hbig
            go_wp2_with fail
            clear hr0 hr1 hq2 hX0
            obtain ⟨wo, rfl⟩ : ∃ wo : World, wo = wr := ⟨_, rfl⟩
            go_loopw [18, 16] (fun qv rv wv => ∃ q r : Int, qv = .int .u64 q ∧ rv = .int .u64 r ∧ Hid (q * a + r = V) ∧ Q0 ≤ q ∧ q ≤ 4294967297 ∧ 0 ≤ r ∧ r < 4294967296 ∧ Below w1.heap.size w1 wv) (fun qv _ _ => (intOf qv).toNat)
            case atStart => exact ⟨q2, V - X2, rfl, rfl, HI2, by omega, by omega, by omega, by omega, HB.out⟩
            case round =>
                obtain ⟨q, r, rfl, rfl, hqr, hq1, hq2, hr0, hr1, hb⟩ := hrel
                have HB := Lib.hid hb
                clear hb
                obtain ⟨X, eX⟩ : ∃ X, q * b = X := ⟨_, rfl⟩
                have hX0 : 0 ≤ X := by rw [← eX]; exact Int.mul_nonneg (by omega) hb0
                have hX1 : q < 4294967296 → X ≤ 18446744065119617025 := fun h => by rw [← eX]; exact (mul_bd2 (by omega) (by omega) hb0 (by omega)).2
                by_cases hbig : 4294967296 ≤ q ∨ 4294967296 * r + d0 < X
                · have hlt := dq_big H2.out hqr.out (by rw [eX]; exact hbig)
                  rw [HQ0.out] at hlt
                  obtain ⟨p, rfl⟩ : ∃ p, q = p + 1 := ⟨q - 1, by omega⟩
                  have HN := Lib.hid (hid_step hqr.out)
                  rw [Int.add_sub_cancel] at HN
                  by_cases hbr : 4294967296 ≤ r + a
                  · have hpQ := dq_brk H2.out HN.out (by rw [HQ0.out]; omega) (by omega) hbr
                    rw [HQ0.out] at hpQ
                    subst hpQ
                    clear hqr HN hq1
                    rcases (show 4294967296 ≤ p + 1 ∨ p + 1 < 4294967296 by omega) with hw | hw
                    · clear hX1 eX hbig
                      go_wp2_with fail
                      go_ret2
                      exact ⟨⟨_, rfl⟩, HB.out⟩
                    · have hX := hX1 hw
                      have hgt : 4294967296 * r + d0 < X := by omega
                      clear hX1 hbig
                      go_wp2_with fail
                      go_ret2
                      exact ⟨⟨_, rfl⟩, HB.out⟩
                  · rcases (show 4294967296 ≤ p + 1 ∨ p + 1 < 4294967296 by omega) with hw | hw
                    · clear hX1 eX hbig
                      go_wp2_with fail
                      go_roundw
                      case rel => exact ⟨p, r + a, rfl, rfl, HN, by omega, by omega, by omega, by omega, HB.out⟩
                      case measure => simp [intOf]; omega
                    · have hX := hX1 hw
                      have hgt : 4294967296 * r + d0 < X := by omega
                      clear hX1 hbig
                      go_wp2_with fail
                      go_roundw
                      case rel => exact ⟨p, r + a, rfl, rfl, HN, by omega, by omega, by omega, by omega, HB.out⟩
                      case measure => simp [intOf]; omega
                · have hw : q < 4294967296 := by omega
                  have hX := hX1 hw
                  have hle : X ≤ 4294967296 * r + d0 := by omega
                  have hpQ := dq_ok H2.out hqr.out (by rw [HQ0.out]; omega) (by rw [eX]; exact hle)
                  rw [HQ0.out] at hpQ
                  subst hpQ
                  clear hqr hX1 hbig hq1
                  go_wp2_with fail
                  go_ret2
                  exact ⟨⟨_, rfl⟩, HB.out⟩
        · rcases (show 4294967296 ≤ p + 1 ∨ p + 1 < 4294967296 by omega) with hw | hw
          · clear hX1 eX hbig
            go_wp2_with fail
            go_roundw
            case rel => exact ⟨p, r + a, rfl, rfl, HN, by omega, by omega, by omega, by omega, HB.out⟩
            case measure => simp [intOf]; omega
          · have hX := hX1 hw
            have hgt : 4294967296 * r + d1 < X := by omega
            clear hX1 hbig
            go_wp2_with fail
            go_roundw
            case rel => exact ⟨p, r + a, rfl, rfl, HN, by omega, by omega, by omega, by omega, HB.out⟩
            case measure => simp [intOf]; omega
      · have hw : q < 4294967296 := by omega
        have hX := hX1 hw
        have hle : X ≤ 4294967296 * r + d1 := by omega
        have hpQ := dq_ok H1.out hqr.out (by rw [HQ1.out]; omega) (by rw [eX]; exact hle)
        rw [HQ1.out] at hpQ
        subst hpQ
        clear hqr hX1 hbig hq1
        go_wp2_with fail
        clear hr0 hr1 hq2 hX0
        obtain ⟨wo, rfl⟩ : ∃ wo : World, wo = wr := ⟨_, rfl⟩
        go_loopw [18, 16] (fun qv rv wv => ∃ q r : Int, qv = .int .u64 q ∧ rv = .int .u64 r ∧ Hid (q * a + r = V) ∧ Q0 ≤ q ∧ q ≤ 4294967297 ∧ 0 ≤ r ∧ r < 4294967296 ∧ Below w1.heap.size w1 wv) (fun qv _ _ => (intOf qv).toNat)
        case atStart => exact ⟨q2, V - X2, rfl, rfl, HI2, by omega, by omega, by omega, by omega, HB.out⟩
        case round =>
            obtain ⟨q, r, rfl, rfl, hqr, hq1, hq2, hr0, hr1, hb⟩ := hrel
            have HB := Lib.hid hb
            clear hb
            obtain ⟨X, eX⟩ : ∃ X, q * b = X := ⟨_, rfl⟩
            have hX0 : 0 ≤ X := by rw [← eX]; exact Int.mul_nonneg (by omega) hb0
            have hX1 : q < 4294967296 → X ≤ 18446744065119617025 := fun h => by rw [← eX]; exact (mul_bd2 (by omega) (by omega) hb0 (by omega)).2
            by_cases hbig : 4294967296 ≤ q ∨ 4294967296 * r + d0 < X
            · have hlt := dq_big H2.out hqr.out (by rw [eX]; exact hbig)
              rw [HQ0.out] at hlt
              obtain ⟨p, rfl⟩ : ∃ p, q = p + 1 := ⟨q - 1, by omega⟩
              have HN := Lib.hid (hid_step hqr.out)
              rw [Int.add_sub_cancel] at HN
              by_cases hbr : 4294967296 ≤ r + a
              · have hpQ := dq_brk H2.out HN.out (by rw [HQ0.out]; omega) (by omega) hbr
                rw [HQ0.out] at hpQ
                subst hpQ
                clear hqr HN hq1
                rcases (show 4294967296 ≤ p + 1 ∨ p + 1 < 4294967296 by omega) with hw | hw
                · clear hX1 eX hbig
                  go_wp2_with fail
                  go_ret2
                  exact ⟨⟨_, rfl⟩, HB.out⟩
                · have hX := hX1 hw
                  have hgt : 4294967296 * r + d0 < X := by omega
                  clear hX1 hbig
                  go_wp2_with fail
                  go_ret2
                  exact ⟨⟨_, rfl⟩, HB.out⟩
              · rcases (show 4294967296 ≤ p + 1 ∨ p + 1 < 4294967296 by omega) with hw | hw
                · clear hX1 eX hbig
                  go_wp2_with fail
                  go_roundw
                  case rel => exact ⟨p, r + a, rfl, rfl, HN, by omega, by omega, by omega, by omega, HB.out⟩
                  case measure => simp [intOf]; omega
                · have hX := hX1 hw
                  have hgt : 4294967296 * r + d0 < X := by omega
                  clear hX1 hbig
                  go_wp2_with fail
                  go_roundw
                  case rel => exact ⟨p, r + a, rfl, rfl, HN, by omega, by omega, by omega, by omega, HB.out⟩
                  case measure => simp [intOf]; omega
            · have hw : q < 4294967296 := by omega
              have hX := hX1 hw
              have hle : X ≤ 4294967296 * r + d0 := by omega
              have hpQ := dq_ok H2.out hqr.out (by rw [HQ0.out]; omega) (by rw [eX]; exact hle)
              rw [HQ0.out] at hpQ
              subst hpQ
              clear hqr hX1 hbig hq1
              go_wp2_with fail
              go_ret2
              exact ⟨⟨_, rfl⟩, HB.out⟩
end Go.Proofs.Ytlmgkkdjjoimnaa
