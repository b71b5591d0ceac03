/- Walks of the chapter's Insured and Pays. Condition: a policy that may be, numbers in their range. -/
import Derived.Test.YtlmgkkdjjoimnaaScaled
import Derived.Test.YtlmgkkdjjoimnaaPayPlain
import Derived.Deep.RegionHeld3
namespace Go.Proofs.Ytlmgkkdjjoimnaa
open Go.RowKit
set_option linter.unusedVariables false
set_option linter.unusedSimpArgs false

section
variable (p : Pol) (A : Option Addr) (n c : Nat) (w : World)
set_option maxHeartbeats 2000000 in
theorem rins_any (v : Int) : Calls Try.prog 14 #[polV p A n c, .int .i64 v] w fun e w' => e = .returned (.int .i64 (insI p v)) ∧ Below w.heap.size w w' := by
  have hb : Below w.heap.size w (w.alloc (.cells (p.cells A n c) 24)) := (Below.refl _ _).alloc (Nat.le_refl _) _
  unfold polV Pol.cells at *
  have HB := Lib.hid hb
  clear hb
  by_cases hl : v < p.sum
  · have HV := Lib.hid (show insI p v = v by unfold insI; rw [if_pos hl])
    rw [HV.out]
    go_enter Try.func14, Try.ntmps14
    go_wp2_with fail
    go_ret
    exact ⟨rfl, HB.out⟩
  · have HV := Lib.hid (show insI p v = p.sum by unfold insI; rw [if_neg hl])
    rw [HV.out]
    go_enter Try.func14, Try.ntmps14
    go_wp2_with fail
    go_ret
    exact ⟨rfl, HB.out⟩
set_option maxRecDepth 100000 in
set_option maxHeartbeats 4000000 in
/-- the way behind the smaller one of loss and value is taken -/
theorem rpays_any (loss v : Int) (hf : fineB p v = true) (l0 : 0 ≤ loss) (l1 : loss ≤ 1099511627776) : Calls Try.prog 15 #[polV p A n c, .int .i64 loss, .int .i64 v] w fun e w' => e = .returned (.int .i64 (paysI p loss v)) ∧ Below w.heap.size w w' := by
  have K0 := Lib.hid (Kp.new w (p.cells A n c))
  obtain ⟨v1, v2, i1, i2, i3, o1, o2, s1, s2⟩ := fine_all hf
  clear i2 hf
  unfold polV
  unfold Pol.cells at K0 ⊢
  obtain ⟨w1, hw1⟩ : ∃ w1, w1 = w.alloc (.cells #[.string p.ins, .string p.fr, .string p.to_, .int .i64 p.sum, .int .i64 p.own, .slice A n c, .int .i64 p.first, .int .i64 p.last, .int .i64 p.share] 24) := ⟨_, rfl⟩
  rw [← hw1] at K0
  have HW := Lib.hid hw1
  clear hw1
  have K0d : Hid (Kp w (p.cells A n c) w1.drew) := K0.out.drew
  obtain ⟨c0, c1, c2, c3, c4, c5, c6, c7, c8⟩ := K0.out.2.nine_
  rcases (show loss ≤ v ∨ v < loss by omega) with hl | hl
  · have HL : Hid (lossI loss v = loss) := by show lossI loss v = loss; unfold lossI; rw [if_pos hl]
    have HS : Hid (∀ w, Calls Try.prog 29 #[.int .i64 loss, .int .i64 (insI p v), .int .i64 v] w fun e w' => e = .returned (.int .i64 (loss * insI p v / v)) ∧ Below w.heap.size w w') := fun w => scaled_any loss (insI p v) v w (by omega) (by omega) (by omega) i3 v1 v2
    obtain ⟨d0, d1⟩ := quot_bd (show 0 ≤ loss by omega) (show 0 ≤ insI p v by omega) i3 v1
    obtain ⟨D, eD⟩ : ∃ D, loss * insI p v / v = D := ⟨_, rfl⟩
    rw [eD] at HS d0 d1
    have HDD := Lib.hid eD
    clear eD
    rcases (show D < p.own ∨ p.own ≤ D by omega) with ho | ho
    · have ho' : D - p.own < 0 := by omega
      have HE : Hid (paysI p loss v = 0) := by show paysI p loss v = 0; unfold paysI; rw [HL.out, HDD.out]; exact paid_low (by omega)
      go_enter Try.func15, Try.ntmps15
      go_wp2_with fail
      rw [← HW.out]
      go_region_held3 (fun v => v.cell? ⟨w.heap.size, 0, none⟩ = some (.string p.ins) ∧ v.cell? ⟨w.heap.size, 1, none⟩ = some (.string p.fr) ∧ v.cell? ⟨w.heap.size, 2, none⟩ = some (.string p.to_) ∧ v.cell? ⟨w.heap.size, 3, none⟩ = some (.int .i64 p.sum) ∧ v.cell? ⟨w.heap.size, 4, none⟩ = some (.int .i64 p.own) ∧ v.cell? ⟨w.heap.size, 5, none⟩ = some (.slice A n c) ∧ v.cell? ⟨w.heap.size, 6, none⟩ = some (.int .i64 p.first) ∧ v.cell? ⟨w.heap.size, 7, none⟩ = some (.int .i64 p.last) ∧ v.cell? ⟨w.heap.size, 8, none⟩ = some (.int .i64 p.share)) (go_keep) (first | (go_at_call 14; refine (rins_any p A n c _ v).mono ?_; rintro e v14 ⟨rfl, hb14⟩; have K14 : Hid (Kp w (p.cells A n c) v14) := (Kp.step K0d.out hb14); obtain ⟨r0, r1, r2, r3, r4, r5, r6, r7, r8⟩ := K14.out.2.nine_; clear hb14) | (go_at_call 29; refine (HS.out _).mono ?_; rintro e v29 ⟨rfl, hb29⟩; have K29 : Hid (Kp w (p.cells A n c) v29) := (Kp.step K14.out hb29); obtain ⟨r0, r1, r2, r3, r4, r5, r6, r7, r8⟩ := K29.out.2.nine_; clear hb29))
      all_goals
        go_wp2_with fail
        go_ret
        exact ⟨ret_i HE.out, K29.out.1⟩
    · have ho' : 0 ≤ D - p.own := by omega
      obtain ⟨x0, x1⟩ := share_bd ho' (show D - p.own ≤ 1099511627776 by omega) s1 s2
      obtain ⟨X, eX⟩ : ∃ X, (D - p.own) * p.share = X := ⟨_, rfl⟩
      rw [eX] at x0 x1
      have eT : X.tdiv 1000 = X / 1000 := Int.tdiv_eq_ediv_of_nonneg x0
      have HE : Hid (paysI p loss v = X / 1000) := by show paysI p loss v = X / 1000; unfold paysI; rw [HL.out, HDD.out, paid_high (by omega), eX]
      go_enter Try.func15, Try.ntmps15
      go_wp2_with fail
      rw [← HW.out]
      go_region_held3 (fun v => v.cell? ⟨w.heap.size, 0, none⟩ = some (.string p.ins) ∧ v.cell? ⟨w.heap.size, 1, none⟩ = some (.string p.fr) ∧ v.cell? ⟨w.heap.size, 2, none⟩ = some (.string p.to_) ∧ v.cell? ⟨w.heap.size, 3, none⟩ = some (.int .i64 p.sum) ∧ v.cell? ⟨w.heap.size, 4, none⟩ = some (.int .i64 p.own) ∧ v.cell? ⟨w.heap.size, 5, none⟩ = some (.slice A n c) ∧ v.cell? ⟨w.heap.size, 6, none⟩ = some (.int .i64 p.first) ∧ v.cell? ⟨w.heap.size, 7, none⟩ = some (.int .i64 p.last) ∧ v.cell? ⟨w.heap.size, 8, none⟩ = some (.int .i64 p.share)) (go_keep) (first | (go_at_call 14; refine (rins_any p A n c _ v).mono ?_; rintro e v14 ⟨rfl, hb14⟩; have K14 : Hid (Kp w (p.cells A n c) v14) := (Kp.step K0d.out hb14); obtain ⟨r0, r1, r2, r3, r4, r5, r6, r7, r8⟩ := K14.out.2.nine_; clear hb14) | (go_at_call 29; refine (HS.out _).mono ?_; rintro e v29 ⟨rfl, hb29⟩; have K29 : Hid (Kp w (p.cells A n c) v29) := (Kp.step K14.out hb29); obtain ⟨r0, r1, r2, r3, r4, r5, r6, r7, r8⟩ := K29.out.2.nine_; clear hb29))
      all_goals
        go_wp2_with fail
        go_ret
        exact ⟨ret_i HE.out, K29.out.1⟩
  · have HL : Hid (lossI loss v = v) := by show lossI loss v = v; unfold lossI; rw [if_neg (by omega)]
    have HS : Hid (∀ w, Calls Try.prog 29 #[.int .i64 v, .int .i64 (insI p v), .int .i64 v] w fun e w' => e = .returned (.int .i64 (v * insI p v / v)) ∧ Below w.heap.size w w') := fun w => scaled_any v (insI p v) v w (by omega) (by omega) (by omega) i3 v1 v2
    obtain ⟨d0, d1⟩ := quot_bd (show 0 ≤ v by omega) (show 0 ≤ insI p v by omega) i3 v1
    obtain ⟨D, eD⟩ : ∃ D, v * insI p v / v = D := ⟨_, rfl⟩
    rw [eD] at HS d0 d1
    have HDD := Lib.hid eD
    clear eD
    rcases (show D < p.own ∨ p.own ≤ D by omega) with ho | ho
    · have ho' : D - p.own < 0 := by omega
      have HE : Hid (paysI p loss v = 0) := by show paysI p loss v = 0; unfold paysI; rw [HL.out, HDD.out]; exact paid_low (by omega)
      go_enter Try.func15, Try.ntmps15
      go_wp2_with fail
      rw [← HW.out]
      go_region_held3 (fun v => v.cell? ⟨w.heap.size, 0, none⟩ = some (.string p.ins) ∧ v.cell? ⟨w.heap.size, 1, none⟩ = some (.string p.fr) ∧ v.cell? ⟨w.heap.size, 2, none⟩ = some (.string p.to_) ∧ v.cell? ⟨w.heap.size, 3, none⟩ = some (.int .i64 p.sum) ∧ v.cell? ⟨w.heap.size, 4, none⟩ = some (.int .i64 p.own) ∧ v.cell? ⟨w.heap.size, 5, none⟩ = some (.slice A n c) ∧ v.cell? ⟨w.heap.size, 6, none⟩ = some (.int .i64 p.first) ∧ v.cell? ⟨w.heap.size, 7, none⟩ = some (.int .i64 p.last) ∧ v.cell? ⟨w.heap.size, 8, none⟩ = some (.int .i64 p.share)) (go_keep) (first | (go_at_call 14; refine (rins_any p A n c _ v).mono ?_; rintro e v14 ⟨rfl, hb14⟩; have K14 : Hid (Kp w (p.cells A n c) v14) := (Kp.step K0d.out hb14); obtain ⟨r0, r1, r2, r3, r4, r5, r6, r7, r8⟩ := K14.out.2.nine_; clear hb14) | (go_at_call 29; refine (HS.out _).mono ?_; rintro e v29 ⟨rfl, hb29⟩; have K29 : Hid (Kp w (p.cells A n c) v29) := (Kp.step K14.out hb29); obtain ⟨r0, r1, r2, r3, r4, r5, r6, r7, r8⟩ := K29.out.2.nine_; clear hb29))
      all_goals
        go_wp2_with fail
        go_ret
        exact ⟨ret_i HE.out, K29.out.1⟩
    · have ho' : 0 ≤ D - p.own := by omega
      obtain ⟨x0, x1⟩ := share_bd ho' (show D - p.own ≤ 1099511627776 by omega) s1 s2
      obtain ⟨X, eX⟩ : ∃ X, (D - p.own) * p.share = X := ⟨_, rfl⟩
      rw [eX] at x0 x1
      have eT : X.tdiv 1000 = X / 1000 := Int.tdiv_eq_ediv_of_nonneg x0
      have HE : Hid (paysI p loss v = X / 1000) := by show paysI p loss v = X / 1000; unfold paysI; rw [HL.out, HDD.out, paid_high (by omega), eX]
      go_enter Try.func15, Try.ntmps15
      go_wp2_with fail
      rw [← HW.out]
      go_region_held3 (fun v => v.cell? ⟨w.heap.size, 0, none⟩ = some (.string p.ins) ∧ v.cell? ⟨w.heap.size, 1, none⟩ = some (.string p.fr) ∧ v.cell? ⟨w.heap.size, 2, none⟩ = some (.string p.to_) ∧ v.cell? ⟨w.heap.size, 3, none⟩ = some (.int .i64 p.sum) ∧ v.cell? ⟨w.heap.size, 4, none⟩ = some (.int .i64 p.own) ∧ v.cell? ⟨w.heap.size, 5, none⟩ = some (.slice A n c) ∧ v.cell? ⟨w.heap.size, 6, none⟩ = some (.int .i64 p.first) ∧ v.cell? ⟨w.heap.size, 7, none⟩ = some (.int .i64 p.last) ∧ v.cell? ⟨w.heap.size, 8, none⟩ = some (.int .i64 p.share)) (go_keep) (first | (go_at_call 14; refine (rins_any p A n c _ v).mono ?_; rintro e v14 ⟨rfl, hb14⟩; have K14 : Hid (Kp w (p.cells A n c) v14) := (Kp.step K0d.out hb14); obtain ⟨r0, r1, r2, r3, r4, r5, r6, r7, r8⟩ := K14.out.2.nine_; clear hb14) | (go_at_call 29; refine (HS.out _).mono ?_; rintro e v29 ⟨rfl, hb29⟩; have K29 : Hid (Kp w (p.cells A n c) v29) := (Kp.step K14.out hb29); obtain ⟨r0, r1, r2, r3, r4, r5, r6, r7, r8⟩ := K29.out.2.nine_; clear hb29))
      all_goals
        go_wp2_with fail
        go_ret
        exact ⟨ret_i HE.out, K29.out.1⟩
end
end Go.Proofs.Ytlmgkkdjjoimnaa
