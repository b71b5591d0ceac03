/- nets(): the sums of its two debts, and what is left of them. No condition. (written by gen/netc.py) -/
import Derived.Test.YtlmnbdepklcfpaaNetM
import Derived.Test.YtlmnbdepklcfpaaNetB
import Derived.Test.YtlmnbdepklcfpaaSinkB
import Derived.Deep.Cut
namespace Go.Proofs.Ytlmnbdepklcfpaa
open Go.RowKit Go.Maps Go.ChangeMaps
set_option linter.unusedVariables false
set_option linter.unusedSimpArgs false
def k1 : Value := .agg #[.string ⟨#[85, 83, 68]⟩, .string ⟨#[97]⟩, .string ⟨#[98]⟩]
def k2 : Value := .agg #[.string ⟨#[85, 83, 68]⟩, .string ⟨#[98]⟩, .string ⟨#[97]⟩]
noncomputable def kl1 : Lit := (keyOf Try.prog 74 k1).getD .nil
noncomputable def kl2 : Lit := (keyOf Try.prog 74 k2).getD .nil
theorem key1 : keyOf Try.prog 74 (.agg #[.string ⟨#[85, 83, 68]⟩, .string ⟨#[97]⟩, .string ⟨#[98]⟩]) = some kl1 := by kernel_rfl
theorem key2 : keyOf Try.prog 74 (.agg #[.string ⟨#[85, 83, 68]⟩, .string ⟨#[98]⟩, .string ⟨#[97]⟩]) = some kl2 := by kernel_rfl
theorem road_law : WideMaps.KeyLaw Try.prog 74 := deep_law_laid (P := Try.prog) (by kernel_rfl) (m := 2) (by omega) (by decide +kernel) (by kernel_rfl) (by kernel_rfl)
theorem road_und : Try.prog.underlying 66 = some (.map 74 2) := by kernel_rfl
theorem i64_und : Try.prog.underlying 2 = some (.int .i64) := by kernel_rfl
theorem i64_zero (u : World) : (zeroValue 2).run Try.prog u = .ok (.int .i64 0) u := by simp [Try.zeroValue2]
abbrev Dm := DataW Unit
def D0 : Dm := .map []
noncomputable def D1 : Dm := .map [(kl1, .lit (.int .i64 5))]
noncomputable def D2 : Dm := .map [(kl1, .lit (.int .i64 5)), (kl2, .lit (.int .i64 3))]
noncomputable def E1 : Dm := .map [(kl1, .lit (.int .i64 2))]
theorem DE1 : D0.put kl1 (.lit (.int .i64 2)) = E1 := by kernel_rfl
theorem D2has : Maps.has D2 kl1 = true := by kernel_rfl
theorem road_K : Keyed Try.prog 74 := Keyed.of_law road_law
theorem kl11 : kl1.sameKey kl1 = true := by kernel_rfl
theorem kl12 : kl1.sameKey kl2 = false := by kernel_rfl
theorem D2at2 : D2.atKey kl2 (.lit (.int .i64 0)) = .lit (.int .i64 3) := by kernel_rfl
theorem D2at1 : D2.atKey kl1 (.lit (.int .i64 0)) = .lit (.int .i64 5) := by kernel_rfl
theorem D2_cases {kl : Lit} {y : Dm} (hat : ∀ zd, D2.atKey kl zd = y) : (kl = kl1 ∧ y = .lit (.int .i64 5)) ∨ (kl = kl2 ∧ y = .lit (.int .i64 3)) := by
  have h0 := hat .nil
  have h1 := hat (.lit (.bool true))
  unfold D2 DataW.atKey at h0 h1
  simp only [List.find?_cons, List.find?_nil] at h0 h1
  cases e1 : kl1.sameKey kl
  · cases e2 : kl2.sameKey kl
    · rw [e1, e2] at h0 h1
      simp at h0 h1
      rw [← h0] at h1
      cases h1
    · rw [e1, e2] at h0
      simp at h0
      exact .inr ⟨(WideAt.sameKey_eq e2).symm, h0.symm⟩
  · rw [e1] at h0
    simp at h0
    exact .inl ⟨(WideAt.sameKey_eq e1).symm, h0.symm⟩
theorem D01 : D0.put kl1 (.lit (.int .i64 5)) = D1 := by kernel_rfl
theorem D12 : D1.put kl2 (.lit (.int .i64 3)) = D2 := by kernel_rfl
theorem D0at : D0.atKey kl1 (.lit (.int .i64 0)) = .lit (.int .i64 0) := by kernel_rfl
theorem D1at : D1.atKey kl2 (.lit (.int .i64 0)) = .lit (.int .i64 0) := by kernel_rfl
set_option maxRecDepth 100000 in
set_option maxHeartbeats 4000000 in
theorem paired_any (g : Nat) (w : World) (h : Blk w g 64 two) : Calls Try.prog 38 #[.slice (some ⟨g, 0, none⟩) 2 2] w fun e w' => ∃ b, e = .returned (.map (some b)) ∧ w.heap.size ≤ b ∧ Below w.heap.size w w' ∧ w'.ownsMap Try.prog 74 (plainElem Try.prog 2) b 1 E1 := by
  have hg := h.lt
  have HB := Lib.hid h
  clear h
  have hmm := @run_makeMap Try.prog
  go_enter Try.func38, Try.ntmps38
  go_wp2_with fail
  have hown := World.ownsMap_made (H := Unit) w Try.prog 74 (plainElem Try.prog 2)
  go_loopw [5, 12] (fun _ i v => ∃ k : Nat, k ≤ 2 ∧ i = .int .i64 k ∧ Hid (Below w.heap.size w v) ∧ Hid (v.ownsMap Try.prog 74 (plainElem Try.prog 2) w.heap.size k (if k = 0 then D0 else if k = 1 then D1 else D2))) (fun _ i _ => 2 - (intOf i).toNat)
  case atStart => exact ⟨0, by omega, rfl, (Below.refl _ _).alloc (Nat.le_refl _) _, hown⟩
  case round =>
    obtain ⟨k, hk, rfl, hb, ho⟩ := hrel
    have HW := Lib.hid (HB.out.below hb.out hg)
    have c := fun i => HW.out.cell i
    have c0 := c 0
    have c1 := c 1
    have c2 := c 2
    have c3 := c 3
    have c4 := c 4
    have c5 := c 5
    have c6 := c 6
    have c7 := c 7
    clear c
    simp [two] at c0 c1 c2 c3 c4 c5 c6 c7
    rcases (show k = 0 ∨ k = 1 ∨ k = 2 by omega) with rfl | rfl | rfl
    · skip
      go_upto_region 5 with fail
      have HO := Lib.hid (show ((wr.alloc (.cells #[.string ⟨#[97]⟩, .string ⟨#[98]⟩, .string ⟨#[85, 83, 68]⟩, .int .i64 5] 64)).drew).ownsMap Try.prog 74 (plainElem Try.prog 2) w.heap.size 0 D0 from (ho.out.alloc _).drew)
      have HBl := Lib.hid (show Blk ((wr.alloc (.cells #[.string ⟨#[97]⟩, .string ⟨#[98]⟩, .string ⟨#[85, 83, 68]⟩, .int .i64 5] 64)).drew) wr.heap.size 64 #[.string ⟨#[97]⟩, .string ⟨#[98]⟩, .string ⟨#[85, 83, 68]⟩, .int .i64 5] from (Blk.new wr 64 _).drew)
      have HBe := Lib.hid (show Below w.heap.size w ((wr.alloc (.cells #[.string ⟨#[97]⟩, .string ⟨#[98]⟩, .string ⟨#[85, 83, 68]⟩, .int .i64 5] 64)).drew) from (hb.out.alloc hb.out.size _).drew)
      have hne : wr.heap.size ≠ w.heap.size := by have := ho.out.lt; omega
      obtain ⟨c, st, z1, hme, hl, hat, hwf, hg1, hsz, hl1, hst⟩ := entry_own road_law road_und i64_und i64_zero HO.out (by unfold maxLen; omega) key1
      rw [D0at] at hat
      cases hat
      obtain ⟨w3, hes, ho3, hg3, hs3⟩ := hst 5 (by decide)
      rw [D01] at ho3
      have HB1 := Lib.hid (HBl.out.grown hg1 (by simpa using hne))
      have HL := Lib.hid hl
      have HL1 := Lib.hid hl1
      have HM := Lib.hid hme
      have HE := Lib.hid hes
      have HO3 := Lib.hid ho3
      have HBe3 := Lib.hid (show Below w.heap.size w w3 from ⟨hg3.os.trans HBe.out.os, hg3.tape.trans HBe.out.tape, hg3.output.trans HBe.out.output, Nat.le_trans HBe.out.size hg3.size, fun i hi => (hg3.block i (Nat.lt_of_lt_of_le hi HBe.out.size) (by simp; omega)).trans (HBe.out.block i hi)⟩)
      have x0 : ((wr.alloc (.cells #[.string ⟨#[97]⟩, .string ⟨#[98]⟩, .string ⟨#[85, 83, 68]⟩, .int .i64 5] 64)).drew).cell? ⟨wr.heap.size, 0, none⟩ = some (.string ⟨#[97]⟩) := HBl.out.cell 0
      have x1 : ((wr.alloc (.cells #[.string ⟨#[97]⟩, .string ⟨#[98]⟩, .string ⟨#[85, 83, 68]⟩, .int .i64 5] 64)).drew).cell? ⟨wr.heap.size, 1, none⟩ = some (.string ⟨#[98]⟩) := HBl.out.cell 1
      have x2 : ((wr.alloc (.cells #[.string ⟨#[97]⟩, .string ⟨#[98]⟩, .string ⟨#[85, 83, 68]⟩, .int .i64 5] 64)).drew).cell? ⟨wr.heap.size, 2, none⟩ = some (.string ⟨#[85, 83, 68]⟩) := HBl.out.cell 2
      have x3 : ((wr.alloc (.cells #[.string ⟨#[97]⟩, .string ⟨#[98]⟩, .string ⟨#[85, 83, 68]⟩, .int .i64 5] 64)).drew).cell? ⟨wr.heap.size, 3, none⟩ = some (.int .i64 5) := HBl.out.cell 3
      have y0 : z1.cell? ⟨wr.heap.size, 0, none⟩ = some (.string ⟨#[97]⟩) := HB1.out.cell 0
      have y1 : z1.cell? ⟨wr.heap.size, 1, none⟩ = some (.string ⟨#[98]⟩) := HB1.out.cell 1
      have y2 : z1.cell? ⟨wr.heap.size, 2, none⟩ = some (.string ⟨#[85, 83, 68]⟩) := HB1.out.cell 2
      have y3 : z1.cell? ⟨wr.heap.size, 3, none⟩ = some (.int .i64 5) := HB1.out.cell 3
      clear hst hl hl1 hme hes ho3 hg3 hg1 hb ho hne c0 c1 c2 c3 c4 c5 c6 c7 HW
      generalize hHe : wr.heap.size = H at *
      have HH := Lib.hid hHe
      clear hHe
      have hw5 : IntKind.i64.wrap 5 = 5 := by decide
      refine region_Z (z := 14) (S := fun v => v.cell? ⟨H, 0, none⟩ = some (.string ⟨#[97]⟩) ∧ v.cell? ⟨H, 1, none⟩ = some (.string ⟨#[98]⟩) ∧ v.cell? ⟨H, 2, none⟩ = some (.string ⟨#[85, 83, 68]⟩) ∧ v.cell? ⟨H, 3, none⟩ = some (.int .i64 5) ∧ (Instr.lookup 66 (.map (some w.heap.size)) (.agg #[.string ⟨#[85, 83, 68]⟩, .string ⟨#[97]⟩, .string ⟨#[98]⟩]) false).run Try.prog v = .ok (.int .i64 0) v) (by kernel_rfl) ?_
      have hS0 := Lib.hid (show (fun v => v.cell? ⟨H, 0, none⟩ = some (.string ⟨#[97]⟩) ∧ v.cell? ⟨H, 1, none⟩ = some (.string ⟨#[98]⟩) ∧ v.cell? ⟨H, 2, none⟩ = some (.string ⟨#[85, 83, 68]⟩) ∧ v.cell? ⟨H, 3, none⟩ = some (.int .i64 5) ∧ (Instr.lookup 66 (.map (some w.heap.size)) (.agg #[.string ⟨#[85, 83, 68]⟩, .string ⟨#[97]⟩, .string ⟨#[98]⟩]) false).run Try.prog v = .ok (.int .i64 0) v) ((wr.alloc (.cells #[.string ⟨#[97]⟩, .string ⟨#[98]⟩, .string ⟨#[85, 83, 68]⟩, .int .i64 5] 64))).drew from ⟨x0, x1, x2, x3, HL.out⟩)
      show AnyZ _ _ _ _ _ _ 15 (List.replicate 15 false).toArray _ _
      first
        | refine AnyZ.takeD (i := 0) (some 16) (v := ?_) rfl (by rfl) (by kernel_rfl) (by kernel_rfl) (by kernel_rfl) (by kernel_rfl) (by kernel_rfl) (fun _ _ _ h => h) (by rfl) (fun v hv => ?_) hS0.out ?_
          rotate_left
          · obtain ⟨s0, s1, s2, s3, s4⟩ := hv
            go_simp
            try with_reducible rfl
        | refine AnyZ.skipD (i := 0) (some 16) rfl (by rfl) (by kernel_rfl) (by kernel_rfl) (by kernel_rfl) (by kernel_rfl) (by kernel_rfl) (fun _ _ _ h => h) (by rfl) hS0.out ?_
      try simp only [Act.put, List.setIfInBounds_toArray, List.set_cons_zero, List.set_cons_succ]
      first
        | refine AnyZ.takeD (i := 1) (some 17) (v := ?_) rfl (by rfl) (by kernel_rfl) (by kernel_rfl) (by kernel_rfl) (by kernel_rfl) (by kernel_rfl) (fun _ _ _ h => h) (by rfl) (fun v hv => ?_) hS0.out ?_
          rotate_left
          · obtain ⟨s0, s1, s2, s3, s4⟩ := hv
            go_simp
            try with_reducible rfl
        | refine AnyZ.skipD (i := 1) (some 17) rfl (by rfl) (by kernel_rfl) (by kernel_rfl) (by kernel_rfl) (by kernel_rfl) (by kernel_rfl) (fun _ _ _ h => h) (by rfl) hS0.out ?_
      try simp only [Act.put, List.setIfInBounds_toArray, List.set_cons_zero, List.set_cons_succ]
      first
        | refine AnyZ.takeD (i := 2) (some 18) (v := ?_) rfl (by rfl) (by kernel_rfl) (by kernel_rfl) (by kernel_rfl) (by kernel_rfl) (by kernel_rfl) (fun _ _ _ h => h) (by rfl) (fun v hv => ?_) hS0.out ?_
          rotate_left
          · obtain ⟨s0, s1, s2, s3, s4⟩ := hv
            go_simp
            try with_reducible rfl
        | refine AnyZ.skipD (i := 2) (some 18) rfl (by rfl) (by kernel_rfl) (by kernel_rfl) (by kernel_rfl) (by kernel_rfl) (by kernel_rfl) (fun _ _ _ h => h) (by rfl) hS0.out ?_
      try simp only [Act.put, List.setIfInBounds_toArray, List.set_cons_zero, List.set_cons_succ]
      first
        | refine AnyZ.takeD (i := 3) (some 19) (v := ?_) rfl (by rfl) (by kernel_rfl) (by kernel_rfl) (by kernel_rfl) (by kernel_rfl) (by kernel_rfl) (fun _ _ _ h => h) (by rfl) (fun v hv => ?_) hS0.out ?_
          rotate_left
          · obtain ⟨s0, s1, s2, s3, s4⟩ := hv
            go_simp
            try with_reducible rfl
        | refine AnyZ.skipD (i := 3) (some 19) rfl (by rfl) (by kernel_rfl) (by kernel_rfl) (by kernel_rfl) (by kernel_rfl) (by kernel_rfl) (fun _ _ _ h => h) (by rfl) hS0.out ?_
      try simp only [Act.put, List.setIfInBounds_toArray, List.set_cons_zero, List.set_cons_succ]
      first
        | refine AnyZ.takeD (i := 4) (some 20) (v := ?_) rfl (by rfl) (by kernel_rfl) (by kernel_rfl) (by kernel_rfl) (by kernel_rfl) (by kernel_rfl) (fun _ _ _ h => h) (by rfl) (fun v hv => ?_) hS0.out ?_
          rotate_left
          · obtain ⟨s0, s1, s2, s3, s4⟩ := hv
            go_simp
            try with_reducible rfl
        | refine AnyZ.skipD (i := 4) (some 20) rfl (by rfl) (by kernel_rfl) (by kernel_rfl) (by kernel_rfl) (by kernel_rfl) (by kernel_rfl) (fun _ _ _ h => h) (by rfl) hS0.out ?_
      try simp only [Act.put, List.setIfInBounds_toArray, List.set_cons_zero, List.set_cons_succ]
      first
        | refine AnyZ.takeD (i := 5) (some 21) (v := ?_) rfl (by rfl) (by kernel_rfl) (by kernel_rfl) (by kernel_rfl) (by kernel_rfl) (by kernel_rfl) (fun _ _ _ h => h) (by rfl) (fun v hv => ?_) hS0.out ?_
          rotate_left
          · obtain ⟨s0, s1, s2, s3, s4⟩ := hv
            go_simp
            try with_reducible rfl
        | refine AnyZ.skipD (i := 5) (some 21) rfl (by rfl) (by kernel_rfl) (by kernel_rfl) (by kernel_rfl) (by kernel_rfl) (by kernel_rfl) (fun _ _ _ h => h) (by rfl) hS0.out ?_
      try simp only [Act.put, List.setIfInBounds_toArray, List.set_cons_zero, List.set_cons_succ]
      first
        | refine AnyZ.takeD (i := 6) (some 22) (v := ?_) rfl (by rfl) (by kernel_rfl) (by kernel_rfl) (by kernel_rfl) (by kernel_rfl) (by kernel_rfl) (fun _ _ _ h => h) (by rfl) (fun v hv => ?_) hS0.out ?_
          rotate_left
          · obtain ⟨s0, s1, s2, s3, s4⟩ := hv
            go_simp
            try with_reducible rfl
        | refine AnyZ.skipD (i := 6) (some 22) rfl (by rfl) (by kernel_rfl) (by kernel_rfl) (by kernel_rfl) (by kernel_rfl) (by kernel_rfl) (fun _ _ _ h => h) (by rfl) hS0.out ?_
      try simp only [Act.put, List.setIfInBounds_toArray, List.set_cons_zero, List.set_cons_succ]
      first
        | refine AnyZ.takeD (i := 7) (some 23) (v := ?_) rfl (by rfl) (by kernel_rfl) (by kernel_rfl) (by kernel_rfl) (by kernel_rfl) (by kernel_rfl) (fun _ _ _ h => h) (by rfl) (fun v hv => ?_) hS0.out ?_
          rotate_left
          · obtain ⟨s0, s1, s2, s3, s4⟩ := hv
            go_simp
            try with_reducible rfl
        | refine AnyZ.skipD (i := 7) (some 23) rfl (by rfl) (by kernel_rfl) (by kernel_rfl) (by kernel_rfl) (by kernel_rfl) (by kernel_rfl) (fun _ _ _ h => h) (by rfl) hS0.out ?_
      try simp only [Act.put, List.setIfInBounds_toArray, List.set_cons_zero, List.set_cons_succ]
      first
        | refine AnyZ.takeD (i := 8) (some 24) (v := ?_) rfl (by rfl) (by kernel_rfl) (by kernel_rfl) (by kernel_rfl) (by kernel_rfl) (by kernel_rfl) (fun _ _ _ h => h) (by rfl) (fun v hv => ?_) hS0.out ?_
          rotate_left
          · obtain ⟨s0, s1, s2, s3, s4⟩ := hv
            go_simp
            try with_reducible rfl
        | refine AnyZ.skipD (i := 8) (some 24) rfl (by rfl) (by kernel_rfl) (by kernel_rfl) (by kernel_rfl) (by kernel_rfl) (by kernel_rfl) (fun _ _ _ h => h) (by rfl) hS0.out ?_
      try simp only [Act.put, List.setIfInBounds_toArray, List.set_cons_zero, List.set_cons_succ]
      first
        | refine AnyZ.takeD (i := 9) (some 25) (v := ?_) rfl (by rfl) (by kernel_rfl) (by kernel_rfl) (by kernel_rfl) (by kernel_rfl) (by kernel_rfl) (fun _ _ _ h => h) (by rfl) (fun v hv => ?_) hS0.out ?_
          rotate_left
          · obtain ⟨s0, s1, s2, s3, s4⟩ := hv
            go_simp
            try with_reducible rfl
        | refine AnyZ.skipD (i := 9) (some 25) rfl (by rfl) (by kernel_rfl) (by kernel_rfl) (by kernel_rfl) (by kernel_rfl) (by kernel_rfl) (fun _ _ _ h => h) (by rfl) hS0.out ?_
      try simp only [Act.put, List.setIfInBounds_toArray, List.set_cons_zero, List.set_cons_succ]
      first
        | refine AnyZ.takeD (i := 10) (some 26) (v := ?_) rfl (by rfl) (by kernel_rfl) (by kernel_rfl) (by kernel_rfl) (by kernel_rfl) (by kernel_rfl) (fun _ _ _ h => h) (by rfl) (fun v hv => ?_) hS0.out ?_
          rotate_left
          · obtain ⟨s0, s1, s2, s3, s4⟩ := hv
            go_simp
            try with_reducible rfl
        | refine AnyZ.skipD (i := 10) (some 26) rfl (by rfl) (by kernel_rfl) (by kernel_rfl) (by kernel_rfl) (by kernel_rfl) (by kernel_rfl) (fun _ _ _ h => h) (by rfl) hS0.out ?_
      try simp only [Act.put, List.setIfInBounds_toArray, List.set_cons_zero, List.set_cons_succ]
      first
        | refine AnyZ.takeD (i := 11) (some 27) (v := ?_) rfl (by rfl) (by kernel_rfl) (by kernel_rfl) (by kernel_rfl) (by kernel_rfl) (by kernel_rfl) (fun _ _ _ h => h) (by rfl) (fun v hv => ?_) hS0.out ?_
          rotate_left
          · obtain ⟨s0, s1, s2, s3, s4⟩ := hv
            go_simp
            try with_reducible rfl
        | refine AnyZ.skipD (i := 11) (some 27) rfl (by rfl) (by kernel_rfl) (by kernel_rfl) (by kernel_rfl) (by kernel_rfl) (by kernel_rfl) (fun _ _ _ h => h) (by rfl) hS0.out ?_
      try simp only [Act.put, List.setIfInBounds_toArray, List.set_cons_zero, List.set_cons_succ]
      refine AnyZ.one (i := 12) (by kernel_rfl) rfl (by rfl) fun K12 hK12 => ?_
      have hm9 := HM.out
      go_simp
      have hS12 := Lib.hid (show (fun v => v.cell? ⟨H, 0, none⟩ = some (.string ⟨#[97]⟩) ∧ v.cell? ⟨H, 1, none⟩ = some (.string ⟨#[98]⟩) ∧ v.cell? ⟨H, 2, none⟩ = some (.string ⟨#[85, 83, 68]⟩) ∧ v.cell? ⟨H, 3, none⟩ = some (.int .i64 5) ∧ (Instr.lookup 66 (.map (some w.heap.size)) (.agg #[.string ⟨#[85, 83, 68]⟩, .string ⟨#[97]⟩, .string ⟨#[98]⟩]) false).run Try.prog v = .ok (.int .i64 0) v) z1 from ⟨y0, y1, y2, y3, HL1.out⟩)
      refine hK12.out _ _ (.inr hS12.out) fun _ => ?_
      try simp only [Act.put, List.setIfInBounds_toArray, List.set_cons_zero, List.set_cons_succ]
      first
        | refine AnyZ.takeD (i := 13) (some 29) (v := ?_) rfl (by rfl) (by kernel_rfl) (by kernel_rfl) (by kernel_rfl) (by kernel_rfl) (by kernel_rfl) (fun _ _ _ h => h) (by rfl) (fun v hv => ?_) hS12.out ?_
          rotate_left
          · obtain ⟨s0, s1, s2, s3, s4⟩ := hv
            go_simp
            try with_reducible rfl
        | refine AnyZ.skipD (i := 13) (some 29) rfl (by rfl) (by kernel_rfl) (by kernel_rfl) (by kernel_rfl) (by kernel_rfl) (by kernel_rfl) (fun _ _ _ h => h) (by rfl) hS12.out ?_
      try simp only [Act.put, List.setIfInBounds_toArray, List.set_cons_zero, List.set_cons_succ]
      refine AnyZ.one (i := 14) (by kernel_rfl) rfl (by rfl) fun K14 hK14 => ?_
      have he9 : (Instr.entryStore 66 (.map (some w.heap.size)) (.int .i64 (st : Int)) (.int .i64 5)).run Try.prog z1 = .ok () w3 := HE.out
      go_simp
      refine hK14.out _ _ (.inl rfl) fun _ => ?_
      try simp only [Act.put, List.setIfInBounds_toArray, List.set_cons_zero, List.set_cons_succ]
      refine AnyZ.done (by kernel_rfl) ?_ _
      go_wp2_with fail
      go_roundw
      case rel => exact ⟨1, by omega, by go_num, HBe3, HO3⟩
      case measure => simp [intOf]
    · skip
      go_upto_region 5 with fail
      have HO := Lib.hid (show ((wr.alloc (.cells #[.string ⟨#[98]⟩, .string ⟨#[97]⟩, .string ⟨#[85, 83, 68]⟩, .int .i64 3] 64)).drew).ownsMap Try.prog 74 (plainElem Try.prog 2) w.heap.size 1 D1 from (ho.out.alloc _).drew)
      have HBl := Lib.hid (show Blk ((wr.alloc (.cells #[.string ⟨#[98]⟩, .string ⟨#[97]⟩, .string ⟨#[85, 83, 68]⟩, .int .i64 3] 64)).drew) wr.heap.size 64 #[.string ⟨#[98]⟩, .string ⟨#[97]⟩, .string ⟨#[85, 83, 68]⟩, .int .i64 3] from (Blk.new wr 64 _).drew)
      have HBe := Lib.hid (show Below w.heap.size w ((wr.alloc (.cells #[.string ⟨#[98]⟩, .string ⟨#[97]⟩, .string ⟨#[85, 83, 68]⟩, .int .i64 3] 64)).drew) from (hb.out.alloc hb.out.size _).drew)
      have hne : wr.heap.size ≠ w.heap.size := by have := ho.out.lt; omega
      obtain ⟨c, st, z1, hme, hl, hat, hwf, hg1, hsz, hl1, hst⟩ := entry_own road_law road_und i64_und i64_zero HO.out (by unfold maxLen; omega) key2
      rw [D1at] at hat
      cases hat
      obtain ⟨w3, hes, ho3, hg3, hs3⟩ := hst 3 (by decide)
      rw [D12] at ho3
      have HB1 := Lib.hid (HBl.out.grown hg1 (by simpa using hne))
      have HL := Lib.hid hl
      have HL1 := Lib.hid hl1
      have HM := Lib.hid hme
      have HE := Lib.hid hes
      have HO3 := Lib.hid ho3
      have HBe3 := Lib.hid (show Below w.heap.size w w3 from ⟨hg3.os.trans HBe.out.os, hg3.tape.trans HBe.out.tape, hg3.output.trans HBe.out.output, Nat.le_trans HBe.out.size hg3.size, fun i hi => (hg3.block i (Nat.lt_of_lt_of_le hi HBe.out.size) (by simp; omega)).trans (HBe.out.block i hi)⟩)
      have x0 : ((wr.alloc (.cells #[.string ⟨#[98]⟩, .string ⟨#[97]⟩, .string ⟨#[85, 83, 68]⟩, .int .i64 3] 64)).drew).cell? ⟨wr.heap.size, 0, none⟩ = some (.string ⟨#[98]⟩) := HBl.out.cell 0
      have x1 : ((wr.alloc (.cells #[.string ⟨#[98]⟩, .string ⟨#[97]⟩, .string ⟨#[85, 83, 68]⟩, .int .i64 3] 64)).drew).cell? ⟨wr.heap.size, 1, none⟩ = some (.string ⟨#[97]⟩) := HBl.out.cell 1
      have x2 : ((wr.alloc (.cells #[.string ⟨#[98]⟩, .string ⟨#[97]⟩, .string ⟨#[85, 83, 68]⟩, .int .i64 3] 64)).drew).cell? ⟨wr.heap.size, 2, none⟩ = some (.string ⟨#[85, 83, 68]⟩) := HBl.out.cell 2
      have x3 : ((wr.alloc (.cells #[.string ⟨#[98]⟩, .string ⟨#[97]⟩, .string ⟨#[85, 83, 68]⟩, .int .i64 3] 64)).drew).cell? ⟨wr.heap.size, 3, none⟩ = some (.int .i64 3) := HBl.out.cell 3
      have y0 : z1.cell? ⟨wr.heap.size, 0, none⟩ = some (.string ⟨#[98]⟩) := HB1.out.cell 0
      have y1 : z1.cell? ⟨wr.heap.size, 1, none⟩ = some (.string ⟨#[97]⟩) := HB1.out.cell 1
      have y2 : z1.cell? ⟨wr.heap.size, 2, none⟩ = some (.string ⟨#[85, 83, 68]⟩) := HB1.out.cell 2
      have y3 : z1.cell? ⟨wr.heap.size, 3, none⟩ = some (.int .i64 3) := HB1.out.cell 3
      clear hst hl hl1 hme hes ho3 hg3 hg1 hb ho hne c0 c1 c2 c3 c4 c5 c6 c7 HW
      generalize hHe : wr.heap.size = H at *
      have HH := Lib.hid hHe
      clear hHe
      have hw5 : IntKind.i64.wrap 3 = 3 := by decide
      refine region_Z (z := 14) (S := fun v => v.cell? ⟨H, 0, none⟩ = some (.string ⟨#[98]⟩) ∧ v.cell? ⟨H, 1, none⟩ = some (.string ⟨#[97]⟩) ∧ v.cell? ⟨H, 2, none⟩ = some (.string ⟨#[85, 83, 68]⟩) ∧ v.cell? ⟨H, 3, none⟩ = some (.int .i64 3) ∧ (Instr.lookup 66 (.map (some w.heap.size)) (.agg #[.string ⟨#[85, 83, 68]⟩, .string ⟨#[98]⟩, .string ⟨#[97]⟩]) false).run Try.prog v = .ok (.int .i64 0) v) (by kernel_rfl) ?_
      have hS0 := Lib.hid (show (fun v => v.cell? ⟨H, 0, none⟩ = some (.string ⟨#[98]⟩) ∧ v.cell? ⟨H, 1, none⟩ = some (.string ⟨#[97]⟩) ∧ v.cell? ⟨H, 2, none⟩ = some (.string ⟨#[85, 83, 68]⟩) ∧ v.cell? ⟨H, 3, none⟩ = some (.int .i64 3) ∧ (Instr.lookup 66 (.map (some w.heap.size)) (.agg #[.string ⟨#[85, 83, 68]⟩, .string ⟨#[98]⟩, .string ⟨#[97]⟩]) false).run Try.prog v = .ok (.int .i64 0) v) ((wr.alloc (.cells #[.string ⟨#[98]⟩, .string ⟨#[97]⟩, .string ⟨#[85, 83, 68]⟩, .int .i64 3] 64))).drew from ⟨x0, x1, x2, x3, HL.out⟩)
      show AnyZ _ _ _ _ _ _ 15 (List.replicate 15 false).toArray _ _
      first
        | refine AnyZ.takeD (i := 0) (some 16) (v := ?_) rfl (by rfl) (by kernel_rfl) (by kernel_rfl) (by kernel_rfl) (by kernel_rfl) (by kernel_rfl) (fun _ _ _ h => h) (by rfl) (fun v hv => ?_) hS0.out ?_
          rotate_left
          · obtain ⟨s0, s1, s2, s3, s4⟩ := hv
            go_simp
            try with_reducible rfl
        | refine AnyZ.skipD (i := 0) (some 16) rfl (by rfl) (by kernel_rfl) (by kernel_rfl) (by kernel_rfl) (by kernel_rfl) (by kernel_rfl) (fun _ _ _ h => h) (by rfl) hS0.out ?_
      try simp only [Act.put, List.setIfInBounds_toArray, List.set_cons_zero, List.set_cons_succ]
      first
        | refine AnyZ.takeD (i := 1) (some 17) (v := ?_) rfl (by rfl) (by kernel_rfl) (by kernel_rfl) (by kernel_rfl) (by kernel_rfl) (by kernel_rfl) (fun _ _ _ h => h) (by rfl) (fun v hv => ?_) hS0.out ?_
          rotate_left
          · obtain ⟨s0, s1, s2, s3, s4⟩ := hv
            go_simp
            try with_reducible rfl
        | refine AnyZ.skipD (i := 1) (some 17) rfl (by rfl) (by kernel_rfl) (by kernel_rfl) (by kernel_rfl) (by kernel_rfl) (by kernel_rfl) (fun _ _ _ h => h) (by rfl) hS0.out ?_
      try simp only [Act.put, List.setIfInBounds_toArray, List.set_cons_zero, List.set_cons_succ]
      first
        | refine AnyZ.takeD (i := 2) (some 18) (v := ?_) rfl (by rfl) (by kernel_rfl) (by kernel_rfl) (by kernel_rfl) (by kernel_rfl) (by kernel_rfl) (fun _ _ _ h => h) (by rfl) (fun v hv => ?_) hS0.out ?_
          rotate_left
          · obtain ⟨s0, s1, s2, s3, s4⟩ := hv
            go_simp
            try with_reducible rfl
        | refine AnyZ.skipD (i := 2) (some 18) rfl (by rfl) (by kernel_rfl) (by kernel_rfl) (by kernel_rfl) (by kernel_rfl) (by kernel_rfl) (fun _ _ _ h => h) (by rfl) hS0.out ?_
      try simp only [Act.put, List.setIfInBounds_toArray, List.set_cons_zero, List.set_cons_succ]
      first
        | refine AnyZ.takeD (i := 3) (some 19) (v := ?_) rfl (by rfl) (by kernel_rfl) (by kernel_rfl) (by kernel_rfl) (by kernel_rfl) (by kernel_rfl) (fun _ _ _ h => h) (by rfl) (fun v hv => ?_) hS0.out ?_
          rotate_left
          · obtain ⟨s0, s1, s2, s3, s4⟩ := hv
            go_simp
            try with_reducible rfl
        | refine AnyZ.skipD (i := 3) (some 19) rfl (by rfl) (by kernel_rfl) (by kernel_rfl) (by kernel_rfl) (by kernel_rfl) (by kernel_rfl) (fun _ _ _ h => h) (by rfl) hS0.out ?_
      try simp only [Act.put, List.setIfInBounds_toArray, List.set_cons_zero, List.set_cons_succ]
      first
        | refine AnyZ.takeD (i := 4) (some 20) (v := ?_) rfl (by rfl) (by kernel_rfl) (by kernel_rfl) (by kernel_rfl) (by kernel_rfl) (by kernel_rfl) (fun _ _ _ h => h) (by rfl) (fun v hv => ?_) hS0.out ?_
          rotate_left
          · obtain ⟨s0, s1, s2, s3, s4⟩ := hv
            go_simp
            try with_reducible rfl
        | refine AnyZ.skipD (i := 4) (some 20) rfl (by rfl) (by kernel_rfl) (by kernel_rfl) (by kernel_rfl) (by kernel_rfl) (by kernel_rfl) (fun _ _ _ h => h) (by rfl) hS0.out ?_
      try simp only [Act.put, List.setIfInBounds_toArray, List.set_cons_zero, List.set_cons_succ]
      first
        | refine AnyZ.takeD (i := 5) (some 21) (v := ?_) rfl (by rfl) (by kernel_rfl) (by kernel_rfl) (by kernel_rfl) (by kernel_rfl) (by kernel_rfl) (fun _ _ _ h => h) (by rfl) (fun v hv => ?_) hS0.out ?_
          rotate_left
          · obtain ⟨s0, s1, s2, s3, s4⟩ := hv
            go_simp
            try with_reducible rfl
        | refine AnyZ.skipD (i := 5) (some 21) rfl (by rfl) (by kernel_rfl) (by kernel_rfl) (by kernel_rfl) (by kernel_rfl) (by kernel_rfl) (fun _ _ _ h => h) (by rfl) hS0.out ?_
      try simp only [Act.put, List.setIfInBounds_toArray, List.set_cons_zero, List.set_cons_succ]
      first
        | refine AnyZ.takeD (i := 6) (some 22) (v := ?_) rfl (by rfl) (by kernel_rfl) (by kernel_rfl) (by kernel_rfl) (by kernel_rfl) (by kernel_rfl) (fun _ _ _ h => h) (by rfl) (fun v hv => ?_) hS0.out ?_
          rotate_left
          · obtain ⟨s0, s1, s2, s3, s4⟩ := hv
            go_simp
            try with_reducible rfl
        | refine AnyZ.skipD (i := 6) (some 22) rfl (by rfl) (by kernel_rfl) (by kernel_rfl) (by kernel_rfl) (by kernel_rfl) (by kernel_rfl) (fun _ _ _ h => h) (by rfl) hS0.out ?_
      try simp only [Act.put, List.setIfInBounds_toArray, List.set_cons_zero, List.set_cons_succ]
      first
        | refine AnyZ.takeD (i := 7) (some 23) (v := ?_) rfl (by rfl) (by kernel_rfl) (by kernel_rfl) (by kernel_rfl) (by kernel_rfl) (by kernel_rfl) (fun _ _ _ h => h) (by rfl) (fun v hv => ?_) hS0.out ?_
          rotate_left
          · obtain ⟨s0, s1, s2, s3, s4⟩ := hv
            go_simp
            try with_reducible rfl
        | refine AnyZ.skipD (i := 7) (some 23) rfl (by rfl) (by kernel_rfl) (by kernel_rfl) (by kernel_rfl) (by kernel_rfl) (by kernel_rfl) (fun _ _ _ h => h) (by rfl) hS0.out ?_
      try simp only [Act.put, List.setIfInBounds_toArray, List.set_cons_zero, List.set_cons_succ]
      first
        | refine AnyZ.takeD (i := 8) (some 24) (v := ?_) rfl (by rfl) (by kernel_rfl) (by kernel_rfl) (by kernel_rfl) (by kernel_rfl) (by kernel_rfl) (fun _ _ _ h => h) (by rfl) (fun v hv => ?_) hS0.out ?_
          rotate_left
          · obtain ⟨s0, s1, s2, s3, s4⟩ := hv
            go_simp
            try with_reducible rfl
        | refine AnyZ.skipD (i := 8) (some 24) rfl (by rfl) (by kernel_rfl) (by kernel_rfl) (by kernel_rfl) (by kernel_rfl) (by kernel_rfl) (fun _ _ _ h => h) (by rfl) hS0.out ?_
      try simp only [Act.put, List.setIfInBounds_toArray, List.set_cons_zero, List.set_cons_succ]
      first
        | refine AnyZ.takeD (i := 9) (some 25) (v := ?_) rfl (by rfl) (by kernel_rfl) (by kernel_rfl) (by kernel_rfl) (by kernel_rfl) (by kernel_rfl) (fun _ _ _ h => h) (by rfl) (fun v hv => ?_) hS0.out ?_
          rotate_left
          · obtain ⟨s0, s1, s2, s3, s4⟩ := hv
            go_simp
            try with_reducible rfl
        | refine AnyZ.skipD (i := 9) (some 25) rfl (by rfl) (by kernel_rfl) (by kernel_rfl) (by kernel_rfl) (by kernel_rfl) (by kernel_rfl) (fun _ _ _ h => h) (by rfl) hS0.out ?_
      try simp only [Act.put, List.setIfInBounds_toArray, List.set_cons_zero, List.set_cons_succ]
      first
        | refine AnyZ.takeD (i := 10) (some 26) (v := ?_) rfl (by rfl) (by kernel_rfl) (by kernel_rfl) (by kernel_rfl) (by kernel_rfl) (by kernel_rfl) (fun _ _ _ h => h) (by rfl) (fun v hv => ?_) hS0.out ?_
          rotate_left
          · obtain ⟨s0, s1, s2, s3, s4⟩ := hv
            go_simp
            try with_reducible rfl
        | refine AnyZ.skipD (i := 10) (some 26) rfl (by rfl) (by kernel_rfl) (by kernel_rfl) (by kernel_rfl) (by kernel_rfl) (by kernel_rfl) (fun _ _ _ h => h) (by rfl) hS0.out ?_
      try simp only [Act.put, List.setIfInBounds_toArray, List.set_cons_zero, List.set_cons_succ]
      first
        | refine AnyZ.takeD (i := 11) (some 27) (v := ?_) rfl (by rfl) (by kernel_rfl) (by kernel_rfl) (by kernel_rfl) (by kernel_rfl) (by kernel_rfl) (fun _ _ _ h => h) (by rfl) (fun v hv => ?_) hS0.out ?_
          rotate_left
          · obtain ⟨s0, s1, s2, s3, s4⟩ := hv
            go_simp
            try with_reducible rfl
        | refine AnyZ.skipD (i := 11) (some 27) rfl (by rfl) (by kernel_rfl) (by kernel_rfl) (by kernel_rfl) (by kernel_rfl) (by kernel_rfl) (fun _ _ _ h => h) (by rfl) hS0.out ?_
      try simp only [Act.put, List.setIfInBounds_toArray, List.set_cons_zero, List.set_cons_succ]
      refine AnyZ.one (i := 12) (by kernel_rfl) rfl (by rfl) fun K12 hK12 => ?_
      have hm9 := HM.out
      go_simp
      have hS12 := Lib.hid (show (fun v => v.cell? ⟨H, 0, none⟩ = some (.string ⟨#[98]⟩) ∧ v.cell? ⟨H, 1, none⟩ = some (.string ⟨#[97]⟩) ∧ v.cell? ⟨H, 2, none⟩ = some (.string ⟨#[85, 83, 68]⟩) ∧ v.cell? ⟨H, 3, none⟩ = some (.int .i64 3) ∧ (Instr.lookup 66 (.map (some w.heap.size)) (.agg #[.string ⟨#[85, 83, 68]⟩, .string ⟨#[98]⟩, .string ⟨#[97]⟩]) false).run Try.prog v = .ok (.int .i64 0) v) z1 from ⟨y0, y1, y2, y3, HL1.out⟩)
      refine hK12.out _ _ (.inr hS12.out) fun _ => ?_
      try simp only [Act.put, List.setIfInBounds_toArray, List.set_cons_zero, List.set_cons_succ]
      first
        | refine AnyZ.takeD (i := 13) (some 29) (v := ?_) rfl (by rfl) (by kernel_rfl) (by kernel_rfl) (by kernel_rfl) (by kernel_rfl) (by kernel_rfl) (fun _ _ _ h => h) (by rfl) (fun v hv => ?_) hS12.out ?_
          rotate_left
          · obtain ⟨s0, s1, s2, s3, s4⟩ := hv
            go_simp
            try with_reducible rfl
        | refine AnyZ.skipD (i := 13) (some 29) rfl (by rfl) (by kernel_rfl) (by kernel_rfl) (by kernel_rfl) (by kernel_rfl) (by kernel_rfl) (fun _ _ _ h => h) (by rfl) hS12.out ?_
      try simp only [Act.put, List.setIfInBounds_toArray, List.set_cons_zero, List.set_cons_succ]
      refine AnyZ.one (i := 14) (by kernel_rfl) rfl (by rfl) fun K14 hK14 => ?_
      have he9 : (Instr.entryStore 66 (.map (some w.heap.size)) (.int .i64 (st : Int)) (.int .i64 3)).run Try.prog z1 = .ok () w3 := HE.out
      go_simp
      refine hK14.out _ _ (.inl rfl) fun _ => ?_
      try simp only [Act.put, List.setIfInBounds_toArray, List.set_cons_zero, List.set_cons_succ]
      refine AnyZ.done (by kernel_rfl) ?_ _
      go_wp2_with fail
      go_roundw
      case rel => exact ⟨2, by omega, by go_num, HBe3, HO3⟩
      case measure => simp [intOf]
    · have ho2 : Hid (wr.ownsMap Try.prog 74 (plainElem Try.prog 2) w.heap.size 2 D2) := ho.out
      have HBb := Lib.hid hb.out
      have hown1 := World.ownsMap_made (H := Unit) wr Try.prog 74 (plainElem Try.prog 2)
      have e1 : (wr.alloc (.map #[] 0)).heap.size = wr.heap.size + 1 := by simp
      have hltb := ho2.out.lt
      have hszb := hb.out.size
      clear hb ho c0 c1 c2 c3 c4 c5 c6 c7 HW hown
      go_wp2_with (first
        | (at_range; refine wpList_range_own _ rfl _ 66 rfl 74 2 road_K road_und _ w.heap.size 2 D2 rfl (ho2.out.alloc _) ?_; intro w0 hrg0 hg0 hs0)
        | go_in)
      go_frame
      rw [e1] at hrg0 hs0 ⊢
      have HR0 := Lib.hid hrg0
      have HO0 := Lib.hid (hown1.kept hg0 (by simp))
      have HB0 := Lib.hid ((HBb.out.alloc hszb _).grown hg0 (by simp; omega) (fun j hj => by cases hj))
      clear hrg0 hown1 hg0
      generalize hB1 : wr.heap.size = B1 at *
      have HB1e := Lib.hid hB1
      clear hB1 e1
      go_loopw [8] (fun _ v => ∃ (left : Lit → Bool) (cnt : Nat), Hid (v.ranges Try.prog 74 (plainElem Try.prog 2) w.heap.size (B1 + 1) 2 D2 left cnt) ∧ Hid (left kl1 = true → v.ownsMap Try.prog 74 (plainElem Try.prog 2) B1 0 D0) ∧
          Hid (left kl1 = false → v.ownsMap Try.prog 74 (plainElem Try.prog 2) B1 1 E1) ∧ Hid (Below w.heap.size w v)) (fun _ v => v.rangeLeft w.heap.size (B1 + 1))
      case atStart => exact ⟨_, _, HR0.out, fun _ => HO0.out, fun h => (by rw [D2has] at h; cases h), HB0.out⟩
      case round =>
        obtain ⟨left, cnt, hrg, hy, hn, hbv⟩ := hrel
        clear HR0 HO0 HB0
        go_wp2_with (first
          | (at_next; refine wpList_next_ranges _ rfl _ rfl 74 road_K (plainElem Try.prog 2) (fun x : Value => x) (Value.int .i64) (fun key kl _ => ⟨key, rfl⟩) (fun v y hv => by obtain ⟨c, rfl, _⟩ := plainElem_int_inv i64_und hv; exact ⟨c, rfl⟩) w.heap.size (B1 + 1) 2 D2 _ _ rfl hrg.out ?_ ?_)
          | go_in)
        · intro hc0 hl0
          go_wp2
          go_ret
          exact ⟨_, rfl, by omega, hbv.out, hn.out (hl0 kl1)⟩
        · intro x c kl y ps w1 cnt1 hkx hlk hRv hat hrg1 hlt hg1 hs1 hen
          rcases D2_cases hat with ⟨rfl, hy5⟩ | ⟨rfl, hy5⟩
          · obtain rfl := road_law.inj hkx key1
            obtain ⟨c', ec, hc', _⟩ := plainElem_int_inv i64_und hRv
            cases ec
            cases hc'
            cases hy5
            have hlt1 : B1 < w1.heap.size := Nat.lt_of_lt_of_le (hy.out hlk).lt hg1.size
            have HY := Lib.hid (((hy.out hlk).kept hg1 (by simp)).alloc (.cells #[.string ⟨#[85, 83, 68]⟩, .string ⟨#[97]⟩, .string ⟨#[98]⟩] 74))
            have HRG := Lib.hid (hrg1.alloc (.cells #[.string ⟨#[85, 83, 68]⟩, .string ⟨#[97]⟩, .string ⟨#[98]⟩] 74))
            obtain ⟨c3, hl3, hat3, _⟩ := HRG.out.owns.lookup_int road_K road_und i64_und (i64_zero _) key2
            rw [D2at2] at hat3
            cases hat3
            go_wp2_with (first
              | (at_mapUpdate; go_loud (refine wpList_mapUpdate_own _ rfl _ _ _ 66 rfl 74 2 road_K road_und _ B1 _ _ rfl HY.out (by unfold maxLen; omega) _ _ _ rfl rfl key1 _ [] (plainElem_int i64_und (by decide)) ?_); intro w2 hout2 hg2; go_frame)
              | go_in)
            have hrg2 := HRG.out.kept hg2 (fun e => by have := Option.some.inj e; omega) (fun e => by have := Option.some.inj e; omega)
            rw [DE1] at hout2
            have hbel := ((hbv.out.grown hg1 hbv.out.size (fun j hj => by cases hj; omega)).alloc (Nat.le_trans hbv.out.size hg1.size) (.cells #[.string ⟨#[85, 83, 68]⟩, .string ⟨#[97]⟩, .string ⟨#[98]⟩] 74)).grown hg2 (Nat.le_trans hbv.out.size (Nat.le_trans hg1.size (by simp))) (fun j hj => by cases hj; omega)
            go_roundw
            case rel => exact ⟨_, _, _, _, _, _, _, _, _, _, _, _, _, _, _, _, _, _, _, _, _, _, _, ⟨_, cnt1, hrg2, fun h => (by rw [kl11] at h; simp at h), fun _ => hout2, hbel⟩, rfl⟩
            case measure => rw [hrg2.left_eq, hrg.out.left_eq]; exact hlt
          · obtain rfl := road_law.inj hkx key2
            obtain ⟨c', ec, hc', _⟩ := plainElem_int_inv i64_und hRv
            cases ec
            cases hc'
            cases hy5
            have HRG := Lib.hid (hrg1.alloc (.cells #[.string ⟨#[85, 83, 68]⟩, .string ⟨#[98]⟩, .string ⟨#[97]⟩] 74))
            obtain ⟨c3, hl3, hat3, _⟩ := HRG.out.owns.lookup_int road_K road_und i64_und (i64_zero _) key1
            rw [D2at1] at hat3
            cases hat3
            have HY := Lib.hid (fun h : left kl1 = true => ((hy.out h).kept hg1 (by simp)).alloc (.cells #[.string ⟨#[85, 83, 68]⟩, .string ⟨#[98]⟩, .string ⟨#[97]⟩] 74))
            have HN := Lib.hid (fun h : left kl1 = false => ((hn.out h).kept hg1 (by simp)).alloc (.cells #[.string ⟨#[85, 83, 68]⟩, .string ⟨#[98]⟩, .string ⟨#[97]⟩] 74))
            have hbel := (hbv.out.grown hg1 hbv.out.size (fun j hj => by cases hj; omega)).alloc (Nat.le_trans hbv.out.size hg1.size) (.cells #[.string ⟨#[85, 83, 68]⟩, .string ⟨#[98]⟩, .string ⟨#[97]⟩] 74)
            have HBL := Lib.hid hbel
            clear hbel
            go_wp2_with fail
            go_roundw
            case rel => exact ⟨_, _, _, _, _, _, _, _, _, _, _, _, _, _, _, _, _, _, _, _, _, _, _, ⟨_, cnt1, HRG.out, fun h => HY.out (by rw [kl12] at h; simpa using h), fun h => HN.out (by rw [kl12] at h; simpa using h), HBL.out⟩, rfl⟩
            case measure => rw [HRG.out.left_eq, hrg.out.left_eq]; exact hlt
end Go.Proofs.Ytlmnbdepklcfpaa
