/- SuretyMays' walk. Condition: the sizes of the bond's texts. -/
import Derived.Test.YtlmlepdmgopojaaAwake
import Derived.Test.YtlmlepdmgopojaaSinkB
namespace Go.Proofs.Ytlmlepdmgopojaa
open Go.RowKit
set_option linter.unusedVariables false
set_option linter.unusedSimpArgs false
/-- the law's memory, and its box with the bond -/
def Kb (w : World) (b : Bnd) (v : World) : Prop := Below w.heap.size w v ∧ Blk v w.heap.size 25 b.cells
section
variable {w v v' : World} {b : Bnd}
theorem Kb.step (h : Kb w b v) (hb : Below v.heap.size v v') : Kb w b v' := ⟨below_trans h.1 hb, h.2.below hb h.2.lt⟩
theorem Kb.drew (h : Kb w b v) : Kb w b v.drew := ⟨h.1.drew, h.2⟩
theorem Kb.new (w : World) (b : Bnd) : Kb w b (w.alloc (.cells b.cells 25)) := ⟨(Below.refl _ _).alloc (Nat.le_refl _) _, Blk.new w 25 _⟩
theorem Kb.mine {g : Nat} {s : Sur} (h : Kb w b v) (m : Mine v v' g s) : Kb w b v' := h.step m.frame
theorem Kb.seven (h : Kb w b v) : v.cell? ⟨w.heap.size, 0, none⟩ = some (.string b.num) ∧ v.cell? ⟨w.heap.size, 1, none⟩ = some (.string b.gua) ∧ v.cell? ⟨w.heap.size, 2, none⟩ = some (.string b.for_) ∧ v.cell? ⟨w.heap.size, 3, none⟩ = some (.string b.to_) ∧ v.cell? ⟨w.heap.size, 4, none⟩ = some (.string b.cur) ∧ v.cell? ⟨w.heap.size, 5, none⟩ = some (.int .i64 b.amt) ∧ v.cell? ⟨w.heap.size, 6, none⟩ = some (.int .i64 b.exp) :=
  ⟨h.2.cell 0, h.2.cell 1, h.2.cell 2, h.2.cell 3, h.2.cell 4, h.2.cell 5, h.2.cell 6⟩
end
theorem left0 {b : Bnd} (h : mayS b = true) : (sur0 b).left 0 = b.amt := by
  have := (mayS_all.1 h).2.2.2.2.2.2.2.2.1
  show max (b.amt - 0 - 0) 0 = b.amt
  omega
set_option maxRecDepth 100000 in
set_option maxHeartbeats 8000000 in
theorem maysLaw_any (b : Bnd) (hb : b.wf) (w : World) : Calls Try.prog 3 #[bndV b] w fun e w' => e = .returned (.bool true) ∧ Below w.heap.size w w' := by
  have K0 := Lib.hid (Kb.new w b)
  have RM := Lib.hid fun v => rmay_any b hb v
  have PM := Lib.hid fun v => may_any b hb v
  have NM := Lib.hid fun v => new_m b hb v
  unfold bndV at RM PM NM ⊢
  unfold Bnd.cells at RM PM NM ⊢
  go_enter Try.func3, Try.ntmps3
  go_wp2_with fail
  refine (awake_any _).mono ?_
  rintro e w1 ⟨rfl, hb1⟩
  have K1 := Lib.hid ((show Kb w b _ from K0.out).step hb1)
  obtain ⟨p0, p1, p2, p3, p4, p5, p6⟩ := K1.out.seven
  clear hb1 K0
  go_wp2_with fail
  refine (RM.out _).mono ?_
  rintro e w2 ⟨rfl, hb2⟩
  have K2 := Lib.hid (K1.out.step hb2)
  clear p0 p1 p2 p3 p4 p5 p6
  obtain ⟨p0, p1, p2, p3, p4, p5, p6⟩ := K2.out.seven
  clear hb2 K1
  go_wp2_with fail
  refine (NM.out _).mono ?_
  rintro e w3 (⟨hm, g, rfl, hmine⟩ | ⟨hm, rfl, hb3⟩)
  · have K3 := Lib.hid (K2.out.mine hmine)
    have M3 := Lib.hid hmine
    clear p0 p1 p2 p3 p4 p5 p6
    obtain ⟨p0, p1, p2, p3, p4, p5, p6⟩ := K3.out.seven
    have OK := Lib.hid (sur0_ok hm)
    have L0 := Lib.hid (left0 hm)
    rw [hm] at PM ⊢
    have K3d : Hid (Kb w b w3.drew) := K3.out.drew
    have M3d : Hid (Mine w2 w3.drew g (sur0 b)) := M3.out.below (Below.refl _ _).drew
    have K2x := Lib.hid K2.out
    clear hmine K2 hm
    go_wp2_with fail
    refine region_Z (z := 99) (S := fun v => v.cell? ⟨w.heap.size, 0, none⟩ = some (.string b.num) ∧ v.cell? ⟨w.heap.size, 1, none⟩ = some (.string b.gua) ∧ v.cell? ⟨w.heap.size, 2, none⟩ = some (.string b.for_) ∧ v.cell? ⟨w.heap.size, 3, none⟩ = some (.string b.to_) ∧ v.cell? ⟨w.heap.size, 4, none⟩ = some (.string b.cur) ∧ v.cell? ⟨w.heap.size, 5, none⟩ = some (.int .i64 b.amt) ∧ v.cell? ⟨w.heap.size, 6, none⟩ = some (.int .i64 b.exp)) (by kernel_rfl) ?_
    have hS0 := Lib.hid (show (fun v => v.cell? ⟨w.heap.size, 0, none⟩ = some (.string b.num) ∧ v.cell? ⟨w.heap.size, 1, none⟩ = some (.string b.gua) ∧ v.cell? ⟨w.heap.size, 2, none⟩ = some (.string b.for_) ∧ v.cell? ⟨w.heap.size, 3, none⟩ = some (.string b.to_) ∧ v.cell? ⟨w.heap.size, 4, none⟩ = some (.string b.cur) ∧ v.cell? ⟨w.heap.size, 5, none⟩ = some (.int .i64 b.amt) ∧ v.cell? ⟨w.heap.size, 6, none⟩ = some (.int .i64 b.exp)) (w3).drew from K3d.out.seven)
    show AnyZ _ _ _ _ _ _ 42 (List.replicate 42 false).toArray _ _
    first
      | refine AnyZ.takeD (i := 0) (some 15) (v := ?_) rfl (by rfl) (by kernel_rfl) (by kernel_rfl) (by kernel_rfl) (by kernel_rfl) (by kernel_rfl) (fun _ _ _ h => h) (by rfl) (fun v hv => ?_) hS0.out ?_
        rotate_left
        · obtain ⟨s0, s1, s2, s3, s4, s5, s6⟩ := hv
          go_simp
          try with_reducible rfl
      | refine AnyZ.skipD (i := 0) (some 15) rfl (by rfl) (by kernel_rfl) (by kernel_rfl) (by kernel_rfl) (by kernel_rfl) (by kernel_rfl) (fun _ _ _ h => h) (by rfl) hS0.out ?_
    try simp only [Act.put, List.setIfInBounds_toArray, List.set_cons_zero, List.set_cons_succ]
    first
      | refine AnyZ.takeD (i := 2) (some 17) (v := ?_) rfl (by rfl) (by kernel_rfl) (by kernel_rfl) (by kernel_rfl) (by kernel_rfl) (by kernel_rfl) (fun _ _ _ h => h) (by rfl) (fun v hv => ?_) hS0.out ?_
        rotate_left
        · obtain ⟨s0, s1, s2, s3, s4, s5, s6⟩ := hv
          go_simp
          try with_reducible rfl
      | refine AnyZ.skipD (i := 2) (some 17) rfl (by rfl) (by kernel_rfl) (by kernel_rfl) (by kernel_rfl) (by kernel_rfl) (by kernel_rfl) (fun _ _ _ h => h) (by rfl) hS0.out ?_
    try simp only [Act.put, List.setIfInBounds_toArray, List.set_cons_zero, List.set_cons_succ]
    refine AnyZ.one (i := 1) (by kernel_rfl) rfl (by rfl) fun K1 hK1 => ?_
    go_simp
    refine (PM.out _).mono ?_
    rintro e v10 ⟨rfl, hb10⟩
    have K10 := Lib.hid (K3d.out.step hb10)
    have M10 := Lib.hid (M3d.out.below hb10)
    clear hb10
    try go_wp2_with fail
    have hS1 := Lib.hid (show (fun v => v.cell? ⟨w.heap.size, 0, none⟩ = some (.string b.num) ∧ v.cell? ⟨w.heap.size, 1, none⟩ = some (.string b.gua) ∧ v.cell? ⟨w.heap.size, 2, none⟩ = some (.string b.for_) ∧ v.cell? ⟨w.heap.size, 3, none⟩ = some (.string b.to_) ∧ v.cell? ⟨w.heap.size, 4, none⟩ = some (.string b.cur) ∧ v.cell? ⟨w.heap.size, 5, none⟩ = some (.int .i64 b.amt) ∧ v.cell? ⟨w.heap.size, 6, none⟩ = some (.int .i64 b.exp)) v10 from K10.out.seven)
    refine hK1.out _ _ (.inr hS1.out) fun _ => ?_
    try simp only [Act.put, List.setIfInBounds_toArray, List.set_cons_zero, List.set_cons_succ]
    first
      | refine AnyZ.takeD (i := 3) (some 18) (v := ?_) rfl (by rfl) (by kernel_rfl) (by kernel_rfl) (by kernel_rfl) (by kernel_rfl) (by kernel_rfl) (fun _ _ _ h => h) (by rfl) (fun v hv => ?_) hS1.out ?_
        rotate_left
        · obtain ⟨s0, s1, s2, s3, s4, s5, s6⟩ := hv
          go_simp
          try with_reducible rfl
      | refine AnyZ.skipD (i := 3) (some 18) rfl (by rfl) (by kernel_rfl) (by kernel_rfl) (by kernel_rfl) (by kernel_rfl) (by kernel_rfl) (fun _ _ _ h => h) (by rfl) hS1.out ?_
    try simp only [Act.put, List.setIfInBounds_toArray, List.set_cons_zero, List.set_cons_succ]
    first
      | refine AnyZ.takeD (i := 4) (some 19) (v := ?_) rfl (by rfl) (by kernel_rfl) (by kernel_rfl) (by kernel_rfl) (by kernel_rfl) (by kernel_rfl) (fun _ _ _ h => h) (by rfl) (fun v hv => ?_) hS1.out ?_
        rotate_left
        · obtain ⟨s0, s1, s2, s3, s4, s5, s6⟩ := hv
          go_simp
          try with_reducible rfl
      | refine AnyZ.skipD (i := 4) (some 19) rfl (by rfl) (by kernel_rfl) (by kernel_rfl) (by kernel_rfl) (by kernel_rfl) (by kernel_rfl) (fun _ _ _ h => h) (by rfl) hS1.out ?_
    try simp only [Act.put, List.setIfInBounds_toArray, List.set_cons_zero, List.set_cons_succ]
    first
      | refine AnyZ.takeD (i := 5) (some 20) (v := ?_) rfl (by rfl) (by kernel_rfl) (by kernel_rfl) (by kernel_rfl) (by kernel_rfl) (by kernel_rfl) (fun _ _ _ h => h) (by rfl) (fun v hv => ?_) hS1.out ?_
        rotate_left
        · obtain ⟨s0, s1, s2, s3, s4, s5, s6⟩ := hv
          go_simp
          try with_reducible rfl
      | refine AnyZ.skipD (i := 5) (some 20) rfl (by rfl) (by kernel_rfl) (by kernel_rfl) (by kernel_rfl) (by kernel_rfl) (by kernel_rfl) (fun _ _ _ h => h) (by rfl) hS1.out ?_
    try simp only [Act.put, List.setIfInBounds_toArray, List.set_cons_zero, List.set_cons_succ]
    first
      | refine AnyZ.takeD (i := 6) (some 21) (v := ?_) rfl (by rfl) (by kernel_rfl) (by kernel_rfl) (by kernel_rfl) (by kernel_rfl) (by kernel_rfl) (fun _ _ _ h => h) (by rfl) (fun v hv => ?_) hS1.out ?_
        rotate_left
        · obtain ⟨s0, s1, s2, s3, s4, s5, s6⟩ := hv
          go_simp
          try with_reducible rfl
      | refine AnyZ.skipD (i := 6) (some 21) rfl (by rfl) (by kernel_rfl) (by kernel_rfl) (by kernel_rfl) (by kernel_rfl) (by kernel_rfl) (fun _ _ _ h => h) (by rfl) hS1.out ?_
    try simp only [Act.put, List.setIfInBounds_toArray, List.set_cons_zero, List.set_cons_succ]
    first
      | refine AnyZ.takeD (i := 7) (some 22) (v := ?_) rfl (by rfl) (by kernel_rfl) (by kernel_rfl) (by kernel_rfl) (by kernel_rfl) (by kernel_rfl) (fun _ _ _ h => h) (by rfl) (fun v hv => ?_) hS1.out ?_
        rotate_left
        · obtain ⟨s0, s1, s2, s3, s4, s5, s6⟩ := hv
          go_simp
          try with_reducible rfl
      | refine AnyZ.skipD (i := 7) (some 22) rfl (by rfl) (by kernel_rfl) (by kernel_rfl) (by kernel_rfl) (by kernel_rfl) (by kernel_rfl) (fun _ _ _ h => h) (by rfl) hS1.out ?_
    try simp only [Act.put, List.setIfInBounds_toArray, List.set_cons_zero, List.set_cons_succ]
    first
      | refine AnyZ.takeD (i := 8) (some 23) (v := ?_) rfl (by rfl) (by kernel_rfl) (by kernel_rfl) (by kernel_rfl) (by kernel_rfl) (by kernel_rfl) (fun _ _ _ h => h) (by rfl) (fun v hv => ?_) hS1.out ?_
        rotate_left
        · obtain ⟨s0, s1, s2, s3, s4, s5, s6⟩ := hv
          go_simp
          try with_reducible rfl
      | refine AnyZ.skipD (i := 8) (some 23) rfl (by rfl) (by kernel_rfl) (by kernel_rfl) (by kernel_rfl) (by kernel_rfl) (by kernel_rfl) (fun _ _ _ h => h) (by rfl) hS1.out ?_
    try simp only [Act.put, List.setIfInBounds_toArray, List.set_cons_zero, List.set_cons_succ]
    first
      | refine AnyZ.takeD (i := 9) (some 24) (v := ?_) rfl (by rfl) (by kernel_rfl) (by kernel_rfl) (by kernel_rfl) (by kernel_rfl) (by kernel_rfl) (fun _ _ _ h => h) (by rfl) (fun v hv => ?_) hS1.out ?_
        rotate_left
        · obtain ⟨s0, s1, s2, s3, s4, s5, s6⟩ := hv
          go_simp
          try with_reducible rfl
      | refine AnyZ.skipD (i := 9) (some 24) rfl (by rfl) (by kernel_rfl) (by kernel_rfl) (by kernel_rfl) (by kernel_rfl) (by kernel_rfl) (fun _ _ _ h => h) (by rfl) hS1.out ?_
    try simp only [Act.put, List.setIfInBounds_toArray, List.set_cons_zero, List.set_cons_succ]
    first
      | refine AnyZ.takeD (i := 10) (some 25) (v := ?_) rfl (by rfl) (by kernel_rfl) (by kernel_rfl) (by kernel_rfl) (by kernel_rfl) (by kernel_rfl) (fun _ _ _ h => h) (by rfl) (fun v hv => ?_) hS1.out ?_
        rotate_left
        · obtain ⟨s0, s1, s2, s3, s4, s5, s6⟩ := hv
          go_simp
          try with_reducible rfl
      | refine AnyZ.skipD (i := 10) (some 25) rfl (by rfl) (by kernel_rfl) (by kernel_rfl) (by kernel_rfl) (by kernel_rfl) (by kernel_rfl) (fun _ _ _ h => h) (by rfl) hS1.out ?_
    try simp only [Act.put, List.setIfInBounds_toArray, List.set_cons_zero, List.set_cons_succ]
    first
      | refine AnyZ.takeD (i := 11) (some 26) (v := ?_) rfl (by rfl) (by kernel_rfl) (by kernel_rfl) (by kernel_rfl) (by kernel_rfl) (by kernel_rfl) (fun _ _ _ h => h) (by rfl) (fun v hv => ?_) hS1.out ?_
        rotate_left
        · obtain ⟨s0, s1, s2, s3, s4, s5, s6⟩ := hv
          go_simp
          try with_reducible rfl
      | refine AnyZ.skipD (i := 11) (some 26) rfl (by rfl) (by kernel_rfl) (by kernel_rfl) (by kernel_rfl) (by kernel_rfl) (by kernel_rfl) (fun _ _ _ h => h) (by rfl) hS1.out ?_
    try simp only [Act.put, List.setIfInBounds_toArray, List.set_cons_zero, List.set_cons_succ]
    first
      | refine AnyZ.takeD (i := 12) (some 27) (v := ?_) rfl (by rfl) (by kernel_rfl) (by kernel_rfl) (by kernel_rfl) (by kernel_rfl) (by kernel_rfl) (fun _ _ _ h => h) (by rfl) (fun v hv => ?_) hS1.out ?_
        rotate_left
        · obtain ⟨s0, s1, s2, s3, s4, s5, s6⟩ := hv
          go_simp
          try with_reducible rfl
      | refine AnyZ.skipD (i := 12) (some 27) rfl (by rfl) (by kernel_rfl) (by kernel_rfl) (by kernel_rfl) (by kernel_rfl) (by kernel_rfl) (fun _ _ _ h => h) (by rfl) hS1.out ?_
    try simp only [Act.put, List.setIfInBounds_toArray, List.set_cons_zero, List.set_cons_succ]
    first
      | refine AnyZ.takeD (i := 13) (some 28) (v := ?_) rfl (by rfl) (by kernel_rfl) (by kernel_rfl) (by kernel_rfl) (by kernel_rfl) (by kernel_rfl) (fun _ _ _ h => h) (by rfl) (fun v hv => ?_) hS1.out ?_
        rotate_left
        · obtain ⟨s0, s1, s2, s3, s4, s5, s6⟩ := hv
          go_simp
          try with_reducible rfl
      | refine AnyZ.skipD (i := 13) (some 28) rfl (by rfl) (by kernel_rfl) (by kernel_rfl) (by kernel_rfl) (by kernel_rfl) (by kernel_rfl) (fun _ _ _ h => h) (by rfl) hS1.out ?_
    try simp only [Act.put, List.setIfInBounds_toArray, List.set_cons_zero, List.set_cons_succ]
    first
      | refine AnyZ.takeD (i := 14) (some 29) (v := ?_) rfl (by rfl) (by kernel_rfl) (by kernel_rfl) (by kernel_rfl) (by kernel_rfl) (by kernel_rfl) (fun _ _ _ h => h) (by rfl) (fun v hv => ?_) hS1.out ?_
        rotate_left
        · obtain ⟨s0, s1, s2, s3, s4, s5, s6⟩ := hv
          go_simp
          try with_reducible rfl
      | refine AnyZ.skipD (i := 14) (some 29) rfl (by rfl) (by kernel_rfl) (by kernel_rfl) (by kernel_rfl) (by kernel_rfl) (by kernel_rfl) (fun _ _ _ h => h) (by rfl) hS1.out ?_
    try simp only [Act.put, List.setIfInBounds_toArray, List.set_cons_zero, List.set_cons_succ]
    first
      | refine AnyZ.takeD (i := 15) (some 30) (v := ?_) rfl (by rfl) (by kernel_rfl) (by kernel_rfl) (by kernel_rfl) (by kernel_rfl) (by kernel_rfl) (fun _ _ _ h => h) (by rfl) (fun v hv => ?_) hS1.out ?_
        rotate_left
        · obtain ⟨s0, s1, s2, s3, s4, s5, s6⟩ := hv
          go_simp
          try with_reducible rfl
      | refine AnyZ.skipD (i := 15) (some 30) rfl (by rfl) (by kernel_rfl) (by kernel_rfl) (by kernel_rfl) (by kernel_rfl) (by kernel_rfl) (fun _ _ _ h => h) (by rfl) hS1.out ?_
    try simp only [Act.put, List.setIfInBounds_toArray, List.set_cons_zero, List.set_cons_succ]
    first
      | refine AnyZ.takeD (i := 16) (some 31) (v := ?_) rfl (by rfl) (by kernel_rfl) (by kernel_rfl) (by kernel_rfl) (by kernel_rfl) (by kernel_rfl) (fun _ _ _ h => h) (by rfl) (fun v hv => ?_) hS1.out ?_
        rotate_left
        · obtain ⟨s0, s1, s2, s3, s4, s5, s6⟩ := hv
          go_simp
          try with_reducible rfl
      | refine AnyZ.skipD (i := 16) (some 31) rfl (by rfl) (by kernel_rfl) (by kernel_rfl) (by kernel_rfl) (by kernel_rfl) (by kernel_rfl) (fun _ _ _ h => h) (by rfl) hS1.out ?_
    try simp only [Act.put, List.setIfInBounds_toArray, List.set_cons_zero, List.set_cons_succ]
    first
      | refine AnyZ.takeD (i := 17) (some 32) (v := ?_) rfl (by rfl) (by kernel_rfl) (by kernel_rfl) (by kernel_rfl) (by kernel_rfl) (by kernel_rfl) (fun _ _ _ h => h) (by rfl) (fun v hv => ?_) hS1.out ?_
        rotate_left
        · obtain ⟨s0, s1, s2, s3, s4, s5, s6⟩ := hv
          go_simp
          try with_reducible rfl
      | refine AnyZ.skipD (i := 17) (some 32) rfl (by rfl) (by kernel_rfl) (by kernel_rfl) (by kernel_rfl) (by kernel_rfl) (by kernel_rfl) (fun _ _ _ h => h) (by rfl) hS1.out ?_
    try simp only [Act.put, List.setIfInBounds_toArray, List.set_cons_zero, List.set_cons_succ]
    first
      | refine AnyZ.takeD (i := 18) (some 33) (v := ?_) rfl (by rfl) (by kernel_rfl) (by kernel_rfl) (by kernel_rfl) (by kernel_rfl) (by kernel_rfl) (fun _ _ _ h => h) (by rfl) (fun v hv => ?_) hS1.out ?_
        rotate_left
        · obtain ⟨s0, s1, s2, s3, s4, s5, s6⟩ := hv
          go_simp
          try with_reducible rfl
      | refine AnyZ.skipD (i := 18) (some 33) rfl (by rfl) (by kernel_rfl) (by kernel_rfl) (by kernel_rfl) (by kernel_rfl) (by kernel_rfl) (fun _ _ _ h => h) (by rfl) hS1.out ?_
    try simp only [Act.put, List.setIfInBounds_toArray, List.set_cons_zero, List.set_cons_succ]
    first
      | refine AnyZ.takeD (i := 19) (some 34) (v := ?_) rfl (by rfl) (by kernel_rfl) (by kernel_rfl) (by kernel_rfl) (by kernel_rfl) (by kernel_rfl) (fun _ _ _ h => h) (by rfl) (fun v hv => ?_) hS1.out ?_
        rotate_left
        · obtain ⟨s0, s1, s2, s3, s4, s5, s6⟩ := hv
          go_simp
          try with_reducible rfl
      | refine AnyZ.skipD (i := 19) (some 34) rfl (by rfl) (by kernel_rfl) (by kernel_rfl) (by kernel_rfl) (by kernel_rfl) (by kernel_rfl) (fun _ _ _ h => h) (by rfl) hS1.out ?_
    try simp only [Act.put, List.setIfInBounds_toArray, List.set_cons_zero, List.set_cons_succ]
    first
      | refine AnyZ.takeD (i := 20) (some 35) (v := ?_) rfl (by rfl) (by kernel_rfl) (by kernel_rfl) (by kernel_rfl) (by kernel_rfl) (by kernel_rfl) (fun _ _ _ h => h) (by rfl) (fun v hv => ?_) hS1.out ?_
        rotate_left
        · obtain ⟨s0, s1, s2, s3, s4, s5, s6⟩ := hv
          go_simp
          try with_reducible rfl
      | refine AnyZ.skipD (i := 20) (some 35) rfl (by rfl) (by kernel_rfl) (by kernel_rfl) (by kernel_rfl) (by kernel_rfl) (by kernel_rfl) (fun _ _ _ h => h) (by rfl) hS1.out ?_
    try simp only [Act.put, List.setIfInBounds_toArray, List.set_cons_zero, List.set_cons_succ]
    first
      | refine AnyZ.takeD (i := 21) (some 36) (v := ?_) rfl (by rfl) (by kernel_rfl) (by kernel_rfl) (by kernel_rfl) (by kernel_rfl) (by kernel_rfl) (fun _ _ _ h => h) (by rfl) (fun v hv => ?_) hS1.out ?_
        rotate_left
        · obtain ⟨s0, s1, s2, s3, s4, s5, s6⟩ := hv
          go_simp
          try with_reducible rfl
      | refine AnyZ.skipD (i := 21) (some 36) rfl (by rfl) (by kernel_rfl) (by kernel_rfl) (by kernel_rfl) (by kernel_rfl) (by kernel_rfl) (fun _ _ _ h => h) (by rfl) hS1.out ?_
    try simp only [Act.put, List.setIfInBounds_toArray, List.set_cons_zero, List.set_cons_succ]
    first
      | refine AnyZ.takeD (i := 22) (some 37) (v := ?_) rfl (by rfl) (by kernel_rfl) (by kernel_rfl) (by kernel_rfl) (by kernel_rfl) (by kernel_rfl) (fun _ _ _ h => h) (by rfl) (fun v hv => ?_) hS1.out ?_
        rotate_left
        · obtain ⟨s0, s1, s2, s3, s4, s5, s6⟩ := hv
          go_simp
          try with_reducible rfl
      | refine AnyZ.skipD (i := 22) (some 37) rfl (by rfl) (by kernel_rfl) (by kernel_rfl) (by kernel_rfl) (by kernel_rfl) (by kernel_rfl) (fun _ _ _ h => h) (by rfl) hS1.out ?_
    try simp only [Act.put, List.setIfInBounds_toArray, List.set_cons_zero, List.set_cons_succ]
    first
      | refine AnyZ.takeD (i := 23) (some 38) (v := ?_) rfl (by rfl) (by kernel_rfl) (by kernel_rfl) (by kernel_rfl) (by kernel_rfl) (by kernel_rfl) (fun _ _ _ h => h) (by rfl) (fun v hv => ?_) hS1.out ?_
        rotate_left
        · obtain ⟨s0, s1, s2, s3, s4, s5, s6⟩ := hv
          go_simp
          try with_reducible rfl
      | refine AnyZ.skipD (i := 23) (some 38) rfl (by rfl) (by kernel_rfl) (by kernel_rfl) (by kernel_rfl) (by kernel_rfl) (by kernel_rfl) (fun _ _ _ h => h) (by rfl) hS1.out ?_
    try simp only [Act.put, List.setIfInBounds_toArray, List.set_cons_zero, List.set_cons_succ]
    first
      | refine AnyZ.takeD (i := 24) (some 39) (v := ?_) rfl (by rfl) (by kernel_rfl) (by kernel_rfl) (by kernel_rfl) (by kernel_rfl) (by kernel_rfl) (fun _ _ _ h => h) (by rfl) (fun v hv => ?_) hS1.out ?_
        rotate_left
        · obtain ⟨s0, s1, s2, s3, s4, s5, s6⟩ := hv
          go_simp
          try with_reducible rfl
      | refine AnyZ.skipD (i := 24) (some 39) rfl (by rfl) (by kernel_rfl) (by kernel_rfl) (by kernel_rfl) (by kernel_rfl) (by kernel_rfl) (fun _ _ _ h => h) (by rfl) hS1.out ?_
    try simp only [Act.put, List.setIfInBounds_toArray, List.set_cons_zero, List.set_cons_succ]
    first
      | refine AnyZ.takeD (i := 25) (some 40) (v := ?_) rfl (by rfl) (by kernel_rfl) (by kernel_rfl) (by kernel_rfl) (by kernel_rfl) (by kernel_rfl) (fun _ _ _ h => h) (by rfl) (fun v hv => ?_) hS1.out ?_
        rotate_left
        · obtain ⟨s0, s1, s2, s3, s4, s5, s6⟩ := hv
          go_simp
          try with_reducible rfl
      | refine AnyZ.skipD (i := 25) (some 40) rfl (by rfl) (by kernel_rfl) (by kernel_rfl) (by kernel_rfl) (by kernel_rfl) (by kernel_rfl) (fun _ _ _ h => h) (by rfl) hS1.out ?_
    try simp only [Act.put, List.setIfInBounds_toArray, List.set_cons_zero, List.set_cons_succ]
    first
      | refine AnyZ.takeD (i := 26) (some 41) (v := ?_) rfl (by rfl) (by kernel_rfl) (by kernel_rfl) (by kernel_rfl) (by kernel_rfl) (by kernel_rfl) (fun _ _ _ h => h) (by rfl) (fun v hv => ?_) hS1.out ?_
        rotate_left
        · obtain ⟨s0, s1, s2, s3, s4, s5, s6⟩ := hv
          go_simp
          try with_reducible rfl
      | refine AnyZ.skipD (i := 26) (some 41) rfl (by rfl) (by kernel_rfl) (by kernel_rfl) (by kernel_rfl) (by kernel_rfl) (by kernel_rfl) (fun _ _ _ h => h) (by rfl) hS1.out ?_
    try simp only [Act.put, List.setIfInBounds_toArray, List.set_cons_zero, List.set_cons_succ]
    first
      | refine AnyZ.takeD (i := 27) (some 42) (v := ?_) rfl (by rfl) (by kernel_rfl) (by kernel_rfl) (by kernel_rfl) (by kernel_rfl) (by kernel_rfl) (fun _ _ _ h => h) (by rfl) (fun v hv => ?_) hS1.out ?_
        rotate_left
        · obtain ⟨s0, s1, s2, s3, s4, s5, s6⟩ := hv
          go_simp
          try with_reducible rfl
      | refine AnyZ.skipD (i := 27) (some 42) rfl (by rfl) (by kernel_rfl) (by kernel_rfl) (by kernel_rfl) (by kernel_rfl) (by kernel_rfl) (fun _ _ _ h => h) (by rfl) hS1.out ?_
    try simp only [Act.put, List.setIfInBounds_toArray, List.set_cons_zero, List.set_cons_succ]
    refine AnyZ.one (i := 28) (by kernel_rfl) rfl (by rfl) fun K28 hK28 => ?_
    go_simp
    refine (demands_m M10.out OK.out (by omega)).mono ?_
    rintro e v11 ⟨⟨A, c', rfl, hcut⟩, hm11⟩
    have K11 : Hid (Kb w b v11) := ⟨below_trans K2x.out.1 hm11.frame, K2x.out.2.below hm11.frame K2x.out.2.lt⟩
    have M11 := Lib.hid hm11
    clear hm11 hcut
    try go_wp2_with fail
    have hS2 := Lib.hid (show (fun v => v.cell? ⟨w.heap.size, 0, none⟩ = some (.string b.num) ∧ v.cell? ⟨w.heap.size, 1, none⟩ = some (.string b.gua) ∧ v.cell? ⟨w.heap.size, 2, none⟩ = some (.string b.for_) ∧ v.cell? ⟨w.heap.size, 3, none⟩ = some (.string b.to_) ∧ v.cell? ⟨w.heap.size, 4, none⟩ = some (.string b.cur) ∧ v.cell? ⟨w.heap.size, 5, none⟩ = some (.int .i64 b.amt) ∧ v.cell? ⟨w.heap.size, 6, none⟩ = some (.int .i64 b.exp)) v11 from K11.out.seven)
    refine hK28.out _ _ (.inr hS2.out) fun _ => ?_
    try simp only [Act.put, List.setIfInBounds_toArray, List.set_cons_zero, List.set_cons_succ]
    first
      | refine AnyZ.takeD (i := 29) (some 44) (v := ?_) rfl (by rfl) (by kernel_rfl) (by kernel_rfl) (by kernel_rfl) (by kernel_rfl) (by kernel_rfl) (fun _ _ _ h => h) (by rfl) (fun v hv => ?_) hS2.out ?_
        rotate_left
        · obtain ⟨s0, s1, s2, s3, s4, s5, s6⟩ := hv
          go_simp
          try with_reducible rfl
      | refine AnyZ.skipD (i := 29) (some 44) rfl (by rfl) (by kernel_rfl) (by kernel_rfl) (by kernel_rfl) (by kernel_rfl) (by kernel_rfl) (fun _ _ _ h => h) (by rfl) hS2.out ?_
    try simp only [Act.put, List.setIfInBounds_toArray, List.set_cons_zero, List.set_cons_succ]
    first
      | refine AnyZ.takeD (i := 30) (some 45) (v := ?_) rfl (by rfl) (by kernel_rfl) (by kernel_rfl) (by kernel_rfl) (by kernel_rfl) (by kernel_rfl) (fun _ _ _ h => h) (by rfl) (fun v hv => ?_) hS2.out ?_
        rotate_left
        · obtain ⟨s0, s1, s2, s3, s4, s5, s6⟩ := hv
          go_simp
          try with_reducible rfl
      | refine AnyZ.skipD (i := 30) (some 45) rfl (by rfl) (by kernel_rfl) (by kernel_rfl) (by kernel_rfl) (by kernel_rfl) (by kernel_rfl) (fun _ _ _ h => h) (by rfl) hS2.out ?_
    try simp only [Act.put, List.setIfInBounds_toArray, List.set_cons_zero, List.set_cons_succ]
    first
      | refine AnyZ.takeD (i := 31) (some 46) (v := ?_) rfl (by rfl) (by kernel_rfl) (by kernel_rfl) (by kernel_rfl) (by kernel_rfl) (by kernel_rfl) (fun _ _ _ h => h) (by rfl) (fun v hv => ?_) hS2.out ?_
        rotate_left
        · obtain ⟨s0, s1, s2, s3, s4, s5, s6⟩ := hv
          go_simp
          try with_reducible rfl
      | refine AnyZ.skipD (i := 31) (some 46) rfl (by rfl) (by kernel_rfl) (by kernel_rfl) (by kernel_rfl) (by kernel_rfl) (by kernel_rfl) (fun _ _ _ h => h) (by rfl) hS2.out ?_
    try simp only [Act.put, List.setIfInBounds_toArray, List.set_cons_zero, List.set_cons_succ]
    first
      | refine AnyZ.takeD (i := 32) (some 47) (v := ?_) rfl (by rfl) (by kernel_rfl) (by kernel_rfl) (by kernel_rfl) (by kernel_rfl) (by kernel_rfl) (fun _ _ _ h => h) (by rfl) (fun v hv => ?_) hS2.out ?_
        rotate_left
        · obtain ⟨s0, s1, s2, s3, s4, s5, s6⟩ := hv
          go_simp
          try with_reducible rfl
      | refine AnyZ.skipD (i := 32) (some 47) rfl (by rfl) (by kernel_rfl) (by kernel_rfl) (by kernel_rfl) (by kernel_rfl) (by kernel_rfl) (fun _ _ _ h => h) (by rfl) hS2.out ?_
    try simp only [Act.put, List.setIfInBounds_toArray, List.set_cons_zero, List.set_cons_succ]
    first
      | refine AnyZ.takeD (i := 34) (some 49) (v := ?_) rfl (by rfl) (by kernel_rfl) (by kernel_rfl) (by kernel_rfl) (by kernel_rfl) (by kernel_rfl) (fun _ _ _ h => h) (by rfl) (fun v hv => ?_) hS2.out ?_
        rotate_left
        · obtain ⟨s0, s1, s2, s3, s4, s5, s6⟩ := hv
          go_simp
          try with_reducible rfl
      | refine AnyZ.skipD (i := 34) (some 49) rfl (by rfl) (by kernel_rfl) (by kernel_rfl) (by kernel_rfl) (by kernel_rfl) (by kernel_rfl) (fun _ _ _ h => h) (by rfl) hS2.out ?_
    try simp only [Act.put, List.setIfInBounds_toArray, List.set_cons_zero, List.set_cons_succ]
    first
      | refine AnyZ.takeD (i := 35) (some 50) (v := ?_) rfl (by rfl) (by kernel_rfl) (by kernel_rfl) (by kernel_rfl) (by kernel_rfl) (by kernel_rfl) (fun _ _ _ h => h) (by rfl) (fun v hv => ?_) hS2.out ?_
        rotate_left
        · obtain ⟨s0, s1, s2, s3, s4, s5, s6⟩ := hv
          go_simp
          try with_reducible rfl
      | refine AnyZ.skipD (i := 35) (some 50) rfl (by rfl) (by kernel_rfl) (by kernel_rfl) (by kernel_rfl) (by kernel_rfl) (by kernel_rfl) (fun _ _ _ h => h) (by rfl) hS2.out ?_
    try simp only [Act.put, List.setIfInBounds_toArray, List.set_cons_zero, List.set_cons_succ]
    first
      | refine AnyZ.takeD (i := 36) (some 51) (v := ?_) rfl (by rfl) (by kernel_rfl) (by kernel_rfl) (by kernel_rfl) (by kernel_rfl) (by kernel_rfl) (fun _ _ _ h => h) (by rfl) (fun v hv => ?_) hS2.out ?_
        rotate_left
        · obtain ⟨s0, s1, s2, s3, s4, s5, s6⟩ := hv
          go_simp
          try with_reducible rfl
      | refine AnyZ.skipD (i := 36) (some 51) rfl (by rfl) (by kernel_rfl) (by kernel_rfl) (by kernel_rfl) (by kernel_rfl) (by kernel_rfl) (fun _ _ _ h => h) (by rfl) hS2.out ?_
    try simp only [Act.put, List.setIfInBounds_toArray, List.set_cons_zero, List.set_cons_succ]
    refine AnyZ.one (i := 33) (by kernel_rfl) rfl (by rfl) fun K33 hK33 => ?_
    go_simp
    refine (left_m M11.out OK.out (by omega) 0).mono ?_
    rintro e v12 ⟨rfl, hm12⟩
    rw [L0.out]
    have K12 : Hid (Kb w b v12) := ⟨below_trans K2x.out.1 hm12.frame, K2x.out.2.below hm12.frame K2x.out.2.lt⟩
    clear hm12
    try go_wp2_with fail
    have hS3 := Lib.hid (show (fun v => v.cell? ⟨w.heap.size, 0, none⟩ = some (.string b.num) ∧ v.cell? ⟨w.heap.size, 1, none⟩ = some (.string b.gua) ∧ v.cell? ⟨w.heap.size, 2, none⟩ = some (.string b.for_) ∧ v.cell? ⟨w.heap.size, 3, none⟩ = some (.string b.to_) ∧ v.cell? ⟨w.heap.size, 4, none⟩ = some (.string b.cur) ∧ v.cell? ⟨w.heap.size, 5, none⟩ = some (.int .i64 b.amt) ∧ v.cell? ⟨w.heap.size, 6, none⟩ = some (.int .i64 b.exp)) v12 from K12.out.seven)
    refine hK33.out _ _ (.inr hS3.out) fun _ => ?_
    try simp only [Act.put, List.setIfInBounds_toArray, List.set_cons_zero, List.set_cons_succ]
    first
      | refine AnyZ.takeD (i := 37) (some 52) (v := ?_) rfl (by rfl) (by kernel_rfl) (by kernel_rfl) (by kernel_rfl) (by kernel_rfl) (by kernel_rfl) (fun _ _ _ h => h) (by rfl) (fun v hv => ?_) hS3.out ?_
        rotate_left
        · obtain ⟨s0, s1, s2, s3, s4, s5, s6⟩ := hv
          go_simp
          try with_reducible rfl
      | refine AnyZ.skipD (i := 37) (some 52) rfl (by rfl) (by kernel_rfl) (by kernel_rfl) (by kernel_rfl) (by kernel_rfl) (by kernel_rfl) (fun _ _ _ h => h) (by rfl) hS3.out ?_
    try simp only [Act.put, List.setIfInBounds_toArray, List.set_cons_zero, List.set_cons_succ]
    first
      | refine AnyZ.takeD (i := 38) (some 53) (v := ?_) rfl (by rfl) (by kernel_rfl) (by kernel_rfl) (by kernel_rfl) (by kernel_rfl) (by kernel_rfl) (fun _ _ _ h => h) (by rfl) (fun v hv => ?_) hS3.out ?_
        rotate_left
        · obtain ⟨s0, s1, s2, s3, s4, s5, s6⟩ := hv
          go_simp
          try with_reducible rfl
      | refine AnyZ.skipD (i := 38) (some 53) rfl (by rfl) (by kernel_rfl) (by kernel_rfl) (by kernel_rfl) (by kernel_rfl) (by kernel_rfl) (fun _ _ _ h => h) (by rfl) hS3.out ?_
    try simp only [Act.put, List.setIfInBounds_toArray, List.set_cons_zero, List.set_cons_succ]
    first
      | refine AnyZ.takeD (i := 39) (some 54) (v := ?_) rfl (by rfl) (by kernel_rfl) (by kernel_rfl) (by kernel_rfl) (by kernel_rfl) (by kernel_rfl) (fun _ _ _ h => h) (by rfl) (fun v hv => ?_) hS3.out ?_
        rotate_left
        · obtain ⟨s0, s1, s2, s3, s4, s5, s6⟩ := hv
          go_simp
          try with_reducible rfl
      | refine AnyZ.skipD (i := 39) (some 54) rfl (by rfl) (by kernel_rfl) (by kernel_rfl) (by kernel_rfl) (by kernel_rfl) (by kernel_rfl) (fun _ _ _ h => h) (by rfl) hS3.out ?_
    try simp only [Act.put, List.setIfInBounds_toArray, List.set_cons_zero, List.set_cons_succ]
    first
      | refine AnyZ.takeD (i := 40) (some 55) (v := ?_) rfl (by rfl) (by kernel_rfl) (by kernel_rfl) (by kernel_rfl) (by kernel_rfl) (by kernel_rfl) (fun _ _ _ h => h) (by rfl) (fun v hv => ?_) hS3.out ?_
        rotate_left
        · obtain ⟨s0, s1, s2, s3, s4, s5, s6⟩ := hv
          go_simp
          try with_reducible rfl
      | refine AnyZ.skipD (i := 40) (some 55) rfl (by rfl) (by kernel_rfl) (by kernel_rfl) (by kernel_rfl) (by kernel_rfl) (by kernel_rfl) (fun _ _ _ h => h) (by rfl) hS3.out ?_
    try simp only [Act.put, List.setIfInBounds_toArray, List.set_cons_zero, List.set_cons_succ]
    first
      | refine AnyZ.takeD (i := 41) (some 2) (v := ?_) rfl (by rfl) (by kernel_rfl) (by kernel_rfl) (by kernel_rfl) (by kernel_rfl) (by kernel_rfl) (fun _ _ _ h => h) (by rfl) (fun v hv => ?_) hS3.out ?_
        rotate_left
        · obtain ⟨s0, s1, s2, s3, s4, s5, s6⟩ := hv
          go_simp
          try with_reducible rfl
      | refine AnyZ.skipD (i := 41) (some 2) rfl (by rfl) (by kernel_rfl) (by kernel_rfl) (by kernel_rfl) (by kernel_rfl) (by kernel_rfl) (fun _ _ _ h => h) (by rfl) hS3.out ?_
    try simp only [Act.put, List.setIfInBounds_toArray, List.set_cons_zero, List.set_cons_succ]
    refine AnyZ.done (by kernel_rfl) ?_ _
    go_wp2_with fail
    go_ret
    exact ⟨rfl, K12.out.1⟩
  · have K3 := Lib.hid (K2.out.step hb3)
    clear p0 p1 p2 p3 p4 p5 p6
    obtain ⟨p0, p1, p2, p3, p4, p5, p6⟩ := K3.out.seven
    rw [hm] at PM ⊢
    have K3d : Hid (Kb w b w3.drew) := K3.out.drew
    clear K2 hm hb3
    go_wp2_with fail
    refine region_Z (z := 99) (S := fun v => v.cell? ⟨w.heap.size, 0, none⟩ = some (.string b.num) ∧ v.cell? ⟨w.heap.size, 1, none⟩ = some (.string b.gua) ∧ v.cell? ⟨w.heap.size, 2, none⟩ = some (.string b.for_) ∧ v.cell? ⟨w.heap.size, 3, none⟩ = some (.string b.to_) ∧ v.cell? ⟨w.heap.size, 4, none⟩ = some (.string b.cur) ∧ v.cell? ⟨w.heap.size, 5, none⟩ = some (.int .i64 b.amt) ∧ v.cell? ⟨w.heap.size, 6, none⟩ = some (.int .i64 b.exp)) (by kernel_rfl) ?_
    have hS0 := Lib.hid (show (fun v => v.cell? ⟨w.heap.size, 0, none⟩ = some (.string b.num) ∧ v.cell? ⟨w.heap.size, 1, none⟩ = some (.string b.gua) ∧ v.cell? ⟨w.heap.size, 2, none⟩ = some (.string b.for_) ∧ v.cell? ⟨w.heap.size, 3, none⟩ = some (.string b.to_) ∧ v.cell? ⟨w.heap.size, 4, none⟩ = some (.string b.cur) ∧ v.cell? ⟨w.heap.size, 5, none⟩ = some (.int .i64 b.amt) ∧ v.cell? ⟨w.heap.size, 6, none⟩ = some (.int .i64 b.exp)) (w3).drew from K3d.out.seven)
    show AnyZ _ _ _ _ _ _ 42 (List.replicate 42 false).toArray _ _
    first
      | refine AnyZ.takeD (i := 0) (some 15) (v := ?_) rfl (by rfl) (by kernel_rfl) (by kernel_rfl) (by kernel_rfl) (by kernel_rfl) (by kernel_rfl) (fun _ _ _ h => h) (by rfl) (fun v hv => ?_) hS0.out ?_
        rotate_left
        · obtain ⟨s0, s1, s2, s3, s4, s5, s6⟩ := hv
          go_simp
          try with_reducible rfl
      | refine AnyZ.skipD (i := 0) (some 15) rfl (by rfl) (by kernel_rfl) (by kernel_rfl) (by kernel_rfl) (by kernel_rfl) (by kernel_rfl) (fun _ _ _ h => h) (by rfl) hS0.out ?_
    try simp only [Act.put, List.setIfInBounds_toArray, List.set_cons_zero, List.set_cons_succ]
    first
      | refine AnyZ.takeD (i := 2) (some 17) (v := ?_) rfl (by rfl) (by kernel_rfl) (by kernel_rfl) (by kernel_rfl) (by kernel_rfl) (by kernel_rfl) (fun _ _ _ h => h) (by rfl) (fun v hv => ?_) hS0.out ?_
        rotate_left
        · obtain ⟨s0, s1, s2, s3, s4, s5, s6⟩ := hv
          go_simp
          try with_reducible rfl
      | refine AnyZ.skipD (i := 2) (some 17) rfl (by rfl) (by kernel_rfl) (by kernel_rfl) (by kernel_rfl) (by kernel_rfl) (by kernel_rfl) (fun _ _ _ h => h) (by rfl) hS0.out ?_
    try simp only [Act.put, List.setIfInBounds_toArray, List.set_cons_zero, List.set_cons_succ]
    refine AnyZ.one (i := 1) (by kernel_rfl) rfl (by rfl) fun K1 hK1 => ?_
    go_simp
    refine (PM.out _).mono ?_
    rintro e v10 ⟨rfl, hb10⟩
    have K10 := Lib.hid (K3d.out.step hb10)
    clear hb10
    try go_wp2_with fail
    have hS1 := Lib.hid (show (fun v => v.cell? ⟨w.heap.size, 0, none⟩ = some (.string b.num) ∧ v.cell? ⟨w.heap.size, 1, none⟩ = some (.string b.gua) ∧ v.cell? ⟨w.heap.size, 2, none⟩ = some (.string b.for_) ∧ v.cell? ⟨w.heap.size, 3, none⟩ = some (.string b.to_) ∧ v.cell? ⟨w.heap.size, 4, none⟩ = some (.string b.cur) ∧ v.cell? ⟨w.heap.size, 5, none⟩ = some (.int .i64 b.amt) ∧ v.cell? ⟨w.heap.size, 6, none⟩ = some (.int .i64 b.exp)) v10 from K10.out.seven)
    refine hK1.out _ _ (.inr hS1.out) fun _ => ?_
    try simp only [Act.put, List.setIfInBounds_toArray, List.set_cons_zero, List.set_cons_succ]
    first
      | refine AnyZ.takeD (i := 3) (some 18) (v := ?_) rfl (by rfl) (by kernel_rfl) (by kernel_rfl) (by kernel_rfl) (by kernel_rfl) (by kernel_rfl) (fun _ _ _ h => h) (by rfl) (fun v hv => ?_) hS1.out ?_
        rotate_left
        · obtain ⟨s0, s1, s2, s3, s4, s5, s6⟩ := hv
          go_simp
          try with_reducible rfl
      | refine AnyZ.skipD (i := 3) (some 18) rfl (by rfl) (by kernel_rfl) (by kernel_rfl) (by kernel_rfl) (by kernel_rfl) (by kernel_rfl) (fun _ _ _ h => h) (by rfl) hS1.out ?_
    try simp only [Act.put, List.setIfInBounds_toArray, List.set_cons_zero, List.set_cons_succ]
    first
      | refine AnyZ.takeD (i := 4) (some 19) (v := ?_) rfl (by rfl) (by kernel_rfl) (by kernel_rfl) (by kernel_rfl) (by kernel_rfl) (by kernel_rfl) (fun _ _ _ h => h) (by rfl) (fun v hv => ?_) hS1.out ?_
        rotate_left
        · obtain ⟨s0, s1, s2, s3, s4, s5, s6⟩ := hv
          go_simp
          try with_reducible rfl
      | refine AnyZ.skipD (i := 4) (some 19) rfl (by rfl) (by kernel_rfl) (by kernel_rfl) (by kernel_rfl) (by kernel_rfl) (by kernel_rfl) (fun _ _ _ h => h) (by rfl) hS1.out ?_
    try simp only [Act.put, List.setIfInBounds_toArray, List.set_cons_zero, List.set_cons_succ]
    first
      | refine AnyZ.takeD (i := 5) (some 20) (v := ?_) rfl (by rfl) (by kernel_rfl) (by kernel_rfl) (by kernel_rfl) (by kernel_rfl) (by kernel_rfl) (fun _ _ _ h => h) (by rfl) (fun v hv => ?_) hS1.out ?_
        rotate_left
        · obtain ⟨s0, s1, s2, s3, s4, s5, s6⟩ := hv
          go_simp
          try with_reducible rfl
      | refine AnyZ.skipD (i := 5) (some 20) rfl (by rfl) (by kernel_rfl) (by kernel_rfl) (by kernel_rfl) (by kernel_rfl) (by kernel_rfl) (fun _ _ _ h => h) (by rfl) hS1.out ?_
    try simp only [Act.put, List.setIfInBounds_toArray, List.set_cons_zero, List.set_cons_succ]
    first
      | refine AnyZ.takeD (i := 6) (some 21) (v := ?_) rfl (by rfl) (by kernel_rfl) (by kernel_rfl) (by kernel_rfl) (by kernel_rfl) (by kernel_rfl) (fun _ _ _ h => h) (by rfl) (fun v hv => ?_) hS1.out ?_
        rotate_left
        · obtain ⟨s0, s1, s2, s3, s4, s5, s6⟩ := hv
          go_simp
          try with_reducible rfl
      | refine AnyZ.skipD (i := 6) (some 21) rfl (by rfl) (by kernel_rfl) (by kernel_rfl) (by kernel_rfl) (by kernel_rfl) (by kernel_rfl) (fun _ _ _ h => h) (by rfl) hS1.out ?_
    try simp only [Act.put, List.setIfInBounds_toArray, List.set_cons_zero, List.set_cons_succ]
    first
      | refine AnyZ.takeD (i := 7) (some 22) (v := ?_) rfl (by rfl) (by kernel_rfl) (by kernel_rfl) (by kernel_rfl) (by kernel_rfl) (by kernel_rfl) (fun _ _ _ h => h) (by rfl) (fun v hv => ?_) hS1.out ?_
        rotate_left
        · obtain ⟨s0, s1, s2, s3, s4, s5, s6⟩ := hv
          go_simp
          try with_reducible rfl
      | refine AnyZ.skipD (i := 7) (some 22) rfl (by rfl) (by kernel_rfl) (by kernel_rfl) (by kernel_rfl) (by kernel_rfl) (by kernel_rfl) (fun _ _ _ h => h) (by rfl) hS1.out ?_
    try simp only [Act.put, List.setIfInBounds_toArray, List.set_cons_zero, List.set_cons_succ]
    first
      | refine AnyZ.takeD (i := 8) (some 23) (v := ?_) rfl (by rfl) (by kernel_rfl) (by kernel_rfl) (by kernel_rfl) (by kernel_rfl) (by kernel_rfl) (fun _ _ _ h => h) (by rfl) (fun v hv => ?_) hS1.out ?_
        rotate_left
        · obtain ⟨s0, s1, s2, s3, s4, s5, s6⟩ := hv
          go_simp
          try with_reducible rfl
      | refine AnyZ.skipD (i := 8) (some 23) rfl (by rfl) (by kernel_rfl) (by kernel_rfl) (by kernel_rfl) (by kernel_rfl) (by kernel_rfl) (fun _ _ _ h => h) (by rfl) hS1.out ?_
    try simp only [Act.put, List.setIfInBounds_toArray, List.set_cons_zero, List.set_cons_succ]
    first
      | refine AnyZ.takeD (i := 9) (some 24) (v := ?_) rfl (by rfl) (by kernel_rfl) (by kernel_rfl) (by kernel_rfl) (by kernel_rfl) (by kernel_rfl) (fun _ _ _ h => h) (by rfl) (fun v hv => ?_) hS1.out ?_
        rotate_left
        · obtain ⟨s0, s1, s2, s3, s4, s5, s6⟩ := hv
          go_simp
          try with_reducible rfl
      | refine AnyZ.skipD (i := 9) (some 24) rfl (by rfl) (by kernel_rfl) (by kernel_rfl) (by kernel_rfl) (by kernel_rfl) (by kernel_rfl) (fun _ _ _ h => h) (by rfl) hS1.out ?_
    try simp only [Act.put, List.setIfInBounds_toArray, List.set_cons_zero, List.set_cons_succ]
    first
      | refine AnyZ.takeD (i := 10) (some 25) (v := ?_) rfl (by rfl) (by kernel_rfl) (by kernel_rfl) (by kernel_rfl) (by kernel_rfl) (by kernel_rfl) (fun _ _ _ h => h) (by rfl) (fun v hv => ?_) hS1.out ?_
        rotate_left
        · obtain ⟨s0, s1, s2, s3, s4, s5, s6⟩ := hv
          go_simp
          try with_reducible rfl
      | refine AnyZ.skipD (i := 10) (some 25) rfl (by rfl) (by kernel_rfl) (by kernel_rfl) (by kernel_rfl) (by kernel_rfl) (by kernel_rfl) (fun _ _ _ h => h) (by rfl) hS1.out ?_
    try simp only [Act.put, List.setIfInBounds_toArray, List.set_cons_zero, List.set_cons_succ]
    first
      | refine AnyZ.takeD (i := 11) (some 26) (v := ?_) rfl (by rfl) (by kernel_rfl) (by kernel_rfl) (by kernel_rfl) (by kernel_rfl) (by kernel_rfl) (fun _ _ _ h => h) (by rfl) (fun v hv => ?_) hS1.out ?_
        rotate_left
        · obtain ⟨s0, s1, s2, s3, s4, s5, s6⟩ := hv
          go_simp
          try with_reducible rfl
      | refine AnyZ.skipD (i := 11) (some 26) rfl (by rfl) (by kernel_rfl) (by kernel_rfl) (by kernel_rfl) (by kernel_rfl) (by kernel_rfl) (fun _ _ _ h => h) (by rfl) hS1.out ?_
    try simp only [Act.put, List.setIfInBounds_toArray, List.set_cons_zero, List.set_cons_succ]
    first
      | refine AnyZ.takeD (i := 12) (some 27) (v := ?_) rfl (by rfl) (by kernel_rfl) (by kernel_rfl) (by kernel_rfl) (by kernel_rfl) (by kernel_rfl) (fun _ _ _ h => h) (by rfl) (fun v hv => ?_) hS1.out ?_
        rotate_left
        · obtain ⟨s0, s1, s2, s3, s4, s5, s6⟩ := hv
          go_simp
          try with_reducible rfl
      | refine AnyZ.skipD (i := 12) (some 27) rfl (by rfl) (by kernel_rfl) (by kernel_rfl) (by kernel_rfl) (by kernel_rfl) (by kernel_rfl) (fun _ _ _ h => h) (by rfl) hS1.out ?_
    try simp only [Act.put, List.setIfInBounds_toArray, List.set_cons_zero, List.set_cons_succ]
    first
      | refine AnyZ.takeD (i := 13) (some 28) (v := ?_) rfl (by rfl) (by kernel_rfl) (by kernel_rfl) (by kernel_rfl) (by kernel_rfl) (by kernel_rfl) (fun _ _ _ h => h) (by rfl) (fun v hv => ?_) hS1.out ?_
        rotate_left
        · obtain ⟨s0, s1, s2, s3, s4, s5, s6⟩ := hv
          go_simp
          try with_reducible rfl
      | refine AnyZ.skipD (i := 13) (some 28) rfl (by rfl) (by kernel_rfl) (by kernel_rfl) (by kernel_rfl) (by kernel_rfl) (by kernel_rfl) (fun _ _ _ h => h) (by rfl) hS1.out ?_
    try simp only [Act.put, List.setIfInBounds_toArray, List.set_cons_zero, List.set_cons_succ]
    first
      | refine AnyZ.takeD (i := 14) (some 29) (v := ?_) rfl (by rfl) (by kernel_rfl) (by kernel_rfl) (by kernel_rfl) (by kernel_rfl) (by kernel_rfl) (fun _ _ _ h => h) (by rfl) (fun v hv => ?_) hS1.out ?_
        rotate_left
        · obtain ⟨s0, s1, s2, s3, s4, s5, s6⟩ := hv
          go_simp
          try with_reducible rfl
      | refine AnyZ.skipD (i := 14) (some 29) rfl (by rfl) (by kernel_rfl) (by kernel_rfl) (by kernel_rfl) (by kernel_rfl) (by kernel_rfl) (fun _ _ _ h => h) (by rfl) hS1.out ?_
    try simp only [Act.put, List.setIfInBounds_toArray, List.set_cons_zero, List.set_cons_succ]
    first
      | refine AnyZ.takeD (i := 15) (some 30) (v := ?_) rfl (by rfl) (by kernel_rfl) (by kernel_rfl) (by kernel_rfl) (by kernel_rfl) (by kernel_rfl) (fun _ _ _ h => h) (by rfl) (fun v hv => ?_) hS1.out ?_
        rotate_left
        · obtain ⟨s0, s1, s2, s3, s4, s5, s6⟩ := hv
          go_simp
          try with_reducible rfl
      | refine AnyZ.skipD (i := 15) (some 30) rfl (by rfl) (by kernel_rfl) (by kernel_rfl) (by kernel_rfl) (by kernel_rfl) (by kernel_rfl) (fun _ _ _ h => h) (by rfl) hS1.out ?_
    try simp only [Act.put, List.setIfInBounds_toArray, List.set_cons_zero, List.set_cons_succ]
    first
      | refine AnyZ.takeD (i := 16) (some 31) (v := ?_) rfl (by rfl) (by kernel_rfl) (by kernel_rfl) (by kernel_rfl) (by kernel_rfl) (by kernel_rfl) (fun _ _ _ h => h) (by rfl) (fun v hv => ?_) hS1.out ?_
        rotate_left
        · obtain ⟨s0, s1, s2, s3, s4, s5, s6⟩ := hv
          go_simp
          try with_reducible rfl
      | refine AnyZ.skipD (i := 16) (some 31) rfl (by rfl) (by kernel_rfl) (by kernel_rfl) (by kernel_rfl) (by kernel_rfl) (by kernel_rfl) (fun _ _ _ h => h) (by rfl) hS1.out ?_
    try simp only [Act.put, List.setIfInBounds_toArray, List.set_cons_zero, List.set_cons_succ]
    first
      | refine AnyZ.takeD (i := 17) (some 32) (v := ?_) rfl (by rfl) (by kernel_rfl) (by kernel_rfl) (by kernel_rfl) (by kernel_rfl) (by kernel_rfl) (fun _ _ _ h => h) (by rfl) (fun v hv => ?_) hS1.out ?_
        rotate_left
        · obtain ⟨s0, s1, s2, s3, s4, s5, s6⟩ := hv
          go_simp
          try with_reducible rfl
      | refine AnyZ.skipD (i := 17) (some 32) rfl (by rfl) (by kernel_rfl) (by kernel_rfl) (by kernel_rfl) (by kernel_rfl) (by kernel_rfl) (fun _ _ _ h => h) (by rfl) hS1.out ?_
    try simp only [Act.put, List.setIfInBounds_toArray, List.set_cons_zero, List.set_cons_succ]
    first
      | refine AnyZ.takeD (i := 18) (some 33) (v := ?_) rfl (by rfl) (by kernel_rfl) (by kernel_rfl) (by kernel_rfl) (by kernel_rfl) (by kernel_rfl) (fun _ _ _ h => h) (by rfl) (fun v hv => ?_) hS1.out ?_
        rotate_left
        · obtain ⟨s0, s1, s2, s3, s4, s5, s6⟩ := hv
          go_simp
          try with_reducible rfl
      | refine AnyZ.skipD (i := 18) (some 33) rfl (by rfl) (by kernel_rfl) (by kernel_rfl) (by kernel_rfl) (by kernel_rfl) (by kernel_rfl) (fun _ _ _ h => h) (by rfl) hS1.out ?_
    try simp only [Act.put, List.setIfInBounds_toArray, List.set_cons_zero, List.set_cons_succ]
    first
      | refine AnyZ.takeD (i := 19) (some 34) (v := ?_) rfl (by rfl) (by kernel_rfl) (by kernel_rfl) (by kernel_rfl) (by kernel_rfl) (by kernel_rfl) (fun _ _ _ h => h) (by rfl) (fun v hv => ?_) hS1.out ?_
        rotate_left
        · obtain ⟨s0, s1, s2, s3, s4, s5, s6⟩ := hv
          go_simp
          try with_reducible rfl
      | refine AnyZ.skipD (i := 19) (some 34) rfl (by rfl) (by kernel_rfl) (by kernel_rfl) (by kernel_rfl) (by kernel_rfl) (by kernel_rfl) (fun _ _ _ h => h) (by rfl) hS1.out ?_
    try simp only [Act.put, List.setIfInBounds_toArray, List.set_cons_zero, List.set_cons_succ]
    first
      | refine AnyZ.takeD (i := 20) (some 35) (v := ?_) rfl (by rfl) (by kernel_rfl) (by kernel_rfl) (by kernel_rfl) (by kernel_rfl) (by kernel_rfl) (fun _ _ _ h => h) (by rfl) (fun v hv => ?_) hS1.out ?_
        rotate_left
        · obtain ⟨s0, s1, s2, s3, s4, s5, s6⟩ := hv
          go_simp
          try with_reducible rfl
      | refine AnyZ.skipD (i := 20) (some 35) rfl (by rfl) (by kernel_rfl) (by kernel_rfl) (by kernel_rfl) (by kernel_rfl) (by kernel_rfl) (fun _ _ _ h => h) (by rfl) hS1.out ?_
    try simp only [Act.put, List.setIfInBounds_toArray, List.set_cons_zero, List.set_cons_succ]
    first
      | refine AnyZ.takeD (i := 21) (some 36) (v := ?_) rfl (by rfl) (by kernel_rfl) (by kernel_rfl) (by kernel_rfl) (by kernel_rfl) (by kernel_rfl) (fun _ _ _ h => h) (by rfl) (fun v hv => ?_) hS1.out ?_
        rotate_left
        · obtain ⟨s0, s1, s2, s3, s4, s5, s6⟩ := hv
          go_simp
          try with_reducible rfl
      | refine AnyZ.skipD (i := 21) (some 36) rfl (by rfl) (by kernel_rfl) (by kernel_rfl) (by kernel_rfl) (by kernel_rfl) (by kernel_rfl) (fun _ _ _ h => h) (by rfl) hS1.out ?_
    try simp only [Act.put, List.setIfInBounds_toArray, List.set_cons_zero, List.set_cons_succ]
    first
      | refine AnyZ.takeD (i := 22) (some 37) (v := ?_) rfl (by rfl) (by kernel_rfl) (by kernel_rfl) (by kernel_rfl) (by kernel_rfl) (by kernel_rfl) (fun _ _ _ h => h) (by rfl) (fun v hv => ?_) hS1.out ?_
        rotate_left
        · obtain ⟨s0, s1, s2, s3, s4, s5, s6⟩ := hv
          go_simp
          try with_reducible rfl
      | refine AnyZ.skipD (i := 22) (some 37) rfl (by rfl) (by kernel_rfl) (by kernel_rfl) (by kernel_rfl) (by kernel_rfl) (by kernel_rfl) (fun _ _ _ h => h) (by rfl) hS1.out ?_
    try simp only [Act.put, List.setIfInBounds_toArray, List.set_cons_zero, List.set_cons_succ]
    first
      | refine AnyZ.takeD (i := 23) (some 38) (v := ?_) rfl (by rfl) (by kernel_rfl) (by kernel_rfl) (by kernel_rfl) (by kernel_rfl) (by kernel_rfl) (fun _ _ _ h => h) (by rfl) (fun v hv => ?_) hS1.out ?_
        rotate_left
        · obtain ⟨s0, s1, s2, s3, s4, s5, s6⟩ := hv
          go_simp
          try with_reducible rfl
      | refine AnyZ.skipD (i := 23) (some 38) rfl (by rfl) (by kernel_rfl) (by kernel_rfl) (by kernel_rfl) (by kernel_rfl) (by kernel_rfl) (fun _ _ _ h => h) (by rfl) hS1.out ?_
    try simp only [Act.put, List.setIfInBounds_toArray, List.set_cons_zero, List.set_cons_succ]
    first
      | refine AnyZ.takeD (i := 24) (some 39) (v := ?_) rfl (by rfl) (by kernel_rfl) (by kernel_rfl) (by kernel_rfl) (by kernel_rfl) (by kernel_rfl) (fun _ _ _ h => h) (by rfl) (fun v hv => ?_) hS1.out ?_
        rotate_left
        · obtain ⟨s0, s1, s2, s3, s4, s5, s6⟩ := hv
          go_simp
          try with_reducible rfl
      | refine AnyZ.skipD (i := 24) (some 39) rfl (by rfl) (by kernel_rfl) (by kernel_rfl) (by kernel_rfl) (by kernel_rfl) (by kernel_rfl) (fun _ _ _ h => h) (by rfl) hS1.out ?_
    try simp only [Act.put, List.setIfInBounds_toArray, List.set_cons_zero, List.set_cons_succ]
    first
      | refine AnyZ.takeD (i := 25) (some 40) (v := ?_) rfl (by rfl) (by kernel_rfl) (by kernel_rfl) (by kernel_rfl) (by kernel_rfl) (by kernel_rfl) (fun _ _ _ h => h) (by rfl) (fun v hv => ?_) hS1.out ?_
        rotate_left
        · obtain ⟨s0, s1, s2, s3, s4, s5, s6⟩ := hv
          go_simp
          try with_reducible rfl
      | refine AnyZ.skipD (i := 25) (some 40) rfl (by rfl) (by kernel_rfl) (by kernel_rfl) (by kernel_rfl) (by kernel_rfl) (by kernel_rfl) (fun _ _ _ h => h) (by rfl) hS1.out ?_
    try simp only [Act.put, List.setIfInBounds_toArray, List.set_cons_zero, List.set_cons_succ]
    first
      | refine AnyZ.takeD (i := 26) (some 41) (v := ?_) rfl (by rfl) (by kernel_rfl) (by kernel_rfl) (by kernel_rfl) (by kernel_rfl) (by kernel_rfl) (fun _ _ _ h => h) (by rfl) (fun v hv => ?_) hS1.out ?_
        rotate_left
        · obtain ⟨s0, s1, s2, s3, s4, s5, s6⟩ := hv
          go_simp
          try with_reducible rfl
      | refine AnyZ.skipD (i := 26) (some 41) rfl (by rfl) (by kernel_rfl) (by kernel_rfl) (by kernel_rfl) (by kernel_rfl) (by kernel_rfl) (fun _ _ _ h => h) (by rfl) hS1.out ?_
    try simp only [Act.put, List.setIfInBounds_toArray, List.set_cons_zero, List.set_cons_succ]
    first
      | refine AnyZ.takeD (i := 27) (some 42) (v := ?_) rfl (by rfl) (by kernel_rfl) (by kernel_rfl) (by kernel_rfl) (by kernel_rfl) (by kernel_rfl) (fun _ _ _ h => h) (by rfl) (fun v hv => ?_) hS1.out ?_
        rotate_left
        · obtain ⟨s0, s1, s2, s3, s4, s5, s6⟩ := hv
          go_simp
          try with_reducible rfl
      | refine AnyZ.skipD (i := 27) (some 42) rfl (by rfl) (by kernel_rfl) (by kernel_rfl) (by kernel_rfl) (by kernel_rfl) (by kernel_rfl) (fun _ _ _ h => h) (by rfl) hS1.out ?_
    try simp only [Act.put, List.setIfInBounds_toArray, List.set_cons_zero, List.set_cons_succ]
    first
      | refine AnyZ.takeD (i := 28) (some 43) (v := ?_) rfl (by rfl) (by kernel_rfl) (by kernel_rfl) (by kernel_rfl) (by kernel_rfl) (by kernel_rfl) (fun _ _ _ h => h) (by rfl) (fun v hv => ?_) hS1.out ?_
        rotate_left
        · obtain ⟨s0, s1, s2, s3, s4, s5, s6⟩ := hv
          go_simp
          try with_reducible rfl
      | refine AnyZ.skipD (i := 28) (some 43) rfl (by rfl) (by kernel_rfl) (by kernel_rfl) (by kernel_rfl) (by kernel_rfl) (by kernel_rfl) (fun _ _ _ h => h) (by rfl) hS1.out ?_
    try simp only [Act.put, List.setIfInBounds_toArray, List.set_cons_zero, List.set_cons_succ]
    first
      | refine AnyZ.takeD (i := 29) (some 44) (v := ?_) rfl (by rfl) (by kernel_rfl) (by kernel_rfl) (by kernel_rfl) (by kernel_rfl) (by kernel_rfl) (fun _ _ _ h => h) (by rfl) (fun v hv => ?_) hS1.out ?_
        rotate_left
        · obtain ⟨s0, s1, s2, s3, s4, s5, s6⟩ := hv
          go_simp
          try with_reducible rfl
      | refine AnyZ.skipD (i := 29) (some 44) rfl (by rfl) (by kernel_rfl) (by kernel_rfl) (by kernel_rfl) (by kernel_rfl) (by kernel_rfl) (fun _ _ _ h => h) (by rfl) hS1.out ?_
    try simp only [Act.put, List.setIfInBounds_toArray, List.set_cons_zero, List.set_cons_succ]
    first
      | refine AnyZ.takeD (i := 30) (some 45) (v := ?_) rfl (by rfl) (by kernel_rfl) (by kernel_rfl) (by kernel_rfl) (by kernel_rfl) (by kernel_rfl) (fun _ _ _ h => h) (by rfl) (fun v hv => ?_) hS1.out ?_
        rotate_left
        · obtain ⟨s0, s1, s2, s3, s4, s5, s6⟩ := hv
          go_simp
          try with_reducible rfl
      | refine AnyZ.skipD (i := 30) (some 45) rfl (by rfl) (by kernel_rfl) (by kernel_rfl) (by kernel_rfl) (by kernel_rfl) (by kernel_rfl) (fun _ _ _ h => h) (by rfl) hS1.out ?_
    try simp only [Act.put, List.setIfInBounds_toArray, List.set_cons_zero, List.set_cons_succ]
    first
      | refine AnyZ.takeD (i := 31) (some 46) (v := ?_) rfl (by rfl) (by kernel_rfl) (by kernel_rfl) (by kernel_rfl) (by kernel_rfl) (by kernel_rfl) (fun _ _ _ h => h) (by rfl) (fun v hv => ?_) hS1.out ?_
        rotate_left
        · obtain ⟨s0, s1, s2, s3, s4, s5, s6⟩ := hv
          go_simp
          try with_reducible rfl
      | refine AnyZ.skipD (i := 31) (some 46) rfl (by rfl) (by kernel_rfl) (by kernel_rfl) (by kernel_rfl) (by kernel_rfl) (by kernel_rfl) (fun _ _ _ h => h) (by rfl) hS1.out ?_
    try simp only [Act.put, List.setIfInBounds_toArray, List.set_cons_zero, List.set_cons_succ]
    first
      | refine AnyZ.takeD (i := 32) (some 47) (v := ?_) rfl (by rfl) (by kernel_rfl) (by kernel_rfl) (by kernel_rfl) (by kernel_rfl) (by kernel_rfl) (fun _ _ _ h => h) (by rfl) (fun v hv => ?_) hS1.out ?_
        rotate_left
        · obtain ⟨s0, s1, s2, s3, s4, s5, s6⟩ := hv
          go_simp
          try with_reducible rfl
      | refine AnyZ.skipD (i := 32) (some 47) rfl (by rfl) (by kernel_rfl) (by kernel_rfl) (by kernel_rfl) (by kernel_rfl) (by kernel_rfl) (fun _ _ _ h => h) (by rfl) hS1.out ?_
    try simp only [Act.put, List.setIfInBounds_toArray, List.set_cons_zero, List.set_cons_succ]
    first
      | refine AnyZ.takeD (i := 34) (some 49) (v := ?_) rfl (by rfl) (by kernel_rfl) (by kernel_rfl) (by kernel_rfl) (by kernel_rfl) (by kernel_rfl) (fun _ _ _ h => h) (by rfl) (fun v hv => ?_) hS1.out ?_
        rotate_left
        · obtain ⟨s0, s1, s2, s3, s4, s5, s6⟩ := hv
          go_simp
          try with_reducible rfl
      | refine AnyZ.skipD (i := 34) (some 49) rfl (by rfl) (by kernel_rfl) (by kernel_rfl) (by kernel_rfl) (by kernel_rfl) (by kernel_rfl) (fun _ _ _ h => h) (by rfl) hS1.out ?_
    try simp only [Act.put, List.setIfInBounds_toArray, List.set_cons_zero, List.set_cons_succ]
    first
      | refine AnyZ.takeD (i := 35) (some 50) (v := ?_) rfl (by rfl) (by kernel_rfl) (by kernel_rfl) (by kernel_rfl) (by kernel_rfl) (by kernel_rfl) (fun _ _ _ h => h) (by rfl) (fun v hv => ?_) hS1.out ?_
        rotate_left
        · obtain ⟨s0, s1, s2, s3, s4, s5, s6⟩ := hv
          go_simp
          try with_reducible rfl
      | refine AnyZ.skipD (i := 35) (some 50) rfl (by rfl) (by kernel_rfl) (by kernel_rfl) (by kernel_rfl) (by kernel_rfl) (by kernel_rfl) (fun _ _ _ h => h) (by rfl) hS1.out ?_
    try simp only [Act.put, List.setIfInBounds_toArray, List.set_cons_zero, List.set_cons_succ]
    first
      | refine AnyZ.takeD (i := 36) (some 51) (v := ?_) rfl (by rfl) (by kernel_rfl) (by kernel_rfl) (by kernel_rfl) (by kernel_rfl) (by kernel_rfl) (fun _ _ _ h => h) (by rfl) (fun v hv => ?_) hS1.out ?_
        rotate_left
        · obtain ⟨s0, s1, s2, s3, s4, s5, s6⟩ := hv
          go_simp
          try with_reducible rfl
      | refine AnyZ.skipD (i := 36) (some 51) rfl (by rfl) (by kernel_rfl) (by kernel_rfl) (by kernel_rfl) (by kernel_rfl) (by kernel_rfl) (fun _ _ _ h => h) (by rfl) hS1.out ?_
    try simp only [Act.put, List.setIfInBounds_toArray, List.set_cons_zero, List.set_cons_succ]
    first
      | refine AnyZ.takeD (i := 33) (some 48) (v := ?_) rfl (by rfl) (by kernel_rfl) (by kernel_rfl) (by kernel_rfl) (by kernel_rfl) (by kernel_rfl) (fun _ _ _ h => h) (by rfl) (fun v hv => ?_) hS1.out ?_
        rotate_left
        · obtain ⟨s0, s1, s2, s3, s4, s5, s6⟩ := hv
          go_simp
          try with_reducible rfl
      | refine AnyZ.skipD (i := 33) (some 48) rfl (by rfl) (by kernel_rfl) (by kernel_rfl) (by kernel_rfl) (by kernel_rfl) (by kernel_rfl) (fun _ _ _ h => h) (by rfl) hS1.out ?_
    try simp only [Act.put, List.setIfInBounds_toArray, List.set_cons_zero, List.set_cons_succ]
    first
      | refine AnyZ.takeD (i := 37) (some 52) (v := ?_) rfl (by rfl) (by kernel_rfl) (by kernel_rfl) (by kernel_rfl) (by kernel_rfl) (by kernel_rfl) (fun _ _ _ h => h) (by rfl) (fun v hv => ?_) hS1.out ?_
        rotate_left
        · obtain ⟨s0, s1, s2, s3, s4, s5, s6⟩ := hv
          go_simp
          try with_reducible rfl
      | refine AnyZ.skipD (i := 37) (some 52) rfl (by rfl) (by kernel_rfl) (by kernel_rfl) (by kernel_rfl) (by kernel_rfl) (by kernel_rfl) (fun _ _ _ h => h) (by rfl) hS1.out ?_
    try simp only [Act.put, List.setIfInBounds_toArray, List.set_cons_zero, List.set_cons_succ]
    first
      | refine AnyZ.takeD (i := 38) (some 53) (v := ?_) rfl (by rfl) (by kernel_rfl) (by kernel_rfl) (by kernel_rfl) (by kernel_rfl) (by kernel_rfl) (fun _ _ _ h => h) (by rfl) (fun v hv => ?_) hS1.out ?_
        rotate_left
        · obtain ⟨s0, s1, s2, s3, s4, s5, s6⟩ := hv
          go_simp
          try with_reducible rfl
      | refine AnyZ.skipD (i := 38) (some 53) rfl (by rfl) (by kernel_rfl) (by kernel_rfl) (by kernel_rfl) (by kernel_rfl) (by kernel_rfl) (fun _ _ _ h => h) (by rfl) hS1.out ?_
    try simp only [Act.put, List.setIfInBounds_toArray, List.set_cons_zero, List.set_cons_succ]
    first
      | refine AnyZ.takeD (i := 39) (some 54) (v := ?_) rfl (by rfl) (by kernel_rfl) (by kernel_rfl) (by kernel_rfl) (by kernel_rfl) (by kernel_rfl) (fun _ _ _ h => h) (by rfl) (fun v hv => ?_) hS1.out ?_
        rotate_left
        · obtain ⟨s0, s1, s2, s3, s4, s5, s6⟩ := hv
          go_simp
          try with_reducible rfl
      | refine AnyZ.skipD (i := 39) (some 54) rfl (by rfl) (by kernel_rfl) (by kernel_rfl) (by kernel_rfl) (by kernel_rfl) (by kernel_rfl) (fun _ _ _ h => h) (by rfl) hS1.out ?_
    try simp only [Act.put, List.setIfInBounds_toArray, List.set_cons_zero, List.set_cons_succ]
    first
      | refine AnyZ.takeD (i := 40) (some 55) (v := ?_) rfl (by rfl) (by kernel_rfl) (by kernel_rfl) (by kernel_rfl) (by kernel_rfl) (by kernel_rfl) (fun _ _ _ h => h) (by rfl) (fun v hv => ?_) hS1.out ?_
        rotate_left
        · obtain ⟨s0, s1, s2, s3, s4, s5, s6⟩ := hv
          go_simp
          try with_reducible rfl
      | refine AnyZ.skipD (i := 40) (some 55) rfl (by rfl) (by kernel_rfl) (by kernel_rfl) (by kernel_rfl) (by kernel_rfl) (by kernel_rfl) (fun _ _ _ h => h) (by rfl) hS1.out ?_
    try simp only [Act.put, List.setIfInBounds_toArray, List.set_cons_zero, List.set_cons_succ]
    first
      | refine AnyZ.takeD (i := 41) (some 2) (v := ?_) rfl (by rfl) (by kernel_rfl) (by kernel_rfl) (by kernel_rfl) (by kernel_rfl) (by kernel_rfl) (fun _ _ _ h => h) (by rfl) (fun v hv => ?_) hS1.out ?_
        rotate_left
        · obtain ⟨s0, s1, s2, s3, s4, s5, s6⟩ := hv
          go_simp
          try with_reducible rfl
      | refine AnyZ.skipD (i := 41) (some 2) rfl (by rfl) (by kernel_rfl) (by kernel_rfl) (by kernel_rfl) (by kernel_rfl) (by kernel_rfl) (fun _ _ _ h => h) (by rfl) hS1.out ?_
    try simp only [Act.put, List.setIfInBounds_toArray, List.set_cons_zero, List.set_cons_succ]
    refine AnyZ.done (by kernel_rfl) ?_ _
    go_wp2_with fail
    go_ret
    exact ⟨rfl, K10.out.1⟩
end Go.Proofs.Ytlmlepdmgopojaa
