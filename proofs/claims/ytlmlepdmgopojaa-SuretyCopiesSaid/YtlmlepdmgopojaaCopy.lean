/- The walk of Copy. Condition: how the surety lies. -/
import Derived.Test.YtlmlepdmgopojaaClone
import Derived.Test.YtlmlepdmgopojaaRefW
import Derived.Test.YtlmlepdmgopojaaSinkB
namespace Go.Proofs.Ytlmlepdmgopojaa
open Go.RowKit
set_option linter.unusedVariables false
set_option linter.unusedSimpArgs false
theorem CutR.drew_ {w : World} {C : Option Addr} {l : List Cut} (h : CutR w C l) : CutR w.drew C l := h
theorem below_of_drew {w v : World} {B : Nat} (h : Below B w.drew v) : Below B w v := (Below.refl B w).drew.trans h
theorem Row.low {w : World} {B B' e size n c : Nat} {A : Option Addr} {xs : List Value} (h : Row w B e size A n c xs) (hB : B' ≤ B) : Row w B' e size A n c xs := by
  obtain ⟨h1, h2⟩ := h
  refine ⟨h1, ?_⟩
  rcases h2 with h2 | ⟨g, cur, h2, h3, h4⟩
  · exact .inl h2
  · exact .inr ⟨g, cur, h2, Nat.le_trans hB h3, h4⟩
def Copied (s : Sur) (w : World) (e : Ending) (w' : World) : Prop :=
  ∃ O', e = .returned (.pointer (some ⟨w.heap.size, 0, none⟩)) ∧ At O' w' w.heap.size s ∧ (∀ j, O' j → w.heap.size ≤ j) ∧ Below w.heap.size w w'
set_option maxRecDepth 100000 in
set_option maxHeartbeats 4000000 in
theorem copy_any {w : World} {g : Nat} {s : Sur} {C : Option Addr} {c : Nat} {D : Option Addr} {d : Nat} (h : SA w g s C c D d) {K : Nat} (ok : s.ok K) (hK : K < 4096) :
    Calls Try.prog 19 #[.pointer (some ⟨g, 0, none⟩)] w (Copied s w) := by
  have dl : s.dem.length < 4096 := by have := ok.dl; omega
  have cl : s.cuts.length < 4096 := by have := ok.cl; omega
  have hlt := h.box.lt
  have hg1 : ¬ g = w.heap.size := by omega
  have hg2 : ∀ k, blockOf D k → k < w.heap.size := fun k hk => (h.rd.lt hk).2
  have hg3 : ∀ k, blockOf C k → k < w.heap.size := fun k hk => (h.rc.lt hk).2
  have HH := Lib.hid h
  obtain ⟨q0, q1, q2, q3, q4, q5, q6, q7⟩ : w.cell? ⟨g, 0, none⟩ = some (.string s.b.num) ∧ w.cell? ⟨g, 1, none⟩ = some (.string s.b.gua) ∧ w.cell? ⟨g, 2, none⟩ = some (.string s.b.for_) ∧ w.cell? ⟨g, 3, none⟩ = some (.string s.b.to_) ∧ w.cell? ⟨g, 4, none⟩ = some (.string s.b.cur) ∧ w.cell? ⟨g, 5, none⟩ = some (.int .i64 s.b.amt) ∧ w.cell? ⟨g, 6, none⟩ = some (.int .i64 s.b.exp) ∧ w.cell? ⟨g, 7, none⟩ = some (.int .i64 s.exp) :=
    ⟨h.box.cell 0, h.box.cell 1, h.box.cell 2, h.box.cell 3, h.box.cell 4, h.box.cell 5, h.box.cell 6, h.box.cell 7⟩
  have q8 := h.cellC
  have q9 := h.cellD
  unfold Copied
  clear h ok
  go_enter Try.func19, Try.ntmps19
  go_upto_region 2 with fail
  obtain ⟨w1, hw1⟩ : ∃ w1, w1 = w.alloc (.cells #[.string s.b.num, .string s.b.gua, .string s.b.for_, .string s.b.to_, .string s.b.cur, .int .i64 s.b.amt, .int .i64 s.b.exp, .int .i64 s.exp, .slice C s.cuts.length c, .slice D s.dem.length d] 63) := ⟨_, rfl⟩
  have BB1 : Hid (Blk w1 w.heap.size 63 (s.cells C c D d)) := by
    show Blk w1 _ _ _
    rw [hw1]
    exact Blk.new w 63 _
  have B1 : Hid (Below w.heap.size w w1) := by
    show Below _ _ _
    rw [hw1]
    exact (Below.refl _ _).alloc (Nat.le_refl _) _
  have SA1 := Lib.hid (HH.out.below B1.out)
  rw [← hw1]
  clear hw1 q0 q1 q2 q3 q4 q5 q6 q7 q8 q9
  refine region_Z (z := 13) (S := fun v => v.cell? ⟨g, 8, none⟩ = some (.slice C s.cuts.length c) ∧ v.cell? ⟨g, 9, none⟩ = some (.slice D s.dem.length d)) (by kernel_rfl) ?_
  have hS0 := Lib.hid (show (fun v => v.cell? ⟨g, 8, none⟩ = some (.slice C s.cuts.length c) ∧ v.cell? ⟨g, 9, none⟩ = some (.slice D s.dem.length d)) (w1).drew from ⟨SA1.out.cellC, SA1.out.cellD⟩)
  show AnyZ _ _ _ _ _ _ 14 (List.replicate 14 false).toArray _ _
  first
    | refine AnyZ.takeD (i := 0) (some 7) (v := ?_) rfl (by rfl) (by kernel_rfl) (by kernel_rfl) (by kernel_rfl) (by kernel_rfl) (by kernel_rfl) (fun _ _ _ h => h) (by rfl) (fun v hv => ?_) hS0.out ?_
      rotate_left
      · obtain ⟨s0, s1⟩ := hv
        go_simp
        try with_reducible rfl
    | refine AnyZ.skipD (i := 0) (some 7) rfl (by rfl) (by kernel_rfl) (by kernel_rfl) (by kernel_rfl) (by kernel_rfl) (by kernel_rfl) (fun _ _ _ h => h) (by rfl) hS0.out ?_
  try simp only [Act.put, List.setIfInBounds_toArray, List.set_cons_zero, List.set_cons_succ]
  first
    | refine AnyZ.takeD (i := 1) (some 8) (v := ?_) rfl (by rfl) (by kernel_rfl) (by kernel_rfl) (by kernel_rfl) (by kernel_rfl) (by kernel_rfl) (fun _ _ _ h => h) (by rfl) (fun v hv => ?_) hS0.out ?_
      rotate_left
      · obtain ⟨s0, s1⟩ := hv
        go_simp
        try with_reducible rfl
    | refine AnyZ.skipD (i := 1) (some 8) rfl (by rfl) (by kernel_rfl) (by kernel_rfl) (by kernel_rfl) (by kernel_rfl) (by kernel_rfl) (fun _ _ _ h => h) (by rfl) hS0.out ?_
  try simp only [Act.put, List.setIfInBounds_toArray, List.set_cons_zero, List.set_cons_succ]
  first
    | refine AnyZ.takeD (i := 2) (some 9) (v := ?_) rfl (by rfl) (by kernel_rfl) (by kernel_rfl) (by kernel_rfl) (by kernel_rfl) (by kernel_rfl) (fun _ _ _ h => h) (by rfl) (fun v hv => ?_) hS0.out ?_
      rotate_left
      · obtain ⟨s0, s1⟩ := hv
        go_simp
        try with_reducible rfl
    | refine AnyZ.skipD (i := 2) (some 9) rfl (by rfl) (by kernel_rfl) (by kernel_rfl) (by kernel_rfl) (by kernel_rfl) (by kernel_rfl) (fun _ _ _ h => h) (by rfl) hS0.out ?_
  try simp only [Act.put, List.setIfInBounds_toArray, List.set_cons_zero, List.set_cons_succ]
  first
    | refine AnyZ.takeD (i := 3) (some 10) (v := ?_) rfl (by rfl) (by kernel_rfl) (by kernel_rfl) (by kernel_rfl) (by kernel_rfl) (by kernel_rfl) (fun _ _ _ h => h) (by rfl) (fun v hv => ?_) hS0.out ?_
      rotate_left
      · obtain ⟨s0, s1⟩ := hv
        go_simp
        try with_reducible rfl
    | refine AnyZ.skipD (i := 3) (some 10) rfl (by rfl) (by kernel_rfl) (by kernel_rfl) (by kernel_rfl) (by kernel_rfl) (by kernel_rfl) (fun _ _ _ h => h) (by rfl) hS0.out ?_
  try simp only [Act.put, List.setIfInBounds_toArray, List.set_cons_zero, List.set_cons_succ]
  first
    | refine AnyZ.takeD (i := 5) (some 12) (v := ?_) rfl (by rfl) (by kernel_rfl) (by kernel_rfl) (by kernel_rfl) (by kernel_rfl) (by kernel_rfl) (fun _ _ _ h => h) (by rfl) (fun v hv => ?_) hS0.out ?_
      rotate_left
      · obtain ⟨s0, s1⟩ := hv
        go_simp
        try with_reducible rfl
    | refine AnyZ.skipD (i := 5) (some 12) rfl (by rfl) (by kernel_rfl) (by kernel_rfl) (by kernel_rfl) (by kernel_rfl) (by kernel_rfl) (fun _ _ _ h => h) (by rfl) hS0.out ?_
  try simp only [Act.put, List.setIfInBounds_toArray, List.set_cons_zero, List.set_cons_succ]
  first
    | refine AnyZ.takeD (i := 6) (some 13) (v := ?_) rfl (by rfl) (by kernel_rfl) (by kernel_rfl) (by kernel_rfl) (by kernel_rfl) (by kernel_rfl) (fun _ _ _ h => h) (by rfl) (fun v hv => ?_) hS0.out ?_
      rotate_left
      · obtain ⟨s0, s1⟩ := hv
        go_simp
        try with_reducible rfl
    | refine AnyZ.skipD (i := 6) (some 13) rfl (by rfl) (by kernel_rfl) (by kernel_rfl) (by kernel_rfl) (by kernel_rfl) (by kernel_rfl) (fun _ _ _ h => h) (by rfl) hS0.out ?_
  try simp only [Act.put, List.setIfInBounds_toArray, List.set_cons_zero, List.set_cons_succ]
  first
    | refine AnyZ.takeD (i := 7) (some 14) (v := ?_) rfl (by rfl) (by kernel_rfl) (by kernel_rfl) (by kernel_rfl) (by kernel_rfl) (by kernel_rfl) (fun _ _ _ h => h) (by rfl) (fun v hv => ?_) hS0.out ?_
      rotate_left
      · obtain ⟨s0, s1⟩ := hv
        go_simp
        try with_reducible rfl
    | refine AnyZ.skipD (i := 7) (some 14) rfl (by rfl) (by kernel_rfl) (by kernel_rfl) (by kernel_rfl) (by kernel_rfl) (by kernel_rfl) (fun _ _ _ h => h) (by rfl) hS0.out ?_
  try simp only [Act.put, List.setIfInBounds_toArray, List.set_cons_zero, List.set_cons_succ]
  first
    | refine AnyZ.takeD (i := 8) (some 15) (v := ?_) rfl (by rfl) (by kernel_rfl) (by kernel_rfl) (by kernel_rfl) (by kernel_rfl) (by kernel_rfl) (fun _ _ _ h => h) (by rfl) (fun v hv => ?_) hS0.out ?_
      rotate_left
      · obtain ⟨s0, s1⟩ := hv
        go_simp
        try with_reducible rfl
    | refine AnyZ.skipD (i := 8) (some 15) rfl (by rfl) (by kernel_rfl) (by kernel_rfl) (by kernel_rfl) (by kernel_rfl) (by kernel_rfl) (fun _ _ _ h => h) (by rfl) hS0.out ?_
  try simp only [Act.put, List.setIfInBounds_toArray, List.set_cons_zero, List.set_cons_succ]
  refine AnyZ.one (i := 4) (by kernel_rfl) rfl (by rfl) fun K4 hK4 => ?_
  go_simp
  refine (clone46_any _ C c s.cuts SA1.out.cut.drew_ (by omega)).mono ?_
  rintro e v4 ⟨C', c', rfl, hr4, hb4⟩
  have R4 := Lib.hid hr4
  have B4 := Lib.hid (show Below w1.heap.size w1 v4 from below_of_drew hb4)
  have SA4 := Lib.hid (SA1.out.below B4.out)
  have BB4 := Lib.hid (BB1.out.below B4.out BB1.out.lt)
  clear hr4 hb4
  try go_wp2_with fail
  have hS4 := Lib.hid (show (fun v => v.cell? ⟨g, 8, none⟩ = some (.slice C s.cuts.length c) ∧ v.cell? ⟨g, 9, none⟩ = some (.slice D s.dem.length d)) v4 from ⟨SA4.out.cellC, SA4.out.cellD⟩)
  refine hK4.out _ _ (.inr hS4.out) fun _ => ?_
  try simp only [Act.put, List.setIfInBounds_toArray, List.set_cons_zero, List.set_cons_succ]
  refine AnyZ.one (i := 9) (by kernel_rfl) rfl (by rfl) fun K9 hK9 => ?_
  go_simp
  refine (clone47_any _ D d s.dem SA4.out.dem (by omega)).mono ?_
  rintro e v9 ⟨D', d', rfl, hr9, hb9⟩
  have R9 := Lib.hid hr9
  have R49 := Lib.hid (R4.out.below hb9)
  have B9 := Lib.hid hb9
  have SA9 := Lib.hid (SA4.out.below B9.out)
  have BB9 := Lib.hid (BB4.out.below B9.out BB4.out.lt)
  have f8 := BB9.out.frozen 8
  have f9 := BB9.out.frozen 9
  have q8 : v9.cell? ⟨w.heap.size, 8, none⟩ = some (.slice C s.cuts.length c) := BB9.out.cell 8
  have q9 : v9.cell? ⟨w.heap.size, 9, none⟩ = some (.slice D s.dem.length d) := BB9.out.cell 9
  have lB := BB9.out.lt
  clear hr9 hb9
  try go_wp2_with fail
  have hS9 := Lib.hid (show (fun v => v.cell? ⟨g, 8, none⟩ = some (.slice C s.cuts.length c) ∧ v.cell? ⟨g, 9, none⟩ = some (.slice D s.dem.length d)) v9 from ⟨SA9.out.cellC, SA9.out.cellD⟩)
  refine hK9.out _ _ (.inr hS9.out) fun _ => ?_
  try simp only [Act.put, List.setIfInBounds_toArray, List.set_cons_zero, List.set_cons_succ]
  first
    | refine AnyZ.takeD (i := 10) (some 17) (v := ?_) rfl (by rfl) (by kernel_rfl) (by kernel_rfl) (by kernel_rfl) (by kernel_rfl) (by kernel_rfl) (fun _ _ _ h => h) (by rfl) (fun v hv => ?_) hS9.out ?_
      rotate_left
      · obtain ⟨s0, s1⟩ := hv
        go_simp
        try with_reducible rfl
    | refine AnyZ.skipD (i := 10) (some 17) rfl (by rfl) (by kernel_rfl) (by kernel_rfl) (by kernel_rfl) (by kernel_rfl) (by kernel_rfl) (fun _ _ _ h => h) (by rfl) hS9.out ?_
  try simp only [Act.put, List.setIfInBounds_toArray, List.set_cons_zero, List.set_cons_succ]
  refine AnyZ.one (i := 11) (by kernel_rfl) rfl (by rfl) fun K11 hK11 => ?_
  go_simp
  have SA11 := Lib.hid (show SA (v9.setCell ⟨w.heap.size, 8, none⟩ (.slice C' s.cuts.length c')) g s C c D d from SA9.out.chg (setCell_chg (O := fun j => j = w.heap.size) (p := ⟨w.heap.size, 8, none⟩) rfl _) hg1 (fun k hk => by have := hg2 k hk; omega) (fun k hk => by have := hg3 k hk; omega))
  have BB11 := Lib.hid (BB9.out.set_ 8 (.slice C' s.cuts.length c'))
  have f9' := BB11.out.frozen 9
  have q9' : (v9.setCell ⟨w.heap.size, 8, none⟩ (.slice C' s.cuts.length c')).cell? ⟨w.heap.size, 9, none⟩ = some (.slice D s.dem.length d) := BB11.out.cell 9
  have lB' := BB11.out.lt
  have hS11 := Lib.hid (show (fun v => v.cell? ⟨g, 8, none⟩ = some (.slice C s.cuts.length c) ∧ v.cell? ⟨g, 9, none⟩ = some (.slice D s.dem.length d)) (v9.setCell ⟨w.heap.size, 8, none⟩ (.slice C' s.cuts.length c')) from ⟨SA11.out.cellC, SA11.out.cellD⟩)
  refine hK11.out _ _ (.inr hS11.out) fun _ => ?_
  try simp only [Act.put, List.setIfInBounds_toArray, List.set_cons_zero, List.set_cons_succ]
  first
    | refine AnyZ.takeD (i := 12) (some 18) (v := ?_) rfl (by rfl) (by kernel_rfl) (by kernel_rfl) (by kernel_rfl) (by kernel_rfl) (by kernel_rfl) (fun _ _ _ h => h) (by rfl) (fun v hv => ?_) hS11.out ?_
      rotate_left
      · obtain ⟨s0, s1⟩ := hv
        go_simp
        try with_reducible rfl
    | refine AnyZ.skipD (i := 12) (some 18) rfl (by rfl) (by kernel_rfl) (by kernel_rfl) (by kernel_rfl) (by kernel_rfl) (by kernel_rfl) (fun _ _ _ h => h) (by rfl) hS11.out ?_
  try simp only [Act.put, List.setIfInBounds_toArray, List.set_cons_zero, List.set_cons_succ]
  refine AnyZ.one (i := 13) (by kernel_rfl) rfl (by rfl) fun K13 hK13 => ?_
  go_simp
  refine hK13.out _ _ (.inl rfl) fun _ => ?_
  try simp only [Act.put, List.setIfInBounds_toArray, List.set_cons_zero, List.set_cons_succ]
  refine AnyZ.done (by kernel_rfl) ?_ _

  have l1 : w1.drew.heap.size = w1.heap.size := rfl
  have l2 := BB1.out.lt
  have l3 := B4.out.size
  obtain ⟨w13, hw13⟩ : ∃ w13, w13 = (v9.setCell ⟨w.heap.size, 8, none⟩ (.slice C' s.cuts.length c')).setCell ⟨w.heap.size, 9, none⟩ (.slice D' s.dem.length d') := ⟨_, rfl⟩
  have BBo : Hid (Blk w13 w.heap.size 63 (s.cells C' c' D' d')) := by
    show Blk w13 _ _ _
    rw [hw13]
    exact BB11.out.set_ 9 _
  have ROd : Hid (Row w13 w.heap.size 67 3 D' s.dem.length d' (flatD s.dem)) := by
    show Row w13 _ _ _ _ _ _ _
    rw [hw13]
    exact ((((R9.out.low (by omega)).setCell (p := ⟨w.heap.size, 8, none⟩) (fun hk => by have := (R9.out.lt hk).1; simp only at this; omega) _)).setCell (p := ⟨w.heap.size, 9, none⟩) (fun hk => by have := (R9.out.lt hk).1; simp only at this; omega) _)
  have ROc : Hid (Row w13 w.heap.size 48 2 C' s.cuts.length c' (flatC s.cuts)) := by
    show Row w13 _ _ _ _ _ _ _
    rw [hw13]
    exact ((((R49.out.low (by omega)).setCell (p := ⟨w.heap.size, 8, none⟩) (fun hk => by have := (R49.out.lt hk).1; simp only at this; omega) _)).setCell (p := ⟨w.heap.size, 9, none⟩) (fun hk => by have := (R49.out.lt hk).1; simp only at this; omega) _)
  have BL : Hid (Below w.heap.size w w13) := by
    show Below _ _ _
    rw [hw13]
    exact (((B1.out.trans (B4.out.mono B1.out.size)).trans (B9.out.mono (by omega))).setCell (p := ⟨w.heap.size, 8, none⟩) (Nat.le_refl _) _).setCell (p := ⟨w.heap.size, 9, none⟩) (Nat.le_refl _) _
  rw [← hw13]
  clear hw13 R9 R49 BB11 SA11 q8 q9 f8 f9 f9' q9' lB lB' SA9 BB9 SA4 BB4 SA1 BB1 B9 B4 B1 R4 hS0 hS4 hS9 hS11
  go_wp2_with fail
  refine bodyPost_ret (v := .pointer (some ⟨w.heap.size, 0, none⟩)) (by simp [results, Try.results19, go_sem]) rfl ?_
  exact ⟨rfl, fun j => w.heap.size ≤ j, ⟨C', c', D', d', ⟨BBo.out, ROd.out.low (Nat.zero_le _), ROc.out.low (Nat.zero_le _)⟩, Nat.le_refl _, fun k hk => (ROd.out.lt hk).1, fun k hk => (ROc.out.lt hk).1⟩, fun _ h => h, BL.out⟩
end Go.Proofs.Ytlmlepdmgopojaa
