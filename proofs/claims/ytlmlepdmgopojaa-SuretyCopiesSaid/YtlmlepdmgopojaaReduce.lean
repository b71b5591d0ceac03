/- The walks of Reduce and Extend. Condition: where the surety lies. -/
import Derived.Test.YtlmlepdmgopojaaDemand
namespace Go.Proofs.Ytlmlepdmgopojaa
open Go.RowKit
set_option linter.unusedVariables false
set_option linter.unusedSimpArgs false
/-- one reduction more -/
theorem SA.cutMore {w w1 w2 : World} {g c d c' : Nat} {s : Sur} {C D A' : Option Addr} {x : Cut} {O : Nat → Prop} (h : SA w g s C c D d) (o1 : O g) (o2 : ∀ k, blockOf D k → O k) (o3 : ∀ k, blockOf C k → O k) (hW : Below w.heap.size w w1)
    (hrow : Row w2 0 48 2 A' (s.cuts.length + 1) c' (flatC s.cuts ++ flatC [x])) (hc : Chg (blockOf C) w1 w2) (hfr : A' = C ∨ ∀ k, blockOf A' k → w1.heap.size ≤ k) :
    ∃ O', At O' (w2.setCell ⟨g, 8, none⟩ (.slice A' (s.cuts.length + 1) c')) g { s with cuts := s.cuts ++ [x] } ∧ Chg O w (w2.setCell ⟨g, 8, none⟩ (.slice A' (s.cuts.length + 1) c')) ∧ ∀ k, O' k → O k ∨ w.heap.size ≤ k := by
  have h1 := h.below hW
  have hC : ¬ blockOf C g := h1.rc.blk_ne h1.box (by decide)
  have hg2 := hc.blk h1.box hC
  have hA : ¬ blockOf A' g := hrow.blk_ne hg2 (by decide)
  have hD : ¬ blockOf D g := h1.rd.blk_ne h1.box (by decide)
  have hl : (s.cuts ++ [x]).length = s.cuts.length + 1 := by simp
  have e : flatC s.cuts ++ flatC [x] = flatC (s.cuts ++ [x]) := (flatF_append _ _).symm
  rw [e] at hrow
  refine ⟨fun k => O k ∨ blockOf A' k, ⟨A', c', D, d, ⟨?_, ?_, ?_⟩, .inl o1, fun k hk => .inl (o2 k hk), fun k hk => .inr hk⟩, ?_, ?_⟩
  · have := hg2.set_ 8 (.slice A' (s.cuts.length + 1) c')
    unfold Sur.cells at this ⊢
    simp only [hl]
    simpa using this
  · exact (h1.rd.chg hc fun k hk => h1.rd.apart h1.rc (by decide) hk).setCell (p := ⟨g, 8, none⟩) hD _
  · simp only [hl]
    exact hrow.setCell (p := ⟨g, 8, none⟩) hA _
  · exact (((Chg.of_below hW).trans (hc.mono fun k _ hk => o3 k hk)).setCell (p := ⟨g, 8, none⟩) (.inl o1) _)
  · intro k hk
    rcases hk with hk | hk
    · exact .inl hk
    · rcases hfr with rfl | hf
      · exact .inl (o3 k hk)
      · exact .inr (Nat.le_trans hW.size (hf k hk))
/-- the blocks that Reduce lays ahead of its first -/
def redL (H g : Nat) (sum day : Int) : List (Array Value × TypeId) := [(#[.pointer (some ⟨g, 0, none⟩)], 28), (#[.int .i64 sum], 2), (#[.int .i64 day], 3),
    (#[.int .i64 3], 29), (#[.func (.func 50) #[] #[ptrB H 1, ptrB H 2]], 26), (#[.int .i64 10], 29), (#[.func (.func 51) #[] #[ptrB H 0, ptrB H 1]], 26), (#[.int .i64 7], 29), (#[.func (.func 52) #[] #[ptrB H 0]], 26),
    (#[.func (.func 59) #[] (capU H 3), .func (.func 59) #[] (capU H 5), .func (.func 59) #[] (capU H 7)], 70)]
def redC (s : Sur) (H : Nat) (sum day : Int) : List Look := [⟨59, capU H 3, if right sum day then 0 else 3⟩, ⟨59, capU H 5, if decide (cutTo 1048576 s.cuts + sum ≤ s.b.amt) then 0 else 10⟩, ⟨59, capU H 7, if true then 0 else 7⟩]
theorem redC_first (s : Sur) (H : Nat) (sum day : Int) : firstC (redC s H sum day) = (s.reduce sum day).2 := by
  unfold Sur.reduce redC
  cases h2 : right sum day
  · simp [firstC]
  by_cases h3 : cutTo 1048576 s.cuts + sum ≤ s.b.amt
  · simp [firstC, h3, show ¬ s.b.amt < cutTo 1048576 s.cuts + sum by omega]
  · simp [firstC, h3, show s.b.amt < cutTo 1048576 s.cuts + sum by omega]
theorem red_first (s : Sur) (g c d : Nat) (C D : Option Addr) (w : World) (sa : SA w g s C c D d) {K : Nat} (ok : s.ok K) (hK : K < 4096) (sum day : Int) :
    Calls Try.prog 30 #[.slice (some ⟨w.heap.size + 9, 0, none⟩) 3 3] (allocs w (redL w.heap.size g sum day)) fun e w' => e = .returned (.int .i64 (s.reduce sum day).2) ∧ Below (allocs w (redL w.heap.size g sum day)).heap.size (allocs w (redL w.heap.size g sum day)) w' := by
  have hb := allocs_below w (redL w.heap.size g sum day)
  have B := allocs_blk w (redL w.heap.size g sum day)
  have sz := allocs_size w (redL w.heap.size g sum day)
  rw [← redC_first s w.heap.size sum day]
  generalize allocs w (redL w.heap.size g sum day) = W at *
  generalize hH : w.heap.size = H at *
  have hs := B 0 _ _ rfl
  have hsu := B 1 _ _ rfl
  have hat := B 2 _ _ rfl
  have hdl : s.cuts.length < 4096 := by have := ok.cl; omega
  have hd : ∀ v, Below W.heap.size W v → SA v g s C c D d := fun v hv => sa.below (by rw [← hH] at hb; exact below_trans hb hv)
  have key : ∀ (i : Nat) (x : Look), (redC s H sum day)[i]? = some x → (∀ j, j < i → ∀ y : Look, (redC s H sum day)[j]? = some y → y.code = 0) → Look.ok W x := by
    intro i x hx hz
    match i, hx with
    | 0, hx => cases hx; exact unl_look (B 4 _ _ rfl) (B 3 _ _ rfl) Ent50 fun v hv => right_rd 0 sum day v (H + 1) (H + 2) (hsu.c0 hv) (hat.c0 hv)
    | 1, hx =>
      cases hx
      have h0 := hz 0 (by omega) _ rfl
      have hr : right sum day = true := by
        cases h : right sum day
        · simp [h] at h0
        · rfl
      have hr' := right_iff.1 hr
      exact unl_look (B 6 _ _ rfl) (B 5 _ _ rfl) Ent51 fun v hv => rd2_any s g c d C D v (hd v hv) ok (by omega) H (H + 1) sum (hs.c0 hv) (hsu.c0 hv) hr'.1.1 hr'.1.2
    | 2, hx => cases hx; exact unl_look (b := true) (B 8 _ _ rfl) (B 7 _ _ rfl) Ent52 fun v hv => rd3_any s g c d C D v (hd v hv) H (hs.c0 hv) hdl
  have hrd : Reads W W.heap.size 1 (some ⟨H + 9, 0, none⟩) (redC s H sum day).length ((redC s H sum day).map Look.val) := by
    refine ⟨rfl, fun _ => ⟨_, rfl, by rw [sz]; simp [redL], fun j u hu => ?_⟩⟩
    have hb := B 9 _ _ rfl
    have h0 : (⟨H + 9, 0, none⟩ : Addr).add j = ⟨H + 9, j, none⟩ := by unfold Addr.add; split <;> simp_all
    rw [h0, hb.cell j]
    simpa [redC, Look.val] using hu
  exact first_any (redC s H sum day) (some ⟨H + 9, 0, none⟩) 3 W hrd (by unfold maxLen; show 3 ≤ _; omega) key
set_option maxRecDepth 100000 in
set_option maxHeartbeats 8000000 in
theorem reduce_any (s : Sur) (g : Nat) (w : World) (O : Nat → Prop) (h : At O w g s) {K : Nat} (ok : s.ok K) (hK : K < 4096) (sum day : Int) :
    Calls Try.prog 22 #[.pointer (some ⟨g, 0, none⟩), .int .i64 sum, .int .i64 day] w fun e w' => e = .returned (.int .i64 (s.reduce sum day).2) ∧
      ∃ O', At O' w' g (s.reduce sum day).1 ∧ Chg O w w' ∧ ∀ k, O' k → O k ∨ w.heap.size ≤ k := by
  obtain ⟨C, c, D, d, sa, o1, o2, o3⟩ := h
  have HC := Lib.hid (red_first s g c d C D w sa ok hK sum day)
  have HB := Lib.hid (allocs_below w (redL w.heap.size g sum day))
  have HS := Lib.hid (allocs_blk w (redL w.heap.size g sum day) 0 _ _ rfl)
  have HSU := Lib.hid (allocs_blk w (redL w.heap.size g sum day) 1 _ _ rfl)
  have HAT := Lib.hid (allocs_blk w (redL w.heap.size g sum day) 2 _ _ rfl)
  have hdl : s.cuts.length < 4096 := by have := ok.cl; omega
  have SA0 := Lib.hid sa
  simp only [allocs, redL, ptrB, capU, Nat.add_zero] at HC HB HS HSU HAT
  by_cases hz : (s.reduce sum day).2 = 0
  · have e2 : s.reduce sum day = (({ s with cuts := s.cuts ++ [(⟨day, sum⟩ : Cut)] } : Sur), (0 : Int)) := by
      unfold Sur.reduce at hz ⊢
      split at hz
      · cases hz
      split at hz
      · cases hz
      · rename_i h1 h2
        rw [if_neg h1, if_neg h2]
    rw [e2]
    rw [hz] at HC
    obtain ⟨i0, hi, hz0, hz1, hz2⟩ := info_parts info48
    have HI := Lib.hid hi
    have Z0 := Lib.hid hz0
    have Z1 := Lib.hid hz1
    have Z2 := Lib.hid hz2
    clear sa e2 hz hi hz0 hz1 hz2 ok
    go_enter Try.func22, Try.ntmps22
    go_wp2_with fail
    iterate 3
      refine (unless_any _ _ _ _).mono ?_
      rintro e w' ⟨rfl, rfl⟩
      go_wp2_with fail
    refine HC.out.mono ?_
    rintro e w1 ⟨rfl, hb⟩
    have HB1 := Lib.hid (below_trans HB.out hb)
    have SA1 := Lib.hid (SA0.out.below HB1.out)
    have k1 := HS.out.c0 hb
    have k2 : w1.cell? ⟨w.heap.size + 1, 0, none⟩ = some (.int .i64 sum) := HSU.out.c0 hb
    have k3 : w1.cell? ⟨w.heap.size + 1 + 1, 0, none⟩ = some (.int .i64 day) := HAT.out.c0 hb
    have l1 := (HS.out.below hb HS.out.lt).lt
    have l2 : w.heap.size + 1 < w1.heap.size := (HSU.out.below hb HSU.out.lt).lt
    have l3 : w.heap.size + 1 + 1 < w1.heap.size := (HAT.out.below hb HAT.out.lt).lt
    have n1 : ¬ blockOf C w.heap.size := SA1.out.rc.blk_ne (HS.out.below hb HS.out.lt) (by decide)
    have n2 : ¬ blockOf C (w.heap.size + 1) := SA1.out.rc.blk_ne (HSU.out.below hb HSU.out.lt) (by decide)
    have n3 : ¬ blockOf C (w.heap.size + 1 + 1) := SA1.out.rc.blk_ne (HAT.out.below hb HAT.out.lt) (by decide)
    have ng : ¬ blockOf C g := SA1.out.rc.blk_ne SA1.out.box (by decide)
    have c9 := SA1.out.cellC
    have f9 := SA1.out.box.frozen 8
    have lg := SA1.out.box.lt
    have hrow := SA1.out.rc
    clear hb HC HB HS HSU HAT
    go_upto_region 3 with fail
    generalize hHe : w.heap.size = H at *
    have HH := Lib.hid hHe
    clear hHe
    refine region_Z (z := 12) (S := fun v => v.cell? ⟨H, 0, none⟩ = some (.pointer (some ⟨g, 0, none⟩)) ∧ v.cell? ⟨H + 1, 0, none⟩ = some (.int .i64 sum) ∧ v.cell? ⟨H + 1 + 1, 0, none⟩ = some (.int .i64 day) ∧ v.cell? ⟨g, 8, none⟩ = some (.slice C s.cuts.length c)) (by kernel_rfl) ?_
    have hS : (w1.drew.cell? ⟨H, 0, none⟩ = some (.pointer (some ⟨g, 0, none⟩)) ∧ w1.drew.cell? ⟨H + 1, 0, none⟩ = some (.int .i64 sum) ∧ w1.drew.cell? ⟨H + 1 + 1, 0, none⟩ = some (.int .i64 day) ∧ w1.drew.cell? ⟨g, 8, none⟩ = some (.slice C s.cuts.length c)) := ⟨k1, k2, k3, c9⟩
    show AnyZ _ _ _ _ _ _ 13 (List.replicate 13 false).toArray _ _
    refine AnyZ.take (i := 0) (v := ?_) rfl (by kernel_rfl) (by kernel_rfl) (by kernel_rfl) (by kernel_rfl) (by kernel_rfl) (fun _ _ _ h => h) (by rfl) (fun v hv => ?_) hS ?_
    rotate_left
    · obtain ⟨s1, s2, s3, s4⟩ := hv
      go_simp
      try with_reducible rfl
    try simp only [Act.put, List.setIfInBounds_toArray, List.set_cons_zero, List.set_cons_succ]
    refine AnyZ.take (i := 1) (v := ?_) rfl (by kernel_rfl) (by kernel_rfl) (by kernel_rfl) (by kernel_rfl) (by kernel_rfl) (fun _ _ _ h => h) (by rfl) (fun v hv => ?_) hS ?_
    rotate_left
    · obtain ⟨s1, s2, s3, s4⟩ := hv
      go_simp
      try with_reducible rfl
    try simp only [Act.put, List.setIfInBounds_toArray, List.set_cons_zero, List.set_cons_succ]
    refine AnyZ.take (i := 2) (v := ?_) rfl (by kernel_rfl) (by kernel_rfl) (by kernel_rfl) (by kernel_rfl) (by kernel_rfl) (fun _ _ _ h => h) (by rfl) (fun v hv => ?_) hS ?_
    rotate_left
    · obtain ⟨s1, s2, s3, s4⟩ := hv
      go_simp
      try with_reducible rfl
    try simp only [Act.put, List.setIfInBounds_toArray, List.set_cons_zero, List.set_cons_succ]
    refine AnyZ.take (i := 3) (v := ?_) rfl (by kernel_rfl) (by kernel_rfl) (by kernel_rfl) (by kernel_rfl) (by kernel_rfl) (fun _ _ _ h => h) (by rfl) (fun v hv => ?_) hS ?_
    rotate_left
    · obtain ⟨s1, s2, s3, s4⟩ := hv
      go_simp
      try with_reducible rfl
    try simp only [Act.put, List.setIfInBounds_toArray, List.set_cons_zero, List.set_cons_succ]
    refine AnyZ.take (i := 4) (v := ?_) rfl (by kernel_rfl) (by kernel_rfl) (by kernel_rfl) (by kernel_rfl) (by kernel_rfl) (fun _ _ _ h => h) (by rfl) (fun v hv => ?_) hS ?_
    rotate_left
    · obtain ⟨s1, s2, s3, s4⟩ := hv
      go_simp
      try with_reducible rfl
    try simp only [Act.put, List.setIfInBounds_toArray, List.set_cons_zero, List.set_cons_succ]
    refine AnyZ.take (i := 5) (v := ?_) rfl (by kernel_rfl) (by kernel_rfl) (by kernel_rfl) (by kernel_rfl) (by kernel_rfl) (fun _ _ _ h => h) (by rfl) (fun v hv => ?_) hS ?_
    rotate_left
    · obtain ⟨s1, s2, s3, s4⟩ := hv
      go_simp
      try with_reducible rfl
    try simp only [Act.put, List.setIfInBounds_toArray, List.set_cons_zero, List.set_cons_succ]
    refine AnyZ.take (i := 6) (v := ?_) rfl (by kernel_rfl) (by kernel_rfl) (by kernel_rfl) (by kernel_rfl) (by kernel_rfl) (fun _ _ _ h => h) (by rfl) (fun v hv => ?_) hS ?_
    rotate_left
    · obtain ⟨s1, s2, s3, s4⟩ := hv
      go_simp
      try with_reducible rfl
    try simp only [Act.put, List.setIfInBounds_toArray, List.set_cons_zero, List.set_cons_succ]
    refine AnyZ.take (i := 7) (v := ?_) rfl (by kernel_rfl) (by kernel_rfl) (by kernel_rfl) (by kernel_rfl) (by kernel_rfl) (fun _ _ _ h => h) (by rfl) (fun v hv => ?_) hS ?_
    rotate_left
    · obtain ⟨s1, s2, s3, s4⟩ := hv
      go_simp
      try with_reducible rfl
    try simp only [Act.put, List.setIfInBounds_toArray, List.set_cons_zero, List.set_cons_succ]
    refine AnyZ.one (i := 8) (by kernel_rfl) rfl (by rfl) fun K9 hK9 => ?_
    go_simp
    refine hK9.out _ _ (.inr ⟨by go_simp, by go_simp, by go_simp, by go_simp⟩) fun _ => ?_
    try simp only [Act.put, List.setIfInBounds_toArray, List.set_cons_zero, List.set_cons_succ]
    refine AnyZ.one (i := 9) (by kernel_rfl) rfl (by rfl) fun K10 hK10 => ?_
    refine wp_append_row _ (.tmp 22) (.tmp 26) 32 (by rfl) 0 48 i0 (.agg #[.int .i64 0, .int .i64 0]) 2 16 Try.underlying32 HI.out Z0.out Z1.out Z2.out rfl (by decide) C s.cuts.length c (flatC s.cuts) (by rfl) (hrow.drew.alloc _) (by simp) ⟨w1.heap.size, 0, none⟩ 1 1 (by omega) (flatC [⟨day, sum⟩]) (by rfl) ((lit_readsN w1.drew #[.int .i64 day, .int .i64 sum] 48 _ 2 1 _ (by simp) rfl rfl).more (by simp)) (flatF_one cut_one _) (by unfold maxLen; omega) (by omega) ?_
    intro A' c' w2 hown1 hg1 hfr
    have d9 : w2.cell? ⟨g, 8, none⟩ = some (.slice C s.cuts.length c) := (hg1.cell (a := ⟨g, 8, none⟩) (by simp; omega) ng).trans (by go_simp)
    have k1' : w2.cell? ⟨H, 0, none⟩ = some (.pointer (some ⟨g, 0, none⟩)) := (hg1.cell (a := ⟨H, 0, none⟩) (by simp; omega) n1).trans (by go_simp)
    have k2' : w2.cell? ⟨H + 1, 0, none⟩ = some (.int .i64 sum) := (hg1.cell (a := ⟨H + 1, 0, none⟩) (by simp; omega) n2).trans (by go_simp)
    have k3' : w2.cell? ⟨H + 1 + 1, 0, none⟩ = some (.int .i64 day) := (hg1.cell (a := ⟨H + 1 + 1, 0, none⟩) (by simp; omega) n3).trans (by go_simp)
    have f0' : w2.frozen? ⟨g, 8, none⟩ = false := (hg1.frozen (a := ⟨g, 8, none⟩) (by simp; omega) ng).trans (by go_simp)
    obtain ⟨O', q1, q2, q3⟩ := SA1.out.cutMore (x := ⟨day, sum⟩) o1 o2 o3 (((Below.refl _ _).drew).alloc (Nat.le_refl _) (.cells #[.int .i64 day, .int .i64 sum] 48)) hown1 hg1 hfr
    have HQ1 := Lib.hid q1
    have HQ2 := Lib.hid q2
    have HQ3 := Lib.hid q3
    clear q1 q2 q3
    have lg2 := lt_of_cell d9
    have lh2 := lt_of_cell k1'
    have HS2 := Lib.hid (show _ ∧ _ ∧ _ ∧ _ from ⟨k1', k2', k3', d9⟩)
    refine hK10.out _ _ (.inr ⟨k1', k2', k3', d9⟩) fun _ => ?_
    try simp only [Act.put, List.setIfInBounds_toArray, List.set_cons_zero, List.set_cons_succ]
    refine AnyZ.take (i := 10) (v := ?_) rfl (by kernel_rfl) (by kernel_rfl) (by kernel_rfl) (by kernel_rfl) (by kernel_rfl) (fun _ _ _ h => h) (by rfl) (fun v hv => ?_) HS2.out ?_
    rotate_left
    · obtain ⟨s1, s2, s3, s4⟩ := hv
      go_simp
      try with_reducible rfl
    try simp only [Act.put, List.setIfInBounds_toArray, List.set_cons_zero, List.set_cons_succ]
    refine AnyZ.take (i := 11) (v := ?_) rfl (by kernel_rfl) (by kernel_rfl) (by kernel_rfl) (by kernel_rfl) (by kernel_rfl) (fun _ _ _ h => h) (by rfl) (fun v hv => ?_) HS2.out ?_
    rotate_left
    · obtain ⟨s1, s2, s3, s4⟩ := hv
      go_simp
      try with_reducible rfl
    try simp only [Act.put, List.setIfInBounds_toArray, List.set_cons_zero, List.set_cons_succ]
    refine AnyZ.one (i := 12) (by kernel_rfl) rfl (by rfl) fun K13 hK13 => ?_
    go_simp
    refine hK13.out _ _ (.inl rfl) fun _ => ?_
    refine AnyZ.done (by kernel_rfl) ?_ _
    clear hown1 hg1 hfr HS2
    obtain ⟨w3, hw3⟩ : ∃ w3, w3 = w2.setCell ⟨g, 8, none⟩ (.slice A' (s.cuts.length + 1) c') := ⟨_, rfl⟩
    rw [← hw3] at HQ1 HQ2 ⊢
    clear hw3 d9 k1' k2' k3' f0' k1 k2 k3 c9 f9 lg hrow ng n1 n2 n3 l1 l2 l3
    go_wp2_with fail
    go_ret
    exact ⟨rfl, O', HQ1.out, (Chg.of_below (HH.out ▸ HB1.out)).trans HQ2.out, fun k hk => (HQ3.out k hk).imp id fun h => Nat.le_trans HB1.out.size h⟩
  · have e1 : (s.reduce sum day).1 = s := by
      unfold Sur.reduce at hz ⊢
      split
      · rfl
      split
      · rfl
      · rename_i h1 h2
        rw [if_neg h1, if_neg h2] at hz
        exact absurd rfl hz
    rw [e1]
    generalize (s.reduce sum day).2 = z at *
    have hz' : (z == 0) = false := by simpa using hz
    clear sa e1 hz ok
    go_enter Try.func22, Try.ntmps22
    go_wp2_with fail
    iterate 3
      refine (unless_any _ _ _ _).mono ?_
      rintro e w' ⟨rfl, rfl⟩
      go_wp2_with fail
    refine HC.out.mono ?_
    rintro e w1 ⟨rfl, hb⟩
    have HB1 := Lib.hid (below_trans HB.out hb)
    clear hb HC
    go_wp2_with fail
    go_ret
    exact ⟨rfl, O, ⟨C, c, D, d, SA0.out.below HB1.out, o1, o2, o3⟩, Chg.of_below HB1.out, fun k hk => .inl hk⟩
end Go.Proofs.Ytlmlepdmgopojaa
