/- The walk of Demand. Condition: where the surety lies. -/
import Derived.Test.YtlmlepdmgopojaaSink
namespace Go.Proofs.Ytlmlepdmgopojaa
open Go.RowKit
set_option linter.unusedVariables false
set_option linter.unusedSimpArgs false
theorem Row.blk_of {w : World} {B e size n c k : Nat} {A : Option Addr} {xs : List Value} (h : Row w B e size A n c xs) (hk : blockOf A k) : ∃ cur, Blk w k e cur := by
  obtain ⟨a, rfl, rfl⟩ := hk
  rcases h.2 with ⟨h0, _⟩ | ⟨r, cur, hA, _, hh, _⟩
  · cases h0
  · cases hA
    exact ⟨cur, hh⟩
theorem Row.apart {w : World} {B e size n c B' e' size' n' c' k : Nat} {A A' : Option Addr} {xs xs' : List Value} (h : Row w B e size A n c xs) (h' : Row w B' e' size' A' n' c' xs') (hne : e ≠ e') (hk : blockOf A k) : ¬ blockOf A' k := fun hk' => by
  obtain ⟨cur, hb⟩ := h.blk_of hk
  obtain ⟨cur', hb'⟩ := h'.blk_of hk'
  exact Blk.ne_ hb hb' hne rfl
theorem info67 : (Try.prog.info? 67).map (fun i => (i.zero, i.size, i.bytes)) = some (some (.agg #[.int .i64 0, .int .i64 0, .int .i64 0]), 3, 24) := by kernel_rfl
/-- one demand more -/
theorem SA.grow {w w1 w2 : World} {g c d c' : Nat} {s : Sur} {C D A' : Option Addr} {x : Dem} {O : Nat → Prop} (h : SA w g s C c D d) (o1 : O g) (o2 : ∀ k, blockOf D k → O k) (o3 : ∀ k, blockOf C k → O k) (hW : Below w.heap.size w w1)
    (hrow : Row w2 0 67 3 A' (s.dem.length + 1) c' (flatD s.dem ++ flatD [x])) (hc : Chg (blockOf D) w1 w2) (hfr : A' = D ∨ ∀ k, blockOf A' k → w1.heap.size ≤ k) :
    ∃ O', At O' (w2.setCell ⟨g, 9, none⟩ (.slice A' (s.dem.length + 1) c')) g { s with dem := s.dem ++ [x] } ∧ Chg O w (w2.setCell ⟨g, 9, none⟩ (.slice A' (s.dem.length + 1) c')) ∧ ∀ k, O' k → O k ∨ w.heap.size ≤ k := by
  have h1 := h.below hW
  have hD : ¬ blockOf D g := h1.rd.blk_ne h1.box (by decide)
  have hg2 := hc.blk h1.box hD
  have hA : ¬ blockOf A' g := hrow.blk_ne hg2 (by decide)
  have hC : ¬ blockOf C g := h1.rc.blk_ne h1.box (by decide)
  have hl : (s.dem ++ [x]).length = s.dem.length + 1 := by simp
  have e : flatD s.dem ++ flatD [x] = flatD (s.dem ++ [x]) := (flatF_append _ _).symm
  rw [e] at hrow
  refine ⟨fun k => O k ∨ blockOf A' k, ⟨C, c, A', c', ⟨?_, ?_, ?_⟩, .inl o1, fun k hk => .inr hk, fun k hk => .inl (o3 k hk)⟩, ?_, ?_⟩
  · have := hg2.set_ 9 (.slice A' (s.dem.length + 1) c')
    unfold Sur.cells at this ⊢
    simp only [hl]
    simpa using this
  · simp only [hl]
    exact hrow.setCell (p := ⟨g, 9, none⟩) hA _
  · exact (h1.rc.chg hc fun k hk => h1.rc.apart h1.rd (by decide) hk).setCell (p := ⟨g, 9, none⟩) hC _
  · exact (((Chg.of_below hW).trans (hc.mono fun k _ hk => o2 k hk)).setCell (p := ⟨g, 9, none⟩) (.inl o1) _)
  · intro k hk
    rcases hk with hk | hk
    · exact .inl hk
    · rcases hfr with rfl | hf
      · exact .inl (o2 k hk)
      · exact .inr (Nat.le_trans hW.size (hf k hk))
/-- the two variables of a function value that unless makes -/
def capU (H i : Nat) : Array Value := #[.pointer (some ⟨H + (i + 1), 0, none⟩), .pointer (some ⟨H + i, 0, none⟩)]
def ptrB (H i : Nat) : Value := .pointer (some ⟨H + i, 0, none⟩)
/-- the blocks that Demand lays ahead of its first -/
def demL (H g : Nat) (by_ : ByteArray) (sum day : Int) : List (Array Value × TypeId) := [(#[.pointer (some ⟨g, 0, none⟩)], 28), (#[.string by_], 9), (#[.int .i64 sum], 2), (#[.int .i64 day], 3),
    (#[.int .i64 8], 29), (#[.func (.func 32) #[] #[ptrB H 1, ptrB H 0]], 26), (#[.int .i64 3], 29), (#[.func (.func 33) #[] #[ptrB H 2, ptrB H 3]], 26), (#[.int .i64 11], 29), (#[.func (.func 34) #[] #[ptrB H 3, ptrB H 0]], 26),
    (#[.int .i64 10], 29), (#[.func (.func 35) #[] #[ptrB H 2, ptrB H 0, ptrB H 3]], 26), (#[.int .i64 7], 29), (#[.func (.func 36) #[] #[ptrB H 0]], 26),
    (#[.func (.func 59) #[] (capU H 4), .func (.func 59) #[] (capU H 6), .func (.func 59) #[] (capU H 8), .func (.func 59) #[] (capU H 10), .func (.func 59) #[] (capU H 12)], 70)]
def demC (s : Sur) (H : Nat) (by_ : ByteArray) (sum day : Int) : List Look := [⟨59, capU H 4, if eqS by_ s.b.to_ then 0 else 8⟩, ⟨59, capU H 6, if right sum day then 0 else 3⟩, ⟨59, capU H 8, if decide (day ≤ s.exp) then 0 else 11⟩, ⟨59, capU H 10, if decide (sum ≤ s.left day) then 0 else 10⟩, ⟨59, capU H 12, if true then 0 else 7⟩]
theorem demC_first (s : Sur) (H : Nat) (by_ : ByteArray) (sum day : Int) : firstC (demC s H by_ sum day) = (s.demand by_ sum day).2.2 := by
  unfold Sur.demand demC
  cases h1 : eqS by_ s.b.to_
  · simp [firstC]
  cases h2 : right sum day
  · simp [firstC]
  by_cases h3 : day ≤ s.exp
  · by_cases h4 : sum ≤ s.left day
    · simp [firstC, h3, h4, show ¬ s.exp < day by omega, show ¬ s.left day < sum by omega]
    · simp [firstC, h3, h4, show ¬ s.exp < day by omega, show s.left day < sum by omega]
  · simp [firstC, h3, show s.exp < day by omega]
theorem dem_first (s : Sur) (g c d : Nat) (C D : Option Addr) (w : World) (sa : SA w g s C c D d) {K : Nat} (ok : s.ok K) (hK : K < 4096) (by_ : ByteArray) (sum day : Int) :
    Calls Try.prog 30 #[.slice (some ⟨w.heap.size + 14, 0, none⟩) 5 5] (allocs w (demL w.heap.size g by_ sum day)) fun e w' => e = .returned (.int .i64 (s.demand by_ sum day).2.2) ∧ Below (allocs w (demL w.heap.size g by_ sum day)).heap.size (allocs w (demL w.heap.size g by_ sum day)) w' := by
  have hb := allocs_below w (demL w.heap.size g by_ sum day)
  have B := allocs_blk w (demL w.heap.size g by_ sum day)
  have sz := allocs_size w (demL w.heap.size g by_ sum day)
  rw [← demC_first s w.heap.size by_ sum day]
  generalize allocs w (demL w.heap.size g by_ sum day) = W at *
  generalize hH : w.heap.size = H at *
  have hs := B 0 _ _ rfl
  have hby := B 1 _ _ rfl
  have hsu := B 2 _ _ rfl
  have hat := B 3 _ _ rfl
  have hdl : s.dem.length < 4096 := by have := ok.dl; omega
  have hd : ∀ v, Below W.heap.size W v → SA v g s C c D d := fun v hv => sa.below (by rw [← hH] at hb; exact below_trans hb hv)
  have key : ∀ (i : Nat) (x : Look), (demC s H by_ sum day)[i]? = some x → (∀ j, j < i → ∀ y : Look, (demC s H by_ sum day)[j]? = some y → y.code = 0) → Look.ok W x := by
    intro i x hx _
    match i, hx with
    | 0, hx => cases hx; exact unl_look (B 5 _ _ rfl) (B 4 _ _ rfl) Ent32 fun v hv => dem1_any s g c d C D v (hd v hv) (H + 1) H by_ (hby.c0 hv) (hs.c0 hv)
    | 1, hx => cases hx; exact unl_look (B 7 _ _ rfl) (B 6 _ _ rfl) Ent33 fun v hv => right_dem 0 sum day v (H + 2) (H + 3) (hsu.c0 hv) (hat.c0 hv)
    | 2, hx => cases hx; exact unl_look (B 9 _ _ rfl) (B 8 _ _ rfl) Ent34 fun v hv => dem3_any s g c d C D v (hd v hv) (H + 3) H day (hat.c0 hv) (hs.c0 hv)
    | 3, hx => cases hx; exact unl_look (B 11 _ _ rfl) (B 10 _ _ rfl) Ent35 fun v hv => dem4_any s g c d C D v (hd v hv) ok (by omega) (H + 2) H (H + 3) sum day (hsu.c0 hv) (hs.c0 hv) (hat.c0 hv)
    | 4, hx => cases hx; exact unl_look (b := true) (B 13 _ _ rfl) (B 12 _ _ rfl) Ent36 fun v hv => dem5_any s g c d C D v (hd v hv) H (hs.c0 hv) hdl
  have hrd : Reads W W.heap.size 1 (some ⟨H + 14, 0, none⟩) (demC s H by_ sum day).length ((demC s H by_ sum day).map Look.val) := by
    refine ⟨rfl, fun _ => ⟨_, rfl, by rw [sz]; simp [demL], fun j u hu => ?_⟩⟩
    have hb := B 14 _ _ rfl
    have h0 : (⟨H + 14, 0, none⟩ : Addr).add j = ⟨H + 14, j, none⟩ := by unfold Addr.add; split <;> simp_all
    rw [h0, hb.cell j]
    simpa [demC, Look.val] using hu
  exact first_any (demC s H by_ sum day) (some ⟨H + 14, 0, none⟩) 5 W hrd (by unfold maxLen; show 5 ≤ _; omega) key
set_option maxRecDepth 100000 in
set_option maxHeartbeats 8000000 in
theorem demand_any (s : Sur) (g : Nat) (w : World) (O : Nat → Prop) (h : At O w g s) {K : Nat} (ok : s.ok K) (hK : K < 4096) (by_ : ByteArray) (sum day : Int) :
    Calls Try.prog 14 #[.pointer (some ⟨g, 0, none⟩), .string by_, .int .i64 sum, .int .i64 day] w fun e w' => e = .returned (.tuple #[.int .i64 (s.demand by_ sum day).2.1, .int .i64 (s.demand by_ sum day).2.2]) ∧
      ∃ O', At O' w' g (s.demand by_ sum day).1 ∧ Chg O w w' ∧ ∀ k, O' k → O k ∨ w.heap.size ≤ k := by
  obtain ⟨C, c, D, d, sa, o1, o2, o3⟩ := h
  have HC := Lib.hid (dem_first s g c d C D w sa ok hK by_ sum day)
  have HB := Lib.hid (allocs_below w (demL w.heap.size g by_ sum day))
  have HS := Lib.hid (allocs_blk w (demL w.heap.size g by_ sum day) 0 _ _ rfl)
  have HSU := Lib.hid (allocs_blk w (demL w.heap.size g by_ sum day) 2 _ _ rfl)
  have HAT := Lib.hid (allocs_blk w (demL w.heap.size g by_ sum day) 3 _ _ rfl)
  have hdl : s.dem.length < 4096 := by have := ok.dl; omega
  have SA0 := Lib.hid sa
  simp only [allocs, demL, ptrB, capU, Nat.add_zero] at HC HB HS HSU HAT
  by_cases hz : (s.demand by_ sum day).2.2 = 0
  · have e2 : s.demand by_ sum day = (({ s with dem := s.dem ++ [(⟨day, sum, 0⟩ : Dem)] } : Sur), (s.dem.length : Int), (0 : Int)) := by
      unfold Sur.demand at hz ⊢
      split at hz
      · cases hz
      split at hz
      · cases hz
      split at hz
      · cases hz
      split at hz
      · cases hz
      · rename_i h1 h2 h3 h4
        rw [if_neg h1, if_neg h2, if_neg h3, if_neg h4]
    rw [e2]
    rw [hz] at HC
    obtain ⟨i0, hi, hz0, hz1, hz2⟩ := info_parts info67
    have HI := Lib.hid hi
    have Z0 := Lib.hid hz0
    have Z1 := Lib.hid hz1
    have Z2 := Lib.hid hz2
    have W1 : IntKind.i64.wrap (((s.dem.length + 1 : Nat) : Int) - 1) = (s.dem.length : Int) := by rw [show ((s.dem.length + 1 : Nat) : Int) - 1 = (s.dem.length : Int) by omega]; exact IntWalk.i64_in _ (by omega)
    clear sa e2 hz hi hz0 hz1 hz2 ok
    go_enter Try.func14, Try.ntmps14
    go_wp2_with fail
    iterate 5
      refine (unless_any _ _ _ _).mono ?_
      rintro e w' ⟨rfl, rfl⟩
      go_wp2_with fail
    refine HC.out.mono ?_
    rintro e w1 ⟨rfl, hb⟩
    have HB1 := Lib.hid (below_trans HB.out hb)
    have SA1 := Lib.hid (SA0.out.below HB1.out)
    have k1 := HS.out.c0 hb
    have k2 : w1.cell? ⟨w.heap.size + 1 + 1, 0, none⟩ = some (.int .i64 sum) := HSU.out.c0 hb
    have k3 : w1.cell? ⟨w.heap.size + 1 + 1 + 1, 0, none⟩ = some (.int .i64 day) := HAT.out.c0 hb
    have l1 := (HS.out.below hb HS.out.lt).lt
    have l2 : w.heap.size + 1 + 1 < w1.heap.size := (HSU.out.below hb HSU.out.lt).lt
    have l3 : w.heap.size + 1 + 1 + 1 < w1.heap.size := (HAT.out.below hb HAT.out.lt).lt
    have n1 : ¬ blockOf D w.heap.size := SA1.out.rd.blk_ne (HS.out.below hb HS.out.lt) (by decide)
    have n2 : ¬ blockOf D (w.heap.size + 1 + 1) := SA1.out.rd.blk_ne (HSU.out.below hb HSU.out.lt) (by decide)
    have n3 : ¬ blockOf D (w.heap.size + 1 + 1 + 1) := SA1.out.rd.blk_ne (HAT.out.below hb HAT.out.lt) (by decide)
    have ng : ¬ blockOf D g := SA1.out.rd.blk_ne SA1.out.box (by decide)
    have c9 := SA1.out.cellD
    have f9 := SA1.out.box.frozen 9
    have lg := SA1.out.box.lt
    have hrow := SA1.out.rd

    have HNE : Hid (g ≠ w.heap.size) := fun e => by have := SA1.out.box.ne_ (HS.out.below hb HS.out.lt) (by decide); exact this e
    have HNE : Hid (g ≠ w.heap.size) := fun e => by have := SA1.out.box.ne_ (HS.out.below hb HS.out.lt) (by decide); exact this e
    clear hb HC HB HS HSU HAT
    go_upto_region 4 with fail
    generalize hHe : w.heap.size = H at *
    have HH := Lib.hid hHe
    clear hHe
    refine region_Z (z := 13) (S := fun v => v.cell? ⟨H, 0, none⟩ = some (.pointer (some ⟨g, 0, none⟩)) ∧ v.cell? ⟨H + 1 + 1, 0, none⟩ = some (.int .i64 sum) ∧ v.cell? ⟨H + 1 + 1 + 1, 0, none⟩ = some (.int .i64 day) ∧ v.cell? ⟨g, 9, none⟩ = some (.slice D s.dem.length d)) (by kernel_rfl) ?_
    have hS : (w1.drew.cell? ⟨H, 0, none⟩ = some (.pointer (some ⟨g, 0, none⟩)) ∧ w1.drew.cell? ⟨H + 1 + 1, 0, none⟩ = some (.int .i64 sum) ∧ w1.drew.cell? ⟨H + 1 + 1 + 1, 0, none⟩ = some (.int .i64 day) ∧ w1.drew.cell? ⟨g, 9, none⟩ = some (.slice D s.dem.length d)) := ⟨k1, k2, k3, c9⟩
    show AnyZ _ _ _ _ _ _ 14 (List.replicate 14 false).toArray _ _
    refine AnyZ.take (i := 0) (v := ?_) rfl (by kernel_rfl) (by kernel_rfl) (by kernel_rfl) (by kernel_rfl) (by kernel_rfl) (fun _ _ _ h => h) (by rfl) (fun v hv => ?_) hS ?_
    rotate_left
    · obtain ⟨s1, s2, s3, s4⟩ := hv
      go_simp
      try with_reducible rfl
    try simp only [Act.put, List.setIfInBounds_toArray, List.set_cons_zero, List.set_cons_succ]
    refine AnyZ.take (i := 1) (v := ?_) rfl (by kernel_rfl) (by kernel_rfl) (by kernel_rfl) (by kernel_rfl) (by kernel_rfl) (fun _ _ _ h => h) (by rfl) (fun v hv => ?_) hS ?_
    rotate_left
    · obtain ⟨s1, s2, s3, s4⟩ := hv
      go_simp
      try with_reducible rfl
    try simp only [Act.put, List.setIfInBounds_toArray, List.set_cons_zero, List.set_cons_succ]
    refine AnyZ.take (i := 2) (v := ?_) rfl (by kernel_rfl) (by kernel_rfl) (by kernel_rfl) (by kernel_rfl) (by kernel_rfl) (fun _ _ _ h => h) (by rfl) (fun v hv => ?_) hS ?_
    rotate_left
    · obtain ⟨s1, s2, s3, s4⟩ := hv
      go_simp
      try with_reducible rfl
    try simp only [Act.put, List.setIfInBounds_toArray, List.set_cons_zero, List.set_cons_succ]
    refine AnyZ.take (i := 3) (v := ?_) rfl (by kernel_rfl) (by kernel_rfl) (by kernel_rfl) (by kernel_rfl) (by kernel_rfl) (fun _ _ _ h => h) (by rfl) (fun v hv => ?_) hS ?_
    rotate_left
    · obtain ⟨s1, s2, s3, s4⟩ := hv
      go_simp
      try with_reducible rfl
    try simp only [Act.put, List.setIfInBounds_toArray, List.set_cons_zero, List.set_cons_succ]
    refine AnyZ.take (i := 4) (v := ?_) rfl (by kernel_rfl) (by kernel_rfl) (by kernel_rfl) (by kernel_rfl) (by kernel_rfl) (fun _ _ _ h => h) (by rfl) (fun v hv => ?_) hS ?_
    rotate_left
    · obtain ⟨s1, s2, s3, s4⟩ := hv
      go_simp
      try with_reducible rfl
    try simp only [Act.put, List.setIfInBounds_toArray, List.set_cons_zero, List.set_cons_succ]
    refine AnyZ.take (i := 5) (v := ?_) rfl (by kernel_rfl) (by kernel_rfl) (by kernel_rfl) (by kernel_rfl) (by kernel_rfl) (fun _ _ _ h => h) (by rfl) (fun v hv => ?_) hS ?_
    rotate_left
    · obtain ⟨s1, s2, s3, s4⟩ := hv
      go_simp
      try with_reducible rfl
    try simp only [Act.put, List.setIfInBounds_toArray, List.set_cons_zero, List.set_cons_succ]
    refine AnyZ.take (i := 6) (v := ?_) rfl (by kernel_rfl) (by kernel_rfl) (by kernel_rfl) (by kernel_rfl) (by kernel_rfl) (fun _ _ _ h => h) (by rfl) (fun v hv => ?_) hS ?_
    rotate_left
    · obtain ⟨s1, s2, s3, s4⟩ := hv
      go_simp
      try with_reducible rfl
    try simp only [Act.put, List.setIfInBounds_toArray, List.set_cons_zero, List.set_cons_succ]
    refine AnyZ.take (i := 7) (v := ?_) rfl (by kernel_rfl) (by kernel_rfl) (by kernel_rfl) (by kernel_rfl) (by kernel_rfl) (fun _ _ _ h => h) (by rfl) (fun v hv => ?_) hS ?_
    rotate_left
    · obtain ⟨s1, s2, s3, s4⟩ := hv
      go_simp
      try with_reducible rfl
    try simp only [Act.put, List.setIfInBounds_toArray, List.set_cons_zero, List.set_cons_succ]
    refine AnyZ.take (i := 8) (v := ?_) rfl (by kernel_rfl) (by kernel_rfl) (by kernel_rfl) (by kernel_rfl) (by kernel_rfl) (fun _ _ _ h => h) (by rfl) (fun v hv => ?_) hS ?_
    rotate_left
    · obtain ⟨s1, s2, s3, s4⟩ := hv
      go_simp
      try with_reducible rfl
    try simp only [Act.put, List.setIfInBounds_toArray, List.set_cons_zero, List.set_cons_succ]
    refine AnyZ.one (i := 9) (by kernel_rfl) rfl (by rfl) fun K9 hK9 => ?_
    go_simp
    refine hK9.out _ _ (.inr ⟨by go_simp, by go_simp, by go_simp, by go_simp⟩) fun _ => ?_
    try simp only [Act.put, List.setIfInBounds_toArray, List.set_cons_zero, List.set_cons_succ]
    refine AnyZ.one (i := 10) (by kernel_rfl) rfl (by rfl) fun K10 hK10 => ?_
    refine wp_append_row _ (.tmp 30) (.tmp 35) 61 (by rfl) 0 67 i0 (.agg #[.int .i64 0, .int .i64 0, .int .i64 0]) 3 24 Try.underlying61 HI.out Z0.out Z1.out Z2.out rfl (by decide) D s.dem.length d (flatD s.dem) (by rfl) (hrow.drew.alloc _) (by simp) ⟨w1.heap.size, 0, none⟩ 1 1 (by omega) (flatD [⟨day, sum, 0⟩]) (by rfl) ((lit_readsN w1.drew #[.int .i64 day, .int .i64 sum, .int .i64 0] 67 _ 3 1 _ (by simp) rfl rfl).more (by simp)) (flatF_one dem_one _) (by unfold maxLen; omega) (by omega) ?_
    intro A' c' w2 hown1 hg1 hfr
    have d9 : w2.cell? ⟨g, 9, none⟩ = some (.slice D s.dem.length d) := (hg1.cell (a := ⟨g, 9, none⟩) (by simp; omega) ng).trans (by go_simp)
    have k1' : w2.cell? ⟨H, 0, none⟩ = some (.pointer (some ⟨g, 0, none⟩)) := (hg1.cell (a := ⟨H, 0, none⟩) (by simp; omega) n1).trans (by go_simp)
    have k2' : w2.cell? ⟨H + 1 + 1, 0, none⟩ = some (.int .i64 sum) := (hg1.cell (a := ⟨H + 1 + 1, 0, none⟩) (by simp; omega) n2).trans (by go_simp)
    have k3' : w2.cell? ⟨H + 1 + 1 + 1, 0, none⟩ = some (.int .i64 day) := (hg1.cell (a := ⟨H + 1 + 1 + 1, 0, none⟩) (by simp; omega) n3).trans (by go_simp)
    have f0' : w2.frozen? ⟨g, 9, none⟩ = false := (hg1.frozen (a := ⟨g, 9, none⟩) (by simp; omega) ng).trans (by go_simp)
    obtain ⟨O', q1, q2, q3⟩ := SA1.out.grow (x := ⟨day, sum, 0⟩) o1 o2 o3 (((Below.refl _ _).drew).alloc (Nat.le_refl _) (.cells #[.int .i64 day, .int .i64 sum, .int .i64 0] 67)) hown1 hg1 hfr
    have HQ1 := Lib.hid q1
    have HQ2 := Lib.hid q2
    have HQ3 := Lib.hid q3
    clear q1 q2 q3
    have lg2 := lt_of_cell d9
    have lh2 := lt_of_cell k1'
    have HS2 := Lib.hid (show _ ∧ _ ∧ _ ∧ _ from ⟨k1', k2', k3', d9⟩)
    refine hK10.out _ _ (.inr ⟨k1', k2', k3', d9⟩) fun _ => ?_
    try simp only [Act.put, List.setIfInBounds_toArray, List.set_cons_zero, List.set_cons_succ]
    refine AnyZ.take (i := 11) (v := ?_) rfl (by kernel_rfl) (by kernel_rfl) (by kernel_rfl) (by kernel_rfl) (by kernel_rfl) (fun _ _ _ h => h) (by rfl) (fun v hv => ?_) HS2.out ?_
    rotate_left
    · obtain ⟨s1, s2, s3, s4⟩ := hv
      go_simp
      try with_reducible rfl
    try simp only [Act.put, List.setIfInBounds_toArray, List.set_cons_zero, List.set_cons_succ]
    refine AnyZ.take (i := 12) (v := ?_) rfl (by kernel_rfl) (by kernel_rfl) (by kernel_rfl) (by kernel_rfl) (by kernel_rfl) (fun _ _ _ h => h) (by rfl) (fun v hv => ?_) HS2.out ?_
    rotate_left
    · obtain ⟨s1, s2, s3, s4⟩ := hv
      go_simp
      try with_reducible rfl
    try simp only [Act.put, List.setIfInBounds_toArray, List.set_cons_zero, List.set_cons_succ]
    refine AnyZ.one (i := 13) (by kernel_rfl) rfl (by rfl) fun K13 hK13 => ?_
    go_simp
    refine hK13.out _ _ (.inl rfl) fun _ => ?_
    refine AnyZ.done (by kernel_rfl) ?_ _
    clear hown1 hg1 hfr HS2
    obtain ⟨w3, hw3⟩ : ∃ w3, w3 = w2.setCell ⟨g, 9, none⟩ (.slice A' (s.dem.length + 1) c') := ⟨_, rfl⟩
    have m1 : w3.cell? ⟨H, 0, none⟩ = some (.pointer (some ⟨g, 0, none⟩)) := by rw [hw3, World.cell?_setCell_other]; exact k1'; simp
    have m2 : w3.cell? ⟨g, 9, none⟩ = some (.slice A' (s.dem.length + 1) c') := by rw [hw3]; go_simp
    rw [← hw3] at HQ1 HQ2 ⊢
    clear hw3 d9 k1' k2' k3' f0' k1 k2 k3 c9 f9 lg hrow ng n1 n2 n3 l1 l2 l3
    go_wp2_with fail
    go_ret2
    exact ⟨rfl, O', HQ1.out, (Chg.of_below (HH.out ▸ HB1.out)).trans HQ2.out, fun k hk => (HQ3.out k hk).imp id fun h => Nat.le_trans HB1.out.size h⟩
  · have e1 : (s.demand by_ sum day).1 = s := by
      unfold Sur.demand at hz ⊢
      split
      · rfl
      split
      · rfl
      split
      · rfl
      split
      · rfl
      · rename_i h1 h2 h3 h4
        rw [if_neg h1, if_neg h2, if_neg h3, if_neg h4] at hz
        exact absurd rfl hz
    have e2 : (s.demand by_ sum day).2.1 = 0 := by
      unfold Sur.demand at hz ⊢
      split
      · rfl
      split
      · rfl
      split
      · rfl
      split
      · rfl
      · rename_i h1 h2 h3 h4
        rw [if_neg h1, if_neg h2, if_neg h3, if_neg h4] at hz
        exact absurd rfl hz
    rw [e1, e2]
    generalize (s.demand by_ sum day).2.2 = z at *
    have hz' : (z != 0) = true := by simpa using hz
    clear sa e1 e2 hz ok
    go_enter Try.func14, Try.ntmps14
    go_wp2_with fail
    iterate 5
      refine (unless_any _ _ _ _).mono ?_
      rintro e w' ⟨rfl, rfl⟩
      go_wp2_with fail
    refine HC.out.mono ?_
    rintro e w1 ⟨rfl, hb⟩
    have HB1 := Lib.hid (below_trans HB.out hb)
    clear hb HC
    go_wp2_with fail
    go_ret2
    exact ⟨rfl, O, ⟨C, c, D, d, SA0.out.below HB1.out, o1, o2, o3⟩, Chg.of_below HB1.out, fun k hk => .inl hk⟩
end Go.Proofs.Ytlmlepdmgopojaa
