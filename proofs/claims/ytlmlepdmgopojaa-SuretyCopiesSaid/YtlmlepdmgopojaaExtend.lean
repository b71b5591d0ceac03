/- The walk of Extend. Condition: where the surety lies. -/
import Derived.Test.YtlmlepdmgopojaaReduce
namespace Go.Proofs.Ytlmlepdmgopojaa
open Go.RowKit
set_option linter.unusedVariables false
set_option linter.unusedSimpArgs false
set_option maxRecDepth 100000 in
set_option maxHeartbeats 2000000 in
theorem ext1_any (s : Sur) (g c d : Nat) (C D : Option Addr) (w : World) (h : SA w g s C c D d) {K : Nat} (ok : s.ok K) (hK : K ≤ 4096) (p q : Nat) (n : Int) (hp : w.cell? ⟨p, 0, none⟩ = some (.pointer (some ⟨g, 0, none⟩))) (hq : w.cell? ⟨q, 0, none⟩ = some (.int .i64 n)) :
    Calls Try.prog 37 #[.pointer (some ⟨p, 0, none⟩), .pointer (some ⟨q, 0, none⟩)] w fun e w' => e = .returned (.int .i64 (s.open_ n)) ∧ Below w.heap.size w w' := by
  have OP := Lib.hid (isOpen_any s g c d C D w h ok hK n)
  generalize s.open_ n = z at *
  clear h ok
  go_enter Try.func37, Try.ntmps37
  go_wp2_with fail
  refine OP.out.mono ?_
  rintro e w1 ⟨rfl, hb⟩
  have HB := Lib.hid hb
  clear hb
  go_wp2_with fail
  go_ret
  exact ⟨rfl, HB.out⟩
/-- the blocks that Extend lays ahead of its first -/
def extL (H g : Nat) (n to_ : Int) : List (Array Value × TypeId) := [(#[.pointer (some ⟨g, 0, none⟩)], 28), (#[.int .i64 n], 3), (#[.int .i64 to_], 3),
    (#[.int .i64 3], 29), (#[.func (.func 39) #[] #[ptrB H 2, ptrB H 0]], 26),
    (#[.func (.func 37) #[] #[ptrB H 0, ptrB H 1], .func (.func 59) #[] (capU H 3)], 70)]
def extC (s : Sur) (H : Nat) (n to_ : Int) : List Look := [⟨37, #[ptrB H 0, ptrB H 1], s.open_ n⟩, ⟨59, capU H 3, if decide (s.exp < to_ ∧ 0 ≤ to_ ∧ to_ ≤ 1048576) then 0 else 3⟩]
theorem extC_first (s : Sur) (H : Nat) (n to_ : Int) : firstC (extC s H n to_) = (s.extend n to_).2 := by
  unfold Sur.extend extC
  by_cases h2 : s.open_ n = 0
  · by_cases h3 : s.exp < to_ ∧ 0 ≤ to_ ∧ to_ ≤ 1048576
    · simp [firstC, h2, h3]
    · rw [decide_eq_false h3]
      simp [firstC, h2, h3]
  · simp [firstC, h2]
theorem ext_first (s : Sur) (g c d : Nat) (C D : Option Addr) (w : World) (sa : SA w g s C c D d) {K : Nat} (ok : s.ok K) (hK : K ≤ 4096) (n to_ : Int) :
    Calls Try.prog 30 #[.slice (some ⟨w.heap.size + 5, 0, none⟩) 2 2] (allocs w (extL w.heap.size g n to_)) fun e w' => e = .returned (.int .i64 (s.extend n to_).2) ∧ Below (allocs w (extL w.heap.size g n to_)).heap.size (allocs w (extL w.heap.size g n to_)) w' := by
  have hb := allocs_below w (extL w.heap.size g n to_)
  have B := allocs_blk w (extL w.heap.size g n to_)
  have sz := allocs_size w (extL w.heap.size g n to_)
  rw [← extC_first s w.heap.size n to_]
  generalize allocs w (extL w.heap.size g n to_) = W at *
  generalize hH : w.heap.size = H at *
  have hs := B 0 _ _ rfl
  have hn := B 1 _ _ rfl
  have ht := B 2 _ _ rfl
  have hd : ∀ v, Below W.heap.size W v → SA v g s C c D d := fun v hv => sa.below (by rw [← hH] at hb; exact below_trans hb hv)
  have key : ∀ (i : Nat) (x : Look), (extC s H n to_)[i]? = some x → (∀ j, j < i → ∀ y : Look, (extC s H n to_)[j]? = some y → y.code = 0) → Look.ok W x := by
    intro i x hx hz
    match i, hx with
    | 0, hx => cases hx; exact ⟨Ent37, fun v hv => ext1_any s g c d C D v (hd v hv) ok hK H (H + 1) n (hs.c0 hv) (hn.c0 hv)⟩
    | 1, hx => cases hx; exact unl_look (B 4 _ _ rfl) (B 3 _ _ rfl) Ent39 fun v hv => ext2_any s g c d C D v (hd v hv) (H + 2) H to_ (ht.c0 hv) (hs.c0 hv)
  have hrd : Reads W W.heap.size 1 (some ⟨H + 5, 0, none⟩) (extC s H n to_).length ((extC s H n to_).map Look.val) := by
    refine ⟨rfl, fun _ => ⟨_, rfl, by rw [sz]; simp [extL], fun j u hu => ?_⟩⟩
    have hb := B 5 _ _ rfl
    have h0 : (⟨H + 5, 0, none⟩ : Addr).add j = ⟨H + 5, j, none⟩ := by unfold Addr.add; split <;> simp_all
    rw [h0, hb.cell j]
    simpa [extC, Look.val] using hu
  exact first_any (extC s H n to_) (some ⟨H + 5, 0, none⟩) 2 W hrd (by unfold maxLen; show 2 ≤ _; omega) key
set_option maxRecDepth 100000 in
set_option maxHeartbeats 8000000 in
theorem extend_any (s : Sur) (g : Nat) (w : World) (O : Nat → Prop) (h : At O w g s) {K : Nat} (ok : s.ok K) (hK : K ≤ 4096) (n to_ : Int) :
    Calls Try.prog 15 #[.pointer (some ⟨g, 0, none⟩), .int .i64 n, .int .i64 to_] w fun e w' => e = .returned (.int .i64 (s.extend n to_).2) ∧ At O w' g (s.extend n to_).1 ∧ Chg O w w' := by
  obtain ⟨C, c, D, d, sa, o1, o2, o3⟩ := h
  have HC := Lib.hid (ext_first s g c d C D w sa ok hK n to_)
  have HB := Lib.hid (allocs_below w (extL w.heap.size g n to_))
  have HS := Lib.hid (allocs_blk w (extL w.heap.size g n to_) 0 _ _ rfl)
  have HN := Lib.hid (allocs_blk w (extL w.heap.size g n to_) 1 _ _ rfl)
  have HT := Lib.hid (allocs_blk w (extL w.heap.size g n to_) 2 _ _ rfl)
  have SA0 := Lib.hid sa
  simp only [allocs, extL, ptrB, capU, Nat.add_zero] at HC HB HS HN HT
  by_cases hz : (s.extend n to_).2 = 0
  · have e0 : s.open_ n = 0 := by
      unfold Sur.extend at hz
      split at hz
      · rename_i h; exact absurd hz h
      · rename_i h; exact Decidable.not_not.1 h
    have e2 : s.extend n to_ = (({ s with exp := to_, dem := setSt s.dem n.toNat 2 } : Sur), (0 : Int)) := by
      unfold Sur.extend at hz ⊢
      split at hz
      · rename_i h; exact absurd e0 h
      split at hz
      · cases hz
      · rename_i h1 h2
        rw [if_neg h1, if_neg h2]
    rw [e2]
    rw [hz] at HC
    obtain ⟨g1, g2, x, hx, hx0⟩ := open_some e0
    obtain ⟨k, rfl⟩ := Int.eq_ofNat_of_zero_le g1
    rw [Int.toNat_natCast] at hx ⊢
    have hk : k < s.dem.length := by omega
    have hkI : (k : Int) < s.dem.length := by omega
    obtain ⟨a, _, rfl, _, _⟩ := sa.dem.at_ hk
    have HX := Lib.hid hx
    clear sa e2 hz e0 hx hx0 g1 g2 ok
    go_enter Try.func15, Try.ntmps15
    go_wp2_with fail
    refine (unless_any _ _ _ _).mono ?_
    rintro e w' ⟨rfl, rfl⟩
    go_wp2_with fail
    refine HC.out.mono ?_
    rintro e w1 ⟨rfl, hb⟩
    have HB1 := Lib.hid (below_trans HB.out hb)
    have SA1 := Lib.hid (SA0.out.below HB1.out)
    have b1 := HS.out.below hb HS.out.lt
    have b2 := HN.out.below hb HN.out.lt
    have b3 := HT.out.below hb HT.out.lt
    have k1 := HS.out.c0 hb
    have k2 : w1.cell? ⟨w.heap.size + 1, 0, none⟩ = some (.int .i64 k) := HN.out.c0 hb
    have k3 : w1.cell? ⟨w.heap.size + 1 + 1, 0, none⟩ = some (.int .i64 to_) := HT.out.c0 hb
    have f7 := SA1.out.box.frozen 7
    have lg := SA1.out.box.lt
    have t7 := SA1.out.cellE
    have B1 := Lib.hid b1
    have B2 := Lib.hid (show Blk w1 (w.heap.size + 1) 3 #[.int .i64 k] from b2)
    have B3 := Lib.hid (show Blk w1 (w.heap.size + 1 + 1) 3 #[.int .i64 to_] from b3)
    clear hb HC HB HS HN HT b1 b2 b3
    go_upto_region 4 with fail
    generalize hHe : w.heap.size = H at *
    have HH := Lib.hid hHe
    clear hHe
    obtain ⟨w2, hw2⟩ : ∃ w2, w2 = w1.setCell ⟨g, 7, none⟩ (.int .i64 to_) := ⟨_, rfl⟩
    have SA2 := Lib.hid (show SA w2 g { s with exp := to_ } C c (some a) d by rw [hw2]; exact SA1.out.expd to_)
    have ng1 : H ≠ g := B1.out.ne_ SA1.out.box (by decide)
    have ng2 : H + 1 ≠ g := B2.out.ne_ SA1.out.box (by decide)
    have m1 : w2.cell? ⟨H, 0, none⟩ = some (.pointer (some ⟨g, 0, none⟩)) := by rw [hw2]; exact (B1.out.far (p := ⟨g, 7, none⟩) ng1 _).cell 0
    have m2 : w2.cell? ⟨H + 1, 0, none⟩ = some (.int .i64 k) := by rw [hw2]; exact (B2.out.far (p := ⟨g, 7, none⟩) ng2 _).cell 0
    have CH := Lib.hid (show Chg O w1 w2 by rw [hw2]; exact setCell_chg (p := ⟨g, 7, none⟩) o1 _)
    rw [← hw2]
    have t9 := SA2.out.cellD
    have hl2 : ({ s with exp := to_ } : Sur).dem = s.dem := rfl
    rw [hl2] at t9
    have fz := SA2.out.unfrozen (k * 3) ((a.add (k * 3)).off + 2)
    obtain ⟨a', y, ha, hy, hblk, c0, c1, c2⟩ := SA2.out.dem.at_ hk
    cases ha
    clear hw2 k1 k2 k3 f7 lg t7 ng1 ng2 hy c0 c1 hl2
    refine region_Z (z := 7) (S := fun v => v.cell? ⟨H, 0, none⟩ = some (.pointer (some ⟨g, 0, none⟩)) ∧ v.cell? ⟨H + 1, 0, none⟩ = some (.int .i64 k) ∧ v.cell? ⟨g, 9, none⟩ = some (.slice (some a) s.dem.length d)) (by kernel_rfl) ?_
    have hS : (w2.drew.cell? ⟨H, 0, none⟩ = some (.pointer (some ⟨g, 0, none⟩)) ∧ w2.drew.cell? ⟨H + 1, 0, none⟩ = some (.int .i64 k) ∧ w2.drew.cell? ⟨g, 9, none⟩ = some (.slice (some a) s.dem.length d)) := ⟨m1, m2, t9⟩
    show AnyZ _ _ _ _ _ _ 8 (List.replicate 8 false).toArray _ _
    refine AnyZ.take (i := 0) (v := ?_) rfl (by kernel_rfl) (by kernel_rfl) (by kernel_rfl) (by kernel_rfl) (by kernel_rfl) (fun _ _ _ h => h) (by rfl) (fun v hv => ?_) hS ?_
    rotate_left
    · obtain ⟨s1, s2, s3⟩ := hv
      go_simp
      try with_reducible rfl
    try simp only [Act.put, List.setIfInBounds_toArray, List.set_cons_zero, List.set_cons_succ]
    refine AnyZ.take (i := 1) (v := ?_) rfl (by kernel_rfl) (by kernel_rfl) (by kernel_rfl) (by kernel_rfl) (by kernel_rfl) (fun _ _ _ h => h) (by rfl) (fun v hv => ?_) hS ?_
    rotate_left
    · obtain ⟨s1, s2, s3⟩ := hv
      go_simp
      try with_reducible rfl
    try simp only [Act.put, List.setIfInBounds_toArray, List.set_cons_zero, List.set_cons_succ]
    refine AnyZ.take (i := 2) (v := ?_) rfl (by kernel_rfl) (by kernel_rfl) (by kernel_rfl) (by kernel_rfl) (by kernel_rfl) (fun _ _ _ h => h) (by rfl) (fun v hv => ?_) hS ?_
    rotate_left
    · obtain ⟨s1, s2, s3⟩ := hv
      go_simp
      try with_reducible rfl
    try simp only [Act.put, List.setIfInBounds_toArray, List.set_cons_zero, List.set_cons_succ]
    refine AnyZ.take (i := 3) (v := ?_) rfl (by kernel_rfl) (by kernel_rfl) (by kernel_rfl) (by kernel_rfl) (by kernel_rfl) (fun _ _ _ h => h) (by rfl) (fun v hv => ?_) hS ?_
    rotate_left
    · obtain ⟨s1, s2, s3⟩ := hv
      go_simp
      try with_reducible rfl
    try simp only [Act.put, List.setIfInBounds_toArray, List.set_cons_zero, List.set_cons_succ]
    refine AnyZ.take (i := 4) (v := ?_) rfl (by kernel_rfl) (by kernel_rfl) (by kernel_rfl) (by kernel_rfl) (by kernel_rfl) (fun _ _ _ h => h) (by rfl) (fun v hv => ?_) hS ?_
    rotate_left
    · obtain ⟨s1, s2, s3⟩ := hv
      go_simp
      try with_reducible rfl
    try simp only [Act.put, List.setIfInBounds_toArray, List.set_cons_zero, List.set_cons_succ]
    refine AnyZ.take (i := 5) (v := ?_) rfl (by kernel_rfl) (by kernel_rfl) (by kernel_rfl) (by kernel_rfl) (by kernel_rfl) (fun _ _ _ h => h) (by rfl) (fun v hv => ?_) hS ?_
    rotate_left
    · obtain ⟨s1, s2, s3⟩ := hv
      go_simp
      try with_reducible rfl
    try simp only [Act.put, List.setIfInBounds_toArray, List.set_cons_zero, List.set_cons_succ]
    refine AnyZ.take (i := 6) (v := ?_) rfl (by kernel_rfl) (by kernel_rfl) (by kernel_rfl) (by kernel_rfl) (by kernel_rfl) (fun _ _ _ h => h) (by rfl) (fun v hv => ?_) hS ?_
    rotate_left
    · obtain ⟨s1, s2, s3⟩ := hv
      go_simp
      try with_reducible rfl
    try simp only [Act.put, List.setIfInBounds_toArray, List.set_cons_zero, List.set_cons_succ]
    refine AnyZ.one (i := 7) (by kernel_rfl) rfl (by rfl) fun K13 hK13 => ?_
    have fz' : w2.drew.frozen? ⟨(a.add (k * 3)).block, (a.add (k * 3)).off + 2, none⟩ = false := fz
    have c2' : w2.drew.cell? ⟨(a.add (k * 3)).block, (a.add (k * 3)).off + 2, none⟩ = some (.int .i64 y.st) := c2
    go_simp
    refine hK13.out _ _ (.inl rfl) fun _ => ?_
    refine AnyZ.done (by kernel_rfl) ?_ _
    obtain ⟨w3, hw3⟩ : ∃ w3, w3 = (w2.setCell ⟨(a.add (k * 3)).block, (a.add (k * 3)).off + 2, none⟩ (.int .i64 2)).drew := ⟨_, rfl⟩
    have SA3 := Lib.hid (show SA w3 g { s with exp := to_, dem := setSt s.dem k 2 } C c (some a) d by rw [hw3]; exact (SA2.out.stand HX.out 2).below (Below.refl _ _).drew)
    have CH3 := Lib.hid (show Chg O w2 w3 by rw [hw3]; exact ((Chg.refl O w2).setCell (p := ⟨(a.add (k * 3)).block, (a.add (k * 3)).off + 2, none⟩) (.inl (by rw [add_block]; exact o2 _ ⟨a, rfl, rfl⟩)) _).drew)
    rw [← hw3]
    clear hw3 fz fz' c2 c2' m1 m2 t9 hS
    go_wp2_with fail
    go_ret
    exact ⟨rfl, ⟨C, c, some a, d, SA3.out, o1, o2, o3⟩, ((Chg.of_below (HH.out ▸ HB1.out)).trans CH.out).trans CH3.out⟩
  · have e1 : (s.extend n to_).1 = s := by
      unfold Sur.extend at hz ⊢
      split
      · rfl
      split
      · rfl
      · rename_i h1 h2
        rw [if_neg h1, if_neg h2] at hz
        exact absurd rfl hz
    rw [e1]
    generalize (s.extend n to_).2 = z at *
    have hz' : (z == 0) = false := by simpa using hz
    clear sa e1 hz ok
    go_enter Try.func15, Try.ntmps15
    go_wp2_with fail
    refine (unless_any _ _ _ _).mono ?_
    rintro e w' ⟨rfl, rfl⟩
    go_wp2_with fail
    refine HC.out.mono ?_
    rintro e w1 ⟨rfl, hb⟩
    have HB1 := Lib.hid (below_trans HB.out hb)
    clear hb HC
    go_wp2_with fail
    go_ret
    exact ⟨rfl, ⟨C, c, D, d, SA0.out.below HB1.out, o1, o2, o3⟩, Chg.of_below HB1.out⟩
end Go.Proofs.Ytlmlepdmgopojaa
