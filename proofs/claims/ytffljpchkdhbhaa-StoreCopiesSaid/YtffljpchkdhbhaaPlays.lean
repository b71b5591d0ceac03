/- StorePlays's walk. Condition: how the calls lie. -/
import Derived.Test.YtffljpchkdhbhaaDoB
import Derived.Deep.RegionHeld3
namespace Go.Proofs.Ytffljpchkdhbhaa
open Go.RowKit
set_option linter.unusedVariables false
set_option linter.unusedSimpArgs false

/-- both stores, in a law's memory -/
def Both (W w : World) (g : Nat) (A R : Option Addr) (c : Nat) (σ : SS) : Prop := Below W.heap.size W w ∧ σ.ok ∧ St w W.heap.size g A σ ∧ Rf w g A R c σ
theorem Both.below {W w w' : World} {g : Nat} {A R : Option Addr} {c : Nat} {σ : SS} (h : Both W w g A R c σ) (hb : Below w.heap.size w w') : Both W w' g A R c σ :=
  ⟨below_trans h.1 hb, h.2.1, h.2.2.1.below hb, h.2.2.2.below hb⟩
theorem both_do {W w : World} {g : Nat} {A R : Option Addr} {c : Nat} {σ : SS} (h : Both W w g A R c σ) (o : Call) (hn : o.num ≤ 9223372036854775807) :
    Calls Try.prog 20 #[.pointer (some ⟨g, 0, none⟩), σ.ref R c, .agg #[.int .i64 o.kind, .int .i64 o.num, .string o.text]] w fun e w' => ∃ σ' A' R' c', e = .returned (.tuple #[σ'.ref R' c', .bool true]) ∧ Both W w' g A' R' c' σ' ∧ w.heap.size ≤ w'.heap.size ∧
      (∀ k, k < w.heap.size → ¬ Own g A k → (∀ t cs, Blk w k t cs → Blk w' k t cs) ∧ ¬ Own g A' k) ∧ ∀ k, k < w.heap.size → ¬ blockOf R k → ¬ blockOf R' k :=
  (do_any g σ h.2.1 A w _ h.2.2.1 R c h.2.2.2 o hn).mono fun e w' ⟨σ', A', R', c', he, hok, hSt, hC, hF, hR, hRR⟩ => ⟨σ', A', R', c', he, ⟨h.1.trans (hC.below h.1.size h.2.2.1.le), hok, hSt, hR⟩, hC.size,
    fun k hk hno => ⟨fun t cs hb => hC.blk hb hno, by
      rintro (hg | ha)
      · exact hno (.inl hg)
      · rcases hF with rfl | hF
        · exact hno (.inr ha)
        · have := hF k ha
          omega⟩,
    fun k hk hr h' => by
      rcases hRR with rfl | hRR
      · exact hr h'
      · have := hRR k h'
        omega⟩
/-- the same, behind a box that was laid ahead -/
theorem both_do_box {W w : World} {g : Nat} {A R : Option Addr} {c : Nat} {σ : SS} (h : Both W w g A R c σ) (o : Call) (hn : o.num ≤ 9223372036854775807) (z : Array Value) :
    Calls Try.prog 20 #[.pointer (some ⟨g, 0, none⟩), σ.ref R c, .agg #[.int .i64 o.kind, .int .i64 o.num, .string o.text]] (w.alloc (.cells z 42)) fun e w' => ∃ σ' A' R' c', e = .returned (.tuple #[σ'.ref R' c', .bool true]) ∧ Both W w' g A' R' c' σ' ∧ w.heap.size + 1 ≤ w'.heap.size ∧
      (∀ k, k < w.heap.size → ¬ Own g A k → (∀ t cs, Blk w k t cs → Blk w' k t cs) ∧ ¬ Own g A' k) ∧ (∀ k, k < w.heap.size → ¬ blockOf R k → ¬ blockOf R' k) ∧ Blk w' w.heap.size 42 z ∧ ¬ Own g A' w.heap.size ∧ ¬ blockOf R' w.heap.size := by
  have hb : Below w.heap.size w (w.alloc (.cells z 42)) := (Below.refl _ _).alloc (Nat.le_refl _) _
  have hs : (w.alloc (.cells z 42)).heap.size = w.heap.size + 1 := by simp
  refine (both_do (h.below hb) o hn).mono ?_
  rintro e w' ⟨σ', A', R', c', he, hB, hsz, H, HR⟩
  have hno : ¬ Own g A w.heap.size := by
    rintro (hg | ha)
    · have := h.2.2.1.lt
      omega
    · have := (h.2.2.1.2.choose_spec.2.lt ha).2
      omega
  have hnr : ¬ blockOf R w.heap.size := fun hk => by have := (h.2.2.2.2.2 _ hk).1; omega
  exact ⟨σ', A', R', c', he, hB, by omega, fun k hk hno => ⟨fun t cs hbk => (H k (by omega) hno).1 t cs (hbk.alloc _), (H k (by omega) hno).2⟩, fun k hk => HR k (by omega), (H w.heap.size (by omega) hno).1 _ _ (Blk.new _ _ _), (H w.heap.size (by omega) hno).2, HR w.heap.size (by omega) hnr⟩
/-- a store into a box that is neither's -/
theorem both_box {W w w' : World} {g b : Nat} {A R : Option Addr} {c : Nat} {σ : SS} (h : Both W w g A R c σ) (hC : Chg (· = b) w w') (hW : W.heap.size ≤ b) (ho : ¬ Own g A b) (hr : ¬ blockOf R b) : Both W w' g A R c σ :=
  ⟨h.1.trans (hC.below h.1.size fun k hk => by subst hk; exact hW), h.2.1, h.2.2.1.chg hC fun k hk e => ho (e ▸ hk), h.2.2.2.chg hC fun k hk e => hr (e ▸ hk)⟩
theorem both_past {W w : World} {g : Nat} {A R : Option Addr} {c : Nat} {σ : SS} (h : Both W w g A R c σ) : ¬ Own g A w.heap.size ∧ ¬ blockOf R w.heap.size := by
  refine ⟨?_, fun hk => by have := (h.2.2.2.2.2 _ hk).1; omega⟩
  rintro (hg | ha)
  · have := h.2.2.1.lt
    omega
  · have := (h.2.2.1.2.choose_spec.2.lt ha).2
    omega
theorem chg_put4 {w : World} {b : Nat} (x y z u : Value) : Chg (· = b) w (put4 w b x y z u) := by
  have h0 : Chg (· = b) w w := Chg.refl _ _
  have h1 := h0.setCell (p := ⟨b, 0, none⟩) (.inl rfl) x
  have h2 := h1.setCell (p := ⟨b, 1, none⟩) (.inl rfl) y
  have h3 := h2.setCell (p := ⟨b, 2, none⟩) (.inl rfl) z
  exact h3.setCell (p := ⟨b, 3, none⟩) (.inl rfl) u
theorem both_alike {W w : World} {g : Nat} {A R : Option Addr} {c : Nat} {σ : SS} (h : Both W w g A R c σ) : Calls Try.prog 21 #[.pointer (some ⟨g, 0, none⟩), σ.ref R c] w fun e w' => e = .returned (.bool true) ∧ Both W w' g A R c σ ∧ Below w.heap.size w w' :=
  (alike_any g σ h.2.1.2.2.1 A w _ h.2.2.1 R c h.2.2.2.1).mono fun e w' ⟨he, hb⟩ => ⟨he, h.below hb, hb⟩

set_option maxRecDepth 100000 in
set_option maxHeartbeats 2000000 in
theorem plays_any (n c : Nat) (A : Option Addr) (os : List Call) (w : World) (hO : Ops w w.heap.size A n os) :
    Calls Try.prog 6 #[.slice A n c] w fun e w' => e = .returned (.bool true) ∧ Below w.heap.size w w' := by
  go_enter Try.func6, Try.ntmps6
  go_wp2_with fail
  refine (awake_any w _ (Below.refl _ _)).mono ?_
  rintro e w1 ⟨rfl, hb⟩
  go_wp2_with fail
  refine (few_any A n c os w1 ((hO.below hb).more hb.size)).mono ?_
  rintro e w2 ⟨fw, rfl, hfew, hb2⟩
  have hbb := below_trans hb hb2
  cases fw
  · go_wp2_with fail
    go_ret
    exact ⟨rfl, hbb⟩
  · have hn61 : n ≤ 61 := hfew rfl
    clear hfew
    go_wp2_with fail
    refine (new_any w2 w.heap.size hbb.size).mono ?_
    rintro e w3 ⟨rfl, h3, h4, h5⟩
    go_wp2_with fail
    refine (rnew_any w3).mono ?_
    rintro e w4 ⟨rfl, h6⟩
    simp only [SS.ref, SS.cells, SS.new]
    go_wp2_with fail
    obtain ⟨w5, hw5⟩ : ∃ w5, w5 = w4.alloc (.cells #[.slice none 0 0, .int .i64 0, .int .i64 (-1), .bool false] 42) := ⟨_, rfl⟩
    have bm := Blk.new w4 42 #[.slice none 0 0, .int .i64 0, .int .i64 (-1), .bool false]
    rw [← hw5] at bm
    have hb45 : Below w4.heap.size w4 w5 := by rw [hw5]; exact (Below.refl _ _).alloc (Nat.le_refl _) _
    have hb35 := below_trans h6 hb45
    have hB5 : Both w w5 w2.heap.size none none 0 SS.new := by
      refine ⟨below_trans (below_trans hbb h4) hb35, new_ok, h3.below hb35, Reads.none_, Nat.le_refl _, fun k hk => ?_⟩
      obtain ⟨a, e, _⟩ := hk
      cases e
    have hge : w2.heap.size < w4.heap.size := by have := h6.size; omega
    have hWge : w.heap.size ≤ w4.heap.size := by have := hbb.size; omega
    have hnone : ¬ Own w2.heap.size none w4.heap.size := by
      rintro (h | ⟨a, e, _⟩)
      · omega
      · cases e
    simp only [List.length_nil]
    rw [← hw5]
    clear hw5 hb hb2 hbb h3 h4 h5 h6 hb45 hb35
    go_loopw [5, 6, 7] (fun i _ _ v => ∃ (k : Nat) (σ : SS) (A' R : Option Addr) (c' : Nat), k ≤ n ∧ i = .int .i64 k ∧ Both w v w2.heap.size A' R c' σ ∧ Blk v w4.heap.size 42 (σ.cells R c') ∧ ¬ Own w2.heap.size A' w4.heap.size ∧ ¬ blockOf R w4.heap.size) (fun i _ _ _ => n - (intOf i).toNat)
    case atStart => exact ⟨0, SS.new, none, none, 0, by omega, rfl, hB5, bm, hnone, by rintro ⟨a, e, _⟩; cases e⟩
    case round =>
      obtain ⟨k, σ, A', R, c', hk, rfl, hB, hm, hno, hnr⟩ := hrel
      clear bm hB5 hnone
      by_cases hlt : k < n
      · obtain ⟨o, ho⟩ : ∃ o, os[k]? = some o := ⟨_, List.getElem?_eq_getElem (by rw [hO.1]; exact hlt)⟩
        obtain ⟨a, rfl, hab, hon, x0, x1, x2⟩ := hO.2 k o ho
        have e1 : (a.add (k * 3)).add 1 = ⟨(a.add (k * 3)).block, (a.add (k * 3)).off + 1, none⟩ := by unfold Addr.add; split <;> simp_all
        have e2 : (a.add (k * 3)).add 2 = ⟨(a.add (k * 3)).block, (a.add (k * 3)).off + 2, none⟩ := by unfold Addr.add; split <;> simp_all
        have y0 := (hB.1.cell (p := a.add (k * 3)) (by rw [block_of_add]; exact hab)).trans x0
        have y1 := (hB.1.cell (p := a.add (k * 3 + 1)) (by rw [block_of_add]; exact hab)).trans x1
        have y2 := (hB.1.cell (p := a.add (k * 3 + 2)) (by rw [block_of_add]; exact hab)).trans x2
        rw [← add_of_add, e1] at y1
        rw [← add_of_add, e2] at y2
        obtain ⟨c0, c1, c2, c3, f0, f1, f2, f3⟩ := hm.four
        have HO := Lib.hid ho
        rw [← add_of_add, e1] at x1
        rw [← add_of_add, e2] at x2
        have HX0 := Lib.hid x0
        have HX1 := Lib.hid x1
        have HX2 := Lib.hid x2
        clear x0 x1 x2 e1 e2 ho
        go_wp2_with fail
        have HB := Lib.hid hB
        have HM := Lib.hid hm
        have HNO := Lib.hid hno
        have HNR := Lib.hid hnr
        have hml := hm.lt
        have HOB : Hid (∀ k, wr.heap.size ≤ k → ¬ Own w2.heap.size A' k) := by
          show ∀ k, wr.heap.size ≤ k → ¬ Own w2.heap.size A' k
          rintro k hk (h | h)
          · have := HB.out.2.2.1.lt
            omega
          · have := (HB.out.2.2.1.2.choose_spec.2.lt h).2
            omega
        clear hB hm hno hnr
        have hab2 : (a.add (k * 3)).block < wr.heap.size := by rw [block_of_add]; have := HB.out.1.size; omega
        have HMd : Hid (Blk wr.drew w4.heap.size 42 (σ.cells R c')) := HM.out
        have HBd : Hid (Both w wr.drew w2.heap.size A' R c' σ) := ⟨HB.out.1.drew, HB.out.2.1, HB.out.2.2.1, HB.out.2.2.2⟩
        have ne1 : wr.heap.size ≠ w4.heap.size := by omega
        have ne2 : wr.heap.size ≠ (a.add (k * 3)).block := by omega
        go_region_held3 (fun v => v.cell? ⟨w4.heap.size, 0, none⟩ = some (.slice R σ.l.length c') ∧ v.cell? ⟨w4.heap.size, 1, none⟩ = some (.int .i64 σ.last) ∧ v.cell? ⟨w4.heap.size, 2, none⟩ = some (.int .i64 σ.fuse) ∧ v.cell? ⟨w4.heap.size, 3, none⟩ = some (.bool σ.down) ∧ v.cell? (a.add (k * 3)) = some (.int .i64 o.kind) ∧ v.cell? ⟨(a.add (k * 3)).block, (a.add (k * 3)).off + 1, none⟩ = some (.int .i64 o.num) ∧ v.cell? ⟨(a.add (k * 3)).block, (a.add (k * 3)).off + 2, none⟩ = some (.string o.text)) (go_keep) (first | (go_at_call 20; refine (both_do_box HBd.out o hon #[.slice none 0 0, .int .i64 0, .int .i64 0, .bool false]).mono ?_; rintro e w6 ⟨σ', A2, R2, c2', rfl, hB6, hsz6, H6, HR6, hT6, hT8, hT9⟩; have hm6 := (H6 w4.heap.size hml HNO.out).1 _ _ HMd.out; have HNO6 := Lib.hid (H6 w4.heap.size hml HNO.out).2; have HNR6 := Lib.hid (HR6 w4.heap.size hml HNR.out); have z0 := (hB6.1.cell (p := a.add (k * 3)) (by rw [block_of_add]; exact hab)).trans (HX0.out); have z1 := (hB6.1.cell (p := ⟨(a.add (k * 3)).block, (a.add (k * 3)).off + 1, none⟩) (by rw [block_of_add]; exact hab)).trans (HX1.out); have z2 := (hB6.1.cell (p := ⟨(a.add (k * 3)).block, (a.add (k * 3)).off + 2, none⟩) (by rw [block_of_add]; exact hab)).trans (HX2.out); have HB6 := Lib.hid hB6; obtain ⟨p0, p1, p2, p3, q0, q1, q2, q3⟩ := hm6.four; have HM6 := Lib.hid hm6; clear H6 HR6 hB6 hm6; have hT7 : Blk w6 wr.heap.size 42 #[.slice none 0 0, .int .i64 0, .int .i64 0, .bool false] := hT6; obtain ⟨t0, t1, t2, t3, r0, r1, r2, r3⟩ := hT7.four; simp only [SS.ref, SS.cells]) | (go_at_call 20; refine (both_do HBd.out o hon).mono ?_; rintro e w6 ⟨σ', A2, R2, c2', rfl, hB6, hsz6, H6, HR6⟩; have hm6 := (H6 w4.heap.size hml HNO.out).1 _ _ HMd.out; have HNO6 := Lib.hid (H6 w4.heap.size hml HNO.out).2; have HNR6 := Lib.hid (HR6 w4.heap.size hml HNR.out); have z0 := (hB6.1.cell (p := a.add (k * 3)) (by rw [block_of_add]; exact hab)).trans (HX0.out); have z1 := (hB6.1.cell (p := ⟨(a.add (k * 3)).block, (a.add (k * 3)).off + 1, none⟩) (by rw [block_of_add]; exact hab)).trans (HX1.out); have z2 := (hB6.1.cell (p := ⟨(a.add (k * 3)).block, (a.add (k * 3)).off + 2, none⟩) (by rw [block_of_add]; exact hab)).trans (HX2.out); have HB6 := Lib.hid hB6; obtain ⟨p0, p1, p2, p3, q0, q1, q2, q3⟩ := hm6.four; have HM6 := Lib.hid hm6; clear H6 HR6 hB6 hm6; have hsz7 : wr.heap.size ≤ w6.heap.size := hsz6; have ne3 : w6.heap.size ≠ w4.heap.size := (by omega); have ne4 : w6.heap.size ≠ (a.add (k * 3)).block := (by omega); simp only [SS.ref, SS.cells]))
        · obtain ⟨w7, hw7⟩ : ∃ w7, w7 = w6.alloc (.cells #[.slice R2 σ'.l.length c2', .int .i64 σ'.last, .int .i64 σ'.fuse, .bool σ'.down] 42) := ⟨_, rfl⟩
          have hA7 : Below w6.heap.size w6 w7 := by rw [hw7]; exact (Below.refl _ _).alloc (Nat.le_refl _) _
          have hn7 : Blk w7 w6.heap.size 42 #[.slice R2 σ'.l.length c2', .int .i64 σ'.last, .int .i64 σ'.fuse, .bool σ'.down] := by rw [hw7]; exact Blk.new _ _ _
          have hB7 := HB6.out.below hA7
          have hm7 := HM6.out.below hA7 HM6.out.lt
          have hb7 := hn7.lt
          obtain ⟨t0, t1, t2, t3, r0, r1, r2, r3⟩ := hn7.four
          obtain ⟨s0, s1, s2, s3, v0, v1, v2, v3⟩ := hm7.four
          have HW7 := Lib.hid hw7
          have HB7 := Lib.hid hB7
          have HM7 := Lib.hid hm7
          clear hw7 hB7 hm7 hA7 p0 p1 p2 p3 q0 q1 q2 q3 z0 z1 z2 c0 c1 c2 c3 f0 f1 f2 f3 y0 y1 y2 hn7
          have HW7' := HW7.out
          rw [← HW7']
          clear HW7' HW7
          go_wp2_with fail
          have HMlt := hml
          obtain ⟨w8, hw8⟩ : ∃ w8, w8 = put4 w7 w4.heap.size (.slice R2 σ'.l.length c2') (.int .i64 σ'.last) (.int .i64 σ'.fuse) (.bool σ'.down) := ⟨_, rfl⟩
          have hC8 : Chg (· = w4.heap.size) w7 w8 := by rw [hw8]; exact chg_put4 _ _ _ _
          have hB8 := both_box HB7.out hC8 hWge HNO6.out HNR6.out
          have hm8 : Blk w8 w4.heap.size 42 #[.slice R2 σ'.l.length c2', .int .i64 σ'.last, .int .i64 σ'.fuse, .bool σ'.down] := by rw [hw8]; exact HM7.out.put4 _ _ _ _
          unfold put4 at hw8
          rw [← hw8]
          clear hw8
          refine (both_alike hB8).mono ?_
          rintro e w9 ⟨rfl, hB9, hb9⟩
          have HB9 := Lib.hid hB9
          have HM9 := Lib.hid (hm8.below hb9 hm8.lt)
          clear hB9 hb9 hm8 hB8 hC8 HMlt s0 s1 s2 s3 t0 t1 t2 t3 v0 v1 v2 v3 r0 r1 r2 r3
          go_wp2_with fail
          go_roundw
          case rel => exact ⟨k + 1, σ', A2, R2, c2', by omega, by go_num, HB9.out, HM9.out, HNO6.out, HNR6.out⟩
          case measure => simp [intOf]; omega
        · have hn0 : Blk w6 wr.heap.size 42 #[.slice none 0 0, .int .i64 0, .int .i64 0, .bool false] := hT7
          have ho0 := hT8
          have hr0 := hT9
          obtain ⟨w7, hw7⟩ : ∃ w7, w7 = put4 w6 wr.heap.size (.slice R2 σ'.l.length c2') (.int .i64 σ'.last) (.int .i64 σ'.fuse) (.bool σ'.down) := ⟨_, rfl⟩
          have hC7 : Chg (· = wr.heap.size) w6 w7 := by rw [hw7]; exact chg_put4 _ _ _ _
          have hn7 : Blk w7 wr.heap.size 42 #[.slice R2 σ'.l.length c2', .int .i64 σ'.last, .int .i64 σ'.fuse, .bool σ'.down] := by rw [hw7]; exact hn0.put4 _ _ _ _
          have hB7 := both_box HB6.out hC7 HB.out.1.size ho0 hr0
          have hm7 := hC7.blk HM6.out (fun h => ne1 h.symm)
          have hb7 := hn7.lt
          obtain ⟨t0, t1, t2, t3, r0, r1, r2, r3⟩ := hn7.four
          obtain ⟨s0, s1, s2, s3, v0, v1, v2, v3⟩ := hm7.four
          have HW7 := Lib.hid hw7
          have HB7 := Lib.hid hB7
          have HM7 := Lib.hid hm7
          clear hw7 hB7 hm7 hC7 hn0 ho0 hr0 hT7 hT8 hT9 p0 p1 p2 p3 q0 q1 q2 q3 z0 z1 z2 c0 c1 c2 c3 f0 f1 f2 f3 y0 y1 y2 hn7
          have HW7' := HW7.out
          unfold put4 at HW7'
          rw [← HW7']
          clear HW7' HW7
          go_wp2_with fail
          have HMlt := hml
          obtain ⟨w8, hw8⟩ : ∃ w8, w8 = put4 w7 w4.heap.size (.slice R2 σ'.l.length c2') (.int .i64 σ'.last) (.int .i64 σ'.fuse) (.bool σ'.down) := ⟨_, rfl⟩
          have hC8 : Chg (· = w4.heap.size) w7 w8 := by rw [hw8]; exact chg_put4 _ _ _ _
          have hB8 := both_box HB7.out hC8 hWge HNO6.out HNR6.out
          have hm8 : Blk w8 w4.heap.size 42 #[.slice R2 σ'.l.length c2', .int .i64 σ'.last, .int .i64 σ'.fuse, .bool σ'.down] := by rw [hw8]; exact HM7.out.put4 _ _ _ _
          unfold put4 at hw8
          rw [← hw8]
          clear hw8
          refine (both_alike hB8).mono ?_
          rintro e w9 ⟨rfl, hB9, hb9⟩
          have HB9 := Lib.hid hB9
          have HM9 := Lib.hid (hm8.below hb9 hm8.lt)
          clear hB9 hb9 hm8 hB8 hC8 HMlt s0 s1 s2 s3 t0 t1 t2 t3 v0 v1 v2 v3 r0 r1 r2 r3
          go_wp2_with fail
          go_roundw
          case rel => exact ⟨k + 1, σ', A2, R2, c2', by omega, by go_num, HB9.out, HM9.out, HNO6.out, HNR6.out⟩
          case measure => simp [intOf]; omega
      · obtain rfl : k = n := by omega
        have HB := Lib.hid hB
        clear hB
        go_wp2_with fail
        go_ret
        exact ⟨rfl, HB.out.1⟩
end Go.Proofs.Ytffljpchkdhbhaa
