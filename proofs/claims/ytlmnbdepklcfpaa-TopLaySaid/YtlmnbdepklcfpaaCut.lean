/- The walk of Cut's closure. Condition: how its two slices lie. -/
import Derived.Test.YtlmnbdepklcfpaaRefU
namespace Go.Proofs.Ytlmnbdepklcfpaa
open Go.RowKit
set_option linter.unusedVariables false
set_option linter.unusedSimpArgs false

theorem info44 : (Try.prog.info? 44).map (fun i => (i.zero, i.size, i.bytes)) = some (some (.agg #[.int .i64 0, .int .i64 0, .int .i64 0]), 3, 24) := by kernel_rfl
/-- two boxes that hold slices of stretches, apart -/
structure Pair (w : World) (B g h : Nat) (A : Option Addr) (c : Nat) (D : Option Addr) (d : Nat) (xs ys : List Str) : Prop where
  a : Blk w g 24 #[.slice A xs.length c]
  b : Blk w h 24 #[.slice D ys.length d]
  ra : Row w B 44 3 A xs.length c (flat xs)
  rb : Row w B 44 3 D ys.length d (flat ys)
  ap : ∀ k, blockOf A k → ¬ blockOf D k
  ne : g ≠ h
  lg : B ≤ g
  lh : B ≤ h
section
variable {w w' w1 w2 : World} {B g h c d : Nat} {A D : Option Addr} {xs ys : List Str}
theorem Pair.swap (P : Pair w B g h A c D d xs ys) : Pair w B h g D d A c ys xs := ⟨P.b, P.a, P.rb, P.ra, fun k hk h' => P.ap k h' hk, P.ne.symm, P.lh, P.lg⟩
theorem Pair.below (P : Pair w B g h A c D d xs ys) (hb : Below w.heap.size w w') : Pair w' B g h A c D d xs ys :=
  ⟨P.a.below hb P.a.lt, P.b.below hb P.b.lt, P.ra.below hb, P.rb.below hb, P.ap, P.ne, P.lg, P.lh⟩
theorem Pair.push (P : Pair w B g h A c D d xs ys) {s : Str} {A' : Option Addr} {c' : Nat} (hW : Below w.heap.size w w1) (hrow : Row w2 B 44 3 A' (xs.length + 1) c' (flat xs ++ flat [s])) (hc : Chg (blockOf A) w1 w2) (hfr : A' = A ∨ ∀ k, blockOf A' k → w1.heap.size ≤ k) :
    Pair (w2.setCell ⟨g, 0, none⟩ (.slice A' (xs.length + 1) c')) B g h A' c' D d (xs ++ [s]) ys := by
  have P1 := P.below hW
  have e : flat xs ++ flat [s] = flat (xs ++ [s]) := (flat_append _ _).symm
  have hl : (xs ++ [s]).length = xs.length + 1 := by simp
  rw [e] at hrow
  have na : ¬ blockOf A g := P1.ra.blk_ne P1.a (by decide)
  have nb : ¬ blockOf A h := P1.ra.blk_ne P1.b (by decide)
  have nd : ¬ blockOf D g := P1.rb.blk_ne P1.a (by decide)
  have hg2 := hc.blk P1.a na
  have hh2 := hc.blk P1.b nb
  have hrb2 := P1.rb.chg hc fun k hk h' => P.ap k h' hk
  have hn : ¬ blockOf A' g := hrow.blk_ne hg2 (by decide)
  refine ⟨?_, hh2.far (p := ⟨g, 0, none⟩) (Ne.symm P.ne) _, ?_, hrb2.setCell (p := ⟨g, 0, none⟩) nd _, ?_, P.ne, P.lg, P.lh⟩
  · have := hg2.set_ 0 (.slice A' (xs.length + 1) c')
    rw [hl]
    simpa using this
  · rw [hl]
    exact hrow.setCell (p := ⟨g, 0, none⟩) hn _
  · intro k hk hk'
    rcases hfr with rfl | hf
    · exact P.ap k hk hk'
    · have := hf k hk
      have := (P1.rb.lt hk').2
      omega
/-- the frame of such a push -/
theorem Pair.frame (P : Pair w B g h A c D d xs ys) {v : Value} (hW : Below w.heap.size w w1) (hB : B ≤ w.heap.size) (hc : Chg (blockOf A) w1 w2) : Below B w (w2.setCell ⟨g, 0, none⟩ v) := by
  have h1 : Below B w w1 := hW.mono hB
  have h2 : Below B w1 w2 := hc.below (Nat.le_trans hB hW.size) fun k hk => ((P.below hW).ra.lt hk).1
  exact (h1.trans h2).setCell (p := ⟨g, 0, none⟩) P.lg v
/-- another block -/
theorem Pair.keep (P : Pair w B g h A c D d xs ys) {v : Value} (hW : Below w.heap.size w w1) (hc : Chg (blockOf A) w1 w2) {b : Nat} {t : TypeId} {cs : Array Value} (hb : Blk w b t cs) (ht : 44 ≠ t) (hne : b ≠ g) : Blk (w2.setCell ⟨g, 0, none⟩ v) b t cs :=
  (hc.blk (hb.below hW hb.lt) ((P.below hW).ra.blk_ne (hb.below hW hb.lt) ht)).far (p := ⟨g, 0, none⟩) hne v
end
/-- the same two boxes, whatever they hold -/
def Cuts (w : World) (B g h : Nat) (xs ys : List Str) : Prop := ∃ A c D d, Pair w B g h A c D d xs ys
theorem Cuts.swap {w : World} {B g h : Nat} {xs ys : List Str} (H : Cuts w B g h xs ys) : Cuts w B h g ys xs := by
  obtain ⟨A, c, D, d, P⟩ := H
  exact ⟨D, d, A, c, P.swap⟩
theorem Cuts.below {w w' : World} {B g h : Nat} {xs ys : List Str} (H : Cuts w B g h xs ys) (hb : Below w.heap.size w w') : Cuts w' B g h xs ys := by
  obtain ⟨A, c, D, d, P⟩ := H
  exact ⟨A, c, D, d, P.below hb⟩
section
variable (g1 g2 g3 B : Nat) (at_ : Int) (s : Str) (w : World) (hB : B ≤ w.heap.size) (h1 : Blk w g1 3 #[.int .i64 at_]) (xs ys : List Str) (hx : xs.length < 1000000) (hy : ys.length < 1000000) (H : Cuts w B g2 g3 xs ys)
include hB h1 hx hy H
omit hx in
set_option maxRecDepth 100000 in
set_option maxHeartbeats 4000000 in
/-- behind: the stretch goes to the second slice -/
theorem cut1_b (hf : at_ ≤ s.f) : Calls Try.prog 30 #[.agg #[.int .i64 s.f, .int .i64 s.t, .int .i64 s.h], .pointer (some ⟨g1, 0, none⟩), .pointer (some ⟨g2, 0, none⟩), .pointer (some ⟨g3, 0, none⟩)] w fun e w' =>
    e = .returned (.tuple #[]) ∧ Cuts w' B g2 g3 xs (ys ++ [s]) ∧ Below B w w' ∧ Blk w' g1 3 #[.int .i64 at_] := by
  obtain ⟨i0, hi, hz0, hz1, hz2⟩ := info_parts info44
  obtain ⟨A, c, D, d, P⟩ := H
  obtain ⟨f, t, z⟩ := s
  simp only at *
  have hW : Below w.heap.size w ((w.alloc (.cells #[.int .i64 f, .int .i64 t, .int .i64 z] 44)).alloc (.cells #[.int .i64 f, .int .i64 t, .int .i64 z] 44)) := ((Below.refl _ _).alloc (Nat.le_refl _) _).alloc (by simp) _
  have k1 : w.cell? ⟨g1, 0, none⟩ = some (.int .i64 at_) := h1.cell 0
  have k3 : w.cell? ⟨g3, 0, none⟩ = some (.slice D ys.length d) := P.b.cell 0
  have f3 : w.frozen? ⟨g3, 0, none⟩ = false := P.b.frozen 0
  have l1 := h1.lt
  have l3 := P.b.lt
  have nd : ¬ blockOf D g3 := P.rb.blk_ne P.b (by decide)
  have rb1 := P.rb.below hW
  have HP := Lib.hid P
  have HW := Lib.hid hW
  have H1 := Lib.hid h1
  clear P hW h1
  go_enter Try.func30, Try.ntmps30
  go_wp2_with (at_builtin; refine wpList_append_row _ rfl (.tmp 5) (.tmp 7) 24 rfl B 44 i0 (.agg #[.int .i64 0, .int .i64 0, .int .i64 0]) 3 24 Try.underlying24 hi hz0 hz1 hz2 rfl (by decide) D ys.length d (flat ys) rfl rb1 (by simp; omega) ⟨w.heap.size + 1, 0, none⟩ 1 1 (by omega) (flat [⟨f, t, z⟩]) rfl ((lit_readsN _ #[.int .i64 f, .int .i64 t, .int .i64 z] 44 (w.heap.size + 1) 3 1 _ (by simp) rfl rfl).more (by simp)) (flat_one _) (by unfold maxLen; omega) (by omega) ?_)
  intro A' c' w2 hrow hch hfr
  have HR := Lib.hid hrow
  have HC := Lib.hid hch
  have HF := Lib.hid hfr
  have m3 := (hch.cell (a := ⟨g3, 0, none⟩) (by simp; omega) nd).trans ((HW.out.cell (p := ⟨g3, 0, none⟩) l3).trans k3)
  have n3 := (hch.frozen (a := ⟨g3, 0, none⟩) (by simp; omega) nd).trans ((HW.out.frozen (p := ⟨g3, 0, none⟩) l3).trans f3)
  clear hrow hch hfr rb1
  go_wp2_with fail
  go_end0
  exact ⟨rfl, Cuts.swap ⟨_, _, _, _, HP.out.swap.push HW.out HR.out HC.out (by simpa using HF.out)⟩, HP.out.swap.frame HW.out hB HC.out, HP.out.swap.keep HW.out HC.out H1.out (by decide) (H1.out.ne_ HP.out.b (by decide))⟩
omit hy in
set_option maxRecDepth 100000 in
set_option maxHeartbeats 4000000 in
/-- ahead: the stretch goes to the first slice -/
theorem cut1_a (hf : s.f < at_) (ht : s.t ≤ at_) : Calls Try.prog 30 #[.agg #[.int .i64 s.f, .int .i64 s.t, .int .i64 s.h], .pointer (some ⟨g1, 0, none⟩), .pointer (some ⟨g2, 0, none⟩), .pointer (some ⟨g3, 0, none⟩)] w fun e w' =>
    e = .returned (.tuple #[]) ∧ Cuts w' B g2 g3 (xs ++ [s]) ys ∧ Below B w w' ∧ Blk w' g1 3 #[.int .i64 at_] := by
  obtain ⟨i0, hi, hz0, hz1, hz2⟩ := info_parts info44
  obtain ⟨A, c, D, d, P⟩ := H
  obtain ⟨f, t, z⟩ := s
  simp only at *
  have hW : Below w.heap.size w ((w.alloc (.cells #[.int .i64 f, .int .i64 t, .int .i64 z] 44)).alloc (.cells #[.int .i64 f, .int .i64 t, .int .i64 z] 44)) := ((Below.refl _ _).alloc (Nat.le_refl _) _).alloc (by simp) _
  have k1 : w.cell? ⟨g1, 0, none⟩ = some (.int .i64 at_) := h1.cell 0
  have k2 : w.cell? ⟨g2, 0, none⟩ = some (.slice A xs.length c) := P.a.cell 0
  have f2 : w.frozen? ⟨g2, 0, none⟩ = false := P.a.frozen 0
  have l1 := h1.lt
  have l2 := P.a.lt
  have na : ¬ blockOf A g2 := P.ra.blk_ne P.a (by decide)
  have ra1 := P.ra.below hW
  have HP := Lib.hid P
  have HW := Lib.hid hW
  have H1 := Lib.hid h1
  clear P hW h1
  go_enter Try.func30, Try.ntmps30
  go_wp2_with (at_builtin; refine wpList_append_row _ rfl (.tmp 43) (.tmp 45) 24 rfl B 44 i0 (.agg #[.int .i64 0, .int .i64 0, .int .i64 0]) 3 24 Try.underlying24 hi hz0 hz1 hz2 rfl (by decide) A xs.length c (flat xs) rfl ra1 (by simp; omega) ⟨w.heap.size + 1, 0, none⟩ 1 1 (by omega) (flat [⟨f, t, z⟩]) rfl ((lit_readsN _ #[.int .i64 f, .int .i64 t, .int .i64 z] 44 (w.heap.size + 1) 3 1 _ (by simp) rfl rfl).more (by simp)) (flat_one _) (by unfold maxLen; omega) (by omega) ?_)
  intro A' c' w2 hrow hch hfr
  have HR := Lib.hid hrow
  have HC := Lib.hid hch
  have HF := Lib.hid hfr
  have m2 := (hch.cell (a := ⟨g2, 0, none⟩) (by simp; omega) na).trans ((HW.out.cell (p := ⟨g2, 0, none⟩) l2).trans k2)
  have n2 := (hch.frozen (a := ⟨g2, 0, none⟩) (by simp; omega) na).trans ((HW.out.frozen (p := ⟨g2, 0, none⟩) l2).trans f2)
  clear hrow hch hfr ra1
  go_wp2_with fail
  go_end0
  exact ⟨rfl, ⟨_, _, _, _, HP.out.push HW.out HR.out HC.out (by simpa using HF.out)⟩, HP.out.frame HW.out hB HC.out, HP.out.keep HW.out HC.out H1.out (by decide) (H1.out.ne_ HP.out.a (by decide))⟩
set_option maxRecDepth 100000 in
set_option maxHeartbeats 8000000 in
/-- in the midst: a part goes to each -/
theorem cut1_ab (hf : s.f < at_) (ht : at_ < s.t) : Calls Try.prog 30 #[.agg #[.int .i64 s.f, .int .i64 s.t, .int .i64 s.h], .pointer (some ⟨g1, 0, none⟩), .pointer (some ⟨g2, 0, none⟩), .pointer (some ⟨g3, 0, none⟩)] w fun e w' =>
    e = .returned (.tuple #[]) ∧ Cuts w' B g2 g3 (xs ++ [⟨s.f, at_, s.h⟩]) (ys ++ [⟨at_, s.t, s.h⟩]) ∧ Below B w w' ∧ Blk w' g1 3 #[.int .i64 at_] := by
  obtain ⟨i0, hi, hz0, hz1, hz2⟩ := info_parts info44
  obtain ⟨A, c, D, d, P⟩ := H
  obtain ⟨f, t, z⟩ := s
  simp only at *
  have hW : Below w.heap.size w ((w.alloc (.cells #[.int .i64 f, .int .i64 t, .int .i64 z] 44)).alloc (.cells #[.int .i64 f, .int .i64 at_, .int .i64 z] 44)) := ((Below.refl _ _).alloc (Nat.le_refl _) _).alloc (by simp) _
  have k1 : w.cell? ⟨g1, 0, none⟩ = some (.int .i64 at_) := h1.cell 0
  have k2 : w.cell? ⟨g2, 0, none⟩ = some (.slice A xs.length c) := P.a.cell 0
  have f2 : w.frozen? ⟨g2, 0, none⟩ = false := P.a.frozen 0
  have l1 := h1.lt
  have l2 := P.a.lt
  have na : ¬ blockOf A g2 := P.ra.blk_ne P.a (by decide)
  have n1 : ¬ blockOf A g1 := P.ra.blk_ne h1 (by decide)
  have nbx : ¬ blockOf A w.heap.size := fun hk => by have := (P.ra.lt hk).2; omega
  have ng2 : w.heap.size ≠ g2 := by omega
  have hne12 : g1 ≠ g2 := h1.ne_ P.a (by decide)
  have hbx : Blk ((w.alloc (.cells #[.int .i64 f, .int .i64 t, .int .i64 z] 44)).alloc (.cells #[.int .i64 f, .int .i64 at_, .int .i64 z] 44)) w.heap.size 44 #[.int .i64 f, .int .i64 t, .int .i64 z] := (Blk.new w 44 _).alloc _
  have h1W := h1.below hW l1
  have ra1 := P.ra.below hW
  have HP := Lib.hid P
  have HW := Lib.hid hW
  have H1 := Lib.hid h1
  have HX := Lib.hid hbx
  have H1W := Lib.hid h1W
  clear P hW h1 hbx h1W
  go_enter Try.func30, Try.ntmps30
  go_wp2_with (at_builtin; refine wpList_append_row _ rfl (.tmp 20) (.tmp 27) 24 rfl B 44 i0 (.agg #[.int .i64 0, .int .i64 0, .int .i64 0]) 3 24 Try.underlying24 hi hz0 hz1 hz2 rfl (by decide) A xs.length c (flat xs) rfl ra1 (by simp; omega) ⟨w.heap.size + 1, 0, none⟩ 1 1 (by omega) (flat [⟨f, at_, z⟩]) rfl ((lit_readsN _ #[.int .i64 f, .int .i64 at_, .int .i64 z] 44 (w.heap.size + 1) 3 1 _ (by simp) rfl rfl).more (by simp)) (flat_one _) (by unfold maxLen; omega) (by omega) ?_)
  intro A' c' w2 hrow hch hfr
  have P2 := HP.out.push HW.out hrow hch (by simpa using hfr)
  have K2 := Lib.hid (HP.out.keep (v := .slice A' (xs.length + 1) c') HW.out hch H1.out (by decide) (H1.out.ne_ HP.out.a (by decide)))
  have B2 := HP.out.frame (v := .slice A' (xs.length + 1) c') HW.out hB hch
  have x2 := hch.blk HX.out nbx
  have y2 := hch.blk H1W.out n1
  have m2 := (hch.cell (a := ⟨g2, 0, none⟩) (by simp; omega) na).trans ((HW.out.cell (p := ⟨g2, 0, none⟩) l2).trans k2)
  have n2 := (hch.frozen (a := ⟨g2, 0, none⟩) (by simp; omega) na).trans ((HW.out.frozen (p := ⟨g2, 0, none⟩) l2).trans f2)
  have ne23 := HP.out.ne
  have n3 : ¬ blockOf A g3 := HP.out.ra.blk_ne HP.out.b (by decide)
  have hb2 := hch.blk (HP.out.b.below HW.out HP.out.b.lt) n3
  have k3 : w2.cell? ⟨g3, 0, none⟩ = some (.slice D ys.length d) := hb2.cell 0
  have f3 : w2.frozen? ⟨g3, 0, none⟩ = false := hb2.frozen 0
  have l3 := P2.b.lt
  have nd : ¬ blockOf D g3 := P2.rb.blk_ne P2.b (by decide)
  obtain ⟨b0, b1, b2, _, _, _⟩ := x2.three_
  have a0 : w2.cell? ⟨g1, 0, none⟩ = some (.int .i64 at_) := y2.cell 0
  have k4 := P2.b.cell 0
  have f4 := P2.b.frozen 0
  have hW4 : Below (w2.setCell ⟨g2, 0, none⟩ (.slice A' (xs.length + 1) c')).heap.size (w2.setCell ⟨g2, 0, none⟩ (.slice A' (xs.length + 1) c')) ((w2.setCell ⟨g2, 0, none⟩ (.slice A' (xs.length + 1) c')).alloc (.cells #[.int .i64 at_, .int .i64 t, .int .i64 z] 44)) := (Below.refl _ _).alloc (Nat.le_refl _) _
  have rb4 := P2.rb.below hW4
  have HP2 := Lib.hid P2
  have HB2 := Lib.hid B2
  have HW4 := Lib.hid hW4
  have HK4 := Lib.hid k4
  have HF4 := Lib.hid f4
  have HL3 := Lib.hid l3
  have hsz2 : w.heap.size < w2.heap.size := x2.lt
  have l3' : g3 < w2.heap.size := hb2.lt
  have ne32 : g3 ≠ g2 := Ne.symm ne23
  have nex2 : w.heap.size ≠ g2 := ng2
  have l22 : g2 < w2.heap.size := by omega
  have hB3 : B ≤ w2.heap.size := by omega
  clear hrow hch hfr ra1 P2 B2 x2 y2 hW4 k4 f4 l3 hb2
  go_wp2_with (at_builtin; refine wpList_append_row _ rfl (.tmp 29) (.tmp 36) 24 rfl B 44 i0 (.agg #[.int .i64 0, .int .i64 0, .int .i64 0]) 3 24 Try.underlying24 hi hz0 hz1 hz2 rfl (by decide) D ys.length d (flat ys) rfl rb4 (by simp; omega) ⟨w2.heap.size, 0, none⟩ 1 1 (by omega) (flat [⟨at_, t, z⟩]) rfl ((lit_readsN _ #[.int .i64 at_, .int .i64 t, .int .i64 z] 44 w2.heap.size 3 1 _ (by simp) rfl rfl).more (by simp)) (flat_one _) (by unfold maxLen; omega) (by omega) ?_)
  intro A2 c2 w5 hrow hch hfr
  have HR := Lib.hid hrow
  have HC := Lib.hid hch
  have HF := Lib.hid hfr
  have m3 := (hch.cell (a := ⟨g3, 0, none⟩) (by simp; omega) nd).trans ((HW4.out.cell (p := ⟨g3, 0, none⟩) HL3.out).trans HK4.out)
  have n3 := (hch.frozen (a := ⟨g3, 0, none⟩) (by simp; omega) nd).trans ((HW4.out.frozen (p := ⟨g3, 0, none⟩) HL3.out).trans HF4.out)
  clear hrow hch hfr rb4
  go_wp2_with fail
  go_end0
  exact ⟨rfl, Cuts.swap ⟨_, _, _, _, HP2.out.swap.push HW4.out HR.out HC.out (by simpa using HF.out)⟩, HB2.out.trans (HP2.out.swap.frame HW4.out (by simp; omega) HC.out), HP2.out.swap.keep HW4.out HC.out K2.out (by decide) (K2.out.ne_ HP2.out.b (by decide))⟩
theorem cut1_any : Calls Try.prog 30 #[.agg #[.int .i64 s.f, .int .i64 s.t, .int .i64 s.h], .pointer (some ⟨g1, 0, none⟩), .pointer (some ⟨g2, 0, none⟩), .pointer (some ⟨g3, 0, none⟩)] w fun e w' =>
    e = .returned (.tuple #[]) ∧ Cuts w' B g2 g3 (xs ++ cutA at_ s) (ys ++ cutB at_ s) ∧ Below B w w' ∧ Blk w' g1 3 #[.int .i64 at_] := by
  unfold cutA cutB
  by_cases c1 : s.f < at_ ∧ at_ < s.t
  · rw [if_pos c1, if_pos c1]
    exact cut1_ab g1 g2 g3 B at_ s w hB h1 xs ys hx hy H c1.1 c1.2
  · rw [if_neg c1, if_neg c1]
    by_cases c2 : s.f < at_
    · rw [if_pos c2, if_pos c2, List.append_nil]
      exact cut1_a g1 g2 g3 B at_ s w hB h1 xs ys hx H c2 (by omega)
    · rw [if_neg c2, if_neg c2, List.append_nil]
      exact cut1_b g1 g2 g3 B at_ s w hB h1 xs ys hy H (by omega)
end
theorem ahead_next {at_ : Int} {l : List Str} {k : Nat} {s : Str} (h : l[k]? = some s) : ahead at_ (l.take (k + 1)) = ahead at_ (l.take k) ++ cutA at_ s ∧ behind at_ (l.take (k + 1)) = behind at_ (l.take k) ++ cutB at_ s := by
  rw [List.take_add_one, h]
  simp [ahead, behind]
set_option maxRecDepth 100000 in
set_option maxHeartbeats 2000000 in
theorem each_cut (g1 g2 g3 : Nat) (at_ : Int) (A : Option Addr) (n c : Nat) (l : List Str) (w : World) (B : Nat) (hB : B ≤ w.heap.size) (h : Strs w B A n l) (hn : n ≤ 100000) (h1 : Blk w g1 3 #[.int .i64 at_]) (H : Cuts w B g2 g3 [] []) :
    Calls Try.prog 29 #[.slice A n c, .func (.func 30) #[] #[.pointer (some ⟨g1, 0, none⟩), .pointer (some ⟨g2, 0, none⟩), .pointer (some ⟨g3, 0, none⟩)]] w fun e w' => e = .returned (.tuple #[]) ∧ Cuts w' B g2 g3 (ahead at_ l) (behind at_ l) ∧ Below B w w' := by
  have HK := Lib.hid H
  have H1 := Lib.hid h1
  clear H h1
  go_enter Try.func29, Try.ntmps29
  go_wp2_with fail
  go_loopw [5, 8] (fun _ i v => ∃ k : Nat, k ≤ n ∧ i = .int .i64 k ∧ Cuts v B g2 g3 (ahead at_ (l.take k)) (behind at_ (l.take k)) ∧ Below B w v ∧ Blk v g1 3 #[.int .i64 at_]) (fun _ i _ => n - (intOf i).toNat)
  case atStart => exact ⟨0, by omega, rfl, HK.out, Below.refl _ _, H1.out⟩
  case round =>
    obtain ⟨k, hk, rfl, hck, hbel, hg1⟩ := hrel
    clear HK H1
    by_cases hlt : k < n
    · obtain ⟨a', s, hA, hs, hab, x0, x1, x2⟩ := (h.below hbel).at_ hlt
      subst hA
      obtain ⟨n1, n2⟩ := ahead_next (at_ := at_) hs
      have N1 := Lib.hid n1
      have N2 := Lib.hid n2
      have hB1 : Below wr.heap.size wr (wr.alloc (.cells #[.int .i64 s.f, .int .i64 s.t, .int .i64 s.h] 44)) := (Below.refl _ _).alloc (Nat.le_refl _) _
      have hlen : (l.take k).length = k := by rw [List.length_take, h.1]; omega
      obtain ⟨c1, c2⟩ := cut_len at_ (l.take k)
      have hl1 : (ahead at_ (l.take k)).length < 1000000 := by omega
      have hl2 : (behind at_ (l.take k)).length < 1000000 := by omega
      have HC := Lib.hid (hck.below hB1)
      have HG := Lib.hid (hg1.below hB1 hg1.lt)
      have HB0 := Lib.hid hbel
      have hsz := hbel.size
      have HB1 := Lib.hid hB1
      clear hs hck hbel hg1 n1 n2 hB1 c1 c2 hlen
      go_wp2_with fail
      refine (cut1_any g1 g2 g3 B at_ s _ (by simp; omega) HG.out _ _ hl1 hl2 HC.out).mono ?_
      rintro e w2 ⟨rfl, hC, hb2, hk2⟩
      have HC2 := Lib.hid hC
      have HB2 := Lib.hid hb2
      have HK2 := Lib.hid hk2
      clear hC hb2 hk2
      go_wp2_with fail
      go_roundw
      case rel => exact ⟨k + 1, by omega, by go_num, by rw [N1.out, N2.out]; exact HC2.out, (HB0.out.trans (HB1.out.mono (Nat.le_trans hB hsz))).trans HB2.out, HK2.out⟩
      case measure => simp [intOf]; omega
    · obtain rfl : k = n := by omega
      have HC : Hid (Cuts wr B g2 g3 (ahead at_ l) (behind at_ l)) := by rw [List.take_of_length_le (by rw [h.1]; exact Nat.le_refl _)] at hck; exact hck
      have HCh := Lib.hid hbel
      clear hck hbel
      go_wp2_with fail
      go_end0
      exact ⟨rfl, HC.out, HCh.out⟩
/-- what Cut leaves: two slices of the call's own -/
def CutV (B : Nat) (w : World) (xs ys : List Str) (e : Ending) (w' : World) : Prop :=
  ∃ A c D d, e = .returned (.tuple #[.slice A xs.length c, .slice D ys.length d]) ∧ Below B w w' ∧ Row w' B 44 3 A xs.length c (flat xs) ∧ Row w' B 44 3 D ys.length d (flat ys) ∧ ∀ k, blockOf A k → ¬ blockOf D k
set_option maxHeartbeats 2000000 in
theorem cut_any (at_ : Int) (A : Option Addr) (n c : Nat) (l : List Str) (w : World) (h : Strs w w.heap.size A n l) (hn : n ≤ 100000) :
    Calls Try.prog 18 #[.slice A n c, .int .i64 at_] w (CutV w.heap.size w (ahead at_ l) (behind at_ l)) := by
  obtain ⟨w1, hw1⟩ : ∃ w1, w1 = ((w.alloc (.cells #[.int .i64 at_] 3)).alloc (.cells #[.slice none 0 0] 24)).alloc (.cells #[.slice none 0 0] 24) := ⟨_, rfl⟩
  have b1 : Blk w1 w.heap.size 3 #[.int .i64 at_] := by rw [hw1]; exact ((Blk.new w 3 _).alloc _).alloc _
  have b2 : Blk w1 (w.heap.size + 1) 24 #[.slice none 0 0] := by rw [hw1]; have := Blk.new (w.alloc (.cells #[.int .i64 at_] 3)) 24 #[.slice none 0 0]; simp only [World.size_alloc] at this; exact this.alloc _
  have b3 : Blk w1 (w.heap.size + 1 + 1) 24 #[.slice none 0 0] := by rw [hw1]; have := Blk.new ((w.alloc (.cells #[.int .i64 at_] 3)).alloc (.cells #[.slice none 0 0] 24)) 24 #[.slice none 0 0]; simpa using this
  have hb : Below w.heap.size w w1 := by rw [hw1]; exact (((Below.refl _ _).alloc (Nat.le_refl _) _).alloc (by simp) _).alloc (by simp; omega) _
  have hsz : w1.heap.size = w.heap.size + 3 := by rw [hw1]; simp
  have hC : Cuts w1 w.heap.size (w.heap.size + 1) (w.heap.size + 1 + 1) [] [] := ⟨none, 0, none, 0, b2, b3, Row.nil _ _ _ _, Row.nil _ _ _ _, (by rintro k ⟨a, e, _⟩; cases e), by omega, by omega, by omega⟩
  have h1 := Lib.hid (h.below hb)
  have HB := Lib.hid hb
  have HC := Lib.hid hC
  have HB1 := Lib.hid b1
  have HW := Lib.hid hw1
  have HS := Lib.hid hsz
  clear hw1 b1 b2 b3 hb hC hsz h
  go_enter Try.func18, Try.ntmps18
  go_wp2_with fail
  rw [← HW.out]
  clear HW
  refine (each_cut w.heap.size (w.heap.size + 1) (w.heap.size + 1 + 1) at_ A n c l w1 w.heap.size (by have := HS.out; omega) h1.out hn HB1.out HC.out).mono ?_
  rintro e w2 ⟨rfl, ⟨A', c', D, d, P⟩, hb2⟩
  have k2 : w2.cell? ⟨w.heap.size + 1, 0, none⟩ = some (.slice A' (ahead at_ l).length c') := P.a.cell 0
  have k3 : w2.cell? ⟨w.heap.size + 1 + 1, 0, none⟩ = some (.slice D (behind at_ l).length d) := P.b.cell 0
  have HP := Lib.hid P
  have HB2 := Lib.hid (HB.out.trans hb2)
  clear P hb2
  go_wp2_with fail
  go_quiet (fail)
  go_wp2_with fail
  go_ret2
  exact ⟨A', c', D, d, rfl, below_drewN' HB2.out _, HP.out.ra.drewN _, HP.out.rb.drewN _, HP.out.ap⟩
end Go.Proofs.Ytlmnbdepklcfpaa
