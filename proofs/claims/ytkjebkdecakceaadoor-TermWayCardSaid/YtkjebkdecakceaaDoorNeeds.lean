/- term.Needs, the reference's Needs, Cost, Risk, and the comparison of two slices of ints: their contracts. Condition: the table ('Tab'). -/
import Derived.Test.YtkjebkdecakceaaDoorCounts
namespace Go.Proofs.YtkjebkdecakceaaDoor
open Go.RowKit

theorem info3 : (Tryd.prog.info? 3).map (fun i => (i.zero, i.size, i.bytes)) = some (some (.int .i64 0), 1, 8) := by kernel_rfl
def ints (zs : List Int) : List Value := zs.map (Value.int .i64)
theorem ints_one (zs : List Int) : ∀ u ∈ ints zs, u.oneCell' = true := ints_oneCell .i64 zs

set_option maxHeartbeats 400000 in
/-- slices.Clone at []int, of a slice that is not nil -/
theorem clone_ints (a : Addr) (n c : Nat) (zs : List Int) (w : World) (hr : Reads w w.heap.size 1 (some a) n (ints zs)) (hn : n * 8 ≤ 140737488351232) :
    Calls Tryd.prog 28 #[.slice (some a) n c] w fun e w' => ∃ A c', e = .returned (.slice A n c') ∧ Reads w' w'.heap.size 1 A n (ints zs) ∧ Below w.heap.size w w' := by
  obtain ⟨i0, hi, hz0, hz1, hz2⟩ := info_parts info3
  have hne : ∀ w, (binOp .eql 28 (.slice (some a) n c) (.slice none 0 0)).run Tryd.prog w = .ok (.bool false) w := fun w => Lib.run_eql_slice_nil (P := Tryd.prog) w 28 3 (some a) n c 0 0 Tryd.underlying28
  go_enter Tryd.func28, Tryd.ntmps28
  go_wp2_with (at_builtin; refine wpList_append_any _ rfl (.tmp 5) (.tmp 6) 28 rfl w.heap.size 3 i0 (.int .i64 0) 1 8 Tryd.underlying28 hi hz0 hz1 hz2 rfl (by decide) (.slice (some ⟨w.heap.size, 0, none⟩) 0 0) 0 [] rfl (World.ownsRow_lit w #[] 0 (Nat.le_refl _) (Nat.zero_le _) rfl) w.heap.size (some a) n c (ints zs) rfl (hr.alloc (Nat.le_refl _) _) (ints_one zs) (by unfold maxLen; omega) (by omega) (by simp) ?_; intro v1 w1 hown1 hg1 _; obtain ⟨A1, c1, rfl, hle1⟩ := own_form hown1)
  go_ret
  simp only [Nat.zero_add, List.nil_append] at hown1
  exact ⟨A1, c1, rfl, Reads.of_own hown1, below_own ((Below.refl _ _).alloc (Nat.le_refl _) _) (World.ownsRow_lit (size := 1) w #[] 0 (Nat.le_refl _) (Nat.zero_le _) rfl) (Nat.le_refl _) hg1⟩
set_option maxHeartbeats 400000 in
theorem clone_nil (w : World) :
    Calls Tryd.prog 28 #[.slice none 0 0] w fun e w' => e = .returned (.slice none 0 0) ∧ w = w' := by
  have hne : ∀ w, (binOp .eql 28 (.slice none 0 0) (.slice none 0 0)).run Tryd.prog w = .ok (.bool true) w := fun w => Lib.run_eql_slice_nil (P := Tryd.prog) w 28 3 none 0 0 0 0 Tryd.underlying28
  go_enter Tryd.func28, Tryd.ntmps28
  go_wp2
  go_ret
  exact ⟨rfl, rfl⟩

theorem papers_len (t : Nat) : (tPapers t).length ≤ 4 ∧ 2 ≤ (tPapers t).length := by unfold tPapers; split <;> decide
theorem tab_reads {w : World} {PA : Nat → Addr} {cp : Nat → Nat} (T : Tab w PA cp) (t : Nat) (ht : t < 8) : Reads w w.heap.size 1 (some (PA t)) (tPapers t).length (ints (tPapers t)) := by
  refine ⟨by simp [ints], fun _ => ⟨PA t, rfl, T.pb t ht, fun j u hu => ?_⟩⟩
  simp only [ints, List.getElem?_map, Option.map_eq_some_iff] at hu
  obtain ⟨v, hv, rfl⟩ := hu
  exact T.pc t ht j v hv

set_option maxHeartbeats 400000 in
theorem needs_in (t : Nat) (ht : t < 8) (w : World) {PA cp} (T : Tab w PA cp) :
    Calls Tryd.prog 14 #[.int .i64 t] w fun e w' => ∃ A c, e = .returned (.slice A (tPapers t).length c) ∧ Reads w' w'.heap.size 1 A (tPapers t).length (ints (tPapers t)) ∧ Below w.heap.size w w' := by
  have hl := (papers_len t).1
  go_enter Tryd.func14, Tryd.ntmps14
  go_wp2_with (go_at_call 27; refine (of_in t ht w T).mono ?_; rintro e w' ⟨rfl, hb⟩)
  go_wp2_with fail
  refine (clone_ints (PA t) _ _ (tPapers t) _ ((tab_reads (T.below (hb.alloc hb.size _)) t ht)) (by omega)).mono ?_
  rintro e w1 ⟨A, c, rfl, hr, hb1⟩
  go_wp2
  go_ret
  exact ⟨A, c, rfl, hr, below_trans (hb.alloc hb.size _) hb1⟩
set_option maxHeartbeats 400000 in
theorem needs_out (t : Int) (h : t < 0 ∨ 8 ≤ t) (w : World) :
    Calls Tryd.prog 14 #[.int .i64 t] w fun e w' => e = .returned (.slice none 0 0) ∧ Below w.heap.size w w' := by
  go_enter Tryd.func14, Tryd.ntmps14
  go_wp2_with (first | (go_at_call 27; refine (of_out t w h).mono ?_; rintro e w' ⟨rfl, hb⟩) | (go_at_call 28; refine (clone_nil _).mono ?_; rintro e w1 ⟨rfl, rfl⟩))
  go_ret
  exact ⟨rfl, hb.alloc hb.size _⟩

/-- a slice of these ints, in memory of the callee's own; nothing that was there has turned -/
def IntsRes (W : World) (zs : List Int) (e : Ending) (w' : World) : Prop := ∃ A c, e = .returned (.slice A zs.length c) ∧ Reads w' w'.heap.size 1 A zs.length (ints zs) ∧ Below W.heap.size W w'
set_option maxHeartbeats 800000 in
/-- the reference's Needs -/
theorem refneeds (t : Nat) (ht : t < 8) (w : World) : Calls Tryd.prog 18 #[.int .i64 t] w (IntsRes w (tPapers t)) := by
  obtain ⟨i0, hi, hz0, hz1, hz2⟩ := info_parts info3
  have l1 : (w.alloc (.cells #[.int .i64 0, .int .i64 1] 3)).ownsRow w.heap.size 3 1 (.slice (some ⟨w.heap.size, 0, none⟩) 2 2) 2 (ints [0, 1]) := World.ownsRow_lit w _ 2 (Nat.le_refl _) (by unfold maxLen; omega) rfl
  by_cases h2 : t < 2
  · have hp : tPapers t = [0, 1] := by match t, h2 with | 0, _ => rfl | 1, _ => rfl
    rw [hp]
    have q4 : ((t : Int) == 4) = false := by simp; omega
    go_enter Tryd.func18, Tryd.ntmps18
    go_wp2
    go_ret
    exact ⟨_, _, rfl, Reads.of_own l1, (Below.refl _ _).alloc (Nat.le_refl _) _⟩
  · have q2 : (2 : Int) ≤ (t : Int) := by omega
    rcases (show (2 ≤ t ∧ t ≠ 4 ∧ t < 6) ∨ t = 4 ∨ 6 ≤ t by omega) with ⟨g1, g2, g3⟩ | rfl | g
    · have hp : tPapers t = [0, 1, 2] := by match t, g1, g2, g3 with | 2, _, _, _ | 3, _, _, _ | 5, _, _, _ => rfl
      rw [hp]
      have q4 : ((t : Int) == 4) = false := by simp; omega
      have q6 : ¬ (6 : Int) ≤ (t : Int) := by omega
      go_enter Tryd.func18, Tryd.ntmps18
      go_wp2_with (at_builtin; refine wpList_append_any _ rfl (.tmp 7) (.tmp 8) 28 rfl w.heap.size 3 i0 (.int .i64 0) 1 8 Tryd.underlying28 hi hz0 hz1 hz2 rfl (by decide) _ 2 (ints [0, 1]) rfl (l1.alloc _) _ _ 1 1 (ints [2]) rfl (lit_one _ _ 3 _ (by simp)) (ints_one _) (by unfold maxLen; omega) (by omega) (by simp; omega) ?_; intro v1 w1 hown1 hg1 _; obtain ⟨A1, c1, rfl, hle1⟩ := own_form hown1; have hb1 := below_own (((Below.refl _ w).alloc (Nat.le_refl _) _).alloc (by simp) _) (l1.alloc _) (Nat.le_refl _) hg1; have hz1' := hb1.size)
      go_ret
      exact ⟨A1, c1, rfl, Reads.of_own hown1, hb1⟩
    · go_enter Tryd.func18, Tryd.ntmps18
      go_wp2_with (first | (at_builtin; refine wpList_append_any _ rfl (.tmp 7) (.tmp 8) 28 rfl w.heap.size 3 i0 (.int .i64 0) 1 8 Tryd.underlying28 hi hz0 hz1 hz2 rfl (by decide) _ 2 (ints [0, 1]) rfl (l1.alloc _) _ _ 1 1 (ints [2]) rfl (lit_one _ _ 3 _ (by simp)) (ints_one _) (by unfold maxLen; omega) (by omega) (by simp; omega) ?_; intro v1 w1 hown1 hg1 _; obtain ⟨A1, c1, rfl, hle1⟩ := own_form hown1; have hb1 := below_own (((Below.refl _ w).alloc (Nat.le_refl _) _).alloc (by simp) _) (l1.alloc _) (Nat.le_refl _) hg1; have hz1' := hb1.size) | (at_builtin; refine wpList_append_any _ rfl (.tmp 12) (.tmp 13) 28 rfl w.heap.size 3 i0 (.int .i64 0) 1 8 Tryd.underlying28 hi hz0 hz1 hz2 rfl (by decide) _ 3 (ints [0, 1, 2]) rfl (hown1.alloc _) _ _ 1 1 (ints [3]) rfl (lit_one _ _ 3 _ (by simp)) (ints_one _) (by unfold maxLen; omega) (by omega) (by simp; omega) ?_; intro v2 w2 hown2 hg2 _; obtain ⟨A2, c2, rfl, hle2⟩ := own_form hown2; have hb2 := below_own (hb1.alloc hz1' _) (hown1.alloc _) (Nat.le_refl _) hg2; have hz2' := hb2.size))
      go_ret
      exact ⟨A2, c2, rfl, Reads.of_own hown2, hb2⟩
    · have hp : tPapers t = [0, 1, 2, 4] := by match t, g, ht with | 6, _, _ | 7, _, _ => rfl
      rw [hp]
      have q4 : ((t : Int) == 4) = false := by simp; omega
      have q6 : (6 : Int) ≤ (t : Int) := by omega
      go_enter Tryd.func18, Tryd.ntmps18
      go_wp2_with (first | (at_builtin; refine wpList_append_any _ rfl (.tmp 7) (.tmp 8) 28 rfl w.heap.size 3 i0 (.int .i64 0) 1 8 Tryd.underlying28 hi hz0 hz1 hz2 rfl (by decide) _ 2 (ints [0, 1]) rfl (l1.alloc _) _ _ 1 1 (ints [2]) rfl (lit_one _ _ 3 _ (by simp)) (ints_one _) (by unfold maxLen; omega) (by omega) (by simp; omega) ?_; intro v1 w1 hown1 hg1 _; obtain ⟨A1, c1, rfl, hle1⟩ := own_form hown1; have hb1 := below_own (((Below.refl _ w).alloc (Nat.le_refl _) _).alloc (by simp) _) (l1.alloc _) (Nat.le_refl _) hg1; have hz1' := hb1.size) | (at_builtin; refine wpList_append_any _ rfl (.tmp 17) (.tmp 18) 28 rfl w.heap.size 3 i0 (.int .i64 0) 1 8 Tryd.underlying28 hi hz0 hz1 hz2 rfl (by decide) _ 3 (ints [0, 1, 2]) rfl (hown1.alloc _) _ _ 1 1 (ints [4]) rfl (lit_one _ _ 3 _ (by simp)) (ints_one _) (by unfold maxLen; omega) (by omega) (by simp; omega) ?_; intro v2 w2 hown2 hg2 _; obtain ⟨A2, c2, rfl, hle2⟩ := own_form hown2; have hb2 := below_own (hb1.alloc hz1' _) (hown1.alloc _) (Nat.le_refl _) hg2; have hz2' := hb2.size))
      go_ret
      exact ⟨A2, c2, rfl, Reads.of_own hown2, hb2⟩

theorem cellAtT (w : World) (cs : Array Value) (ty : TypeId) (t : Nat) (v : Value) (h : cs[t]? = some v) : (w.alloc (.cells cs ty)).cell? ⟨w.heap.size, t, none⟩ = some v := by
  rw [Blk.cell (Blk.new w ty cs) t, h]
set_option maxHeartbeats 400000 in
theorem refcost (t : Nat) (ht : t < 8) (w : World) :
    Calls Tryd.prog 15 #[.int .i64 t] w fun e w' => e = .returned (.int .i64 (tCost t)) ∧ Below w.heap.size w w' := by
  have hc := cellAtT w #[.int .i64 1, .int .i64 2, .int .i64 3, .int .i64 5, .int .i64 5, .int .i64 5, .int .i64 6, .int .i64 7] 3 t (.int .i64 (tCost t)) (by match t, ht with | 0, _ | 1, _ | 2, _ | 3, _ | 4, _ | 5, _ | 6, _ | 7, _ => rfl)
  go_enter Tryd.func15, Tryd.ntmps15
  go_wp2
  go_ret
  exact ⟨rfl, (Below.refl _ _).alloc (Nat.le_refl _) _⟩
set_option maxHeartbeats 400000 in
theorem refrisk (t : Nat) (ht : t < 8) (w : World) :
    Calls Tryd.prog 16 #[.int .i64 t] w fun e w' => e = .returned (.int .i64 (tRisk t)) ∧ Below w.heap.size w w' := by
  have hc := cellAtT w #[.int .i64 1, .int .i64 2, .int .i64 3, .int .i64 2, .int .i64 3, .int .i64 5, .int .i64 6, .int .i64 7] 3 t (.int .i64 (tRisk t)) (by match t, ht with | 0, _ | 1, _ | 2, _ | 3, _ | 4, _ | 5, _ | 6, _ | 7, _ => rfl)
  go_enter Tryd.func16, Tryd.ntmps16
  go_wp2
  go_ret
  exact ⟨rfl, (Below.refl _ _).alloc (Nat.le_refl _) _⟩

set_option maxHeartbeats 400000 in
theorem same_yes (A A' : Option Addr) (n c c' : Nat) (zs : List Int) (w : World) (h : Reads w w.heap.size 1 A n (ints zs)) (h' : Reads w w.heap.size 1 A' n (ints zs)) (hn : n ≤ 1000) :
    Calls Tryd.prog 17 #[.slice A n c, .slice A' n c'] w fun e w' => e = .returned (.bool true) ∧ Below w.heap.size w w' := by
  have q : ((n : Int) != (n : Int)) = false := by simp
  go_enter Tryd.func17, Tryd.ntmps17
  go_wp2
  go_loopw [5] (fun i wr => ∃ k : Nat, k ≤ n ∧ i = .int .i64 k ∧ ∃ d, wr = w.drewN d) (fun i _ => n - (intOf i).toNat)
  case atStart => exact ⟨0, by omega, rfl, 0, rfl⟩
  case round =>
    obtain ⟨k, hk, rfl, d, rfl⟩ := hrel
    by_cases hlt : k < n
    · obtain ⟨a, u, rfl, _, hu, hc⟩ := h.at_ hlt
      obtain ⟨a', u', rfl, _, hu', hc'⟩ := h'.at_ hlt
      obtain rfl := Option.some.inj (hu.symm.trans hu')
      simp only [ints, List.getElem?_map, Option.map_eq_some_iff] at hu
      obtain ⟨v, hv, rfl⟩ := hu
      have q2 : (v != v) = false := by simp
      clear hu' hv
      go_wp2_with fail
      go_quiet (fail)
      go_wp2
      go_roundw
      case rel => exact ⟨k + 1, by omega, by go_num, _, rfl⟩
      case measure => simp [intOf]; omega
    · go_wp2
      go_ret
      exact ⟨rfl, below_drewN' (Below.refl _ _) _⟩
end Go.Proofs.YtkjebkdecakceaaDoor
