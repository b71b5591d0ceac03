/- A store's copy. Condition: how the store lies. -/
import Derived.Test.YtffljpchkdhbhaaPlays
namespace Go.Proofs.Ytffljpchkdhbhaa
open Go.RowKit
set_option linter.unusedVariables false
set_option linter.unusedSimpArgs false

set_option maxHeartbeats 1000000 in
theorem clone_any (n c : Nat) (A : Option Addr) (l : List ByteArray) (hl : l.length = n) (hn : n ≤ 4096) (w : World) (B : Nat) (hrow : Row w B 9 1 A n c (strs l)) :
    Calls Try.prog 33 #[.slice A n c] w fun e w' => ∃ A' c', e = .returned (.slice A' n c') ∧ Row w' w.heap.size 9 1 A' n c' (strs l) ∧ Below w.heap.size w w' := by
  obtain ⟨i0, hi, hz0, hz1, hz2⟩ := info_parts info9
  rcases hrow.2 with ⟨rfl, rfl, rfl⟩ | ⟨r, cur, rfl, _⟩
  · have hl0 : l = [] := List.eq_nil_of_length_eq_zero hl
    subst hl0
    have hnil := Lib.run_eql_slice_nil w 22 9 none 0 0 0 0 Try.underlying22
    simp only [Option.isNone] at hnil
    go_enter Try.func33, Try.ntmps33
    go_wp2
    go_ret
    exact ⟨none, 0, rfl, Row.nil _ _ _ _, Below.refl _ _⟩
  · have hr := Lib.hid hrow.reads
    have HL := Lib.hid hl
    clear hl hrow
    have hnil := Lib.run_eql_slice_nil w 22 9 (some ⟨r, 0, none⟩) n c 0 0 Try.underlying22
    simp only [Option.isNone] at hnil
    go_enter Try.func33, Try.ntmps33
    go_wp2_with (at_builtin; refine wpList_append_any _ rfl (.tmp 5) (.tmp 6) 22 rfl w.heap.size 9 i0 (.string ⟨#[]⟩) 1 16 Try.underlying22 hi hz0 hz1 hz2 rfl (by decide) (.slice (some ⟨w.heap.size, 0, none⟩) 0 0) 0 [] rfl (World.ownsRow_lit w #[] 0 (Nat.le_refl _) (Nat.zero_le _) rfl) w.heap.size (some ⟨r, 0, none⟩) n c (strs l) rfl (hr.out.alloc (Nat.le_refl _) _) (strs_one _) (by unfold maxLen; omega) (by omega) (by simp) ?_)
    intro v1 w3 hown1 hg1 _
    obtain ⟨A1, c1', rfl, hle1⟩ := own_form hown1
    have HB3 := Lib.hid (below_own ((Below.refl w.heap.size w).alloc (Nat.le_refl _) _) (World.ownsRow_lit (size := 1) w #[] 0 (Nat.le_refl _) (Nat.zero_le _) rfl) (Nat.le_refl _) hg1)
    have O1 := Lib.hid hown1
    clear hown1 hg1
    go_wp2
    go_ret
    have O2 : w3.ownsRow w.heap.size 9 1 (.slice A1 n c1') n (strs l) := by have := O1.out; simpa using this
    exact ⟨A1, c1', rfl, Row.of_own O2, HB3.out⟩
/-- what Copy leaves: the copy at the heap's end -/
def Copied (B g : Nat) (σ : SS) (w : World) (e : Ending) (w' : World) : Prop :=
  ∃ A', e = .returned (.pointer (some ⟨w.heap.size, 0, none⟩)) ∧ St w' B w.heap.size A' σ ∧ Below w.heap.size w w' ∧ ∀ k, blockOf A' k → w.heap.size ≤ k
set_option maxHeartbeats 1000000 in
theorem copy_any (g : Nat) (σ : SS) (hok : σ.ok) (A : Option Addr) (w : World) (B : Nat) (hSt : St w B g A σ) (hB : B ≤ w.heap.size) : Calls Try.prog 24 #[.pointer (some ⟨g, 0, none⟩)] w (Copied B g σ w) := by
  obtain ⟨hBg, c, hg, hrow⟩ := hSt
  have hl := hok.2.2.1
  obtain ⟨c0, c1, c2, c3, f0, f1, f2, f3⟩ := (show Blk w g 55 #[.slice A σ.l.length c, .int .i64 σ.last, .int .i64 σ.fuse, .bool σ.down] from hg).four
  obtain ⟨w1, hw1⟩ : ∃ w1, w1 = w.alloc (.cells #[.slice A σ.l.length c, .int .i64 σ.last, .int .i64 σ.fuse, .bool σ.down] 55) := ⟨_, rfl⟩
  have b1 : Blk w1 w.heap.size 55 #[.slice A σ.l.length c, .int .i64 σ.last, .int .i64 σ.fuse, .bool σ.down] := by rw [hw1]; exact Blk.new _ _ _
  have hB1 : Below w.heap.size w w1 := by rw [hw1]; exact (Below.refl _ _).alloc (Nat.le_refl _) _
  have hrow1 := Lib.hid (hrow.below hB1)
  have hs1 : w1.heap.size = w.heap.size + 1 := by rw [hw1]; simp
  have HB1 := Lib.hid hB1
  have BB1 := Lib.hid b1
  have HS1 := Lib.hid hs1
  have HG := Lib.hid hg
  obtain ⟨d0, d1, d2, d3, g0, g1, g2, g3⟩ := b1.four
  have lg := hg.lt
  have l1 := b1.lt
  have hne : g ≠ w.heap.size := by omega
  have e0 := (hg.below hB1 lg).four
  obtain ⟨e0, e1, e2, e3, _, _, _, _⟩ := e0
  have HW := Lib.hid hw1
  clear hw1 hB1 hg b1 hrow hs1
  go_enter Try.func24, Try.ntmps24
  go_wp2_with fail
  rw [← HW.out]
  refine (clone_any _ c A σ.l rfl hl w1 B hrow1.out).mono ?_
  rintro e w2 ⟨A', c', rfl, hr2, hb2⟩
  have b2 := Lib.hid (BB1.out.below hb2 BB1.out.lt)
  obtain ⟨p0, p1, p2, p3, q0, q1, q2, q3⟩ := b2.out.four
  have HB2 := Lib.hid hb2
  have HR2 := Lib.hid hr2
  clear hb2 hr2 c0 c1 c2 c3 d0 d1 d2 d3 f0 f1 f2 f3 g0 g1 g2 g3 e0 e1 e2 e3
  go_wp2_with fail
  go_ret
  have hn : ¬ blockOf A' w.heap.size := fun h => by have := (HR2.out.lt h).1; have := HS1.out; omega
  refine ⟨A', rfl, ⟨by omega, c', ?_, ?_⟩, ?_, fun k hk => ?_⟩
  · have := b2.out.set_ 0 (.slice A' σ.l.length c')
    simpa [SS.cells] using this
  · have hr3 := HR2.out.setCell (p := ⟨w.heap.size, 0, none⟩) hn (.slice A' σ.l.length c')
    exact ⟨hr3.1, hr3.2.imp id fun ⟨r, cur, h1, h2, h3⟩ => ⟨r, cur, h1, by have := HS1.out; omega, h3⟩⟩
  · exact (below_trans HB1.out HB2.out).setCell (p := ⟨w.heap.size, 0, none⟩) (Nat.le_refl _) _
  · have := (HR2.out.lt hk).1
    have := HS1.out
    omega
end Go.Proofs.Ytffljpchkdhbhaa
