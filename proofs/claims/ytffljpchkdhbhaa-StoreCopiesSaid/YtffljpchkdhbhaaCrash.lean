/- Crash's contract. Condition: how the store lies ('St'), that it is one ('ok'). -/
import Derived.Test.YtffljpchkdhbhaaMeth
import Derived.BigRegion
namespace Go.Proofs.Ytffljpchkdhbhaa
open Go.RowKit
theorem crash_end {w W1 : World} {B g c : Nat} {A : Option Addr} {σ : SS} (hBg : B ≤ g) (hg : Blk w g 55 (σ.cells A c)) (hrow : Row w B 9 1 A σ.l.length c (strs σ.l)) (hW : Below w.heap.size w W1) (m : Nat) (hm : m ≤ σ.l.length) :
    Wrote B g A ⟨σ.l.take m, m, -1, false⟩ w ((((W1.setCell ⟨g, 0, none⟩ (.slice A m m)).setCell ⟨g, 1, none⟩ (.int .i64 m)).setCell ⟨g, 2, none⟩ (.int .i64 (-1))).setCell ⟨g, 3, none⟩ (.bool false)) := by
  have hn : ¬ blockOf A g := hrow.blk_ne hg (by decide)
  have hlen : (σ.l.take m).length = m := by rw [List.length_take]; omega
  refine ⟨A, ⟨hBg, m, ?_, ?_⟩, ((((Chg.of_below hW).setCell (.inl (.inl rfl)) _).setCell (.inl (.inl rfl)) _).setCell (.inl (.inl rfl)) _).setCell (.inl (.inl rfl)) _, .inl rfl⟩
  · have h := ((((hg.below hW hg.lt).set_ 0 (.slice A m m)).set_ 1 (.int .i64 m)).set_ 2 (.int .i64 (-1))).set_ 3 (.bool false)
    simpa [SS.cells, hlen, Nat.min_eq_left hm] using h
  · have h := ((((hrow.cut m hm).below hW).setCell (p := ⟨g, 0, none⟩) hn (.slice A m m)).setCell (p := ⟨g, 1, none⟩) hn (.int .i64 m)).setCell (p := ⟨g, 2, none⟩) hn (.int .i64 (-1))
    have h2 := h.setCell (p := ⟨g, 3, none⟩) hn (.bool false)
    have e : (strs σ.l).take (m * 1) = strs (σ.l.take m) := by simp [strs, List.map_take]
    rw [e] at h2
    rw [hlen]
    exact h2
set_option maxRecDepth 100000 in
set_option maxHeartbeats 2000000 in
theorem crash_any (g : Nat) (σ : SS) (hok : σ.ok) (r : Nat) (w : World) (B : Nat) (hSt : St w B g (some ⟨r, 0, none⟩) σ) (k : Int) :
    Calls Try.prog 15 #[.pointer (some ⟨g, 0, none⟩), .int .i64 k] w (Done (.tuple #[]) B g (some ⟨r, 0, none⟩) (σ.crash k) w) := by
  obtain ⟨hBg, c, hg, hrow⟩ := hSt
  have c0 : w.cell? ⟨g, 0, none⟩ = some (.slice (some ⟨r, 0, none⟩) σ.l.length c) := hg.cell 0
  have c1 : w.cell? ⟨g, 1, none⟩ = some (.int .i64 σ.last) := hg.cell 1
  have c2 : w.cell? ⟨g, 2, none⟩ = some (.int .i64 σ.fuse) := hg.cell 2
  have c3 : w.cell? ⟨g, 3, none⟩ = some (.bool σ.down) := hg.cell 3
  have f0 : w.frozen? ⟨g, 0, none⟩ = false := hg.frozen 0
  have f1 : w.frozen? ⟨g, 1, none⟩ = false := hg.frozen 1
  have f2 : w.frozen? ⟨g, 2, none⟩ = false := hg.frozen 2
  have f3 : w.frozen? ⟨g, 3, none⟩ = false := hg.frozen 3
  have hle := hrow.le
  obtain ⟨o1, o2, o3, _, _⟩ := hok
  have W1 : IntKind.i64.wrap ((σ.l.length : Int) - σ.last) = (σ.l.length : Int) - σ.last := IntWalk.i64_in _ (by omega)
  obtain ⟨kp1, kp2, kp3⟩ := keep_bd ⟨o1, o2, o3, by assumption, by assumption⟩ k
  obtain ⟨m, hm⟩ : ∃ m, m = σ.keep k := ⟨_, rfl⟩
  rw [← hm] at kp1 kp2 kp3
  have hcr : σ.crash k = ⟨σ.l.take m, m, -1, false⟩ := by rw [hm]; rfl
  rw [hcr]
  have hm' := Lib.hid hm
  clear hcr hm
  have M0 : (0 : Int) ≤ (m : Int) := by omega
  have M1 : (m : Int) ≤ (c : Int) := by omega
  have M2 : (m : Int) ≤ (σ.l.length : Int) := by omega
  rcases (show (k < 0) ∨ (0 ≤ k ∧ k ≤ σ.l.length - σ.last) ∨ (0 ≤ k ∧ σ.l.length - σ.last < k) by omega) with h | ⟨h, h'⟩ | ⟨h, h'⟩
  · have W2 : IntKind.i64.wrap σ.last = (m : Int) := by rw [show σ.last = (m : Int) by omega]; exact IntWalk.i64_in _ (by omega)
    have h0 : ¬ (σ.l.length : Int) - σ.last < 0 := by omega
    clear kp3
    go_enter Try.func15, Try.ntmps15
    go_wp2_with fail
    go_quiet (fail)
    go_wp2_with fail
    generalize hwq : w.drewN _ = wq
    have c0 : wq.cell? ⟨g, 0, none⟩ = some (.slice (some ⟨r, 0, none⟩) σ.l.length c) := by rw [← hwq]; exact c0
    have c1 : wq.cell? ⟨g, 1, none⟩ = some (.int .i64 σ.last) := by rw [← hwq]; exact c1
    have c2 : wq.cell? ⟨g, 2, none⟩ = some (.int .i64 σ.fuse) := by rw [← hwq]; exact c2
    have c3 : wq.cell? ⟨g, 3, none⟩ = some (.bool σ.down) := by rw [← hwq]; exact c3
    have f0 : wq.frozen? ⟨g, 0, none⟩ = false := by rw [← hwq]; exact f0
    have f1 : wq.frozen? ⟨g, 1, none⟩ = false := by rw [← hwq]; exact f1
    have f2 : wq.frozen? ⟨g, 2, none⟩ = false := by rw [← hwq]; exact f2
    have f3 : wq.frozen? ⟨g, 3, none⟩ = false := by rw [← hwq]; exact f3
    have hwq' : Hid (Below w.heap.size w wq) := by rw [← hwq]; exact below_drewN' (Below.refl _ _) _
    clear hwq
    go_region
    go_wp2
    go_end0
    exact ⟨rfl, crash_end hBg hg hrow hwq'.out.drew m kp1⟩
  · have W2 : IntKind.i64.wrap (σ.last + k) = (m : Int) := by rw [show σ.last + k = (m : Int) by omega]; exact IntWalk.i64_in _ (by omega)
    clear kp3
    go_enter Try.func15, Try.ntmps15
    go_wp2_with fail
    go_quiet (fail)
    go_wp2_with fail
    generalize hwq : w.drewN _ = wq
    have c0 : wq.cell? ⟨g, 0, none⟩ = some (.slice (some ⟨r, 0, none⟩) σ.l.length c) := by rw [← hwq]; exact c0
    have c1 : wq.cell? ⟨g, 1, none⟩ = some (.int .i64 σ.last) := by rw [← hwq]; exact c1
    have c2 : wq.cell? ⟨g, 2, none⟩ = some (.int .i64 σ.fuse) := by rw [← hwq]; exact c2
    have c3 : wq.cell? ⟨g, 3, none⟩ = some (.bool σ.down) := by rw [← hwq]; exact c3
    have f0 : wq.frozen? ⟨g, 0, none⟩ = false := by rw [← hwq]; exact f0
    have f1 : wq.frozen? ⟨g, 1, none⟩ = false := by rw [← hwq]; exact f1
    have f2 : wq.frozen? ⟨g, 2, none⟩ = false := by rw [← hwq]; exact f2
    have f3 : wq.frozen? ⟨g, 3, none⟩ = false := by rw [← hwq]; exact f3
    have hwq' : Hid (Below w.heap.size w wq) := by rw [← hwq]; exact below_drewN' (Below.refl _ _) _
    clear hwq
    go_region
    go_wp2
    go_end0
    exact ⟨rfl, crash_end hBg hg hrow hwq'.out.drew m kp1⟩
  · have W2 : IntKind.i64.wrap (σ.last + ((σ.l.length : Int) - σ.last)) = (m : Int) := by rw [show σ.last + ((σ.l.length : Int) - σ.last) = (m : Int) by omega]; exact IntWalk.i64_in _ (by omega)
    clear kp3
    go_enter Try.func15, Try.ntmps15
    go_wp2_with fail
    go_quiet (fail)
    go_wp2_with fail
    generalize hwq : w.drewN _ = wq
    have c0 : wq.cell? ⟨g, 0, none⟩ = some (.slice (some ⟨r, 0, none⟩) σ.l.length c) := by rw [← hwq]; exact c0
    have c1 : wq.cell? ⟨g, 1, none⟩ = some (.int .i64 σ.last) := by rw [← hwq]; exact c1
    have c2 : wq.cell? ⟨g, 2, none⟩ = some (.int .i64 σ.fuse) := by rw [← hwq]; exact c2
    have c3 : wq.cell? ⟨g, 3, none⟩ = some (.bool σ.down) := by rw [← hwq]; exact c3
    have f0 : wq.frozen? ⟨g, 0, none⟩ = false := by rw [← hwq]; exact f0
    have f1 : wq.frozen? ⟨g, 1, none⟩ = false := by rw [← hwq]; exact f1
    have f2 : wq.frozen? ⟨g, 2, none⟩ = false := by rw [← hwq]; exact f2
    have f3 : wq.frozen? ⟨g, 3, none⟩ = false := by rw [← hwq]; exact f3
    have hwq' : Hid (Below w.heap.size w wq) := by rw [← hwq]; exact below_drewN' (Below.refl _ _) _
    clear hwq
    go_region
    go_wp2
    go_end0
    exact ⟨rfl, crash_end hBg hg hrow hwq'.out.drew m kp1⟩
set_option maxRecDepth 100000 in
set_option maxHeartbeats 2000000 in
theorem crash_nil (g : Nat) (fu : Int) (dn : Bool) (w : World) (B : Nat) (hBg : B ≤ g) (hg : Blk w g 55 #[.slice none 0 0, .int .i64 0, .int .i64 fu, .bool dn]) (k : Int) :
    Calls Try.prog 15 #[.pointer (some ⟨g, 0, none⟩), .int .i64 k] w (Done (.tuple #[]) B g none ⟨[], 0, -1, false⟩ w) := by
  have hrow : Row w B 9 1 none 0 0 (strs []) := Row.nil _ _ _ _
  have c0 : w.cell? ⟨g, 0, none⟩ = some (.slice none 0 0) := hg.cell 0
  have c1 : w.cell? ⟨g, 1, none⟩ = some (.int .i64 0) := hg.cell 1
  have c2 : w.cell? ⟨g, 2, none⟩ = some (.int .i64 fu) := hg.cell 2
  have c3 : w.cell? ⟨g, 3, none⟩ = some (.bool dn) := hg.cell 3
  have f0 : w.frozen? ⟨g, 0, none⟩ = false := hg.frozen 0
  have f1 : w.frozen? ⟨g, 1, none⟩ = false := hg.frozen 1
  have f2 : w.frozen? ⟨g, 2, none⟩ = false := hg.frozen 2
  have f3 : w.frozen? ⟨g, 3, none⟩ = false := hg.frozen 3
  rcases (show (k < 0) ∨ k = 0 ∨ 0 < k by omega) with h | rfl | h
  · skip
    go_enter Try.func15, Try.ntmps15
    go_wp2_with fail
    go_quiet (fail)
    go_wp2_with fail
    generalize hwq : w.drewN _ = wq
    have c0 : wq.cell? ⟨g, 0, none⟩ = some (.slice none 0 0) := by rw [← hwq]; exact c0
    have c1 : wq.cell? ⟨g, 1, none⟩ = some (.int .i64 0) := by rw [← hwq]; exact c1
    have c2 : wq.cell? ⟨g, 2, none⟩ = some (.int .i64 fu) := by rw [← hwq]; exact c2
    have c3 : wq.cell? ⟨g, 3, none⟩ = some (.bool dn) := by rw [← hwq]; exact c3
    have f0 : wq.frozen? ⟨g, 0, none⟩ = false := by rw [← hwq]; exact f0
    have f1 : wq.frozen? ⟨g, 1, none⟩ = false := by rw [← hwq]; exact f1
    have f2 : wq.frozen? ⟨g, 2, none⟩ = false := by rw [← hwq]; exact f2
    have f3 : wq.frozen? ⟨g, 3, none⟩ = false := by rw [← hwq]; exact f3
    have hwq' : Hid (Below w.heap.size w wq) := by rw [← hwq]; exact below_drewN' (Below.refl _ _) _
    clear hwq
    go_region
    go_wp2
    go_end0
    exact ⟨rfl, crash_end (σ := ⟨[], 0, fu, dn⟩) hBg hg hrow hwq'.out.drew 0 (Nat.le_refl _)⟩
  · skip
    go_enter Try.func15, Try.ntmps15
    go_wp2_with fail
    go_quiet (fail)
    go_wp2_with fail
    generalize hwq : w.drewN _ = wq
    have c0 : wq.cell? ⟨g, 0, none⟩ = some (.slice none 0 0) := by rw [← hwq]; exact c0
    have c1 : wq.cell? ⟨g, 1, none⟩ = some (.int .i64 0) := by rw [← hwq]; exact c1
    have c2 : wq.cell? ⟨g, 2, none⟩ = some (.int .i64 fu) := by rw [← hwq]; exact c2
    have c3 : wq.cell? ⟨g, 3, none⟩ = some (.bool dn) := by rw [← hwq]; exact c3
    have f0 : wq.frozen? ⟨g, 0, none⟩ = false := by rw [← hwq]; exact f0
    have f1 : wq.frozen? ⟨g, 1, none⟩ = false := by rw [← hwq]; exact f1
    have f2 : wq.frozen? ⟨g, 2, none⟩ = false := by rw [← hwq]; exact f2
    have f3 : wq.frozen? ⟨g, 3, none⟩ = false := by rw [← hwq]; exact f3
    have hwq' : Hid (Below w.heap.size w wq) := by rw [← hwq]; exact below_drewN' (Below.refl _ _) _
    clear hwq
    go_region
    go_wp2
    go_end0
    exact ⟨rfl, crash_end (σ := ⟨[], 0, fu, dn⟩) hBg hg hrow hwq'.out.drew 0 (Nat.le_refl _)⟩
  · have h0 : 0 ≤ k := by omega
    go_enter Try.func15, Try.ntmps15
    go_wp2_with fail
    go_quiet (fail)
    go_wp2_with fail
    generalize hwq : w.drewN _ = wq
    have c0 : wq.cell? ⟨g, 0, none⟩ = some (.slice none 0 0) := by rw [← hwq]; exact c0
    have c1 : wq.cell? ⟨g, 1, none⟩ = some (.int .i64 0) := by rw [← hwq]; exact c1
    have c2 : wq.cell? ⟨g, 2, none⟩ = some (.int .i64 fu) := by rw [← hwq]; exact c2
    have c3 : wq.cell? ⟨g, 3, none⟩ = some (.bool dn) := by rw [← hwq]; exact c3
    have f0 : wq.frozen? ⟨g, 0, none⟩ = false := by rw [← hwq]; exact f0
    have f1 : wq.frozen? ⟨g, 1, none⟩ = false := by rw [← hwq]; exact f1
    have f2 : wq.frozen? ⟨g, 2, none⟩ = false := by rw [← hwq]; exact f2
    have f3 : wq.frozen? ⟨g, 3, none⟩ = false := by rw [← hwq]; exact f3
    have hwq' : Hid (Below w.heap.size w wq) := by rw [← hwq]; exact below_drewN' (Below.refl _ _) _
    clear hwq
    go_region
    go_wp2
    go_end0
    exact ⟨rfl, crash_end (σ := ⟨[], 0, fu, dn⟩) hBg hg hrow hwq'.out.drew 0 (Nat.le_refl _)⟩

theorem crash_all (g : Nat) (σ : SS) (hok : σ.ok) (A : Option Addr) (w : World) (B : Nat) (hSt : St w B g A σ) (k : Int) :
    Calls Try.prog 15 #[.pointer (some ⟨g, 0, none⟩), .int .i64 k] w (Done (.tuple #[]) B g A (σ.crash k) w) := by
  have hSt0 := hSt
  obtain ⟨hBg, c, hg, hrow⟩ := hSt
  rcases hrow.2 with ⟨rfl, hl, rfl⟩ | ⟨r, cur, rfl, _⟩
  · obtain ⟨l, la, fu, dn⟩ := σ
    obtain rfl : l = [] := List.eq_nil_of_length_eq_zero hl
    have hok0 := hok
    obtain ⟨o1, o2, _⟩ := hok0
    simp only [List.length_nil] at o1 o2
    obtain rfl : la = 0 := by omega
    have e : SS.crash ⟨[], 0, fu, dn⟩ k = ⟨[], 0, -1, false⟩ := by
      have hk := keep_bd (σ := ⟨[], 0, fu, dn⟩) hok k
      have : SS.keep ⟨[], 0, fu, dn⟩ k = 0 := by have := hk.1; simpa using this
      unfold SS.crash
      rw [this]
      rfl
    rw [e]
    exact crash_nil g fu dn w B hBg hg k
  · exact crash_any g σ hok r w B hSt0 k
end Go.Proofs.Ytffljpchkdhbhaa
