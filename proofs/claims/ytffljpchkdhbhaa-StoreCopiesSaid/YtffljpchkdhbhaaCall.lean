/- The walks of package store, further: Sync's closure, the call under the fuse, Write, Sync. Condition: how the store lies ('St'). -/
import Derived.Test.YtffljpchkdhbhaaBase
namespace Go.Proofs.Ytffljpchkdhbhaa
open Go.RowKit

theorem Chg.trans' {S T : Nat → Prop} {a b c : World} (h : Chg S a b) (k : Chg T b c) (hT : ∀ j, j < a.heap.size → T j → S j) : Chg S a c :=
  ⟨k.os.trans h.os, k.tape.trans h.tape, k.output.trans h.output, Nat.le_trans h.size k.size, fun i hi hs => (k.block i (Nat.lt_of_lt_of_le hi h.size) fun ht => hs (hT i hi ht)).trans (h.block i hi hs)⟩
theorem set_st {w W1 : World} {B g c : Nat} {A : Option Addr} {σ σ' : SS} (hBg : B ≤ g) (hg : Blk w g 55 (σ.cells A c)) (hrow : Row w B 9 1 A σ.l.length c (strs σ.l)) (hW : Below w.heap.size w W1) (j : Nat) (u : Value) (hl : σ'.l = σ.l)
    (hcs : (σ.cells A c).setIfInBounds j u = σ'.cells A c) : St (W1.setCell ⟨g, j, none⟩ u) B g A σ' ∧ Chg (Own g A) w (W1.setCell ⟨g, j, none⟩ u) := by
  have hg2 := hg.below hW hg.lt
  refine ⟨⟨hBg, c, ?_, ?_⟩, (Chg.of_below hW).setCell (.inl (.inl rfl)) _⟩
  · have := hg2.set_ j u
    rwa [hcs] at this
  · rw [hl]
    exact (hrow.below hW).setCell (p := ⟨g, j, none⟩) (hrow.blk_ne hg (by decide)) _

theorem set_end {w W1 : World} {B g c : Nat} {A : Option Addr} {σ σ' : SS} (hBg : B ≤ g) (hg : Blk w g 55 (σ.cells A c)) (hrow : Row w B 9 1 A σ.l.length c (strs σ.l)) (hW : Below w.heap.size w W1) (j : Nat) (u : Value) (hl : σ'.l = σ.l)
    (hcs : (σ.cells A c).setIfInBounds j u = σ'.cells A c) : Wrote B g A σ' w (W1.setCell ⟨g, j, none⟩ u) :=
  have h := set_st hBg hg hrow hW j u hl hcs
  ⟨A, h.1, h.2, .inl rfl⟩
theorem Wrote.trans {B g : Nat} {A A1 : Option Addr} {σ2 : SS} {w w1 w2 : World} (hc : Chg (Own g A) w w1) (hf : Fresh w A A1) (h : Wrote B g A1 σ2 w1 w2) : Wrote B g A σ2 w w2 := by
  obtain ⟨A2, hS, hc2, hf2⟩ := h
  refine ⟨A2, hS, hc.trans' hc2 fun k hk hs => ?_, ?_⟩
  · rcases hs with rfl | hs
    · exact .inl rfl
    · rcases hf with rfl | hf
      · exact .inr hs
      · exact absurd (hf k hs) (by omega)
  · rcases hf2 with rfl | hf2
    · exact hf
    · exact .inr fun k hk => Nat.le_trans hc.size (hf2 k hk)
set_option maxRecDepth 100000 in
set_option maxHeartbeats 2000000 in
/-- the closure that Sync hands over -/
theorem sync1 (b1 g : Nat) (σ : SS) (A : Option Addr) (w : World) (h1 : Blk w b1 25 #[.pointer (some ⟨g, 0, none⟩)]) (B : Nat) (hSt : St w B g A σ) :
    Calls Try.prog 27 #[.pointer (some ⟨b1, 0, none⟩)] w (Done (.tuple #[]) B g A { σ with last := σ.l.length } w) := by
  obtain ⟨hBg, c, hg, hrow⟩ := hSt
  have k1 : w.cell? ⟨b1, 0, none⟩ = some (.pointer (some ⟨g, 0, none⟩)) := h1.cell 0
  have c0 : w.cell? ⟨g, 0, none⟩ = some (.slice A σ.l.length c) := hg.cell 0
  have c1 : w.cell? ⟨g, 1, none⟩ = some (.int .i64 σ.last) := hg.cell 1
  have f0 : w.frozen? ⟨g, 1, none⟩ = false := hg.frozen 1
  go_enter Try.func27, Try.ntmps27
  go_wp2_with fail
  go_region
  all_goals
    go_end0
    exact ⟨rfl, set_end hBg hg hrow (Below.refl _ _).drew 1 _ rfl rfl⟩

def SS.tick (σ : SS) : SS := if 0 < σ.fuse then { σ with fuse := σ.fuse - 1 } else σ
theorem tick_l (σ : SS) : σ.tick.l = σ.l := by unfold SS.tick; split <;> rfl

set_option maxHeartbeats 800000 in
theorem call_down (f : Value) (g : Nat) (σ : SS) (hf : σ.fuse = 0) (A : Option Addr) (w : World) (B : Nat) (hSt : St w B g A σ) :
    Calls Try.prog 25 #[.pointer (some ⟨g, 0, none⟩), f] w (Done (.int .i64 14) B g A { σ with down := true } w) := by
  obtain ⟨hBg, c, hg, hrow⟩ := hSt
  have c2 : w.cell? ⟨g, 2, none⟩ = some (.int .i64 0) := by rw [hg.cell 2]; simp [SS.cells, hf]
  have c3 : w.cell? ⟨g, 3, none⟩ = some (.bool σ.down) := hg.cell 3
  have f3 : w.frozen? ⟨g, 3, none⟩ = false := hg.frozen 3
  go_enter Try.func25, Try.ntmps25
  go_wp2_with fail
  go_ret
  exact ⟨rfl, set_end hBg hg hrow (Below.refl _ _) 3 _ rfl rfl⟩

set_option maxHeartbeats 800000 in
theorem call_write (b1 b2 g : Nat) (s : ByteArray) (σ : SS) (hok : σ.ok) (hf : σ.fuse ≠ 0) (A : Option Addr) (w : World) (h1 : Blk w b1 25 #[.pointer (some ⟨g, 0, none⟩)]) (h2 : Blk w b2 9 #[.string s])
    (B : Nat) (hSt : St w B g A σ) (hB : B ≤ w.heap.size) (hb2 : ¬ blockOf A b2) :
    Calls Try.prog 25 #[.pointer (some ⟨g, 0, none⟩), .func (.func 26) #[] #[.pointer (some ⟨b1, 0, none⟩), .pointer (some ⟨b2, 0, none⟩)]] w (Done (.int .i64 0) B g A { σ.tick with l := σ.l ++ [s] } w) := by
  have hSt0 := hSt
  obtain ⟨hBg, c, hg, hrow⟩ := hSt
  obtain ⟨_, _, hl, hf1, hf2⟩ := hok
  have c2 : w.cell? ⟨g, 2, none⟩ = some (.int .i64 σ.fuse) := hg.cell 2
  have f2 : w.frozen? ⟨g, 2, none⟩ = false := hg.frozen 2
  have q0 : (σ.fuse == 0) = false := by simp [hf]
  have n1 : b1 ≠ g := Blk.ne_ h1 hg (by decide)
  have n2 : b2 ≠ g := Blk.ne_ h2 hg (by decide)
  by_cases hp : 0 < σ.fuse
  · have hw := set_st (W1 := w) hBg hg hrow (Below.refl _ _) (σ' := { σ with fuse := σ.fuse - 1 }) 2 (.int .i64 (σ.fuse - 1)) rfl rfl
    obtain ⟨hSt', hch⟩ := hw
    have et : σ.tick = { σ with fuse := σ.fuse - 1 } := if_pos hp
    rw [et]
    clear et
    have h1' := h1.far (p := ⟨g, 2, none⟩) n1 (.int .i64 (σ.fuse - 1))
    have h2' := h2.far (p := ⟨g, 2, none⟩) n2 (.int .i64 (σ.fuse - 1))
    go_enter Try.func25, Try.ntmps25
    go_wp2_with fail
    refine (write1 b1 b2 g s { σ with fuse := σ.fuse - 1 } hl A _ h1' h2' B hSt' (by simpa using hB) hb2).mono ?_
    rintro e w2 ⟨rfl, hwr⟩
    go_wp2
    go_ret
    exact ⟨rfl, Wrote.trans hch (.inl rfl) hwr⟩
  · have et : σ.tick = σ := if_neg hp
    rw [et]
    clear et
    have hp' : σ.fuse ≤ 0 := by omega
    go_enter Try.func25, Try.ntmps25
    go_wp2_with fail
    refine (write1 b1 b2 g s σ hl A _ h1 h2 B hSt0 hB hb2).mono ?_
    rintro e w2 ⟨rfl, hwr⟩
    go_wp2
    go_ret
    exact ⟨rfl, hwr⟩
set_option maxHeartbeats 800000 in
theorem call_sync (b1 g : Nat) (σ : SS) (hok : σ.ok) (hf : σ.fuse ≠ 0) (A : Option Addr) (w : World) (h1 : Blk w b1 25 #[.pointer (some ⟨g, 0, none⟩)])
    (B : Nat) (hSt : St w B g A σ) :
    Calls Try.prog 25 #[.pointer (some ⟨g, 0, none⟩), .func (.func 27) #[] #[.pointer (some ⟨b1, 0, none⟩)]] w (Done (.int .i64 0) B g A { σ.tick with last := σ.l.length } w) := by
  have hSt0 := hSt
  obtain ⟨hBg, c, hg, hrow⟩ := hSt
  obtain ⟨_, _, hl, hf1, hf2⟩ := hok
  have c2 : w.cell? ⟨g, 2, none⟩ = some (.int .i64 σ.fuse) := hg.cell 2
  have f2 : w.frozen? ⟨g, 2, none⟩ = false := hg.frozen 2
  have q0 : (σ.fuse == 0) = false := by simp [hf]
  have n1 : b1 ≠ g := Blk.ne_ h1 hg (by decide)
  by_cases hp : 0 < σ.fuse
  · have hw := set_st (W1 := w) hBg hg hrow (Below.refl _ _) (σ' := { σ with fuse := σ.fuse - 1 }) 2 (.int .i64 (σ.fuse - 1)) rfl rfl
    obtain ⟨hSt', hch⟩ := hw
    have et : σ.tick = { σ with fuse := σ.fuse - 1 } := if_pos hp
    rw [et]
    clear et
    have h1' := h1.far (p := ⟨g, 2, none⟩) n1 (.int .i64 (σ.fuse - 1))
    go_enter Try.func25, Try.ntmps25
    go_wp2_with fail
    refine (sync1 b1 g { σ with fuse := σ.fuse - 1 } A _ h1' B hSt').mono ?_
    rintro e w2 ⟨rfl, hwr⟩
    go_wp2
    go_ret
    exact ⟨rfl, Wrote.trans hch (.inl rfl) hwr⟩
  · have et : σ.tick = σ := if_neg hp
    rw [et]
    clear et
    have hp' : σ.fuse ≤ 0 := by omega
    go_enter Try.func25, Try.ntmps25
    go_wp2_with fail
    refine (sync1 b1 g σ A _ h1 B hSt0).mono ?_
    rintro e w2 ⟨rfl, hwr⟩
    go_wp2
    go_ret
    exact ⟨rfl, hwr⟩
end Go.Proofs.Ytffljpchkdhbhaa
