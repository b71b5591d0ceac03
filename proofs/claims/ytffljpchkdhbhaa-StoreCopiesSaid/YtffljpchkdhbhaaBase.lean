/- The walks of package store: what each method of a store does to it, said of a plain state. Condition: how the store lies ('St'). -/
import Derived.Test.YtffljpchkdhbhaaRow
import Derived.Test.YtffljpchkdhbhaaView
import Derived.Deep.RegionHeld3
import Derived.Deep.RegionLaw
namespace Go.Proofs.Ytffljpchkdhbhaa
open Go.RowKit

def strs (l : List ByteArray) : List Value := l.map Value.string
theorem strs_len (l : List ByteArray) : (strs l).length = l.length := by simp [strs]
theorem strs_one (l : List ByteArray) : ∀ u ∈ strs l, u.oneCell' = true := by
  intro u hu
  simp only [strs, List.mem_map] at hu
  obtain ⟨s, _, rfl⟩ := hu
  rfl
/-- a store, plainly -/
structure SS where
  l : List ByteArray
  last : Int
  fuse : Int
  down : Bool
def SS.cells (σ : SS) (A : Option Addr) (c : Nat) : Array Value := #[.slice A σ.l.length c, .int .i64 σ.last, .int .i64 σ.fuse, .bool σ.down]
def St (w : World) (B g : Nat) (A : Option Addr) (σ : SS) : Prop := B ≤ g ∧ ∃ c, Blk w g 55 (σ.cells A c) ∧ Row w B 9 1 A σ.l.length c (strs σ.l)
def SS.ok (σ : SS) : Prop := 0 ≤ σ.last ∧ σ.last ≤ σ.l.length ∧ σ.l.length ≤ 4096 ∧ -1 ≤ σ.fuse ∧ σ.fuse ≤ 9223372036854775807
/-- what a store's own calls may turn -/
def Own (g : Nat) (A : Option Addr) (k : Nat) : Prop := k = g ∨ blockOf A k
/-- the array stays, or is a new one -/
def Fresh (w : World) (A A' : Option Addr) : Prop := A' = A ∨ ∀ k, blockOf A' k → w.heap.size ≤ k
theorem Fresh.refl (w : World) (A : Option Addr) : Fresh w A A := .inl rfl
theorem St.lt {w : World} {B g : Nat} {A : Option Addr} {σ : SS} (h : St w B g A σ) : g < w.heap.size := h.2.choose_spec.1.lt
theorem St.le {w : World} {B g : Nat} {A : Option Addr} {σ : SS} (h : St w B g A σ) : ∀ k, Own g A k → B ≤ k := by
  obtain ⟨hB, c, hb, hr⟩ := h
  rintro k (rfl | hk)
  · exact hB
  · exact (hr.lt hk).1
theorem St.chg {w w' : World} {B g : Nat} {A : Option Addr} {σ : SS} {S : Nat → Prop} (h : St w B g A σ) (hc : Chg S w w') (hS : ∀ k, Own g A k → ¬ S k) : St w' B g A σ := by
  obtain ⟨hB, c, hb, hr⟩ := h
  exact ⟨hB, c, hc.blk hb (hS g (.inl rfl)), hr.chg hc fun k hk => hS k (.inr hk)⟩
theorem St.below {w w' : World} {B g : Nat} {A : Option Addr} {σ : SS} (h : St w B g A σ) (hb : Below w.heap.size w w') : St w' B g A σ := by
  obtain ⟨hB, c, h1, hr⟩ := h
  exact ⟨hB, c, h1.below hb h1.lt, hr.below hb⟩

theorem info9 : (Try.prog.info? 9).map (fun i => (i.zero, i.size, i.bytes)) = some (some (.string ⟨#[]⟩), 1, 16) := by kernel_rfl

def Wrote (B g : Nat) (A : Option Addr) (σ' : SS) (w w' : World) : Prop := ∃ A', St w' B g A' σ' ∧ Chg (Own g A) w w' ∧ Fresh w A A'
/-- what a call leaves: its result, and the store -/
def Done (v : Value) (B g : Nat) (A : Option Addr) (σ' : SS) (w : World) (e : Ending) (w' : World) : Prop := e = .returned v ∧ Wrote B g A σ' w w'

theorem write1_end {w W1 w2 : World} {B g c c' : Nat} {A A' : Option Addr} {σ : SS} {s : ByteArray} (hBg : B ≤ g) (hg : Blk w g 55 (σ.cells A c)) (ng : ¬ blockOf A g) (hW : Below w.heap.size w W1)
    (hrow : Row w2 B 9 1 A' (σ.l.length + 1) c' (strs σ.l ++ strs [s])) (hc : Chg (blockOf A) W1 w2) (hfr : A' = A ∨ ∀ k, blockOf A' k → W1.heap.size ≤ k) :
    Wrote B g A { σ with l := σ.l ++ [s] } w (w2.setCell ⟨g, 0, none⟩ (.slice A' (σ.l.length + 1) c')) := by
  have e : strs σ.l ++ strs [s] = strs (σ.l ++ [s]) := by simp [strs]
  rw [e] at hrow
  have hg2 : Blk w2 g 55 (σ.cells A c) := hc.blk (hg.below hW hg.lt) ng
  have hn : ¬ blockOf A' g := hrow.blk_ne hg2 (by decide)
  refine ⟨A', ⟨hBg, c', ?_, ?_⟩, ((Chg.of_below hW).trans (hc.mono fun k _ h => .inr h)).setCell (.inl (.inl rfl)) _, ?_⟩
  · have := hg2.set_ 0 (.slice A' (σ.l.length + 1) c')
    simpa [SS.cells] using this
  · have := hrow.setCell (p := ⟨g, 0, none⟩) hn (.slice A' (σ.l.length + 1) c')
    simpa using this
  · rcases hfr with h | h
    · exact .inl h
    · exact .inr fun k hk => Nat.le_trans hW.size (h k hk)
set_option maxRecDepth 100000 in
set_option maxHeartbeats 2000000 in
/-- the closure that Write hands over -/
theorem write1 (b1 b2 g : Nat) (s : ByteArray) (σ : SS) (hl : σ.l.length ≤ 4096) (A : Option Addr) (w : World) (h1 : Blk w b1 25 #[.pointer (some ⟨g, 0, none⟩)]) (h2 : Blk w b2 9 #[.string s])
    (B : Nat) (hSt : St w B g A σ) (hB : B ≤ w.heap.size) (hb2 : ¬ blockOf A b2) :
    Calls Try.prog 26 #[.pointer (some ⟨b1, 0, none⟩), .pointer (some ⟨b2, 0, none⟩)] w (Done (.tuple #[]) B g A { σ with l := σ.l ++ [s] } w) := by
  obtain ⟨i0, hi, hz0, hz1, hz2⟩ := info_parts info9
  obtain ⟨hBg, c, hg, hrow⟩ := hSt
  have k1 : w.cell? ⟨b1, 0, none⟩ = some (.pointer (some ⟨g, 0, none⟩)) := h1.cell 0
  have k2 : w.cell? ⟨b2, 0, none⟩ = some (.string s) := h2.cell 0
  have c0 : w.cell? ⟨g, 0, none⟩ = some (.slice A σ.l.length c) := hg.cell 0
  have f0 : w.frozen? ⟨g, 0, none⟩ = false := hg.frozen 0
  have n1 : ¬ blockOf A b1 := hrow.blk_ne h1 (by decide)
  have ng : ¬ blockOf A g := hrow.blk_ne hg (by decide)
  have l1 := h1.lt
  have l2 := h2.lt
  have lg := hg.lt
  go_enter Try.func26, Try.ntmps26
  go_wp2_with fail
  go_region_law (refine step_append_row _ (by rfl) _ _ 22 (by rfl) B 9 i0 _ 1 16 Try.underlying22 hi hz0 hz1 hz2 rfl (by decide) A σ.l.length c (strs σ.l) (by rfl) ((hrow.alloc _).drew) (by simp; omega) _ 1 1 (by omega) (strs [s]) (by rfl) ((lit_one w _ 9 _ (by simp)).more (by simp)).drew (strs_one _) (by unfold maxLen; omega) (by omega) ?_; intro A' c' w2 hown1 hg1 hfr; have c0' : w2.cell? ⟨g, 0, none⟩ = some (.slice A σ.l.length c) := (hg1.cell (a := ⟨g, 0, none⟩) (by simp; omega) ng).trans (by go_simp); have k1' : w2.cell? ⟨b1, 0, none⟩ = some (.pointer (some ⟨g, 0, none⟩)) := (hg1.cell (a := ⟨b1, 0, none⟩) (by simp; omega) n1).trans (by go_simp); have k2' : w2.cell? ⟨b2, 0, none⟩ = some (.string s) := (hg1.cell (a := ⟨b2, 0, none⟩) (by simp; omega) hb2).trans (by go_simp); have f0' : w2.frozen? ⟨g, 0, none⟩ = false := (hg1.frozen (a := ⟨g, 0, none⟩) (by simp; omega) ng).trans (by go_simp))
  all_goals
    go_end0
    exact ⟨rfl, write1_end hBg hg ng (((Below.refl _ _).alloc (Nat.le_refl _) _).drew) hown1 hg1 hfr⟩
end Go.Proofs.Ytffljpchkdhbhaa
