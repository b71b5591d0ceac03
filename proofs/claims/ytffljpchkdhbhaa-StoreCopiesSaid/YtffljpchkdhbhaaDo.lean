/- A call of both stores. Condition: how both lie, apart. -/
import Derived.Test.YtffljpchkdhbhaaAlike
namespace Go.Proofs.Ytffljpchkdhbhaa
open Go.RowKit
set_option linter.unusedVariables false

/-- the document's slice reads, and lies apart of the store -/
def Rf (w : World) (g : Nat) (A R : Option Addr) (c : Nat) (σ : SS) : Prop :=
  Reads w w.heap.size 1 R σ.l.length (strs σ.l) ∧ σ.l.length ≤ c ∧ ∀ k, blockOf R k → k < w.heap.size ∧ ¬ Own g A k
/-- what a call of both leaves -/
def Did (B g : Nat) (A R : Option Addr) (w : World) (e : Ending) (w' : World) : Prop :=
  ∃ σ' A' R' c', e = .returned (.tuple #[σ'.ref R' c', .bool true]) ∧ σ'.ok ∧ St w' B g A' σ' ∧ Chg (Own g A) w w' ∧ Fresh w A A' ∧ Rf w' g A' R' c' σ' ∧ (R' = R ∨ ∀ k, blockOf R' k → w.heap.size ≤ k)
theorem Reads.chg {S : Nat → Prop} {w w' : World} {n : Nat} {R : Option Addr} {xs : List Value} (h : Reads w w.heap.size 1 R n xs) (hc : Chg S w w') (hS : ∀ k, blockOf R k → ¬ S k) : Reads w' w'.heap.size 1 R n xs :=
  ⟨h.1, fun hn => by
    obtain ⟨ad, rfl, hb, hcell⟩ := h.2 hn
    exact ⟨ad, rfl, Nat.lt_of_lt_of_le hb hc.size, fun j u hu => (hc.cell (a := ad.add j) (by rw [block_of_add]; exact hb) (by rw [block_of_add]; exact hS _ ⟨ad, rfl, rfl⟩)).trans (hcell j u hu)⟩⟩
theorem Rf.below {w w' : World} {g : Nat} {A R : Option Addr} {c : Nat} {σ : SS} (h : Rf w g A R c σ) (hb : Below w.heap.size w w') : Rf w' g A R c σ :=
  ⟨(h.1.below hb).more hb.size, h.2.1, fun k hk => ⟨Nat.lt_of_lt_of_le (h.2.2 k hk).1 hb.size, (h.2.2 k hk).2⟩⟩
/-- behind a call of the store -/
theorem Rf.wrote {w w' : World} {g : Nat} {A A' R : Option Addr} {c : Nat} {σ : SS} (h : Rf w g A R c σ) (hc : Chg (Own g A) w w') (hf : Fresh w A A') : Rf w' g A' R c σ := by
  refine ⟨h.1.chg hc fun k hk => (h.2.2 k hk).2, h.2.1, fun k hk => ⟨Nat.lt_of_lt_of_le (h.2.2 k hk).1 hc.size, ?_⟩⟩
  rintro (rfl | ho)
  · exact (h.2.2 k hk).2 (.inl rfl)
  · rcases hf with rfl | hf
    · exact (h.2.2 k hk).2 (.inr ho)
    · have := hf k ho
      have := (h.2.2 k hk).1
      omega
theorem Rf.chg {S : Nat → Prop} {w w' : World} {g : Nat} {A R : Option Addr} {c : Nat} {σ : SS} (h : Rf w g A R c σ) (hc : Chg S w w') (hS : ∀ k, blockOf R k → ¬ S k) : Rf w' g A R c σ :=
  ⟨h.1.chg hc hS, h.2.1, fun k hk => ⟨Nat.lt_of_lt_of_le (h.2.2 k hk).1 hc.size, (h.2.2 k hk).2⟩⟩
/-- the end of each arm: the next state is stored into the result's box b -/
theorem did_end {B g b : Nat} {A A' R R' : Option Addr} {c : Nat} {σ' : SS} {w w5 w7 : World} (hok : σ'.ok) (hSt : St w5 B g A' σ') (hC : Chg (Own g A) w w5) (hF : Fresh w A A') (hR : Rf w5 g A' R' c σ') (hRR : R' = R ∨ ∀ k, blockOf R' k → w.heap.size ≤ k)
    (hb : w.heap.size ≤ b) (hbo : ¬ Own g A' b) (hbr : ¬ blockOf R' b) (hE : Chg (· = b) w5 w7) : Did B g A R w (.returned (.tuple #[σ'.ref R' c, .bool true])) w7 := by
  refine ⟨σ', A', R', c, rfl, hok, hSt.chg hE fun k hk h => hbo (h ▸ hk), hC.trans' hE fun j hj h => ?_, hF, hR.chg hE fun k hk h => hbr (h ▸ hk), hRR⟩
  subst h
  omega
theorem three {w w3 : World} {a b : Array Value} {z : Array Value} (h : w3 = ((w.alloc (.cells a 42)).alloc (.cells b 47)).alloc (.cells z 42)) :
    Blk w3 w.heap.size 42 a ∧ Blk w3 (w.heap.size + 1) 47 b ∧ Blk w3 (w.heap.size + 1 + 1) 42 z ∧ Below w.heap.size w w3 ∧ w3.heap.size = w.heap.size + 3 := by
  subst h
  have h1 := Blk.new w 42 a
  have h2 := Blk.new (w.alloc (.cells a 42)) 47 b
  have h3 := Blk.new ((w.alloc (.cells a 42)).alloc (.cells b 47)) 42 z
  simp only [World.size_alloc] at h2 h3
  exact ⟨(h1.alloc _).alloc _, h2.alloc _, h3, (((Below.refl _ _).alloc (Nat.le_refl _) _).alloc (by simp) _).alloc (by simp; omega) _, by simp⟩
theorem Blk.three_ {w : World} {g : Nat} {t : TypeId} {a b c : Value} (h : Blk w g t #[a, b, c]) : w.cell? ⟨g, 0, none⟩ = some a ∧ w.cell? ⟨g, 1, none⟩ = some b ∧ w.cell? ⟨g, 2, none⟩ = some c := ⟨h.cell 0, h.cell 1, h.cell 2⟩

def boxZero : Array Value := #[.slice none 0 0, .int .i64 0, .int .i64 0, .bool false]
/-- what an arm of do knows behind the store's call -/
theorem arm_facts {w w3 w4 : World} {B g : Nat} {A A' R : Option Addr} {c : Nat} {σ σ' : SS} {a b z : Array Value} (h : w3 = ((w.alloc (.cells a 42)).alloc (.cells b 47)).alloc (.cells z 42)) (hSt : St w B g A σ) (hR : Rf w g A R c σ) (hw : St w4 B g A' σ' ∧ Chg (Own g A) w3 w4 ∧ Fresh w3 A A') :
    Blk w4 w.heap.size 42 a ∧ Blk w4 (w.heap.size + 1) 47 b ∧ Blk w4 (w.heap.size + 1 + 1) 42 z ∧ Chg (Own g A) w w4 ∧ Fresh w A A' ∧ Rf w4 g A' R c σ ∧ ¬ Own g A' (w.heap.size + 1 + 1) ∧ ¬ blockOf R (w.heap.size + 1 + 1) ∧ w.heap.size + 3 ≤ w4.heap.size := by
  obtain ⟨b1, b2, b3, hB, hs⟩ := three h
  obtain ⟨hSt4, hC, hF⟩ := hw
  have hlt : ∀ k, Own g A k → k < w.heap.size := by
    rintro k (rfl | hk)
    · exact hSt.lt
    · exact (hSt.2.choose_spec.2.lt hk).2
  have hn : ∀ k, w.heap.size ≤ k → ¬ Own g A k := fun k hk ho => by have := hlt k ho; omega
  refine ⟨hC.blk b1 (hn _ (Nat.le_refl _)), hC.blk b2 (hn _ (by omega)), hC.blk b3 (hn _ (by omega)), (Chg.of_below hB).trans hC, ?_, (hR.below hB).wrote hC hF, ?_, fun h => ?_, by have := hC.size; omega⟩
  · exact hF.imp id fun h k hk => by have := h k hk; omega
  · rintro (h | h)
    · have := hlt g (.inl rfl); omega
    · rcases hF with rfl | hF
      · exact hn _ (by omega) (.inr h)
      · have := hF _ h; omega
  · have := (hR.2.2 _ h).1; omega
end Go.Proofs.Ytffljpchkdhbhaa
