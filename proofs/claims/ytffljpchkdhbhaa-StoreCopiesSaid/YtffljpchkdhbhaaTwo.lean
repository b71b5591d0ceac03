/- Two stores apart, each beside the document's. Condition: how they lie ('All'). -/
import Derived.Test.YtffljpchkdhbhaaCopy
namespace Go.Proofs.Ytffljpchkdhbhaa
open Go.RowKit
set_option linter.unusedVariables false

def Free (g : Nat) (A R : Option Addr) (k : Nat) : Prop := ¬ Own g A k ∧ ¬ blockOf R k
/-- two stores and the document's two, all apart; the two boxes that hold the document's -/
structure All (W v : World) (g h mx my : Nat) (A C R S : Option Addr) (c d : Nat) (σ τ : SS) (zx zy : Array Value) : Prop where
  a : Both W v g A R c σ
  b : Both W v h C S d τ
  ab : ∀ k, Own g A k → ¬ Own h C k
  rb : ∀ k, blockOf R k → ¬ Own h C k
  sa : ∀ k, blockOf S k → ¬ Own g A k
  x : Blk v mx 42 zx
  y : Blk v my 42 zy
  fx : Free g A R mx ∧ Free h C S mx
  fy : Free g A R my ∧ Free h C S my
  ne : mx ≠ my
  lx : W.heap.size ≤ mx
  ly : W.heap.size ≤ my
section
variable {W v v' : World} {g h mx my : Nat} {A C R S : Option Addr} {c d : Nat} {σ τ : SS} {zx zy : Array Value}
theorem All.swap (H : All W v g h mx my A C R S c d σ τ zx zy) : All W v h g my mx C A S R d c τ σ zy zx :=
  ⟨H.b, H.a, fun k hk h' => H.ab k h' hk, H.sa, H.rb, H.y, H.x, H.fy.symm, H.fx.symm, H.ne.symm, H.ly, H.lx⟩
theorem Both.own_lt (h : Both W v g A R c σ) {k : Nat} (hk : Own g A k) : k < v.heap.size := by
  rcases hk with rfl | hk
  · exact h.2.2.1.lt
  · exact (h.2.2.1.2.choose_spec.2.lt hk).2
theorem Both.ref_lt (h : Both W v g A R c σ) {k : Nat} (hk : blockOf R k) : k < v.heap.size := (h.2.2.2.2.2 _ hk).1
theorem All.below (H : All W v g h mx my A C R S c d σ τ zx zy) (hb : Below v.heap.size v v') : All W v' g h mx my A C R S c d σ τ zx zy :=
  ⟨H.a.below hb, H.b.below hb, H.ab, H.rb, H.sa, H.x.below hb H.x.lt, H.y.below hb H.y.lt, H.fx, H.fy, H.ne, H.lx, H.ly⟩
theorem All.box (H : All W v g h mx my A C R S c d σ τ zx zy) {nb : Nat} (hC : Chg (· = nb) v v') (h1 : nb ≠ mx) (h2 : nb ≠ my) (f1 : Free g A R nb) (f2 : Free h C S nb) (hW : W.heap.size ≤ nb) : All W v' g h mx my A C R S c d σ τ zx zy :=
  ⟨both_box H.a hC hW f1.1 f1.2, both_box H.b hC hW f2.1 f2.2, H.ab, H.rb, H.sa, hC.blk H.x (Ne.symm h1), hC.blk H.y (Ne.symm h2), H.fx, H.fy, H.ne, H.lx, H.ly⟩
theorem All.putx {a b e f : Value} (H : All W v g h mx my A C R S c d σ τ #[a, b, e, f] zy) (a' b' e' f' : Value) : All W (put4 v mx a' b' e' f') g h mx my A C R S c d σ τ #[a', b', e', f'] zy := by
  have hC : Chg (· = mx) v (put4 v mx a' b' e' f') := chg_put4 _ _ _ _
  exact ⟨both_box H.a hC H.lx H.fx.1.1 H.fx.1.2, both_box H.b hC H.lx H.fx.2.1 H.fx.2.2, H.ab, H.rb, H.sa, H.x.put4 _ _ _ _, hC.blk H.y (Ne.symm H.ne), H.fx, H.fy, H.ne, H.lx, H.ly⟩
theorem All.past (H : All W v g h mx my A C R S c d σ τ zx zy) : Free g A R v.heap.size ∧ Free h C S v.heap.size ∧ v.heap.size ≠ mx ∧ v.heap.size ≠ my ∧ W.heap.size ≤ v.heap.size :=
  ⟨both_past H.a, both_past H.b, by have := H.x.lt; omega, by have := H.y.lt; omega, H.a.1.size⟩
/-- a call of the first two -/
theorem all_do (H : All W v g h mx my A C R S c d σ τ zx zy) (o : Call) (hn : o.num ≤ 9223372036854775807) :
    Calls Try.prog 20 #[.pointer (some ⟨g, 0, none⟩), σ.ref R c, .agg #[.int .i64 o.kind, .int .i64 o.num, .string o.text]] v fun e v' => ∃ σ' A' R' c', e = .returned (.tuple #[σ'.ref R' c', .bool true]) ∧ All W v' g h mx my A' C R' S c' d σ' τ zx zy ∧ v.heap.size ≤ v'.heap.size ∧
      ∀ k, k < v.heap.size → Free g A R k → (∀ t cs, Blk v k t cs → Blk v' k t cs) ∧ Free g A' R' k := by
  refine (do_any g σ H.a.2.1 A v _ H.a.2.2.1 R c H.a.2.2.2 o hn).mono fun e v' ⟨σ', A', R', c', he, hok, hSt, hC, hF, hR, hRR⟩ => ?_
  have hfree : ∀ k, k < v.heap.size → Free g A R k → Free g A' R' k := fun k hk hf => by
    refine ⟨?_, fun h' => ?_⟩
    · rintro (h' | h')
      · exact hf.1 (.inl h')
      · rcases hF with rfl | hF
        · exact hf.1 (.inr h')
        · have := hF k h'
          omega
    · rcases hRR with rfl | hRR
      · exact hf.2 h'
      · have := hRR k h'
        omega
  refine ⟨σ', A', R', c', he, ⟨⟨H.a.1.trans (hC.below H.a.1.size H.a.2.2.1.le), hok, hSt, hR⟩, ⟨H.b.1.trans (hC.below H.a.1.size H.a.2.2.1.le), H.b.2.1, H.b.2.2.1.chg hC fun k hk hk' => H.ab k hk' hk, H.b.2.2.2.chg hC fun k hk => H.sa k hk⟩, ?_, ?_, ?_, hC.blk H.x H.fx.1.1, hC.blk H.y H.fy.1.1, ⟨hfree _ H.x.lt H.fx.1, H.fx.2⟩, ⟨hfree _ H.y.lt H.fy.1, H.fy.2⟩, H.ne, H.lx, H.ly⟩, hC.size, fun k hk hf => ⟨fun t cs hb => hC.blk hb hf.1, hfree k hk hf⟩⟩
  · rintro k (hk | hk) h'
    · exact H.ab k (.inl hk) h'
    · rcases hF with rfl | hF
      · exact H.ab k (.inr hk) h'
      · have := hF k hk
        have := H.b.own_lt h'
        omega
  · intro k hk h'
    rcases hRR with rfl | hRR
    · exact H.rb k hk h'
    · have := hRR k hk
      have := H.b.own_lt h'
      omega
  · rintro k hk (h' | h')
    · exact H.sa k hk (.inl h')
    · rcases hF with rfl | hF
      · exact H.sa k hk (.inr h')
      · have := hF k h'
        have := H.b.ref_lt hk
        omega
theorem all_do_box (H : All W v g h mx my A C R S c d σ τ zx zy) (o : Call) (hn : o.num ≤ 9223372036854775807) (z : Array Value) :
    Calls Try.prog 20 #[.pointer (some ⟨g, 0, none⟩), σ.ref R c, .agg #[.int .i64 o.kind, .int .i64 o.num, .string o.text]] (v.alloc (.cells z 42)) fun e v' => ∃ σ' A' R' c', e = .returned (.tuple #[σ'.ref R' c', .bool true]) ∧ All W v' g h mx my A' C R' S c' d σ' τ zx zy ∧ v.heap.size + 1 ≤ v'.heap.size ∧
      Blk v' v.heap.size 42 z ∧ Free g A' R' v.heap.size := by
  have hb : Below v.heap.size v (v.alloc (.cells z 42)) := (Below.refl _ _).alloc (Nat.le_refl _) _
  have hs : (v.alloc (.cells z 42)).heap.size = v.heap.size + 1 := by simp
  refine (all_do (H.below hb) o hn).mono ?_
  rintro e v' ⟨σ', A', R', c', he, hB, hsz, hk⟩
  obtain ⟨k1, k2⟩ := hk v.heap.size (by omega) H.past.1
  exact ⟨σ', A', R', c', he, hB, by omega, k1 _ _ (Blk.new _ _ _), k2⟩
theorem all_alike (H : All W v g h mx my A C R S c d σ τ zx zy) : Calls Try.prog 21 #[.pointer (some ⟨g, 0, none⟩), σ.ref R c] v fun e v' => e = .returned (.bool true) ∧ All W v' g h mx my A C R S c d σ τ zx zy :=
  (alike_any g σ H.a.2.1.2.2.1 A v _ H.a.2.2.1 R c H.a.2.2.2.1).mono fun e v' ⟨he, hb⟩ => ⟨he, H.below hb⟩
end
end Go.Proofs.Ytffljpchkdhbhaa
