/- SuretyCopies: the surety and the reference side by side. Condition: how they lie. -/
import Derived.Test.YtlmlepdmgopojaaRefActs
import Derived.Test.YtlmlepdmgopojaaSame
import Derived.Test.YtlmlepdmgopojaaNeverWalk
namespace Go.Proofs.Ytlmlepdmgopojaa
open Go.RowKit
set_option linter.unusedVariables false
set_option linter.unusedSimpArgs false
/-- behind w1: the surety s at g, the reference t in the box h; neither lies in the other -/
def CSt (w1 v : World) (g h : Nat) (s t : Sur) : Prop := ∃ (O : Nat → Prop) (D C : Option Addr) (d c : Nat), At O v g s ∧ (∀ j, O j → w1.heap.size ≤ j ∧ j < v.heap.size) ∧ Blk v h 52 (t.rcells D d C c) ∧ RefAt v t D C ∧ ¬ O h ∧
  (0 < t.dem.length → ∀ k, blockOf D k → ¬ O k ∧ k ≠ h) ∧ (0 < t.cuts.length → ∀ k, blockOf C k → ¬ O k ∧ k ≠ h) ∧ w1.heap.size ≤ h ∧ Below w1.heap.size w1 v
section
variable {w1 v v' : World} {g h : Nat} {s t : Sur}
theorem CSt.frame (q : CSt w1 v g h s t) : Below w1.heap.size w1 v := by obtain ⟨_, _, _, _, _, _, _, _, _, _, _, _, _, q⟩ := q; exact q
theorem CSt.below (q : CSt w1 v g h s t) (hb : Below v.heap.size v v') : CSt w1 v' g h s t := by
  obtain ⟨O, D, C, d, c, q1, q2, q3, q4, q5, q6, q7, q8, q9⟩ := q
  exact ⟨O, D, C, d, c, q1.below hb, fun j hj => ⟨(q2 j hj).1, Nat.lt_of_lt_of_le (q2 j hj).2 hb.size⟩, q3.below hb q3.lt, q4.up hb, q5, q6, q7, q8, below_trans q9 hb⟩
/-- an act by the document -/
theorem CSt.want (q : CSt w1 v g h s t) {K : Nat} (ok : t.ok K) (hK : K < 4096) (a : Act') (wf : a.wf) : ∃ D C d c, Blk v h 52 (t.rcells D d C c) ∧ Calls Try.prog 18 #[refV t D d C c, actV a] (v.alloc (.cells a.cells.toArray 37)) fun e w' =>
    ∃ D' d' C' c', e = .returned (.tuple #[refV (t.act a).1 D' d' C' c', .int .i64 (t.act a).2.1, .int .i64 (t.act a).2.2]) ∧ Blk w' v.heap.size 37 a.cells.toArray ∧ Below v.heap.size v w' ∧
      Blk w' h 52 (t.rcells D d C c) ∧ CSt w1 (putAll w' h 0 ((t.act a).1.rcells D' d' C' c').toList) g h s (t.act a).1 ∧ Blk (putAll w' h 0 ((t.act a).1.rcells D' d' C' c').toList) v.heap.size 37 a.cells.toArray := by
  obtain ⟨O, D, C, d, c, q1, q2, q3, q4, q5, q6, q7, q8, q9⟩ := q
  have hb : Below v.heap.size v (v.alloc (.cells a.cells.toArray 37)) := (Below.refl _ _).alloc (Nat.le_refl _) _
  have hsz : (v.alloc (.cells a.cells.toArray 37)).heap.size = v.heap.size + 1 := by simp
  have hlt := q3.lt
  refine ⟨D, C, d, c, q3, (want_any t d c D C _ (q4.up hb) ok hK a wf).mono fun e w' r => ?_⟩
  obtain ⟨D', d', C', c', rfl, n⟩ := r
  have fr : Below v.heap.size v w' := hb.trans (n.fr.mono hb.size)
  have fr' := n.fr
  have b37 : Blk w' v.heap.size 37 a.cells.toArray := (Blk.new v 37 _).below fr' (by omega)
  have ch : Chg (fun j => j = h) w' (putAll w' h 0 ((t.act a).1.rcells D' d' C' c').toList) := putAll_chg (S := fun j => j = h) rfl _ _ _
  have nD : 0 < (t.act a).1.dem.length → ∀ k, blockOf D' k → ¬ O k ∧ k ≠ h := fun h0 k hk => by
    rcases n.fd with ⟨rfl, hl⟩ | hf
    · exact q6 (by omega) k hk
    · have := hf k hk
      exact ⟨fun ho => by have := (q2 k ho).2; omega, by omega⟩
  have nC : 0 < (t.act a).1.cuts.length → ∀ k, blockOf C' k → ¬ O k ∧ k ≠ h := fun h0 k hk => by
    rcases n.fc with ⟨rfl, hl⟩ | hf
    · exact q7 (by omega) k hk
    · have := hf k hk
      exact ⟨fun ho => by have := (q2 k ho).2; omega, by omega⟩
  have bh : Blk w' h 52 (t.rcells D d C c) := q3.below fr hlt
  refine ⟨D', d', C', c', rfl, b37, fr, bh, ⟨O, D', C', d', c', (q1.below fr).chg ch fun k hk e => q5 (e ▸ hk), fun j hj => ⟨(q2 j hj).1, ?_⟩, put_s _ D' C' d' c' bh rfl, n.at_.chg0 (w := v) ch (fun h0 k hk e => (nD h0 k hk).2 e) (fun h0 k hk e => (nC h0 k hk).2 e), q5, nD, nC, q8, ?_⟩, ch.blk b37 (by omega)⟩
  · have := (q2 j hj).2
    have := fr.size
    have := ch.size
    omega
  · exact (below_trans q9 fr).trans (ch.below (Nat.le_trans q9.size fr.size) fun j hj => by omega)
/-- the same act by the program -/
theorem CSt.did (q : CSt w1 v g h s t) {K : Nat} (ok : s.ok K) (hK : K < 4096) (a : Act') (wf : a.wf) : Calls Try.prog 13 #[.pointer (some ⟨g, 0, none⟩), actV a] v fun e w' =>
    e = .returned (.tuple #[.int .i64 (s.act a).2.1, .int .i64 (s.act a).2.2]) ∧ CSt w1 w' g h (s.act a).1 t := by
  obtain ⟨O, D, C, d, c, q1, q2, q3, q4, q5, q6, q7, q8, q9⟩ := q
  have hlt := q3.lt
  refine (do_any s g _ O q1 ok hK a wf).mono fun e w' r => ⟨r.1, ?_⟩
  obtain ⟨O', r1, r2, r3⟩ := r.2
  obtain ⟨O1, g1, g2, g3⟩ := r1.small
  refine ⟨O1, D, C, d, c, g1, fun j hj => ⟨?_, g3 j hj⟩, r2.blk q3 q5, q4.chg0 (w := v) r2 (fun h0 k hk => (q6 h0 k hk).1) (fun h0 k hk => (q7 h0 k hk).1), fun hj => ?_, fun h0 k hk => ⟨fun hj => ?_, (q6 h0 k hk).2⟩, fun h0 k hk => ⟨fun hj => ?_, (q7 h0 k hk).2⟩, q8, q9.trans (r2.below q9.size fun j hj => (q2 j hj).1)⟩
  · rcases r3 j (g2 j hj) with h | h
    · exact (q2 j h).1
    · have := q9.size; omega
  · rcases r3 _ (g2 _ hj) with h | h
    · exact q5 h
    · omega
  · rcases r3 k (g2 k hj) with h | h
    · exact (q6 h0 k hk).1 h
    · have := q4.old.1 h0 k hk; omega
  · rcases r3 k (g2 k hj) with h | h
    · exact (q7 h0 k hk).1 h
    · have := q4.old.2 h0 k hk; omega
/-- both hold the same -/
theorem CSt.same (q : CSt w1 v g h s s) {K : Nat} (ok : s.ok K) (hK : K < 4096) (day : Int) : ∃ D C d c, Blk v h 52 (s.rcells D d C c) ∧ Calls Try.prog 20 #[.pointer (some ⟨g, 0, none⟩), refV s D d C c, .int .i64 day] v fun e w' =>
    e = .returned (.bool true) ∧ CSt w1 w' g h s s := by
  obtain ⟨O, D, C, d, c, q1, q2, q3, q4, q5, q6, q7, q8, q9⟩ := id q
  obtain ⟨C1, c1, D1, d1, sa, _⟩ := q1
  exact ⟨D, C, d, c, q3, (same_any sa d c q4 ok hK day).mono fun e w' r => ⟨r.1, q.below r.2⟩⟩
end
end Go.Proofs.Ytlmlepdmgopojaa
