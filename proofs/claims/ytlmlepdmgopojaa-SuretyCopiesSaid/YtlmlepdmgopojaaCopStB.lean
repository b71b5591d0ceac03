/- SuretyCopies: the copied pair, and what same tells of either. Condition: how they lie. -/
import Derived.Test.YtlmlepdmgopojaaCopSt
namespace Go.Proofs.Ytlmlepdmgopojaa
open Go.RowKit
set_option linter.unusedVariables false
set_option linter.unusedSimpArgs false
section
variable {w1 v v' v1 v2 : World} {g h g2 : Nat} {s t : Sur} {D C : Option Addr} {O' : Nat → Prop}
/-- the copy first, then its box -/
theorem cst_new1 (d c : Nat) (hat : At O' v1 g2 s) (hge : ∀ j, O' j → v.heap.size ≤ j) (hb : Below v.heap.size v v1) (r : RefAt v s D C) :
    CSt v (v1.alloc (.cells (s.rcells D d C c) 52)) g2 v1.heap.size s s := by
  obtain ⟨O1, a1, a2, a3⟩ := hat.small
  have hsz := hb.size
  have hal : Below v1.heap.size v1 (v1.alloc (.cells (s.rcells D d C c) 52)) := (Below.refl _ _).alloc (Nat.le_refl _) _
  have hb2 : Below v.heap.size v (v1.alloc (.cells (s.rcells D d C c) 52)) := below_trans hb hal
  refine ⟨O1, D, C, d, c, a1.below hal, fun j hj => ⟨hge j (a2 j hj), ?_⟩, Blk.new v1 52 _, r.up hb2, fun hj => ?_, fun h0 k hk => ⟨fun hj => ?_, ?_⟩, fun h0 k hk => ⟨fun hj => ?_, ?_⟩, hsz, hb2⟩
  · have := a3 j hj
    have := hal.size
    omega
  · have := a3 _ hj
    omega
  · have := r.rd.old h0 k hk
    have := hge k (a2 k hj)
    omega
  · have := r.rd.old h0 k hk
    omega
  · have := r.rc.old h0 k hk
    have := hge k (a2 k hj)
    omega
  · have := r.rc.old h0 k hk
    omega
/-- its box first, then the copy, then what the box holds -/
theorem cst_new2 (d c : Nat) {z : Array Value} (hz : z.size = 10) (hbx : Blk v2 v.heap.size 52 z) (hb : Below v.heap.size v v2) (hlt : v.heap.size < v2.heap.size) (hat : At O' v1 g2 s) (hge : ∀ j, O' j → v2.heap.size ≤ j) (hb2 : Below v2.heap.size v2 v1) (r : RefAt v s D C) :
    CSt v (putAll v1 v.heap.size 0 (s.rcells D d C c).toList) g2 v.heap.size s s := by
  obtain ⟨O1, a1, a2, a3⟩ := hat.small
  have hsz := hb.size
  have hsz2 := hb2.size
  have hv1 : Below v.heap.size v v1 := below_trans hb hb2
  have ch : Chg (fun j => j = v.heap.size) v1 (putAll v1 v.heap.size 0 (s.rcells D d C c).toList) := putAll_chg (S := fun j => j = v.heap.size) rfl _ _ _
  have b1 : Blk v1 v.heap.size 52 z := hbx.below hb2 hlt
  have hb9 : Below v.heap.size v (putAll v1 v.heap.size 0 (s.rcells D d C c).toList) := hv1.trans (ch.below hv1.size fun j hj => by omega)
  have bx : Blk (putAll v1 v.heap.size 0 (s.rcells D d C c).toList) v.heap.size 52 (s.rcells D d C c) := by
    have := putAll_all (l := (s.rcells D d C c).toList) b1 (by rw [hz]; rfl)
    exact this
  refine ⟨O1, D, C, d, c, a1.chg ch fun j hj => ?_, fun j hj => ⟨?_, ?_⟩, bx, r.up hb9, fun hj => ?_, fun h0 k hk => ⟨fun hj => ?_, ?_⟩, fun h0 k hk => ⟨fun hj => ?_, ?_⟩, Nat.le_refl _, hb9⟩
  · have := hge j (a2 j hj)
    omega
  · have := hge j (a2 j hj)
    omega
  · have := a3 j hj
    have := ch.size
    omega
  · have := hge _ (a2 _ hj)
    omega
  · have := r.rd.old h0 k hk
    have := hge k (a2 k hj)
    omega
  · have := r.rd.old h0 k hk
    omega
  · have := r.rc.old h0 k hk
    have := hge k (a2 k hj)
    omega
  · have := r.rc.old h0 k hk
    omega
/-- both hold the same, in any later world -/
theorem CSt.sameAt (q : CSt w1 v g h s s) {K : Nat} (ok : s.ok K) (hK : K < 4096) (day : Int) : ∃ D C d c, Blk v h 52 (s.rcells D d C c) ∧ ∀ v', Below v.heap.size v v' → Calls Try.prog 20 #[.pointer (some ⟨g, 0, none⟩), refV s D d C c, .int .i64 day] v' fun e w' =>
    e = .returned (.bool true) ∧ Below v'.heap.size v' w' := by
  obtain ⟨O, D, C, d, c, q1, q2, q3, q4, q5, q6, q7, q8, q9⟩ := id q
  obtain ⟨C1, c1, D1, d1, sa, _⟩ := q1
  exact ⟨D, C, d, c, q3, fun v' hv => same_any (sa.below hv) d c (q4.up hv) ok hK day⟩
end
end Go.Proofs.Ytlmlepdmgopojaa
