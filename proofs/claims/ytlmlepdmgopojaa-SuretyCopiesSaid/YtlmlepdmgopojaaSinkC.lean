/- A drawn region with two operations ready, each taken first in turn. No condition. -/
import Derived.Test.YtlmlepdmgopojaaSinkB
namespace Go.Proofs.Ytlmlepdmgopojaa
section
variable {P : Program} {ops : Array Oper} {Q : Exit → Act → World → Prop} {md : Region.Mode} {S : World → Prop} {z : Nat}
theorem AnyZ.two {i j : Nat} {oi oj : Oper} {m : Nat} {listed : Array Bool} {a : Act} {w : World} (hr : Region.ready md ops listed = [i, j]) (hoi : ops[i]? = some oi) (hoj : ops[j]? = some oj)
    (hwi : Region.wanted oi (yielded ops a.tmps) = true) (hwj : Region.wanted oj (yielded ops a.tmps) = true)
    (h1 : ∀ K : Act → World → Prop, Shut (∀ a w, (i = z ∨ S w) → (S w ∨ i = z → AnyZ P md ops Q S z m (listed.setIfInBounds i true) a w) → K a w) → Oper.wp P oi a w K Q)
    (h2 : ∀ K : Act → World → Prop, Shut (∀ a w, (j = z ∨ S w) → (S w ∨ j = z → AnyZ P md ops Q S z m (listed.setIfInBounds j true) a w) → K a w) → Oper.wp P oj a w K Q) : AnyZ P md ops Q S z (m + 1) listed a w := by
  refine ⟨fun h0 => (by rw [hr] at h0; cases h0), fun k hk => ?_⟩
  rw [hr, List.mem_cons, List.mem_singleton] at hk
  rcases hk with rfl | rfl
  · unfold wpOp
    rw [hoi]
    show if Region.wanted oi (yielded ops a.tmps) = true then _ else _
    rw [if_pos hwi]
    exact .inl (h1 _ fun a w g1 g2 => ⟨fun hn => g1.resolve_left hn, g2 g1.symm⟩)
  · unfold wpOp
    rw [hoj]
    show if Region.wanted oj (yielded ops a.tmps) = true then _ else _
    rw [if_pos hwj]
    exact .inl (h2 _ fun a w g1 g2 => ⟨fun hn => g1.resolve_left hn, g2 g1.symm⟩)
end
end Go.Proofs.Ytlmlepdmgopojaa
