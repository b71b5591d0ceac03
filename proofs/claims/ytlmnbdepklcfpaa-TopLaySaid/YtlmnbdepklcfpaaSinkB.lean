/- The two takes of a drawn region, with the temporary written out. No condition. -/
import Derived.Test.YtlmnbdepklcfpaaSink
namespace Go.Proofs.Ytlmnbdepklcfpaa
section
variable {P : Program} {ops : Array Oper} {Q : Exit → Act → World → Prop} {md : Region.Mode} {S : World → Prop} {z : Nat}
theorem AnyZ.takeD {i : Nat} (d : Option Tmp) {oi : Oper} {v : Value} {m : Nat} {listed : Array Bool} {a : Act} {w : World} (hi : ops[i]? = some oi) (hd : oi.dst = d)
    (hs : Region.noSelect ops = true) (hf : Region.free md ops listed i = true) (hr : (Region.ready md ops listed).contains i = true) (hz : (decide (ops.size ≤ z) || waitsB md ops ops.size z i) = true) (hc : closedB md ops listed = true)
    (hQ : ∀ c a w, Q (.panic c) (a.put d v) w → Q (.panic c) a w) (hw : Region.wanted oi (yielded ops a.tmps) = true) (hy : ∀ w, S w → (execOp a.eval oi).run P w = .ok (.value v) w) (hS : S w)
    (h : AnyZ P md ops Q S z m (listed.setIfInBounds i true) (a.put d v) w) : AnyZ P md ops Q S z (m + 1) listed a w := by
  subst hd
  exact AnyZ.take hi hs hf hr hz hc hQ hw hy hS h
theorem AnyZ.skipD {i : Nat} (d : Option Tmp) {oi : Oper} {m : Nat} {listed : Array Bool} {a : Act} {w : World} (hi : ops[i]? = some oi) (hd : oi.dst = d)
    (hs : Region.noSelect ops = true) (hf : Region.free md ops listed i = true) (hr : (Region.ready md ops listed).contains i = true) (hz : (decide (ops.size ≤ z) || waitsB md ops ops.size z i) = true) (hc : closedB md ops listed = true)
    (hQ : ∀ c a w, Q (.panic c) (a.put d undef) w → Q (.panic c) a w) (hw : Region.wanted oi (yielded ops a.tmps) = false) (hS : S w)
    (h : AnyZ P md ops Q S z m (listed.setIfInBounds i true) (a.put d undef) w) : AnyZ P md ops Q S z (m + 1) listed a w := by
  subst hd
  exact AnyZ.skip hi hs hf hr hz hc hQ hw hS h
end
end Go.Proofs.Ytlmnbdepklcfpaa
