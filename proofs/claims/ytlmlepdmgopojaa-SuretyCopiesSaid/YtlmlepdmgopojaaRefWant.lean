/- The walk of an act by the document. Condition: how the reference's two slices lie. -/
import Derived.Test.YtlmlepdmgopojaaRefExt
import Derived.Test.YtlmlepdmgopojaaRefPay
import Derived.Test.YtlmlepdmgopojaaRefRed
namespace Go.Proofs.Ytlmlepdmgopojaa
open Go.RowKit
set_option linter.unusedVariables false
set_option linter.unusedSimpArgs false
theorem RefAt.old {w : World} {s : Sur} {D C : Option Addr} (h : RefAt w s D C) : (0 < s.dem.length → ∀ k, blockOf D k → k < w.heap.size) ∧ (0 < s.cuts.length → ∀ k, blockOf C k → k < w.heap.size) := ⟨h.rd.old, h.rc.old⟩
/-- behind an act the result goes into the box g, which lies ahead of the act's world W -/
theorem RNew.put {w W w2 w3 : World} {s r : Sur} {D C D' C' : Option Addr} {g : Nat} (h : RefAt w s D C) (hW : Below w.heap.size w W) (hn : RNew W w2 s r D C D' C') (hg : w.heap.size ≤ g) (hg2 : g < W.heap.size) (hb : Chg (fun j => j = g) w2 w3) : RNew w w3 s r D C D' C' := by
  refine ⟨hn.at_.chg0 (w := w) hb (fun h0 j hj e => ?_) (fun h0 j hj e => ?_), (hW.trans (hn.fr.mono hW.size)).trans (hb.below (Nat.le_trans hW.size hn.fr.size) fun j hj => by omega), ?_, ?_⟩
  · rcases hn.fd with ⟨rfl, hl⟩ | hf
    · have := h.old.1 (by omega) j hj; omega
    · have := hf j hj; omega
  · rcases hn.fc with ⟨rfl, hl⟩ | hf
    · have := h.old.2 (by omega) j hj; omega
    · have := hf j hj; omega
  · exact hn.fd.imp id fun hf j hj => Nat.le_trans hW.size (hf j hj)
  · exact hn.fc.imp id fun hf j hj => Nat.le_trans hW.size (hf j hj)
def Wanted (s : Sur) (D C : Option Addr) (w : World) (a : Act') (e : Ending) (w' : World) : Prop :=
  ∃ D' d' C' c', e = .returned (.tuple #[refV (s.act a).1 D' d' C' c', .int .i64 (s.act a).2.1, .int .i64 (s.act a).2.2]) ∧ RNew w w' s (s.act a).1 D C D' C'
end Go.Proofs.Ytlmlepdmgopojaa
