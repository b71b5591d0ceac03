/- The walk of an act by the document, all four kinds joined. -/
import Derived.Test.YtlmlepdmgopojaaRefWant0
import Derived.Test.YtlmlepdmgopojaaRefWant1
import Derived.Test.YtlmlepdmgopojaaRefWant2
import Derived.Test.YtlmlepdmgopojaaRefWant3
namespace Go.Proofs.Ytlmlepdmgopojaa
open Go.RowKit
theorem want_any (s : Sur) (d c : Nat) (D C : Option Addr) (w : World) (h : RefAt w s D C) {K : Nat} (ok : s.ok K) (hK : K < 4096) (a : Act') (wf : a.wf) :
    Calls Try.prog 18 #[refV s D d C c, actV a] w (Wanted s D C w a) := by
  rcases (show a.kind % 4 = 0 ∨ a.kind % 4 = 1 ∨ a.kind % 4 = 2 ∨ a.kind % 4 = 3 by omega) with hm | hm | hm | hm
  · exact want0_any s d c D C w h ok hK a wf hm
  · exact want1_any s d c D C w h ok hK a wf hm
  · exact want2_any s d c D C w h ok hK a wf hm
  · exact want3_any s d c D C w h ok hK a wf hm
end Go.Proofs.Ytlmlepdmgopojaa
