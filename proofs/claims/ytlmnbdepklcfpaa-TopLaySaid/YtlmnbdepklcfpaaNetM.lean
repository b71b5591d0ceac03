/- 'm[k] += x' in a region that draws its order: the look-up, the entry, the store, each at its world. No program. No condition. -/
import Derived.Test.YtlmnbdepklcfpaaView
import Derived.WideKeyEntry
import Derived.Maps.RangeWalk
import Derived.Maps.Views
import Derived.Maps.Ext
import Derived.DeepKeys4
namespace Go.Proofs.Ytlmnbdepklcfpaa
open Go.WideShapes Go.WideElems Go.WideMaps Go.Maps Go.ChangeMaps
set_option linter.unusedVariables false

section
variable {H : Type} {P : Program} {w : World} {t k e : TypeId} {R : Value → Option (DataW H × List MemPlace)} {b : Nat} {es : Array MapEntry} {clock : Nat}
/-- the world behind 'mapEntry' is the world behind a store of what it yields -/
theorem entry_is_store (K : KeyLaw P k) (ht : P.underlying t = some (.map k e)) {z : Value} (hz : ∀ u : World, (zeroValue e).run P u = .ok z u) (hb : w.heap[b]? = some (.map es clock)) (F : Fit P k R es clock)
    {key : Value} {kl : Lit} (hkey : keyOf P k key = some kl) {v : Value} {w1 : World} {st : Value} (h : (Instr.mapEntry t (.map (some b)) key).run P w = .ok (.tuple #[v, st]) w1) :
    (Instr.mapUpdate t (.map (some b)) key v).run P w = .ok () w1 := by
  rcases K.find w hkey es.toList F.keys with ⟨h1, h2⟩ | ⟨j, e0, h1, h2, h3⟩
  · simp [Instr.mapEntry, run_underlying ht, MapKept.run_getObj_map hb, K.check w false hkey, h1, hz, MapKept.run_setObj_map _ hb, Result.andThen] at h
    obtain ⟨⟨rfl, _⟩, rfl⟩ := h
    simp [Instr.mapUpdate, run_underlying ht, MapKept.run_getObj_map hb, K.check w false hkey, h1, MapKept.run_setObj_map _ hb, Result.andThen]
  · have hj : es[j]? = some e0 := by simpa using h2
    simp [Instr.mapEntry, run_underlying ht, MapKept.run_getObj_map hb, K.check w false hkey, h1, hj, h3, K.stays w hkey, MapKept.run_setObj_map _ hb, Result.andThen] at h
    obtain ⟨⟨rfl, _⟩, rfl⟩ := h
    have hmod : es.modify j (fun e' => { e' with key := key, val := e0.val }) = es.modify j (fun e' => { e' with key := key }) := by
      apply Array.ext'
      rw [Array.toList_modify, Array.toList_modify, modify_eq_set _ _ _ _ h2, modify_eq_set _ _ _ _ h2]
    simp [Instr.mapUpdate, run_underlying ht, MapKept.run_getObj_map hb, K.check w false hkey, h1, hj, h3, K.stays w hkey, MapKept.run_setObj_map _ hb, Result.andThen, hmod]
end
section
variable {H : Type} {P : Program} {w : World} {t k e : TypeId} {q : IntKind} {b n : Nat} {D : DataW H}
theorem entry_own (K : KeyLaw P k) (ht : P.underlying t = some (.map k e)) (he : P.underlying e = some (.int q)) (hz : ∀ u : World, (zeroValue e).run P u = .ok (.int q 0) u) (h : w.ownsMap P k (plainElem P e) b n D) (hn : n < maxLen)
    {key : Value} {kl : Lit} (hkey : keyOf P k key = some kl) :
    ∃ (c : Int) (st : Nat) (w1 : World), (Instr.mapEntry t (.map (some b)) key).run P w = .ok (.tuple #[.int q c, goInt st]) w1 ∧ (Instr.lookup t (.map (some b)) key false).run P w = .ok (.int q c) w ∧
      D.atKey kl (.lit (.int q 0)) = .lit (.int q c) ∧ (Lit.int q c).wf = true ∧ w.grownBy w1 (some b) ∧ w1.heap.size = w.heap.size ∧ (Instr.lookup t (.map (some b)) key false).run P w1 = .ok (.int q c) w1 ∧
      ∀ x : Int, (Lit.int q x).wf = true → ∃ w3, (Instr.entryStore t (.map (some b)) (goInt st) (.int q x)).run P w1 = .ok () w3 ∧ w3.ownsMap P k (plainElem P e) b (n + 1) (D.put kl (.lit (.int q x))) ∧ w.grownBy w3 (some b) ∧ w3.heap.size = w.heap.size := by
  have KK : Keyed P k := Keyed.of_law K
  obtain ⟨c, hl, hat, hwf⟩ := h.lookup_int KK ht he (hz w) hkey
  have h0 := h
  obtain ⟨es, clock, hb, F, hs, rfl⟩ := h
  obtain ⟨v0, st, es1, clock1, hme, hv0, hst⟩ := entry_then_store K ht hz hb F hkey
  have hcv : v0 = .int q c := by
    rcases Maps.fit_look false KK ht (hz w) hb F hkey with ⟨hrun, hno, _⟩ | ⟨e0, y, hm, hk0, hrun, _⟩
    · rcases hv0 with ⟨e0, hm, hk0, rfl⟩ | ⟨_, rfl⟩
      · exact absurd hk0 (hno e0 hm)
      · rw [hl] at hrun
        cases hrun
        rfl
    · rcases hv0 with ⟨e1, hm1, hk1, rfl⟩ | ⟨hno, _⟩
      · have := entry_eq_of_key ((MapKept.stamped_iff es clock).1 F.stamped).2.2 hm1 hm (hk1.trans hk0.symm)
        subst this
        rw [hl] at hrun
        simp at hrun
        exact hrun.symm
      · exact absurd hk0 (hno e0 hm)
  subst hcv
  have hup := entry_is_store K ht hz hb F hkey hme
  obtain ⟨w', hrun', hown', hg'⟩ := h0.update KK ht hn hkey (plainElem_int he hwf)
  rw [hup] at hrun'
  injection hrun' with _ hw'
  subst hw'
  have hsz : (setBlock w b (.map es1 clock1)).heap.size = w.heap.size := by simp [setBlock]
  have hblk : (setBlock w b (.map es1 clock1)).heap[b]? = some (.map es1 clock1) := heap_setBlock_same hb _
  refine ⟨c, st, _, hme, hl, hat, hwf, hg', hsz, ?_, fun x hx => ?_⟩
  · obtain ⟨c', hl', hat', _⟩ := hown'.lookup_int KK ht he (hz _) hkey
    rw [atKey_put_same h0.isMap (KK.key hkey)] at hat'
    cases hat'
    exact hl'
  · obtain ⟨es', clock', hrun, hupd⟩ := hst _ (.int q x) hblk
    obtain ⟨w4, hrun4, hown4, hg4⟩ := h0.update KK ht hn hkey (plainElem_int he hx)
    rw [hupd] at hrun4
    injection hrun4 with _ hw4
    subst hw4
    have e1 : setBlock (setBlock w b (.map es1 clock1)) b (.map es' clock') = setBlock w b (.map es' clock') := by simp [setBlock]
    exact ⟨_, hrun.trans (by rw [e1]), hown4, hg4, by simp [setBlock]⟩
end
end Go.Proofs.Ytlmnbdepklcfpaa
