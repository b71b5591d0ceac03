/- From the row's list to what TermNames's walk takes: the table's block whole, the stages' names. No condition. -/
import Derived.Test.YtkjebkdecakceaaDoorNamesLaw
import Derived.Test.YtkjebkdecakceaaDoorLaid
namespace Go.Proofs.YtkjebkdecakceaaDoor
open Go.ChangeShapes Go.WideShapes Go.ChangeAt Go.RowKit Go.Deep

theorem row_of_tab {w : World} {PA : Nat → Addr} {cp : Nat → Nat} (T : Tab w PA cp) {cs : Array Value} (hv : w.var? Tryd.prog "supercargo/term.terms" = some cs) (hs : cs.size = 32) : cs = tabRow PA cp := by
  have hgt : Tryd.prog.globalNamed "supercargo/term.terms" = some 0 := by kernel_rfl
  have hc := fun i => World.var?_cell hgt hv i
  refine Array.ext (hs.trans rfl) fun i h1 h2 => ?_
  have key : cs[i]? = (tabRow PA cp)[i]? := by
    rw [← hc i]
    obtain ⟨t, j, ht, hj, rfl⟩ : ∃ t j, t < 8 ∧ j < 4 ∧ i = t * 4 + j := ⟨i / 4, i % 4, by omega, by omega, by omega⟩
    have e0 := T.nm t ht
    have e1 := T.co t ht
    have e2 := T.ri t ht
    have e3 := T.pa t ht
    rcases (by omega : j = 0 ∨ j = 1 ∨ j = 2 ∨ j = 3) with rfl | rfl | rfl | rfl
    · rw [Nat.add_zero, e0]
      rcases (by omega : t = 0 ∨ t = 1 ∨ t = 2 ∨ t = 3 ∨ t = 4 ∨ t = 5 ∨ t = 6 ∨ t = 7) with rfl | rfl | rfl | rfl | rfl | rfl | rfl | rfl <;> rfl
    · rw [e1]
      rcases (by omega : t = 0 ∨ t = 1 ∨ t = 2 ∨ t = 3 ∨ t = 4 ∨ t = 5 ∨ t = 6 ∨ t = 7) with rfl | rfl | rfl | rfl | rfl | rfl | rfl | rfl <;> rfl
    · rw [e2]
      rcases (by omega : t = 0 ∨ t = 1 ∨ t = 2 ∨ t = 3 ∨ t = 4 ∨ t = 5 ∨ t = 6 ∨ t = 7) with rfl | rfl | rfl | rfl | rfl | rfl | rfl | rfl <;> rfl
    · rw [e3]
      rcases (by omega : t = 0 ∨ t = 1 ∨ t = 2 ∨ t = 3 ∨ t = 4 ∨ t = 5 ∨ t = 6 ∨ t = 7) with rfl | rfl | rfl | rfl | rfl | rfl | rfl | rfl <;> rfl
  rw [Array.getElem?_eq_getElem h1, Array.getElem?_eq_getElem h2] at key
  exact Option.some.inj key

theorem stages_of_laid {w : World} {fuel : Nat} {cs : Array Value} {p : List MemPlace} (hv : w.var? Tryd.prog "supercargo/term.stages" = some cs)
    (h : DataW.trod (fun _ => ()) Tryd.prog w 0 (fun _ => true) false fuel 53 cs.toList = some (Rows.laid_supercargo_term_stages, p)) :
    Reads w w.heap.size 1 (some ⟨1, 0, none⟩) 8 (strs stL) := by
  have hgt : Tryd.prog.globalNamed "supercargo/term.stages" = some 1 := by kernel_rfl
  have c9 : Tryd.prog.cellsOf 9 = 1 := by kernel_rfl
  obtain ⟨xs, m, _, hx, hl, hxl, hg⟩ := DataW.trod_array Tryd.underlying53 h
  have e : (Rows.laid_supercargo_term_stages : DataW Unit) = .agg (stL.map fun s => .lit (.string s.data.toList)) := rfl
  rw [e] at hx
  simp only [Prod.mk.injEq, DataW.agg.injEq] at hx
  have each : ∀ t, t < 8 → w.cell? ⟨1, t, none⟩ = some (.string (sName t)) := by
    intro t ht
    have g := hg t ht
    rw [c9, Nat.mul_one] at g
    have hxt : xs[t]? = some (xs[t]'(by omega)) := List.getElem?_eq_getElem (by omega)
    have h1 : (xs[t]'(by omega)).1 = .lit (.string (sName t).data.toList) := by
      have := congrArg (·[t]?) hx.1
      simp only [List.getElem?_map, hxt, Option.map_some, stL_get t ht] at this
      simpa using this.symm
    rw [hxt] at g
    obtain ⟨s, q0, q1, _⟩ := DataW.trod_string Tryd.underlying9 g
    have hs : s = sName t := by
      rw [q1] at h1
      simp only [DataW.lit.injEq, Lit.string.injEq] at h1
      exact ByteArray.ext (Array.ext' h1)
    subst hs
    rw [World.var?_cell hgt hv, ← Array.getElem?_toList]
    have := congrArg (·[0]?) q0
    simpa [List.getElem?_take, List.getElem?_drop] using this
  refine ⟨rfl, fun _ => ⟨_, rfl, lt_of_cell (each 0 (by omega)), fun j u hu => ?_⟩⟩
  simp only [strs, List.getElem?_map, Option.map_eq_some_iff] at hu
  obtain ⟨s, hs, rfl⟩ := hu
  obtain ⟨h8, rfl⟩ := stL_at j s hs
  have h0 : (⟨1, 0, none⟩ : Addr).add j = ⟨1, j, none⟩ := by unfold Addr.add; split <;> simp_all
  rw [h0]
  exact each j h8

theorem full_of_laid {w : World} {fuel1 fuel2 : Nat} {cs1 cs2 : Array Value} {p1 p2 : List MemPlace} (hv : w.var? Tryd.prog "supercargo/term.terms" = some cs1)
    (h : DataW.trod (fun _ => ()) Tryd.prog w 0 (fun _ => true) false fuel1 52 cs1.toList = some (Rows.laid_supercargo_term_terms, p1)) (hv2 : w.var? Tryd.prog "supercargo/term.stages" = some cs2)
    (h2 : DataW.trod (fun _ => ()) Tryd.prog w 0 (fun _ => true) false fuel2 53 cs2.toList = some (Rows.laid_supercargo_term_stages, p2)) :
    ∃ (PA : Nat → Addr) (cp : Nat → Nat), Tab w PA cp ∧ Full w PA cp := by
  obtain ⟨PA, T⟩ := tab_of_laid hv h
  obtain ⟨xs, m, _, _, hl, _, _⟩ := DataW.trod_array Tryd.underlying52 h
  have hs : cs1.size = 32 := by
    have : cs1.toList.length = 32 := hl.trans (by kernel_rfl)
    simpa using this
  have hrow := row_of_tab T hv hs
  subst hrow
  refine ⟨PA, _, T, ?_, stages_of_laid hv2 h2⟩
  have hgt : Tryd.prog.globalNamed "supercargo/term.terms" = some 0 := by kernel_rfl
  simp only [World.var?, hgt, Option.bind_some] at hv
  split at hv
  · rename_i cs t fr hh
    simp only [Option.some.injEq] at hv
    subst hv
    exact ⟨t, fr, hh⟩
  · cases hv
end Go.Proofs.YtkjebkdecakceaaDoor
