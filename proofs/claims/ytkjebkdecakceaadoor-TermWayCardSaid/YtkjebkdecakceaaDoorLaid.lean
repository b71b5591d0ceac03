/- From the row's list to the walk's table: where term.terms reads as listed, its cells are the table of 'Tab'. No condition. -/
import Derived.Test.YtkjebkdecakceaaDoorBase
import Derived.Lib.LaidTab
namespace Go.Proofs.YtkjebkdecakceaaDoor
open Go.ChangeShapes Go.WideShapes Go.ChangeAt Go.RowKit Go.Deep

theorem elem_of {w : World} {fuel : Nat} {cs : List Value} {nm : List UInt8} {c r : Int} {ps : List Int} {pl : List MemPlace}
    (h : DataW.trod (fun _ => ()) Tryd.prog w 0 (fun _ => true) false fuel 48 cs = some (.agg [.lit (.string nm), .lit (.int .i64 c), .lit (.int .i64 r), .slice (ps.map fun z => .lit (.int .i64 z)) []], pl)) :
    ∃ a : Addr, cs = [.string ⟨nm.toArray⟩, .int .i64 c, .int .i64 r, .slice (some a) ps.length ps.length] ∧ ∀ j v, ps[j]? = some v → w.cell? (a.add j) = some (.int .i64 v) := by
  obtain ⟨xs, n, hx, hl4, hxl, hg⟩ := trod_fields Tryd.underlying48 (by kernel_rfl) (by kernel_rfl) h
  have c3' : Tryd.prog.cellsOf 3 = 1 := by kernel_rfl
  match cs, hl4 with
  | [c0, c1, c2, c3], _ =>
  match xs, hxl with
  | [y0, y1, y2, y3], _ =>
  simp only [Prod.mk.injEq, List.map_cons, List.map_nil, DataW.agg.injEq, List.cons.injEq, and_true] at hx
  obtain ⟨⟨e0, e1, e2, e3⟩, _⟩ := hx
  have g0 := hg 0 _ _ _ rfl rfl rfl
  have g1 := hg 1 _ _ _ rfl rfl rfl
  have g2 := hg 2 _ _ _ rfl rfl rfl
  have g3 := hg 3 _ _ _ rfl rfl rfl
  obtain ⟨s, q0, q1, _⟩ := DataW.trod_string Tryd.underlying9 g0
  obtain ⟨z1, r0, r1, _⟩ := DataW.trod_int Tryd.underlying3 g1
  obtain ⟨z2, t0, t1, _⟩ := DataW.trod_int Tryd.underlying3 g2
  subst q1 r1 t1
  simp only [List.cons.injEq, and_true, DataW.lit.injEq, Lit.string.injEq, Lit.int.injEq, true_and] at q0 r0 t0 e0 e1 e2
  subst q0 r0 t0 e0 e1 e2
  rcases open_ints Tryd.underlying28 Tryd.underlying3 c3' g3 with ⟨_, rfl⟩ | ⟨a, len, cap, zs, u0, _, hle, _, hzl, rfl, hc, _⟩
  · simp at e3
  · simp only [List.cons.injEq, and_true] at u0
    subst u0
    simp only [DataW.slice.injEq, lits] at e3
    simp only [if_true] at hzl
    have hd : zs.drop len = [] := by simpa using e3.2.symm
    have hlen : zs.length ≤ len := by simpa using hd
    have ht : zs.take len = zs := List.take_of_length_le hlen
    rw [ht] at e3
    have hzs : ps = zs := (List.map_inj_right (fun a b hab => by simpa using hab)).1 e3.1
    subst hzs
    obtain rfl : len = ps.length := by omega
    subst hzl
    refine ⟨a, rfl, fun j v hj => ?_⟩
    have hjl := (List.getElem?_eq_some_iff.1 hj).1
    rw [hc j hjl, List.getD_eq_getElem?_getD, hj]
    rfl

def datT (t : Nat) : DataW Unit := .agg [.lit (.string (tName t).data.toList), .lit (.int .i64 (tCost t)), .lit (.int .i64 (tRisk t)), .slice ((tPapers t).map fun z => .lit (.int .i64 z)) []]
theorem laid_eq : (Rows.laid_supercargo_term_terms : DataW Unit) = .agg ((List.range 8).map datT) := rfl

theorem tab_of_laid {w : World} {fuel : Nat} {cs : Array Value} {p : List MemPlace} (hv : w.var? Tryd.prog "supercargo/term.terms" = some cs)
    (h : DataW.trod (fun _ => ()) Tryd.prog w 0 (fun _ => true) false fuel 52 cs.toList = some (Rows.laid_supercargo_term_terms, p)) :
    ∃ PA : Nat → Addr, Tab w PA (fun t => (tPapers t).length) := by
  have hgt : Tryd.prog.globalNamed "supercargo/term.terms" = some 0 := by kernel_rfl
  have c48 : Tryd.prog.cellsOf 48 = 4 := by kernel_rfl
  obtain ⟨xs, m, _, hx, hl, hxl, hg⟩ := DataW.trod_array Tryd.underlying52 h
  rw [laid_eq] at hx
  simp only [Prod.mk.injEq, DataW.agg.injEq] at hx
  have each : ∀ t, t < 8 → ∃ a : Addr, ((cs.toList.drop (t * 4)).take 4) = [.string (tName t), .int .i64 (tCost t), .int .i64 (tRisk t), .slice (some a) (tPapers t).length (tPapers t).length] ∧ ∀ j v, (tPapers t)[j]? = some v → w.cell? (a.add j) = some (.int .i64 v) := by
    intro t ht
    have g := hg t ht
    rw [c48] at g
    have hxt : xs[t]? = some (xs[t]'(by omega)) := List.getElem?_eq_getElem (by omega)
    have h1 : (xs[t]'(by omega)).1 = datT t := by
      have := congrArg (·[t]?) hx.1
      simp only [List.getElem?_map, hxt, Option.map_some] at this
      rw [List.getElem?_range ht] at this
      simpa using this.symm
    rw [hxt] at g
    have g' : DataW.trod (fun _ => ()) Tryd.prog w 0 (fun _ => true) false m 48 ((cs.toList.drop (t * 4)).take 4) = some (datT t, (xs[t]'(by omega)).2) := by rw [g, ← h1]
    exact elem_of g'
  obtain ⟨PA, hPA⟩ := choose_lt each
  have cellAt : ∀ t, t < 8 → ∀ j v, (([.string (tName t), .int .i64 (tCost t), .int .i64 (tRisk t), .slice (some (PA t)) (tPapers t).length (tPapers t).length] : List Value))[j]? = some v → w.cell? ⟨0, t * 4 + j, none⟩ = some v := by
    intro t ht j v hj
    rw [← (hPA t ht).1] at hj
    rw [World.var?_cell hgt hv]
    have hj4 : j < 4 := by
      have := (List.getElem?_eq_some_iff.1 hj).1
      simp at this
      omega
    rw [List.getElem?_take_of_lt hj4, List.getElem?_drop] at hj
    simpa using hj
  refine ⟨PA, fun t ht => cellAt t ht 0 _ rfl, fun t ht => cellAt t ht 1 _ rfl, fun t ht => cellAt t ht 2 _ rfl, fun t ht => cellAt t ht 3 _ rfl, fun _ _ => Nat.le_refl _, fun t ht => (hPA t ht).2, fun t ht => ?_, ?_⟩
  · have h0 : ∃ v, (tPapers t)[0]? = some v := by
      unfold tPapers
      split <;> exact ⟨_, rfl⟩
    obtain ⟨v, h0⟩ := h0
    have := lt_of_cell ((hPA t ht).2 0 v h0)
    rwa [block_of_add] at this
  · exact lt_of_cell (cellAt 0 (by omega) 0 _ rfl)
end Go.Proofs.YtkjebkdecakceaaDoor
