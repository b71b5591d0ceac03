/- Policies by value and slices of hands, as arguments. No condition. -/
import Derived.Test.YtlmgkkdjjoimnaaHands
import Derived.Deep.Slices
import Derived.Lib.SmallJoins
namespace Go.Proofs.Ytlmgkkdjjoimnaa
open Go.ChangeShapes Go.WideShapes Go.ChangeAt Go.RowKit Go.Deep
set_option linter.unusedVariables false

theorem list5 {α : Type} {l : List α} (h : l.length = 5) : ∃ a b c d e, l = [a, b, c, d, e] := by
  match l, h with
  | [a, b, c, d, e], _ => exact ⟨a, b, c, d, e, rfl⟩
theorem list9 {α : Type} {l : List α} (h : l.length = 9) : ∃ a b c d e f g i j, l = [a, b, c, d, e, f, g, i, j] := by
  match l, h with
  | [a, b, c, d, e, f, g, i, j], _ => exact ⟨a, b, c, d, e, f, g, i, j, rfl⟩
section
variable {H : Type} {enc : TypeId × Value → H} {w : World} {held : Bool}
theorem ints_of {P : Program} {t e : TypeId} {k : IntKind} {v : Value} {fuel : Nat} {y : DataW H × List MemPlace} (ht : P.underlying t = some (.slice e)) (he : P.underlying e = some (.int k)) (hc : P.cellsOf e = 1)
    (hf : DataW.trod enc P w 0 (fun _ => true) held fuel t [v] = some y) :
    ∃ (A : Option Addr) (n c : Nat) (zs : List Int), v = .slice A n c ∧ n ≤ maxLen ∧ zs.length = n ∧ Reads w w.heap.size 1 A n (zs.map (Value.int k)) := by
  obtain ⟨A, n, c, hv⟩ := Joins.slice_form ht hf
  obtain rfl : v = .slice A n c := by simpa using hv
  rcases open_ints ht he hc hf with ⟨hcs, _⟩ | ⟨a, len, cap, zs, hcs, _, hl, hm, hz, _, hcell, hwf⟩
  · simp at hcs
    obtain ⟨rfl, rfl, rfl⟩ := hcs
    exact ⟨none, 0, 0, [], rfl, Nat.zero_le _, rfl, Reads.none_⟩
  · simp at hcs
    obtain ⟨rfl, rfl, rfl⟩ := hcs
    have hz' : zs.length = c := by simpa using hz
    refine ⟨some a, n, c, zs.take n, rfl, by omega, by simp; omega, ⟨by simp; omega, fun hn => ⟨a, rfl, ?_, fun j u hu => ?_⟩⟩⟩
    · have := lt_of_cell (hcell 0 (by omega))
      rwa [block_of_add] at this
    · simp only [List.getElem?_map, Option.map_eq_some_iff] at hu
      obtain ⟨z, hz2, rfl⟩ := hu
      have hj : j < n := by
        have := (List.getElem?_eq_some_iff.1 hz2).1
        simp at this
        omega
      rw [List.getElem?_take_of_lt hj] at hz2
      rw [hcell j (by omega), List.getD_eq_getElem?_getD, hz2]
      rfl
set_option maxRecDepth 100000 in
theorem cells24 : Try.prog.cellsOf 24 = 9 := by kernel_rfl
set_option maxRecDepth 100000 in
theorem open_pol {fuel : Nat} {cs : List Value} {x : DataW H × List MemPlace} (h : DataW.trod enc Try.prog w 0 (fun _ => true) held fuel 24 cs = some x) :
    ∃ (p : Pol) (A : Option Addr) (n c : Nat), cs = (p.cells A n c).toList ∧ p.wf ∧ Cs w w.heap.size A n p.causes := by
  obtain ⟨xs, n, hx, hl, hxl, hg⟩ := trod_fields Try.underlying24 (by kernel_rfl) (by kernel_rfl) h
  obtain ⟨v0, v1, v2, v3, v4, v5, v6, v7, v8, rfl⟩ := list9 (show cs.length = 9 from hl)
  obtain ⟨y0, y1, y2, y3, y4, y5, y6, y7, y8, rfl⟩ := list9 (show xs.length = 9 from hxl)
  obtain ⟨s0, e0, _, z0⟩ := DataW.trod_string Try.underlying9 (hg 0 _ v0 y0 rfl rfl rfl)
  obtain ⟨s1, e1, _, z1⟩ := DataW.trod_string Try.underlying9 (hg 1 _ v1 y1 rfl rfl rfl)
  obtain ⟨s2, e2, _, z2⟩ := DataW.trod_string Try.underlying9 (hg 2 _ v2 y2 rfl rfl rfl)
  obtain ⟨i3, e3, _, _⟩ := DataW.trod_int Try.underlying2 (hg 3 _ v3 y3 rfl rfl rfl)
  obtain ⟨i4, e4, _, _⟩ := DataW.trod_int Try.underlying2 (hg 4 _ v4 y4 rfl rfl rfl)
  obtain ⟨A, m, c, zs, e5, hm, hz, hr⟩ := ints_of Try.underlying22 Try.underlying3 (by kernel_rfl) (hg 5 _ v5 y5 rfl rfl rfl)
  obtain ⟨i6, e6, _, _⟩ := DataW.trod_int Try.underlying3 (hg 6 _ v6 y6 rfl rfl rfl)
  obtain ⟨i7, e7, _, _⟩ := DataW.trod_int Try.underlying3 (hg 7 _ v7 y7 rfl rfl rfl)
  obtain ⟨i8, e8, _, _⟩ := DataW.trod_int Try.underlying3 (hg 8 _ v8 y8 rfl rfl rfl)
  simp only [List.cons.injEq, and_true] at e0 e1 e2 e3 e4 e6 e7 e8
  subst e0 e1 e2 e3 e4 e5 e6 e7 e8
  exact ⟨⟨s0, s1, s2, i3, i4, zs, i6, i7, i8⟩, A, m, c, rfl, ⟨z0, z1, z2⟩, hz, hm, hr⟩
set_option maxRecDepth 100000 in
theorem view_pol {r : Reach} {b0 : Nat} {v : Value} {d : DataW H} {ps : List MemPlace}
    (hval : Value.okWide Try.prog w r b0 24 v) (h : DataW.Trod enc Try.prog w 0 (fun _ => true) held 24 v d ps) :
    ∃ (p : Pol) (A : Option Addr) (n c : Nat), v = polV p A n c ∧ p.wf ∧ Cs w w.heap.size A n p.causes := by
  obtain ⟨cs, rfl, hsz⟩ := okWide_struct Try.underlying24 hval
  obtain ⟨fuel, hf⟩ := h
  obtain ⟨p, A, n, c, hcs, hp, hr⟩ := open_pol hf
  have : cs = p.cells A n c := by
    have e : (Value.agg cs).cells.toList = cs.toList := by simp [Value.cells]
    rw [show (Value.agg cs).cells.toList = cs.toList by simp [Value.cells]] at hcs
    exact Array.ext' hcs
  exact ⟨p, A, n, c, by rw [this]; rfl, hp, hr⟩
set_option maxRecDepth 100000 in
theorem open_hand {fuel : Nat} {cs : List Value} {x : DataW H × List MemPlace} (h : DataW.trod enc Try.prog w 0 (fun _ => true) held fuel 65 cs = some x) : ∃ s : Hand, cs = s.cells := by
  obtain ⟨xs, n, hx, hl, hxl, hg⟩ := trod_fields Try.underlying65 (by kernel_rfl) (by kernel_rfl) h
  obtain ⟨v0, v1, v2, v3, v4, rfl⟩ := list5 (show cs.length = 5 from hl)
  obtain ⟨y0, y1, y2, y3, y4, rfl⟩ := list5 (show xs.length = 5 from hxl)
  obtain ⟨s0, e0, _, _⟩ := DataW.trod_string Try.underlying9 (hg 0 _ v0 y0 rfl rfl rfl)
  obtain ⟨s1, e1, _, _⟩ := DataW.trod_string Try.underlying9 (hg 1 _ v1 y1 rfl rfl rfl)
  obtain ⟨s2, e2, _, _⟩ := DataW.trod_string Try.underlying9 (hg 2 _ v2 y2 rfl rfl rfl)
  obtain ⟨s3, e3, _, _⟩ := DataW.trod_string Try.underlying9 (hg 3 _ v3 y3 rfl rfl rfl)
  obtain ⟨i4, e4, _, _⟩ := DataW.trod_int Try.underlying3 (hg 4 _ v4 y4 rfl rfl rfl)
  simp only [List.cons.injEq, and_true] at e0 e1 e2 e3 e4
  subst e0 e1 e2 e3 e4
  exact ⟨⟨s0, s1, s2, s3, i4⟩, rfl⟩
set_option maxRecDepth 100000 in
theorem view_hands {r : Reach} {b0 : Nat} {v : Value} {d : DataW H} {ps : List MemPlace}
    (hval : Value.okWide Try.prog w r b0 35 v) (h : DataW.Trod enc Try.prog w 0 (fun _ => true) held 35 v d ps) :
    ∃ (A : Option Addr) (n c : Nat) (l : List Hand), v = .slice A n c ∧ Hs w w.heap.size A n l ∧ n ≤ c := by
  obtain ⟨A, n, c, rfl⟩ := okWide_slice Try.underlying35 hval
  obtain ⟨fuel, hf⟩ := h
  rcases open_slice Try.underlying35 hf with ⟨hcs, _⟩ | ⟨a, len, cap, m, k, D, Pl, hcs, _, hl, hm, hmm, _, hi⟩
  · simp [Value.cells] at hcs
    obtain ⟨rfl, rfl, rfl⟩ := hcs
    exact ⟨none, 0, 0, [], rfl, ⟨rfl, Nat.zero_le _, Reads.none_⟩, Nat.le_refl _⟩
  · simp [Value.cells] at hcs
    obtain ⟨rfl, rfl, rfl⟩ := hcs
    simp only [if_true] at hmm
    subst hmm
    have hC : Try.prog.cellsOf 65 = 5 := by kernel_rfl
    rw [hC] at hi
    have hall : ∀ i, ∃ s : Hand, i < m → a.block < w.heap.size ∧ ∀ j v, s.cells[j]? = some v → w.cell? (a.add (i * 5 + j)) = some v := by
      intro i
      by_cases him : i < m
      · obtain ⟨cs', hc, ht⟩ := hi i him
        obtain ⟨s, rfl⟩ := open_hand ht
        obtain ⟨_, _, hcell⟩ := World.cells?_some hc
        have hz : ∀ j v, s.cells[j]? = some v → w.cell? (a.add (i * 5 + j)) = some v := fun j v hv => by
          have hj := (List.getElem?_eq_some_iff.1 hv).1
          have := hcell j hj
          rw [add_of_add] at this
          rw [this]
          have e := (List.getElem?_eq_some_iff.1 hv).2
          first | exact congrArg some e | (rw [List.getD_eq_getElem?_getD, hv]; rfl) | simp_all
        refine ⟨s, fun _ => ⟨?_, hz⟩⟩
        have := lt_of_cell (hz 0 _ rfl)
        rwa [block_of_add] at this
      · exact ⟨⟨⟨#[]⟩, ⟨#[]⟩, ⟨#[]⟩, ⟨#[]⟩, 0⟩, fun h => absurd h him⟩
    obtain ⟨f, hf⟩ := Classical.axiomOfChoice hall
    have hlen : ((List.range n).map f).length = n := by simp
    refine ⟨some a, n, m, (List.range n).map f, rfl, ⟨hlen, by omega, by rw [flat_len, hlen], fun hn => ⟨a, rfl, (hf 0 (by omega)).1, fun j u hu => ?_⟩⟩, hl⟩
    have hj : j < n * 5 := by
      have := (List.getElem?_eq_some_iff.1 hu).1
      rwa [flat_len, hlen] at this
    have hk : ((List.range n).map f)[j / 5]? = some (f (j / 5)) := by
      rw [List.getElem?_map, List.getElem?_range (by omega)]
      rfl
    have hj5 : j % 5 < (f (j / 5)).cells.length := by show j % 5 < 5; omega
    have hv := List.getElem?_eq_getElem hj5
    have g := flat_get _ _ _ _ _ hk hv
    have ej : j / 5 * 5 + j % 5 = j := by omega
    rw [ej] at g
    have hu' : (f (j / 5)).cells[j % 5]? = some u := by rw [hv]; rw [g] at hu; exact hu
    have := (hf (j / 5) (by omega)).2 _ _ hu'
    rwa [ej] at this
end
end Go.Proofs.Ytlmgkkdjjoimnaa
