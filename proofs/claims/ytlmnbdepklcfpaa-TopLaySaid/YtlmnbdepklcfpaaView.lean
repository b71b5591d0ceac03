/- Arguments that are slices, as the walks take them. No condition. -/
import Derived.Test.YtlmnbdepklcfpaaLib
import Derived.SliceStrings
namespace Go.Proofs.Ytlmnbdepklcfpaa
open Go.ChangeShapes Go.WideShapes Go.ChangeAt Go.RowKit Go.Deep

section
variable {H : Type} {enc : TypeId × Value → H} {P : Program} {w : World} {held : Bool}
/-- An argument that is a slice of ints, as the walks take it. -/
theorem view_ints {r : Reach} {b0 : Nat} {t e : TypeId} {k : IntKind} {v : Value} {d : DataW H} {ps : List MemPlace} (ht : P.underlying t = some (.slice e)) (he : P.underlying e = some (.int k)) (hc : P.cellsOf e = 1)
    (hval : Value.okWide P w r b0 t v) (h : DataW.Trod enc P w 0 (fun _ => true) held t v d ps) :
    ∃ (A : Option Addr) (n c : Nat) (zs : List Int), v = .slice A n c ∧ n ≤ c ∧ c ≤ maxLen ∧ zs.length = n ∧ Reads w w.heap.size 1 A n (zs.map (Value.int k)) ∧ (∀ z ∈ zs, (Lit.int k z).wf = true) ∧ (A = none → n = 0 ∧ c = 0) := by
  obtain ⟨A, n, c, rfl⟩ := okWide_slice ht hval
  obtain ⟨fuel, hf⟩ := h
  rcases open_ints ht he hc hf with ⟨hcs, _⟩ | ⟨a, len, cap, zs, hcs, _, hl, hm, hz, _, hcell, hwf⟩
  · simp [Value.cells] at hcs
    obtain ⟨rfl, rfl, rfl⟩ := hcs
    exact ⟨none, 0, 0, [], rfl, Nat.le_refl _, Nat.zero_le _, rfl, Reads.none_, fun _ h => (by cases h), fun _ => ⟨rfl, rfl⟩⟩
  · simp [Value.cells] at hcs
    obtain ⟨rfl, rfl, rfl⟩ := hcs
    have hz' : zs.length = c := by simpa using hz
    refine ⟨some a, n, c, zs.take n, rfl, hl, hm, by simp; omega, ⟨by simp; omega, fun hn => ⟨a, rfl, ?_, fun j u hu => ?_⟩⟩, fun z hz => hwf z (List.mem_of_mem_take hz), fun h => by cases h⟩
    · have := lt_of_cell (hcell 0 (by omega))
      rwa [block_of_add] at this
    · simp only [List.getElem?_map, Option.map_eq_some_iff] at hu
      obtain ⟨z, hz2, rfl⟩ := hu
      have hj : j < n := by
        have := (List.getElem?_eq_some_iff.1 hz2).1
        simp at this
        omega
      rw [List.getElem?_take_of_lt hj] at hz2
      rw [hcell j (by omega), List.getD_eq_getElem?_getD, hz2]
      rfl
/-- An argument that is a slice of strings. -/
theorem view_strs {r : Reach} {b0 : Nat} {t e : TypeId} {v : Value} {d : DataW H} {ps : List MemPlace} (ht : P.underlying t = some (.slice e)) (he : P.underlying e = some .string) (hc : P.cellsOf e = 1)
    (hval : Value.okWide P w r b0 t v) (h : DataW.Trod enc P w 0 (fun _ => true) held t v d ps) :
    ∃ (A : Option Addr) (n c : Nat) (ss : List ByteArray), v = .slice A n c ∧ n ≤ c ∧ c ≤ maxLen ∧ ss.length = n ∧ Reads w w.heap.size 1 A n (ss.map Value.string) ∧ (∀ s ∈ ss, s.size ≤ maxLen) ∧ (A = none → n = 0 ∧ c = 0) := by
  obtain ⟨A, n, c, rfl⟩ := okWide_slice ht hval
  obtain ⟨fuel, hf⟩ := h
  rcases open_strings ht he hc hf with ⟨hcs, _⟩ | ⟨a, len, cap, zs, hcs, _, hl, hm, hz, _, hcell, hwf⟩
  · simp [Value.cells] at hcs
    obtain ⟨rfl, rfl, rfl⟩ := hcs
    exact ⟨none, 0, 0, [], rfl, Nat.le_refl _, Nat.zero_le _, rfl, Reads.none_, fun _ h => (by cases h), fun _ => ⟨rfl, rfl⟩⟩
  · simp [Value.cells] at hcs
    obtain ⟨rfl, rfl, rfl⟩ := hcs
    have hz' : zs.length = c := by simpa using hz
    refine ⟨some a, n, c, zs.take n, rfl, hl, hm, by simp; omega, ⟨by simp; omega, fun hn => ⟨a, rfl, ?_, fun j u hu => ?_⟩⟩, fun z hz => hwf z (List.mem_of_mem_take hz), fun h => by cases h⟩
    · have := lt_of_cell (hcell 0 (by omega))
      rwa [block_of_add] at this
    · simp only [List.getElem?_map, Option.map_eq_some_iff] at hu
      obtain ⟨z, hz2, rfl⟩ := hu
      have hj : j < n := by
        have := (List.getElem?_eq_some_iff.1 hz2).1
        simp at this
        omega
      rw [List.getElem?_take_of_lt hj] at hz2
      rw [hcell j (by omega), List.getD_eq_getElem?_getD, hz2]
      rfl
/-- An argument that is a slice of bools. -/
theorem view_bools {r : Reach} {b0 : Nat} {t e : TypeId} {v : Value} {d : DataW H} {ps : List MemPlace} (ht : P.underlying t = some (.slice e)) (he : P.underlying e = some .bool) (hc : P.cellsOf e = 1)
    (hval : Value.okWide P w r b0 t v) (h : DataW.Trod enc P w 0 (fun _ => true) held t v d ps) :
    ∃ (A : Option Addr) (n c : Nat) (bs : List Bool), v = .slice A n c ∧ n ≤ c ∧ c ≤ maxLen ∧ bs.length = n ∧ Reads w w.heap.size 1 A n (bs.map Value.bool) ∧ (A = none → n = 0 ∧ c = 0) := by
  obtain ⟨A, n, c, rfl⟩ := okWide_slice ht hval
  obtain ⟨fuel, hf⟩ := h
  rcases open_slice1 ht hc hf with ⟨hcs, _⟩ | ⟨a, len, cap, m, k, V, D, Pl, hcs, _, hl, hm, hmm, _, hi⟩
  · simp [Value.cells] at hcs
    obtain ⟨rfl, rfl, rfl⟩ := hcs
    exact ⟨none, 0, 0, [], rfl, Nat.le_refl _, Nat.zero_le _, rfl, Reads.none_, fun _ => ⟨rfl, rfl⟩⟩
  · simp [Value.cells] at hcs
    obtain ⟨rfl, rfl, rfl⟩ := hcs
    have hm' : m = c := by simpa using hmm
    obtain ⟨b, hb⟩ := choose_lt (α := Bool) (p := fun i x => V i = .bool x) (n := n) fun i hi' => by
      obtain ⟨x, hx, _⟩ := DataW.trod_bool he (hi i (by omega)).2
      exact ⟨x, by simpa using hx⟩
    refine ⟨some a, n, c, (List.range n).map b, rfl, hl, hm, by simp, ⟨by simp, fun hn => ⟨a, rfl, ?_, fun j u hu => ?_⟩⟩, fun h => by cases h⟩
    · have := lt_of_cell (hi 0 (by omega)).1
      rwa [block_of_add] at this
    · simp only [List.getElem?_map, Option.map_eq_some_iff] at hu
      obtain ⟨z, ⟨i, hi2, rfl⟩, rfl⟩ := hu
      obtain ⟨hj, rfl⟩ := List.getElem?_eq_some_iff.1 hi2
      simp only [List.length_range] at hj
      rw [List.getElem_range, (hi j (by omega)).1, hb j hj]
end

end Go.Proofs.Ytlmnbdepklcfpaa
