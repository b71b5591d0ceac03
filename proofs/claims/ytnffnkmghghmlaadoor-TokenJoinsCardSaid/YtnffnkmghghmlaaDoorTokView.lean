/- Slices of tokens, as arguments; the table of kinds. No condition. -/
import Derived.Test.YtnffnkmghghmlaaDoorJoinA
import Derived.Test.YtnffnkmghghmlaaDoorLaid
import Derived.Deep.Slices
import Derived.Lib.SmallJoins
namespace Go.Proofs.YtnffnkmghghmlaaDoor
open Go.ChangeShapes Go.WideShapes Go.ChangeAt Go.RowKit Go.Deep
set_option linter.unusedVariables false
theorem list3 {α : Type} {l : List α} (h : l.length = 3) : ∃ a b c, l = [a, b, c] := by
  match l, h with
  | [a, b, c], _ => exact ⟨a, b, c, rfl⟩
/-- tokens of an argument -/
def Args (w : World) (A : Option Addr) (n : Nat) (l : List Ta) : Prop := l.length = n ∧ TaR w A l ∧ ∀ x ∈ l, x.text.length ≤ maxLen
def kindsL : List Bs := [[119, 111, 114, 100], [110, 97, 109, 101], [110, 117, 109, 98, 101, 114], [116, 101, 120, 116], [99, 111, 100, 101], [115, 105, 103, 110]]
/-- the program's table of kinds -/
structure Kin (w : World) (b o c : Nat) : Prop where
  hk : w.cell? ⟨1, 0, none⟩ = some (.slice (some ⟨b, o, none⟩) 6 c)
  ck : ∀ (j : Nat) x, kindsL[j]? = some x → w.cell? ⟨b, o + j, none⟩ = some (.string (str x))
  bk : b < w.heap.size
  lk : 6 ≤ c
theorem Kin.below {w w' : World} {b o c : Nat} (T : Kin w b o c) (hb : Below w.heap.size w w') : Kin w' b o c where
  hk := (hb.cell (p := ⟨1, 0, none⟩) (lt_of_cell T.hk)).trans T.hk
  ck j x hx := (hb.cell (p := ⟨b, o + j, none⟩) T.bk).trans (T.ck j x hx)
  bk := Nat.lt_of_lt_of_le T.bk hb.size
  lk := T.lk
theorem kin_of_laid {w : World} {fuel : Nat} {cs : Array Value} {p : List MemPlace} (hv : w.var? Tryd.prog "supercargo/token.kinds" = some cs)
    (h : DataW.trod (fun _ => ()) Tryd.prog w 0 (fun _ => true) false fuel 33 cs.toList = some (Rows.laid_supercargo_token_kinds, p)) : ∃ b o c, Kin w b o c := by
  obtain ⟨b, o, c, h1, h2, h3, h4⟩ := texts_of_laid (L := kindsL) (by kernel_rfl) hv h (by decide)
  exact ⟨b, o, c, h1, h2, h3, h4⟩
section
variable {H : Type} {enc : TypeId × Value → H} {w : World} {held : Bool}
set_option maxRecDepth 100000 in
theorem open_tok {fuel : Nat} {cs : List Value} {x : DataW H × List MemPlace} (h : DataW.trod enc Tryd.prog w 0 (fun _ => true) held fuel 31 cs = some x) : ∃ a : Ta, cs = a.cells ∧ a.text.length ≤ maxLen := by
  obtain ⟨xs, n, hx, hl, hxl, hg⟩ := trod_fields Tryd.underlying31 (by kernel_rfl) (by kernel_rfl) h
  obtain ⟨v0, v1, v2, rfl⟩ := list3 (show cs.length = 3 from hl)
  obtain ⟨y0, y1, y2, rfl⟩ := list3 (show xs.length = 3 from hxl)
  obtain ⟨i0, e0, _, _⟩ := DataW.trod_int Tryd.underlying3 (hg 0 _ v0 y0 rfl rfl rfl)
  obtain ⟨i1, e1, _, _⟩ := DataW.trod_int Tryd.underlying3 (hg 1 _ v1 y1 rfl rfl rfl)
  obtain ⟨s2, e2, _, z2⟩ := DataW.trod_string Tryd.underlying9 (hg 2 _ v2 y2 rfl rfl rfl)
  simp only [List.cons.injEq, and_true] at e0 e1 e2
  subst e0 e1 e2
  exact ⟨⟨i0, i1, bs s2⟩, by unfold Ta.cells; simp only [str_bs], by simp only [bs_len]; exact z2⟩
set_option maxRecDepth 100000 in
theorem view_toks {r : Reach} {b0 : Nat} {v : Value} {d : DataW H} {ps : List MemPlace}
    (hval : Value.okWide Tryd.prog w r b0 23 v) (h : DataW.Trod enc Tryd.prog w 0 (fun _ => true) held 23 v d ps) :
    ∃ (A : Option Addr) (n c : Nat) (l : List Ta), v = .slice A n c ∧ Args w A n l ∧ n ≤ maxLen := by
  obtain ⟨A, n, c, rfl⟩ := okWide_slice Tryd.underlying23 hval
  obtain ⟨fuel, hf⟩ := h
  rcases open_slice Tryd.underlying23 hf with ⟨hcs, _⟩ | ⟨a, len, cap, m, k, D, Pl, hcs, _, hl, hm, hmm, _, hi⟩
  · simp [Value.cells] at hcs
    obtain ⟨rfl, rfl, rfl⟩ := hcs
    exact ⟨none, 0, 0, [], rfl, ⟨rfl, ⟨by simp [flatA, flatF], fun h => absurd h (by simp)⟩, (fun a ha => by cases ha)⟩, Nat.zero_le _⟩
  · simp [Value.cells] at hcs
    obtain ⟨rfl, rfl, rfl⟩ := hcs
    simp only [if_true] at hmm
    subst hmm
    have hC : Tryd.prog.cellsOf 31 = 3 := by kernel_rfl
    rw [hC] at hi
    have hall : ∀ i, ∃ s : Ta, i < m → s.text.length ≤ maxLen ∧ a.block < w.heap.size ∧ ∀ j v, s.cells[j]? = some v → w.cell? (a.add (i * 3 + j)) = some v := by
      intro i
      by_cases him : i < m
      · obtain ⟨cs', hc, ht⟩ := hi i him
        obtain ⟨s, rfl, hw⟩ := open_tok ht
        obtain ⟨_, _, hcell⟩ := World.cells?_some hc
        have hz : ∀ j v, s.cells[j]? = some v → w.cell? (a.add (i * 3 + j)) = some v := fun j v hv => by
          have hj := (List.getElem?_eq_some_iff.1 hv).1
          have := hcell j hj
          rw [add_of_add] at this
          rw [this]
          have e := (List.getElem?_eq_some_iff.1 hv).2
          first | exact congrArg some e | (rw [List.getD_eq_getElem?_getD, hv]; rfl) | simp_all
        refine ⟨s, fun _ => ⟨hw, ?_, hz⟩⟩
        have := lt_of_cell (hz 0 _ rfl)
        rwa [block_of_add] at this
      · exact ⟨⟨0, 0, []⟩, fun h => absurd h him⟩
    obtain ⟨f, hf⟩ := Classical.axiomOfChoice hall
    have hlen : ((List.range n).map f).length = n := by simp
    have hfl : (flatA ((List.range n).map f)).length = n * 3 := by unfold flatA; rw [flatF_len ta_len, hlen]
    refine ⟨some a, n, m, (List.range n).map f, rfl, ⟨hlen, ⟨by rw [hlen]; exact hfl, fun hn => ⟨a, rfl, (hf 0 (by rw [hlen] at hn; omega)).2.1, fun j u hu => ?_⟩⟩, ?_⟩, by omega⟩
    · have hj : j < n * 3 := by
        have := (List.getElem?_eq_some_iff.1 hu).1
        rwa [hfl] at this
      have hk : ((List.range n).map f)[j / 3]? = some (f (j / 3)) := by
        rw [List.getElem?_map, List.getElem?_range (by omega)]
        rfl
      have g := flatF_get ta_len _ _ _ hk (j % 3) (by omega)
      have ej : j / 3 * 3 + j % 3 = j := by omega
      rw [ej] at g
      have hu' : (f (j / 3)).cells[j % 3]? = some u := by rw [← g]; exact hu
      have := (hf (j / 3) (by omega)).2.2 _ _ hu'
      rwa [ej] at this
    · intro x hx
      simp only [List.mem_map, List.mem_range] at hx
      obtain ⟨i, hi', rfl⟩ := hx
      exact (hf i (by omega)).1
end
end Go.Proofs.YtnffnkmghghmlaaDoor
