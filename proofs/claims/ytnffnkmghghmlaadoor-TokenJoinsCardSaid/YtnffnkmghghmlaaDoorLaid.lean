/- From the row's list to the walks' tables: where the words read as listed, they lie so. No condition. -/
import Derived.Test.YtnffnkmghghmlaaDoorRun
import Derived.Lib.LaidTab
import Derived.SliceStrings
namespace Go.Proofs.YtnffnkmghghmlaaDoor
open Go.ChangeShapes Go.WideShapes Go.ChangeAt Go.RowKit Go.Deep
set_option linter.unusedVariables false
theorem texts_of_laid {w : World} {fuel g : Nat} {cs : Array Value} {p : List MemPlace} {name : String} {L : List Bs} (hgt : Tryd.prog.globalNamed name = some g) (hv : w.var? Tryd.prog name = some cs)
    (h : DataW.trod (fun _ => ()) Tryd.prog w 0 (fun _ => true) false fuel 33 cs.toList = some (.slice (L.map fun x => .lit (.string x)) [], p)) (hL : 0 < L.length) :
    ∃ b o c, w.cell? ⟨g, 0, none⟩ = some (.slice (some ⟨b, o, none⟩) L.length c) ∧ (∀ (j : Nat) x, L[j]? = some x → w.cell? ⟨b, o + j, none⟩ = some (.string (str x))) ∧ b < w.heap.size ∧ L.length ≤ c := by
  rcases open_strings Tryd.underlying33 Tryd.underlying9 (by kernel_rfl) h with ⟨_, hx⟩ | ⟨a, len, cap, ss, hcs, _, hl, hm, hz, hx, hcell, _⟩
  · simp at hx
  · simp only [Prod.mk.injEq, DataW.slice.injEq] at hx
    obtain ⟨⟨h1, h2⟩, _⟩ := hx
    simp only [if_true] at hz
    have hd : ss.drop len = [] := by
      cases hq : ss.drop len with
      | nil => rfl
      | cons q r => rw [hq] at h2; simp [strs] at h2
    have ht : ss.take len = ss := List.take_of_length_le (by simpa using hd)
    rw [ht] at h1
    have hss : ss = L.map str := by
      have h3 : L.map (fun x => (DataW.lit (.string x) : DataW Unit)) = ss.map fun s => .lit (.string s.data.toList) := h1
      have h4 : L = ss.map fun s => s.data.toList := by
        apply List.ext_getElem?
        intro i
        have := congrArg (·[i]?) h3
        simp only [List.getElem?_map] at this ⊢
        cases hi : L[i]? <;> cases hj : ss[i]? <;> simp_all
      rw [h4, List.map_map]
      apply List.ext_getElem?
      intro i
      rw [List.getElem?_map]
      cases hj : ss[i]? with
      | none => rfl
      | some s => simp only [Option.map_some, Function.comp]; congr 1
    have hsl : ss.length = L.length := by rw [hss]; simp
    have hlen : len = L.length := by
      have : (ss.take len).length = ss.length := by rw [ht]
      rw [List.length_take] at this
      have : len ≤ cap := hl
      omega
    subst hlen
    have hspot : ∃ b o, a = ⟨b, o, none⟩ := by
      obtain ⟨b, o, spot⟩ := a
      have : spot = none := by simpa [Addr.add] using World.cell?_spot (hcell 0 (by omega))
      exact ⟨b, o, by rw [this]⟩
    obtain ⟨b, o, rfl⟩ := hspot
    have at_ : ∀ (j : Nat) x, L[j]? = some x → w.cell? ⟨b, o + j, none⟩ = some (.string (str x)) := fun j x hj => by
      have hjl : j < ss.length := by rw [hsl]; exact (List.getElem?_eq_some_iff.1 hj).1
      have := hcell j hjl
      rw [Go.WideShapes.add_plain, hss, List.getD_eq_getElem?_getD, List.getElem?_map, hj] at this
      exact this
    obtain ⟨x0, hx0⟩ : ∃ x, L[0]? = some x := ⟨_, List.getElem?_eq_getElem hL⟩
    have hc0 := at_ 0 x0 hx0
    refine ⟨b, o, cap, ?_, at_, lt_of_cell hc0, hl⟩
    rw [World.var?_cell hgt hv, ← Array.getElem?_toList, hcs]
    rfl
theorem tab_of_laid {w : World} {fuel : Nat} {cs : Array Value} {p : List MemPlace} (hv : w.var? Tryd.prog "supercargo/token.words" = some cs)
    (h : DataW.trod (fun _ => ()) Tryd.prog w 0 (fun _ => true) false fuel 33 cs.toList = some (Rows.laid_supercargo_token_words, p)) : ∃ b o c, Tab w b o c := by
  obtain ⟨b, o, c, h1, h2, h3, h4⟩ := texts_of_laid (L := tbl) (by kernel_rfl) hv h (by decide)
  exact ⟨b, o, c, h1, h2, h3, h4⟩
end Go.Proofs.YtnffnkmghghmlaaDoor
