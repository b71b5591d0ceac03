/- Slices of stretches, and lays, as the walks take them. No condition. -/
import Derived.Test.YtlmnbdepklcfpaaView
import Derived.Test.YtlmnbdepklcfpaaRow
import Derived.Test.YtlmnbdepklcfpaaClock
import Derived.Deep.Slices
import Derived.Lib.SmallJoins
namespace Go.Proofs.Ytlmnbdepklcfpaa
open Go.ChangeShapes Go.WideShapes Go.ChangeAt Go.RowKit Go.Deep

def Str.cells (s : Str) : List Value := [.int .i64 s.f, .int .i64 s.t, .int .i64 s.h]
def flat (l : List Str) : List Value := l.flatMap Str.cells
theorem flat_len (l : List Str) : (flat l).length = l.length * 3 := by
  induction l with
  | nil => rfl
  | cons s l ih =>
    have : flat (s :: l) = s.cells ++ flat l := by simp [flat]
    rw [this, List.length_append, ih, List.length_cons]
    simp [Str.cells]
    omega
theorem flat_append (l m : List Str) : flat (l ++ m) = flat l ++ flat m := by simp [flat]
theorem flat_get (l : List Str) : ∀ (k : Nat) (s : Str), l[k]? = some s → (flat l)[k * 3]? = some (.int .i64 s.f) ∧ (flat l)[k * 3 + 1]? = some (.int .i64 s.t) ∧ (flat l)[k * 3 + 2]? = some (.int .i64 s.h) := by
  induction l with
  | nil => intro k s h; simp at h
  | cons x l ih =>
    intro k s h
    have e : flat (x :: l) = x.cells ++ flat l := by simp [flat]
    rw [e]
    cases k with
    | zero => cases h; simp [Str.cells]
    | succ k =>
      have := ih k s (by simpa using h)
      have hl : x.cells.length = 3 := rfl
      rw [List.getElem?_append_right (by rw [hl]; omega), List.getElem?_append_right (by rw [hl]; omega), List.getElem?_append_right (by rw [hl]; omega), hl,
        show (k + 1) * 3 - 3 = k * 3 by omega, show (k + 1) * 3 + 1 - 3 = k * 3 + 1 by omega, show (k + 1) * 3 + 2 - 3 = k * 3 + 2 by omega]
      exact this
theorem flat_one (l : List Str) : ∀ u ∈ flat l, u.oneCell' = true := by
  intro u hu
  simp only [flat, List.mem_flatMap, Str.cells] at hu
  obtain ⟨s, _, hu⟩ := hu
  simp at hu
  rcases hu with rfl | rfl | rfl <;> rfl
/-- so many stretches lie there, ahead of block B -/
def Strs (w : World) (B : Nat) (A : Option Addr) (n : Nat) (l : List Str) : Prop := l.length = n ∧ Reads w B 3 A n (flat l)
section
variable {w w' : World} {B B' n : Nat} {A : Option Addr} {l : List Str}
theorem Strs.more (h : Strs w B A n l) (hB : B ≤ B') : Strs w B' A n l := ⟨h.1, h.2.more hB⟩
theorem Strs.below (h : Strs w B A n l) (hb : Below B w w') : Strs w' B A n l := ⟨h.1, h.2.below hb⟩
theorem Strs.drewN (h : Strs w B A n l) (k : Nat) : Strs (w.drewN k) B A n l := h
theorem Strs.up (h : Strs w w.heap.size A n l) (hb : Below w.heap.size w w') : Strs w' w'.heap.size A n l := (h.below hb).more hb.size
theorem Strs.at_ (h : Strs w B A n l) {k : Nat} (hk : k < n) : ∃ (a : Addr) (s : Str), A = some a ∧ l[k]? = some s ∧ (a.add (k * 3)).block < B ∧
    w.cell? (a.add (k * 3)) = some (.int .i64 s.f) ∧ w.cell? ⟨(a.add (k * 3)).block, (a.add (k * 3)).off + 1, none⟩ = some (.int .i64 s.t) ∧ w.cell? ⟨(a.add (k * 3)).block, (a.add (k * 3)).off + 2, none⟩ = some (.int .i64 s.h) := by
  obtain ⟨hl, hr⟩ := h
  obtain ⟨s, hs⟩ : ∃ s, l[k]? = some s := ⟨_, List.getElem?_eq_getElem (by omega)⟩
  obtain ⟨a, rfl, hb, hc⟩ := hr.2 (by omega)
  obtain ⟨g0, g1, g2⟩ := flat_get l k s hs
  have x0 := hc _ _ g0
  have x1 := hc _ _ g1
  have x2 := hc _ _ g2
  have e1 : (a.add (k * 3)).add 1 = ⟨(a.add (k * 3)).block, (a.add (k * 3)).off + 1, none⟩ := by unfold Addr.add; split <;> simp_all
  have e2 : (a.add (k * 3)).add 2 = ⟨(a.add (k * 3)).block, (a.add (k * 3)).off + 2, none⟩ := by unfold Addr.add; split <;> simp_all
  rw [← add_of_add, e1] at x1
  rw [← add_of_add, e2] at x2
  exact ⟨a, s, rfl, hs, by rw [block_of_add]; exact hb, x0, x1, x2⟩
theorem Strs.nil_ : Strs w B none 0 [] := ⟨rfl, Reads.none_⟩
theorem Strs.ne (h : Strs w B none n l) : n = 0 := by
  rcases Nat.eq_zero_or_pos n with h0 | h0
  · exact h0
  · obtain ⟨a, e, _⟩ := h.2.2 h0
    cases e
end
theorem list3 {α : Type} {l : List α} (h : l.length = 3) : ∃ a b c, l = [a, b, c] := by
  match l, h with
  | [a, b, c], _ => exact ⟨a, b, c, rfl⟩
section
variable {H : Type} {enc : TypeId × Value → H} {w : World} {held : Bool}
set_option maxRecDepth 100000 in
theorem open_str {fuel : Nat} {cs : List Value} {x : DataW H × List MemPlace} (h : DataW.trod enc Try.prog w 0 (fun _ => true) held fuel 44 cs = some x) : ∃ s : Str, cs = s.cells := by
  obtain ⟨xs, n, hx, hl, hxl, hg⟩ := trod_fields Try.underlying44 (by kernel_rfl) (by kernel_rfl) h
  obtain ⟨v0, v1, v2, rfl⟩ := list3 (show cs.length = 3 from hl)
  obtain ⟨y0, y1, y2, rfl⟩ := list3 (show xs.length = 3 from hxl)
  have g0 := hg 0 _ v0 y0 rfl rfl rfl
  have g1 := hg 1 _ v1 y1 rfl rfl rfl
  have g2 := hg 2 _ v2 y2 rfl rfl rfl
  obtain ⟨a, ea, _, _⟩ := DataW.trod_int Try.underlying3 g0
  obtain ⟨b, eb, _, _⟩ := DataW.trod_int Try.underlying3 g1
  obtain ⟨c, ec, _, _⟩ := DataW.trod_int Try.underlying3 g2
  simp only [List.cons.injEq, and_true] at ea eb ec
  subst ea eb ec
  exact ⟨⟨a, b, c⟩, rfl⟩
set_option maxRecDepth 100000 in
theorem view_strs3 {r : Reach} {b0 : Nat} {v : Value} {d : DataW H} {ps : List MemPlace}
    (hval : Value.okWide Try.prog w r b0 24 v) (h : DataW.Trod enc Try.prog w 0 (fun _ => true) held 24 v d ps) :
    ∃ (A : Option Addr) (n c : Nat) (l : List Str), v = .slice A n c ∧ Strs w w.heap.size A n l ∧ n ≤ maxLen := by
  obtain ⟨A, n, c, rfl⟩ := okWide_slice Try.underlying24 hval
  obtain ⟨fuel, hf⟩ := h
  rcases open_slice Try.underlying24 hf with ⟨hcs, _⟩ | ⟨a, len, cap, m, k, D, Pl, hcs, _, hl, hm, hmm, _, hi⟩
  · simp [Value.cells] at hcs
    obtain ⟨rfl, rfl, rfl⟩ := hcs
    exact ⟨none, 0, 0, [], rfl, Strs.nil_, Nat.zero_le _⟩
  · simp [Value.cells] at hcs
    obtain ⟨rfl, rfl, rfl⟩ := hcs
    simp only [if_true] at hmm
    subst hmm
    have hC : Try.prog.cellsOf 44 = 3 := by kernel_rfl
    rw [hC] at hi
    have hall : ∀ i, ∃ s : Str, i < m → a.block < w.heap.size ∧ w.cell? (a.add (i * 3)) = some (.int .i64 s.f) ∧ w.cell? (a.add (i * 3 + 1)) = some (.int .i64 s.t) ∧ w.cell? (a.add (i * 3 + 2)) = some (.int .i64 s.h) := by
      intro i
      by_cases him : i < m
      · obtain ⟨cs', hc, ht⟩ := hi i him
        obtain ⟨s, rfl⟩ := open_str ht
        obtain ⟨_, _, hcell⟩ := World.cells?_some hc
        have z0 := hcell 0 (by omega)
        have z1 := hcell 1 (by omega)
        have z2 := hcell 2 (by omega)
        rw [add_of_add] at z0 z1 z2
        refine ⟨s, fun _ => ⟨?_, z0, z1, z2⟩⟩
        have := lt_of_cell z0
        rwa [block_of_add] at this
      · exact ⟨⟨0, 0, 0⟩, fun h => absurd h him⟩
    obtain ⟨f, hf⟩ := Classical.axiomOfChoice hall
    have hlen : ((List.range n).map f).length = n := by simp
    refine ⟨some a, n, m, (List.range n).map f, rfl, ⟨hlen, by rw [flat_len, hlen], fun hn => ⟨a, rfl, (hf 0 (by omega)).1, fun j u hu => ?_⟩⟩, by omega⟩
    have hj : j < n * 3 := by
      have := (List.getElem?_eq_some_iff.1 hu).1
      rwa [flat_len, hlen] at this
    have hk : ((List.range n).map f)[j / 3]? = some (f (j / 3)) := by
      rw [List.getElem?_map, List.getElem?_range (by omega)]
      rfl
    obtain ⟨g0, g1, g2⟩ := flat_get _ _ _ hk
    obtain ⟨_, z0, z1, z2⟩ := hf (j / 3) (by omega)
    rcases (show j = j / 3 * 3 ∨ j = j / 3 * 3 + 1 ∨ j = j / 3 * 3 + 2 by omega) with e | e | e
    · rw [e] at hu ⊢
      rw [g0] at hu
      cases hu
      exact z0
    · rw [e] at hu ⊢
      rw [g1] at hu
      cases hu
      exact z1
    · rw [e] at hu ⊢
      rw [g2] at hu
      cases hu
      exact z2
set_option maxRecDepth 100000 in
theorem cells23 : Try.prog.cellsOf 23 = 3 := by kernel_rfl
set_option maxRecDepth 100000 in
/-- a lay by value -/
theorem view_lay {r : Reach} {b0 : Nat} {v : Value} {d : DataW H} {ps : List MemPlace} {base : Nat} {spare : Nat → Bool}
    (hval : Value.okWide Try.prog w r b0 23 v) (h : DataW.Trod enc Try.prog w base spare held 23 v d ps) :
    ∃ a b c : Int, v = .agg #[.int .i64 a, .int .i64 b, .int .i64 c] ∧ (Lit.int .i64 a).wf = true ∧ (Lit.int .i64 b).wf = true ∧ (Lit.int .i64 c).wf = true := by
  obtain ⟨v0, v1, v2, y0, y1, y2, m, rfl, rfl, rfl, hy0, hy1, hy2⟩ := Joins.open_agg3 Try.underlying23 (by kernel_rfl) cells23 hval h
  obtain ⟨a, ea, _, wa⟩ := DataW.trod_int Try.underlying3 hy0
  obtain ⟨b, eb, _, wb⟩ := DataW.trod_int Try.underlying2 hy1
  obtain ⟨c, ec, _, wc⟩ := DataW.trod_int Try.underlying2 hy2
  simp only [List.cons.injEq, and_true] at ea eb ec
  subst ea eb ec
  exact ⟨a, b, c, rfl, wa, wb, wc⟩
end
end Go.Proofs.Ytlmnbdepklcfpaa
