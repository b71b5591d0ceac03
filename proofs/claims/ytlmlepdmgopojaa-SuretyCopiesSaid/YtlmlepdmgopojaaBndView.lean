/- Bonds by value and slices of acts, as arguments. No condition. -/
import Derived.Test.YtlmlepdmgopojaaDo
import Derived.Deep.Slices
import Derived.Lib.SmallJoins
namespace Go.Proofs.Ytlmlepdmgopojaa
open Go.ChangeShapes Go.WideShapes Go.ChangeAt Go.RowKit Go.Deep
set_option linter.unusedVariables false

theorem list2 {α : Type} {l : List α} (h : l.length = 2) : ∃ a b, l = [a, b] := by
  match l, h with
  | [a, b], _ => exact ⟨a, b, rfl⟩
theorem list5 {α : Type} {l : List α} (h : l.length = 5) : ∃ a b c d e, l = [a, b, c, d, e] := by
  match l, h with
  | [a, b, c, d, e], _ => exact ⟨a, b, c, d, e, rfl⟩
theorem list6 {α : Type} {l : List α} (h : l.length = 6) : ∃ a b c d e f, l = [a, b, c, d, e, f] := by
  match l, h with
  | [a, b, c, d, e, f], _ => exact ⟨a, b, c, d, e, f, rfl⟩
theorem list7 {α : Type} {l : List α} (h : l.length = 7) : ∃ a b c d e f g, l = [a, b, c, d, e, f, g] := by
  match l, h with
  | [a, b, c, d, e, f, g], _ => exact ⟨a, b, c, d, e, f, g, rfl⟩
section
variable {H : Type} {enc : TypeId × Value → H} {w : World} {held : Bool}
set_option maxRecDepth 100000 in
theorem cells25 : Try.prog.cellsOf 25 = 7 := by kernel_rfl
set_option maxRecDepth 100000 in
theorem cells23 : Try.prog.cellsOf 23 = 2 := by kernel_rfl
set_option maxRecDepth 100000 in
theorem cells9 : Try.prog.cellsOf 9 = 1 := by kernel_rfl
set_option maxRecDepth 100000 in
theorem cells3 : Try.prog.cellsOf 3 = 1 := by kernel_rfl
set_option maxRecDepth 100000 in
theorem open_bnd {fuel : Nat} {cs : List Value} {x : DataW H × List MemPlace} (h : DataW.trod enc Try.prog w 0 (fun _ => true) held fuel 25 cs = some x) : ∃ b : Bnd, cs = b.cells.toList ∧ b.wf := by
  obtain ⟨xs, n, _, _, hl, hxl, hg⟩ := DataW.trod_struct Try.underlying25 h
  rw [cells25] at hl
  obtain ⟨v0, v1, v2, v3, v4, v5, v6, rfl⟩ := list7 hl
  obtain ⟨y0, y1, y2, y3, y4, y5, rfl⟩ := list6 (show xs.length = 6 from hxl)
  have g0 : DataW.trod enc Try.prog w 0 (fun _ => true) held n 9 (([v0, v1, v2, v3, v4, v5, v6].drop 0).take (Try.prog.cellsOf 9)) = some y0 := hg 0 _ rfl
  have g1 : DataW.trod enc Try.prog w 0 (fun _ => true) held n 9 (([v0, v1, v2, v3, v4, v5, v6].drop 1).take (Try.prog.cellsOf 9)) = some y1 := hg 1 _ rfl
  have g2 : DataW.trod enc Try.prog w 0 (fun _ => true) held n 9 (([v0, v1, v2, v3, v4, v5, v6].drop 2).take (Try.prog.cellsOf 9)) = some y2 := hg 2 _ rfl
  have g3 : DataW.trod enc Try.prog w 0 (fun _ => true) held n 9 (([v0, v1, v2, v3, v4, v5, v6].drop 3).take (Try.prog.cellsOf 9)) = some y3 := hg 3 _ rfl
  have g4 : DataW.trod enc Try.prog w 0 (fun _ => true) held n 23 (([v0, v1, v2, v3, v4, v5, v6].drop 4).take (Try.prog.cellsOf 23)) = some y4 := hg 4 _ rfl
  have g5 : DataW.trod enc Try.prog w 0 (fun _ => true) held n 3 (([v0, v1, v2, v3, v4, v5, v6].drop 6).take (Try.prog.cellsOf 3)) = some y5 := hg 5 _ rfl
  simp only [cells9, cells3, cells23, List.drop_zero, List.drop_succ_cons, List.take_succ_cons, List.take_zero] at g0 g1 g2 g3 g4 g5
  obtain ⟨s0, e0, _, z0⟩ := DataW.trod_string Try.underlying9 g0
  obtain ⟨s1, e1, _, z1⟩ := DataW.trod_string Try.underlying9 g1
  obtain ⟨s2, e2, _, z2⟩ := DataW.trod_string Try.underlying9 g2
  obtain ⟨s3, e3, _, z3⟩ := DataW.trod_string Try.underlying9 g3
  obtain ⟨ms, m, _, _, _, hml, hmg⟩ := DataW.trod_struct Try.underlying23 g4
  obtain ⟨q0, q1, rfl⟩ := list2 (show ms.length = 2 from hml)
  have k0 : DataW.trod enc Try.prog w 0 (fun _ => true) held m 9 (([v4, v5].drop 0).take (Try.prog.cellsOf 9)) = some q0 := hmg 0 _ rfl
  have k1 : DataW.trod enc Try.prog w 0 (fun _ => true) held m 2 (([v4, v5].drop 1).take (Try.prog.cellsOf 2)) = some q1 := hmg 1 _ rfl
  have c2 : Try.prog.cellsOf 2 = 1 := by kernel_rfl
  simp only [cells9, c2, List.drop_zero, List.drop_succ_cons, List.take_succ_cons, List.take_zero] at k0 k1
  obtain ⟨s4, e4, _, z4⟩ := DataW.trod_string Try.underlying9 k0
  obtain ⟨i5, e5, _, _⟩ := DataW.trod_int Try.underlying2 k1
  obtain ⟨i6, e6, _, _⟩ := DataW.trod_int Try.underlying3 g5
  simp only [List.cons.injEq, and_true] at e0 e1 e2 e3 e4 e5 e6
  subst e0 e1 e2 e3 e4 e5 e6
  exact ⟨⟨s0, s1, s2, s3, s4, i5, i6⟩, rfl, z0, z1, z2, z3, z4⟩
set_option maxRecDepth 100000 in
theorem view_bnd {r : Reach} {b0 : Nat} {v : Value} {d : DataW H} {ps : List MemPlace}
    (hval : Value.okWide Try.prog w r b0 25 v) (h : DataW.Trod enc Try.prog w 0 (fun _ => true) held 25 v d ps) : ∃ b : Bnd, v = bndV b ∧ b.wf := by
  obtain ⟨cs, rfl, hsz⟩ := okWide_struct Try.underlying25 hval
  obtain ⟨fuel, hf⟩ := h
  obtain ⟨b, hcs, hb⟩ := open_bnd hf
  have : cs = b.cells := by
    rw [show (Value.agg cs).cells.toList = cs.toList by simp [Value.cells]] at hcs
    exact Array.ext' hcs
  exact ⟨b, by rw [this]; rfl, hb⟩
theorem act_len (a : Act') : a.cells.length = 5 := rfl
def flatA (l : List Act') : List Value := flatF Act'.cells l
/-- so many acts lie there, ahead of block B -/
def Acts (w : World) (B : Nat) (A : Option Addr) (n : Nat) (l : List Act') : Prop := l.length = n ∧ Reads w B 5 A n (flatA l) ∧ ∀ a ∈ l, a.wf
section
variable {w w' : World} {B B' n : Nat} {A : Option Addr} {l : List Act'}
theorem Acts.up (h : Acts w w.heap.size A n l) (hb : Below w.heap.size w w') : Acts w' w'.heap.size A n l := ⟨h.1, (h.2.1.below hb).more hb.size, h.2.2⟩
theorem Acts.at_ (h : Acts w B A n l) {k : Nat} (hk : k < n) : ∃ (a : Addr) (x : Act'), A = some a ∧ l[k]? = some x ∧ x.wf ∧ (a.add (k * 5)).block < B ∧
    w.cell? (a.add (k * 5)) = some (.int .u8 x.kind) ∧ w.cell? ⟨(a.add (k * 5)).block, (a.add (k * 5)).off + 1, none⟩ = some (.string x.by_) ∧ w.cell? ⟨(a.add (k * 5)).block, (a.add (k * 5)).off + 2, none⟩ = some (.int .i64 x.sum) ∧
    w.cell? ⟨(a.add (k * 5)).block, (a.add (k * 5)).off + 3, none⟩ = some (.int .i64 x.day) ∧ w.cell? ⟨(a.add (k * 5)).block, (a.add (k * 5)).off + 4, none⟩ = some (.int .i64 x.n) := by
  obtain ⟨s, hs⟩ : ∃ s, l[k]? = some s := ⟨_, List.getElem?_eq_getElem (by have := h.1; omega)⟩
  obtain ⟨a, rfl, hb, hc⟩ := h.2.1.2 (by omega)
  have g := flatF_get act_len l k s hs
  have x0 := hc _ _ (g 0 (by omega))
  have x1 := hc _ _ (g 1 (by omega))
  have x2 := hc _ _ (g 2 (by omega))
  have x3 := hc _ _ (g 3 (by omega))
  have x4 := hc _ _ (g 4 (by omega))
  have e1 : (a.add (k * 5)).add 1 = ⟨(a.add (k * 5)).block, (a.add (k * 5)).off + 1, none⟩ := by unfold Addr.add; split <;> simp_all
  have e2 : (a.add (k * 5)).add 2 = ⟨(a.add (k * 5)).block, (a.add (k * 5)).off + 2, none⟩ := by unfold Addr.add; split <;> simp_all
  have e3 : (a.add (k * 5)).add 3 = ⟨(a.add (k * 5)).block, (a.add (k * 5)).off + 3, none⟩ := by unfold Addr.add; split <;> simp_all
  have e4 : (a.add (k * 5)).add 4 = ⟨(a.add (k * 5)).block, (a.add (k * 5)).off + 4, none⟩ := by unfold Addr.add; split <;> simp_all
  rw [← add_of_add, e1] at x1
  rw [← add_of_add, e2] at x2
  rw [← add_of_add, e3] at x3
  rw [← add_of_add, e4] at x4
  exact ⟨a, s, rfl, hs, h.2.2 s (List.mem_of_getElem? hs), by rw [block_of_add]; exact hb, by simpa using x0, x1, x2, x3, x4⟩
end
set_option maxRecDepth 100000 in
theorem open_act {fuel : Nat} {cs : List Value} {x : DataW H × List MemPlace} (h : DataW.trod enc Try.prog w 0 (fun _ => true) held fuel 37 cs = some x) : ∃ a : Act', cs = a.cells ∧ a.wf := by
  obtain ⟨xs, n, hx, hl, hxl, hg⟩ := trod_fields Try.underlying37 (by kernel_rfl) (by kernel_rfl) h
  obtain ⟨v0, v1, v2, v3, v4, rfl⟩ := list5 (show cs.length = 5 from hl)
  obtain ⟨y0, y1, y2, y3, y4, rfl⟩ := list5 (show xs.length = 5 from hxl)
  obtain ⟨i0, e0, _, w0⟩ := DataW.trod_int Try.underlying5 (hg 0 _ v0 y0 rfl rfl rfl)
  obtain ⟨s1, e1, _, _⟩ := DataW.trod_string Try.underlying9 (hg 1 _ v1 y1 rfl rfl rfl)
  obtain ⟨i2, e2, _, _⟩ := DataW.trod_int Try.underlying2 (hg 2 _ v2 y2 rfl rfl rfl)
  obtain ⟨i3, e3, _, _⟩ := DataW.trod_int Try.underlying3 (hg 3 _ v3 y3 rfl rfl rfl)
  obtain ⟨i4, e4, _, _⟩ := DataW.trod_int Try.underlying3 (hg 4 _ v4 y4 rfl rfl rfl)
  simp only [List.cons.injEq, and_true] at e0 e1 e2 e3 e4
  subst e0 e1 e2 e3 e4
  refine ⟨⟨i0, s1, i2, i3, i4⟩, rfl, ?_⟩
  unfold Act'.wf
  have h1 : IntKind.u8.min = 0 := by decide
  have h2 : IntKind.u8.max = 255 := by decide
  simp [Lit.wf, h1, h2] at w0
  simp only
  omega
set_option maxRecDepth 100000 in
theorem view_acts {r : Reach} {b0 : Nat} {v : Value} {d : DataW H} {ps : List MemPlace}
    (hval : Value.okWide Try.prog w r b0 35 v) (h : DataW.Trod enc Try.prog w 0 (fun _ => true) held 35 v d ps) :
    ∃ (A : Option Addr) (n c : Nat) (l : List Act'), v = .slice A n c ∧ Acts w w.heap.size A n l ∧ n ≤ maxLen := by
  obtain ⟨A, n, c, rfl⟩ := okWide_slice Try.underlying35 hval
  obtain ⟨fuel, hf⟩ := h
  rcases open_slice Try.underlying35 hf with ⟨hcs, _⟩ | ⟨a, len, cap, m, k, D, Pl, hcs, _, hl, hm, hmm, _, hi⟩
  · simp [Value.cells] at hcs
    obtain ⟨rfl, rfl, rfl⟩ := hcs
    exact ⟨none, 0, 0, [], rfl, ⟨rfl, Reads.none_, (fun a ha => by cases ha)⟩, Nat.zero_le _⟩
  · simp [Value.cells] at hcs
    obtain ⟨rfl, rfl, rfl⟩ := hcs
    simp only [if_true] at hmm
    subst hmm
    have hC : Try.prog.cellsOf 37 = 5 := by kernel_rfl
    rw [hC] at hi
    have hall : ∀ i, ∃ s : Act', i < m → s.wf ∧ a.block < w.heap.size ∧ ∀ j v, s.cells[j]? = some v → w.cell? (a.add (i * 5 + j)) = some v := by
      intro i
      by_cases him : i < m
      · obtain ⟨cs', hc, ht⟩ := hi i him
        obtain ⟨s, rfl, hw⟩ := open_act ht
        obtain ⟨_, _, hcell⟩ := World.cells?_some hc
        have hz : ∀ j v, s.cells[j]? = some v → w.cell? (a.add (i * 5 + j)) = some v := fun j v hv => by
          have hj := (List.getElem?_eq_some_iff.1 hv).1
          have := hcell j hj
          rw [add_of_add] at this
          rw [this]
          have e := (List.getElem?_eq_some_iff.1 hv).2
          first | exact congrArg some e | (rw [List.getD_eq_getElem?_getD, hv]; rfl) | simp_all
        refine ⟨s, fun _ => ⟨hw, ?_, hz⟩⟩
        have := lt_of_cell (hz 0 _ rfl)
        rwa [block_of_add] at this
      · exact ⟨⟨0, ⟨#[]⟩, 0, 0, 0⟩, fun h => absurd h him⟩
    obtain ⟨f, hf⟩ := Classical.axiomOfChoice hall
    have hlen : ((List.range n).map f).length = n := by simp
    have hfl : (flatA ((List.range n).map f)).length = n * 5 := by unfold flatA; rw [flatF_len act_len, hlen]
    refine ⟨some a, n, m, (List.range n).map f, rfl, ⟨hlen, ⟨hfl, fun hn => ⟨a, rfl, (hf 0 (by omega)).2.1, fun j u hu => ?_⟩⟩, ?_⟩, by omega⟩
    · have hj : j < n * 5 := by
        have := (List.getElem?_eq_some_iff.1 hu).1
        rwa [hfl] at this
      have hk : ((List.range n).map f)[j / 5]? = some (f (j / 5)) := by
        rw [List.getElem?_map, List.getElem?_range (by omega)]
        rfl
      have g := flatF_get act_len _ _ _ hk (j % 5) (by omega)
      have ej : j / 5 * 5 + j % 5 = j := by omega
      rw [ej] at g
      have hu' : (f (j / 5)).cells[j % 5]? = some u := by rw [← g]; exact hu
      have := (hf (j / 5) (by omega)).2.2 _ _ hu'
      rwa [ej] at this
    · intro x hx
      simp only [List.mem_map, List.mem_range] at hx
      obtain ⟨i, hi', rfl⟩ := hx
      exact (hf i (by omega)).1
end
end Go.Proofs.Ytlmlepdmgopojaa
