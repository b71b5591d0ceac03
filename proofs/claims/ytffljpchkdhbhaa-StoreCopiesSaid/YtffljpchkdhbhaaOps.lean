/- A slice of calls (Kind, N, Text), as the walks take it. No condition. -/
import Derived.Test.YtffljpchkdhbhaaView
import Derived.Deep.Slices
namespace Go.Proofs.Ytffljpchkdhbhaa
open Go.ChangeShapes Go.WideShapes Go.ChangeAt Go.RowKit Go.Deep

/-- a call: its kind, its number, its text -/
structure Call where
  kind : Int
  num : Int
  text : ByteArray
/-- so many calls lie there, ahead of block B -/
def Ops (w : World) (B : Nat) (A : Option Addr) (n : Nat) (os : List Call) : Prop :=
  os.length = n ∧ ∀ k o, os[k]? = some o → ∃ a, A = some a ∧ a.block < B ∧ o.num ≤ 9223372036854775807 ∧ w.cell? (a.add (k * 3)) = some (.int .i64 o.kind) ∧ w.cell? (a.add (k * 3 + 1)) = some (.int .i64 o.num) ∧ w.cell? (a.add (k * 3 + 2)) = some (.string o.text)
section
variable {H : Type} {enc : TypeId × Value → H} {w : World} {held : Bool}
theorem open_op {fuel : Nat} {cs : List Value} {x : DataW H × List MemPlace} (h : DataW.trod enc Try.prog w 0 (fun _ => true) held fuel 47 cs = some x) :
    ∃ o : Call, cs = [.int .i64 o.kind, .int .i64 o.num, .string o.text] ∧ o.num ≤ 9223372036854775807 := by
  obtain ⟨xs, n, hx, hl, hxl, hg⟩ := trod_fields Try.underlying47 (by kernel_rfl) (by kernel_rfl) h
  match cs, hl, xs, hxl with
  | [v0, v1, v2], _, [y0, y1, y2], _ =>
    have g0 := hg 0 _ v0 y0 rfl rfl rfl
    have g1 := hg 1 _ v1 y1 rfl rfl rfl
    have g2 := hg 2 _ v2 y2 rfl rfl rfl
    obtain ⟨a, ea, _, _⟩ := DataW.trod_int Try.underlying3 g0
    obtain ⟨b, eb, _, wb⟩ := DataW.trod_int Try.underlying3 g1
    obtain ⟨s, es, _, _⟩ := DataW.trod_string Try.underlying9 g2
    simp only [List.cons.injEq, and_true] at ea eb es
    subst ea eb es
    exact ⟨⟨a, b, s⟩, rfl, (bounds_i64 wb).2⟩
theorem view_ops {r : Reach} {b0 : Nat} {v : Value} {d : DataW H} {ps : List MemPlace}
    (hval : Value.okWide Try.prog w r b0 39 v) (h : DataW.Trod enc Try.prog w 0 (fun _ => true) held 39 v d ps) :
    ∃ (A : Option Addr) (n c : Nat) (os : List Call), v = .slice A n c ∧ Ops w w.heap.size A n os := by
  obtain ⟨A, n, c, rfl⟩ := okWide_slice Try.underlying39 hval
  obtain ⟨fuel, hf⟩ := h
  rcases open_slice Try.underlying39 hf with ⟨hcs, _⟩ | ⟨a, len, cap, m, k, D, Pl, hcs, _, hl, hm, hmm, _, hi⟩
  · simp [Value.cells] at hcs
    obtain ⟨rfl, rfl, rfl⟩ := hcs
    exact ⟨none, 0, 0, [], rfl, rfl, fun k o ho => by simp at ho⟩
  · simp [Value.cells] at hcs
    obtain ⟨rfl, rfl, rfl⟩ := hcs
    simp only [if_true] at hmm
    subst hmm
    have hC : Try.prog.cellsOf 47 = 3 := by kernel_rfl
    rw [hC] at hi
    have hall : ∀ i, ∃ o : Call, i < m → a.block < w.heap.size ∧ o.num ≤ 9223372036854775807 ∧ w.cell? (a.add (i * 3)) = some (.int .i64 o.kind) ∧ w.cell? (a.add (i * 3 + 1)) = some (.int .i64 o.num) ∧ w.cell? (a.add (i * 3 + 2)) = some (.string o.text) := by
      intro i
      by_cases him : i < m
      · obtain ⟨cs', hc, ht⟩ := hi i him
        obtain ⟨o, rfl, hb⟩ := open_op ht
        obtain ⟨_, _, hcell⟩ := World.cells?_some hc
        have z0 := hcell 0 (by omega)
        have z1 := hcell 1 (by omega)
        have z2 := hcell 2 (by omega)
        rw [add_of_add] at z0 z1 z2
        refine ⟨o, fun _ => ⟨?_, hb, z0, z1, z2⟩⟩
        have := lt_of_cell z0
        rwa [block_of_add] at this
      · exact ⟨⟨0, 0, ⟨#[]⟩⟩, fun h => absurd h him⟩
    obtain ⟨f, hf⟩ := Classical.axiomOfChoice hall
    refine ⟨some a, n, m, (List.range n).map f, rfl, by simp, fun k o ho => ?_⟩
    simp only [List.getElem?_map, Option.map_eq_some_iff] at ho
    obtain ⟨j, hj, rfl⟩ := ho
    have hk : k < n := by
      have := (List.getElem?_eq_some_iff.1 hj).1
      simpa using this
    have : j = k := by
      rw [List.getElem?_range hk] at hj
      exact (Option.some.inj hj).symm
    subst this
    exact ⟨a, rfl, hf j (by omega)⟩
end
theorem Ops.more {w : World} {B B' n : Nat} {A : Option Addr} {os : List Call} (h : Ops w B A n os) (hB : B ≤ B') : Ops w B' A n os :=
  ⟨h.1, fun k o ho => by
    obtain ⟨a, e, hb, hr⟩ := h.2 k o ho
    exact ⟨a, e, Nat.lt_of_lt_of_le hb hB, hr⟩⟩
theorem Ops.below {w w' : World} {B n : Nat} {A : Option Addr} {os : List Call} (h : Ops w B A n os) (hb : Below B w w') : Ops w' B A n os :=
  ⟨h.1, fun k o ho => by
    obtain ⟨a, e, hB, hn, c0, c1, c2⟩ := h.2 k o ho
    have hbl : ∀ j, (a.add j).block < B := fun j => by rw [block_of_add]; exact hB
    exact ⟨a, e, hB, hn, (hb.cell (hbl _)).trans c0, (hb.cell (hbl _)).trans c1, (hb.cell (hbl _)).trans c2⟩⟩
end Go.Proofs.Ytffljpchkdhbhaa
