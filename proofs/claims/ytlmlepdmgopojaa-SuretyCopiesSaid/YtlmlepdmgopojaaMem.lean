/- How a surety of the program lies in memory. No condition. -/
import Derived.Test.YtlmlepdmgopojaaMay
namespace Go.Proofs.Ytlmlepdmgopojaa
open Go.RowKit
set_option linter.unusedVariables false

section
variable {α : Type} {f : α → List Value} {z : Nat}
def flatF (f : α → List Value) (l : List α) : List Value := l.flatMap f
theorem flatF_len (hf : ∀ a, (f a).length = z) (l : List α) : (flatF f l).length = l.length * z := by
  induction l with
  | nil => simp [flatF]
  | cons a l ih =>
    have : flatF f (a :: l) = f a ++ flatF f l := by simp [flatF]
    rw [this, List.length_append, ih, hf, List.length_cons, Nat.add_mul, Nat.one_mul, Nat.add_comm]
theorem flatF_append (l m : List α) : flatF f (l ++ m) = flatF f l ++ flatF f m := by simp [flatF]
theorem flatF_get (hf : ∀ a, (f a).length = z) (l : List α) : ∀ (k : Nat) (a : α), l[k]? = some a → ∀ j, j < z → (flatF f l)[k * z + j]? = (f a)[j]? := by
  induction l with
  | nil => intro k a h; simp at h
  | cons x l ih =>
    intro k a h j hj
    have e : flatF f (x :: l) = f x ++ flatF f l := by simp [flatF]
    rw [e]
    cases k with
    | zero =>
      simp at h
      subst h
      rw [Nat.zero_mul, Nat.zero_add, List.getElem?_append_left (by rw [hf]; exact hj)]
    | succ k =>
      have := ih k a (by simpa using h) j hj
      rw [List.getElem?_append_right (by rw [hf, Nat.add_mul]; omega), hf, ← this]
      congr 1
      rw [Nat.add_mul]
      omega
theorem flatF_set (hf : ∀ a, (f a).length = z) (l : List α) : ∀ (k : Nat) (a b : α) (j : Nat) (v : Value), l[k]? = some a → j < z → f b = (f a).set j v → flatF f (l.set k b) = (flatF f l).set (k * z + j) v := by
  induction l with
  | nil => intro k a b j v h; simp at h
  | cons x l ih =>
    intro k a b j v h hj hb
    have e : ∀ y, flatF f (y :: l) = f y ++ flatF f l := fun y => by simp [flatF]
    cases k with
    | zero =>
      simp at h
      subst h
      rw [List.set_cons_zero, e, e, Nat.zero_mul, Nat.zero_add, List.set_append_left _ _ (by rw [hf]; exact hj), hb]
    | succ k =>
      have := ih k a b j v (by simpa using h) hj hb
      have e2 : flatF f (x :: l.set k b) = f x ++ flatF f (l.set k b) := by simp [flatF]
      rw [List.set_cons_succ, e2, e, this, List.set_append_right _ _ (by rw [hf, Nat.add_mul]; omega), hf]
      congr 2
      rw [Nat.add_mul]
      omega
theorem flatF_one (h : ∀ a, ∀ u ∈ f a, u.oneCell' = true) (l : List α) : ∀ u ∈ flatF f l, u.oneCell' = true := by
  intro u hu
  simp only [flatF, List.mem_flatMap] at hu
  obtain ⟨a, _, hu⟩ := hu
  exact h a u hu
end
def Dem.cells (d : Dem) : List Value := [.int .i64 d.day, .int .i64 d.amt, .int .i64 d.st]
def Cut.cells (c : Cut) : List Value := [.int .i64 c.day, .int .i64 c.amt]
theorem dem_len (d : Dem) : d.cells.length = 3 := rfl
theorem cut_len (d : Cut) : d.cells.length = 2 := rfl
theorem dem_one (d : Dem) : ∀ u ∈ d.cells, u.oneCell' = true := by
  intro u hu
  simp [Dem.cells] at hu
  rcases hu with rfl | rfl | rfl <;> rfl
theorem cut_one (d : Cut) : ∀ u ∈ d.cells, u.oneCell' = true := by
  intro u hu
  simp [Cut.cells] at hu
  rcases hu with rfl | rfl <;> rfl
def flatD (l : List Dem) : List Value := flatF Dem.cells l
def flatC (l : List Cut) : List Value := flatF Cut.cells l
theorem flatD_set {l : List Dem} {n : Nat} {d : Dem} (h : l[n]? = some d) (k : Int) : flatD (setSt l n k) = (flatD l).set (n * 3 + 2) (.int .i64 k) := by
  rw [setSt_some k h]
  exact flatF_set dem_len l n d _ 2 _ h (by omega) rfl
/-- so many demands lie there -/
def DemR (w : World) (A : Option Addr) (l : List Dem) : Prop := Reads w w.heap.size 3 A l.length (flatD l)
def CutR (w : World) (A : Option Addr) (l : List Cut) : Prop := Reads w w.heap.size 2 A l.length (flatC l)
section
variable {w w' : World} {A : Option Addr} {l : List Dem} {m : List Cut}
theorem DemR.up (h : DemR w A l) (hb : Below w.heap.size w w') : DemR w' A l := (h.below hb).more hb.size
theorem CutR.up (h : CutR w A m) (hb : Below w.heap.size w w') : CutR w' A m := (h.below hb).more hb.size
theorem Reads.chg {w w' : World} {size n : Nat} {A : Option Addr} {xs : List Value} {S : Nat → Prop} (h : Reads w w.heap.size size A n xs) (hc : Chg S w w') (hS : ∀ k, blockOf A k → ¬ S k) : Reads w' w'.heap.size size A n xs := by
  refine ⟨h.1, fun hn => ?_⟩
  obtain ⟨a, rfl, hb, hcell⟩ := h.2 hn
  refine ⟨a, rfl, Nat.lt_of_lt_of_le hb hc.size, fun j u hu => ?_⟩
  rw [hc.cell (by rw [block_of_add]; exact hb) (by rw [block_of_add]; exact hS _ ⟨a, rfl, rfl⟩)]
  exact hcell j u hu
theorem DemR.at_ (h : DemR w A l) {k : Nat} (hk : k < l.length) : ∃ (a : Addr) (d : Dem), A = some a ∧ l[k]? = some d ∧ (a.add (k * 3)).block < w.heap.size ∧
    w.cell? (a.add (k * 3)) = some (.int .i64 d.day) ∧ w.cell? ⟨(a.add (k * 3)).block, (a.add (k * 3)).off + 1, none⟩ = some (.int .i64 d.amt) ∧ w.cell? ⟨(a.add (k * 3)).block, (a.add (k * 3)).off + 2, none⟩ = some (.int .i64 d.st) := by
  obtain ⟨s, hs⟩ : ∃ s, l[k]? = some s := ⟨_, List.getElem?_eq_getElem hk⟩
  obtain ⟨a, rfl, hb, hc⟩ := h.2 (by omega)
  have g := flatF_get dem_len l k s hs
  have x0 := hc _ _ (g 0 (by omega))
  have x1 := hc _ _ (g 1 (by omega))
  have x2 := hc _ _ (g 2 (by omega))
  have e1 : (a.add (k * 3)).add 1 = ⟨(a.add (k * 3)).block, (a.add (k * 3)).off + 1, none⟩ := by unfold Addr.add; split <;> simp_all
  have e2 : (a.add (k * 3)).add 2 = ⟨(a.add (k * 3)).block, (a.add (k * 3)).off + 2, none⟩ := by unfold Addr.add; split <;> simp_all
  rw [← add_of_add, e1] at x1
  rw [← add_of_add, e2] at x2
  exact ⟨a, s, rfl, hs, by rw [block_of_add]; exact hb, by simpa using x0, x1, x2⟩
theorem CutR.at_ (h : CutR w A m) {k : Nat} (hk : k < m.length) : ∃ (a : Addr) (d : Cut), A = some a ∧ m[k]? = some d ∧ (a.add (k * 2)).block < w.heap.size ∧
    w.cell? (a.add (k * 2)) = some (.int .i64 d.day) ∧ w.cell? ⟨(a.add (k * 2)).block, (a.add (k * 2)).off + 1, none⟩ = some (.int .i64 d.amt) := by
  obtain ⟨s, hs⟩ : ∃ s, m[k]? = some s := ⟨_, List.getElem?_eq_getElem hk⟩
  obtain ⟨a, rfl, hb, hc⟩ := h.2 (by omega)
  have g := flatF_get cut_len m k s hs
  have x0 := hc _ _ (g 0 (by omega))
  have x1 := hc _ _ (g 1 (by omega))
  have e1 : (a.add (k * 2)).add 1 = ⟨(a.add (k * 2)).block, (a.add (k * 2)).off + 1, none⟩ := by unfold Addr.add; split <;> simp_all
  rw [← add_of_add, e1] at x1
  exact ⟨a, s, rfl, hs, by rw [block_of_add]; exact hb, by simpa using x0, x1⟩
end
/-- the cells of a surety -/
def Sur.cells (s : Sur) (C : Option Addr) (c : Nat) (D : Option Addr) (d : Nat) : Array Value :=
  #[.string s.b.num, .string s.b.gua, .string s.b.for_, .string s.b.to_, .string s.b.cur, .int .i64 s.b.amt, .int .i64 s.b.exp, .int .i64 s.exp, .slice C s.cuts.length c, .slice D s.dem.length d]
/-- a surety at a box -/
structure SA (w : World) (g : Nat) (s : Sur) (C : Option Addr) (c : Nat) (D : Option Addr) (d : Nat) : Prop where
  box : Blk w g 63 (s.cells C c D d)
  rd : Row w 0 67 3 D s.dem.length d (flatD s.dem)
  rc : Row w 0 48 2 C s.cuts.length c (flatC s.cuts)
/-- the same, by its blocks -/
def At (O : Nat → Prop) (w : World) (g : Nat) (s : Sur) : Prop := ∃ C c D d, SA w g s C c D d ∧ O g ∧ (∀ k, blockOf D k → O k) ∧ (∀ k, blockOf C k → O k)
section
variable {w w' : World} {g c d : Nat} {s : Sur} {C D : Option Addr} {O : Nat → Prop}
theorem SA.below (h : SA w g s C c D d) (hb : Below w.heap.size w w') : SA w' g s C c D d := ⟨h.box.below hb h.box.lt, h.rd.below hb, h.rc.below hb⟩
theorem SA.dem (h : SA w g s C c D d) : DemR w D s.dem := h.rd.reads
theorem SA.cut (h : SA w g s C c D d) : CutR w C s.cuts := h.rc.reads
theorem SA.cellD (h : SA w g s C c D d) : w.cell? ⟨g, 9, none⟩ = some (.slice D s.dem.length d) := h.box.cell 9
theorem SA.cellC (h : SA w g s C c D d) : w.cell? ⟨g, 8, none⟩ = some (.slice C s.cuts.length c) := h.box.cell 8
theorem SA.cellE (h : SA w g s C c D d) : w.cell? ⟨g, 7, none⟩ = some (.int .i64 s.exp) := h.box.cell 7
theorem SA.cellA (h : SA w g s C c D d) : w.cell? ⟨g, 5, none⟩ = some (.int .i64 s.b.amt) := h.box.cell 5
theorem SA.cellT (h : SA w g s C c D d) : w.cell? ⟨g, 3, none⟩ = some (.string s.b.to_) := h.box.cell 3
theorem SA.chg {S : Nat → Prop} (h : SA w g s C c D d) (hc : Chg S w w') (hg : ¬ S g) (hD : ∀ k, blockOf D k → ¬ S k) (hC : ∀ k, blockOf C k → ¬ S k) : SA w' g s C c D d := ⟨hc.blk h.box hg, h.rd.chg hc hD, h.rc.chg hc hC⟩
theorem At.below (h : At O w g s) (hb : Below w.heap.size w w') : At O w' g s := by
  obtain ⟨C, c, D, d, h, o⟩ := h
  exact ⟨C, c, D, d, h.below hb, o⟩
theorem At.chg {S : Nat → Prop} (h : At O w g s) (hc : Chg S w w') (hS : ∀ k, O k → ¬ S k) : At O w' g s := by
  obtain ⟨C, c, D, d, h, o1, o2, o3⟩ := h
  exact ⟨C, c, D, d, h.chg hc (hS _ o1) (fun k hk => hS _ (o2 k hk)) (fun k hk => hS _ (o3 k hk)), o1, o2, o3⟩
end
end Go.Proofs.Ytlmlepdmgopojaa
