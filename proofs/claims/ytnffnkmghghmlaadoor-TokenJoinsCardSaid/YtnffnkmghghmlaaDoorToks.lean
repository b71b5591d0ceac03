/- How tokens lie in memory. No condition. -/
import Derived.Test.YtnffnkmghghmlaaDoorOne
namespace Go.Proofs.YtnffnkmghghmlaaDoor
open Go.RowKit
set_option linter.unusedVariables false
set_option linter.unusedSimpArgs false
section
variable {α : Type} {f : α → List Value} {z : Nat}
def flatF (f : α → List Value) (l : List α) : List Value := l.flatMap f
theorem flatF_len (hf : ∀ a, (f a).length = z) (l : List α) : (flatF f l).length = l.length * z := by
  induction l with
  | nil => simp [flatF]
  | cons a l ih =>
    have : flatF f (a :: l) = f a ++ flatF f l := by simp [flatF]
    rw [this, List.length_append, ih, hf, List.length_cons, Nat.add_mul, Nat.one_mul, Nat.add_comm]
theorem flatF_append (l m : List α) : flatF f (l ++ m) = flatF f l ++ flatF f m := by simp [flatF]
theorem flatF_get (hf : ∀ a, (f a).length = z) (l : List α) : ∀ (k : Nat) (a : α), l[k]? = some a → ∀ j, j < z → (flatF f l)[k * z + j]? = (f a)[j]? := by
  induction l with
  | nil => intro k a h; simp at h
  | cons x l ih =>
    intro k a h j hj
    have e : flatF f (x :: l) = f x ++ flatF f l := by simp [flatF]
    rw [e]
    cases k with
    | zero =>
      simp at h
      subst h
      rw [Nat.zero_mul, Nat.zero_add, List.getElem?_append_left (by rw [hf]; exact hj)]
    | succ k =>
      have := ih k a (by simpa using h) j hj
      rw [List.getElem?_append_right (by rw [hf, Nat.add_mul]; omega), hf, ← this]
      congr 1
      rw [Nat.add_mul]
      omega
theorem flatF_set (hf : ∀ a, (f a).length = z) (l : List α) : ∀ (k : Nat) (a b : α) (j : Nat) (v : Value), l[k]? = some a → j < z → f b = (f a).set j v → flatF f (l.set k b) = (flatF f l).set (k * z + j) v := by
  induction l with
  | nil => intro k a b j v h; simp at h
  | cons x l ih =>
    intro k a b j v h hj hb
    have e : ∀ y, flatF f (y :: l) = f y ++ flatF f l := fun y => by simp [flatF]
    cases k with
    | zero =>
      simp at h
      subst h
      rw [List.set_cons_zero, e, e, Nat.zero_mul, Nat.zero_add, List.set_append_left _ _ (by rw [hf]; exact hj), hb]
    | succ k =>
      have := ih k a b j v (by simpa using h) hj hb
      have e2 : flatF f (x :: l.set k b) = f x ++ flatF f (l.set k b) := by simp [flatF]
      rw [List.set_cons_succ, e2, e, this, List.set_append_right _ _ (by rw [hf, Nat.add_mul]; omega), hf]
      congr 2
      rw [Nat.add_mul]
      omega
theorem flatF_one (h : ∀ a, ∀ u ∈ f a, u.oneCell' = true) (l : List α) : ∀ u ∈ flatF f l, u.oneCell' = true := by
  intro u hu
  simp only [flatF, List.mem_flatMap] at hu
  obtain ⟨a, _, hu⟩ := hu
  exact h a u hu
end
def Tk.cells (x : Tk) : List Value := [.int .i64 x.kind, .int .i64 x.at_, .string (str x.text)]
theorem tk_len (x : Tk) : x.cells.length = 3 := rfl
theorem tk_one (x : Tk) : ∀ u ∈ x.cells, u.oneCell' = true := by
  intro u hu
  simp [Tk.cells] at hu
  rcases hu with rfl | rfl | rfl <;> rfl
def flatT (l : List Tk) : List Value := flatF Tk.cells l
/-- so many tokens lie there -/
def TokR (w : World) (A : Option Addr) (l : List Tk) : Prop := Reads w w.heap.size 3 A l.length (flatT l)
section
variable {w w' : World} {A : Option Addr} {l : List Tk}
theorem TokR.up (h : TokR w A l) (hb : Below w.heap.size w w') : TokR w' A l := (h.below hb).more hb.size
theorem TokR.nil (w : World) : TokR w none [] := ⟨by simp [flatT, flatF], fun h => absurd h (by simp)⟩
theorem TokR.at_ (h : TokR w A l) {k : Nat} (hk : k < l.length) : ∃ (a : Addr) (d : Tk), A = some a ∧ l[k]? = some d ∧ (a.add (k * 3)).block < w.heap.size ∧
    w.cell? (a.add (k * 3)) = some (.int .i64 d.kind) ∧ w.cell? ⟨(a.add (k * 3)).block, (a.add (k * 3)).off + 1, none⟩ = some (.int .i64 d.at_) ∧ w.cell? ⟨(a.add (k * 3)).block, (a.add (k * 3)).off + 2, none⟩ = some (.string (str d.text)) := by
  obtain ⟨s, hs⟩ : ∃ s, l[k]? = some s := ⟨_, List.getElem?_eq_getElem hk⟩
  obtain ⟨a, rfl, hb, hc⟩ := h.2 (by omega)
  have g := flatF_get tk_len l k s hs
  have x0 := hc _ _ (g 0 (by omega))
  have x1 := hc _ _ (g 1 (by omega))
  have x2 := hc _ _ (g 2 (by omega))
  have e1 : (a.add (k * 3)).add 1 = ⟨(a.add (k * 3)).block, (a.add (k * 3)).off + 1, none⟩ := by unfold Addr.add; split <;> simp_all
  have e2 : (a.add (k * 3)).add 2 = ⟨(a.add (k * 3)).block, (a.add (k * 3)).off + 2, none⟩ := by unfold Addr.add; split <;> simp_all
  rw [← add_of_add, e1] at x1
  rw [← add_of_add, e2] at x2
  exact ⟨a, s, rfl, hs, by rw [block_of_add]; exact hb, by simpa using x0, x1, x2⟩
end
theorem info31 : (Tryd.prog.info? 31).map (fun i => (i.zero, i.size, i.bytes)) = some (some (.agg #[.int .i64 0, .int .i64 0, .string ⟨#[]⟩]), 3, 32) := by kernel_rfl
theorem flatT_push (l : List Tk) (x : Tk) : flatT (l ++ [x]) = flatT l ++ flatT [x] := flatF_append l [x]
/-- what a scan tells -/
def ScanR (r : List Tk × Nat × Int) (w : World) (e : Ending) (w' : World) : Prop :=
  ∃ A c, e = .returned (.tuple #[.slice A r.1.length c, .int .i64 r.2.1, .int .i64 r.2.2]) ∧ TokR w' A r.1 ∧ Below w.heap.size w w'
theorem ret_scan {A : Option Addr} {n n' c : Nat} {a a' b b' : Int} (h1 : n' = n) (h2 : a' = a) (h3 : b' = b) :
    Ending.returned (.tuple #[.slice A n c, .int .i64 a, .int .i64 b]) = .returned (.tuple #[.slice A n' c, .int .i64 a', .int .i64 b']) := by rw [h1, h2, h3]
/-- where a scan stands: the tokens so far, the rest -/
def Midway (S : Bs) (k : Nat) (l : List Tk) : Prop := lex 0 S = (l ++ (lex k (S.drop k)).1, (lex k (S.drop k)).2)
section
variable {S : Bs} {k : Nat} {l : List Tk}
theorem Midway.start (S : Bs) : Midway S 0 [] := by unfold Midway; simp
theorem drop_blank (S : Bs) (k : Nat) : (S.drop k).drop (spanN blI (S.drop k)) = S.drop (k + spanN blI (S.drop k)) := by rw [List.drop_drop]
/-- nothing but blanks is left -/
theorem Midway.done (h : Midway S k l) (he : S.drop (k + spanN blI (S.drop k)) = []) : scan S = (l, k + spanN blI (S.drop k), 0) := by
  unfold Midway at h
  rw [lex_end (a := k) (l := S.drop k) (by rw [drop_blank]; exact he)] at h
  unfold scan
  rw [h]
  simp
/-- an error -/
theorem Midway.bad (h : Midway S k l) (hn : S.drop (k + spanN blI (S.drop k)) ≠ []) (he : (oneL (S.drop (k + spanN blI (S.drop k)))).err ≠ 0) :
    scan S = ([], k + spanN blI (S.drop k), (oneL (S.drop (k + spanN blI (S.drop k)))).err) := by
  unfold Midway at h
  rw [lex_bad (a := k) (l := S.drop k) (by rw [drop_blank]; exact hn) (by rw [drop_blank]; exact he), drop_blank] at h
  unfold scan
  rw [h]
  simp [he]
/-- one more token -/
theorem Midway.next (h : Midway S k l) (hn : S.drop (k + spanN blI (S.drop k)) ≠ []) (he : (oneL (S.drop (k + spanN blI (S.drop k)))).err = 0) :
    Midway S (k + spanN blI (S.drop k) + (oneL (S.drop (k + spanN blI (S.drop k)))).n) (l ++ [⟨(oneL (S.drop (k + spanN blI (S.drop k)))).kind, k + spanN blI (S.drop k), (oneL (S.drop (k + spanN blI (S.drop k)))).text⟩]) := by
  unfold Midway at h ⊢
  rw [lex_tok (a := k) (l := S.drop k) (by rw [drop_blank]; exact hn) (by rw [drop_blank]; exact he), drop_blank] at h
  rw [h, ← List.drop_drop]
  simp
theorem Midway.len (h : Midway S k l) : l.length ≤ (lex 0 S).1.length := by
  unfold Midway at h
  rw [h]
  simp
end
end Go.Proofs.YtnffnkmghghmlaaDoor
