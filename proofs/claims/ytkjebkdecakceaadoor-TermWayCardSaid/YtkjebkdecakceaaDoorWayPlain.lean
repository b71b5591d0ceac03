/- The plain law behind TermWay: as of a later day a box that goes on never stands at an earlier stage. No program in sight. -/
import Derived.Test.YtkjebkdecakceaaDoorBearer
namespace Go.Proofs.YtkjebkdecakceaaDoor
open Go.RowKit

theorem lastW_mono (s : ByteArray → Int) (D E : Int) (hDE : D ≤ E) (l : List (ByteArray × Int)) : ∀ (o1 o2 : Option ByteArray), (∀ a, o1 = some a → ∃ b, o2 = some b ∧ s a ≤ s b) →
    (∀ x ∈ l, ∀ a, (o1 = some a ∨ o2 = some a) → s a ≤ s x.1) → l.Pairwise (fun x y => s x.1 ≤ s y.1) →
    ∀ a, l.foldl (fun o x => if x.2 ≤ D then some x.1 else o) o1 = some a → ∃ b, l.foldl (fun o x => if x.2 ≤ E then some x.1 else o) o2 = some b ∧ s a ≤ s b := by
  induction l with
  | nil => intro o1 o2 h _ _; exact h
  | cons x l ih =>
    intro o1 o2 h hl hp
    simp only [List.foldl_cons]
    obtain ⟨hx, hp'⟩ := List.pairwise_cons.1 hp
    refine ih _ _ ?_ ?_ hp'
    · intro a ha
      by_cases h1 : x.2 ≤ D
      · rw [if_pos h1] at ha
        rw [if_pos (by omega : x.2 ≤ E)]
        cases ha
        exact ⟨_, rfl, Int.le_refl _⟩
      · rw [if_neg h1] at ha
        by_cases h2 : x.2 ≤ E
        · rw [if_pos h2]
          exact ⟨_, rfl, hl x (List.mem_cons_self ..) a (.inl ha)⟩
        · rw [if_neg h2]
          exact h a ha
    · intro y hy a ha
      have k1 := hl y (List.mem_cons_of_mem _ hy) a
      have k2 := hx y hy
      rcases ha with ha | ha
      · by_cases h1 : x.2 ≤ D
        · rw [if_pos h1] at ha; cases ha; exact k2
        · rw [if_neg h1] at ha; exact k1 (.inl ha)
      · by_cases h1 : x.2 ≤ E
        · rw [if_pos h1] at ha; cases ha; exact k2
        · rw [if_neg h1] at ha; exact k1 (.inr ha)
theorem lastW_some (D : Int) (l : List (ByteArray × Int)) : ∀ a, ∃ b, l.foldl (fun o x => if x.2 ≤ D then some x.1 else o) (some a) = some b := by
  induction l with
  | nil => intro a; exact ⟨a, rfl⟩
  | cons x l ih =>
    intro a
    simp only [List.foldl_cons]
    split
    · exact ih _
    · exact ih _
theorem lastW_none (D : Int) (l : List (ByteArray × Int)) (h : ∀ x ∈ l, D < x.2) : l.foldl (fun o x => if x.2 ≤ D then some x.1 else o) none = none := by
  induction l with
  | nil => rfl
  | cons x l ih =>
    simp only [List.foldl_cons]
    rw [if_neg (by have := h x (List.mem_cons_self ..); omega)]
    exact ih fun y hy => h y (List.mem_cons_of_mem _ hy)

/-- the whole chain -/
def chainF (sel buy : ByteArray) (os : List ByteArray) (ds : List Int) (m : Nat) : List (ByteArray × Int) :=
  ((sel, ds.getD 0 0) :: (List.range m).map fun i => (os.getD i ⟨#[]⟩, ds.getD (i + 1) 0)) ++ [(buy, ds.getD (m + 1) 0)]
theorem rise_all (ds : List Int) (n : Nat) (h : ∀ i, i + 1 < n → ds.getD i 0 ≤ ds.getD (i + 1) 0) : ∀ i, i < n → ds.getD 0 0 ≤ ds.getD i 0 := by
  intro i
  induction i with
  | zero => intro _; exact Int.le_refl _
  | succ i ih => intro hi; exact Int.le_trans (ih (by omega)) (h i hi)
theorem chainF_min (sel buy : ByteArray) (os : List ByteArray) (ds : List Int) (m : Nat) (h : ∀ i, i + 1 < m + 2 → ds.getD i 0 ≤ ds.getD (i + 1) 0) : ∀ x ∈ chainF sel buy os ds m, ds.getD 0 0 ≤ x.2 := by
  intro x hx
  have R := rise_all ds (m + 2) h
  simp only [chainF, List.mem_append, List.mem_cons, List.mem_map, List.mem_range, List.not_mem_nil, or_false] at hx
  rcases hx with (rfl | ⟨i, hi, rfl⟩) | rfl
  · exact Int.le_refl _
  · exact R (i + 1) (by omega)
  · exact R (m + 1) (by omega)
theorem chainF_stage (sel buy : ByteArray) (os : List ByteArray) (ds : List Int) (m : Nat) (hne : sel ≠ buy) (ho : ∀ i, i < m → os.getD i ⟨#[]⟩ ≠ sel ∧ os.getD i ⟨#[]⟩ ≠ buy) :
    (chainF sel buy os ds m).Pairwise fun x y => stg x.1 sel buy ≤ stg y.1 sel buy := by
  have s0 : stg sel sel buy = 0 := by simp [stg]
  have s7 : stg buy sel buy = 7 := by simp [stg, Ne.symm hne]
  have s3 : ∀ i, i < m → stg (os.getD i ⟨#[]⟩) sel buy = 3 := fun i hi => by
    unfold stg
    rw [if_neg (ho i hi).1, if_neg (ho i hi).2]
  unfold chainF
  refine List.pairwise_append.2 ⟨List.pairwise_cons.2 ⟨fun y _ => ?_, ?_⟩, List.pairwise_singleton _ _, fun x _ y hy => ?_⟩
  · rw [s0]; exact (stg_bd _ _ _).1
  · refine List.pairwise_map.2 (List.Pairwise.imp_of_mem (fun {a b} ha hb _ => ?_) List.pairwise_lt_range)
    show stg (os.getD a ⟨#[]⟩) sel buy ≤ stg (os.getD b ⟨#[]⟩) sel buy
    rw [s3 a (List.mem_range.1 ha), s3 b (List.mem_range.1 hb)]
    exact Int.le_refl _
  · obtain rfl : y = (buy, ds.getD (m + 1) 0) := by simpa using hy
    rw [s7]
    exact (stg_bd _ _ _).2

/-- what the law asks of the two days -/
theorem way_plain (sel buy : ByteArray) (os : List ByteArray) (ds : List Int) (m : Nat) (hne : sel ≠ buy) (ho : ∀ i, i < m → os.getD i ⟨#[]⟩ ≠ sel ∧ os.getD i ⟨#[]⟩ ≠ buy)
    (h : ∀ i, i + 1 < m + 2 → ds.getD i 0 ≤ ds.getD (i + 1) 0) (D E : Int) (hDE : D ≤ E) :
    (D < ds.getD 0 0 ∧ lastW (chainF sel buy os ds m) D = none ∧ E < ds.getD 0 0 ∧ lastW (chainF sel buy os ds m) E = none) ∨
    (D < ds.getD 0 0 ∧ lastW (chainF sel buy os ds m) D = none ∧ ds.getD 0 0 ≤ E ∧ ∃ b, lastW (chainF sel buy os ds m) E = some b) ∨
    (ds.getD 0 0 ≤ D ∧ ds.getD 0 0 ≤ E ∧ ∃ a b, lastW (chainF sel buy os ds m) D = some a ∧ lastW (chainF sel buy os ds m) E = some b ∧ stg a sel buy ≤ stg b sel buy) := by
  have hmin := chainF_min sel buy os ds m h
  have hst := chainF_stage sel buy os ds m hne ho
  have no : ∀ D, D < ds.getD 0 0 → lastW (chainF sel buy os ds m) D = none := fun D hD => lastW_none D _ fun x hx => by have := hmin x hx; omega
  have yes : ∀ D, ds.getD 0 0 ≤ D → ∃ a, lastW (chainF sel buy os ds m) D = some a := fun D hD => by
    unfold lastW chainF
    simp only [List.cons_append, List.foldl_cons]
    rw [if_pos hD]
    exact lastW_some D _ _
  by_cases h1 : ds.getD 0 0 ≤ D
  · obtain ⟨a, ha⟩ := yes D h1
    obtain ⟨b, hb, hab⟩ := lastW_mono (fun x => stg x sel buy) D E hDE (chainF sel buy os ds m) none none (fun a h => by cases h) (fun x _ a h => by rcases h with h | h <;> cases h) hst a ha
    exact .inr (.inr ⟨h1, by omega, a, b, ha, hb, hab⟩)
  · by_cases h2 : ds.getD 0 0 ≤ E
    · exact .inr (.inl ⟨by omega, no D (by omega), h2, yes E h2⟩)
    · exact .inl ⟨by omega, no D (by omega), by omega, no E (by omega)⟩
end Go.Proofs.YtkjebkdecakceaaDoor
