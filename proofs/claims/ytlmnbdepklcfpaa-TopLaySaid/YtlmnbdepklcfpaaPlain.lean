/- Laytime, plainly: hours, what they use, cuts, the hour at which it expires. No program. No condition. -/
namespace Go.Proofs.Ytlmnbdepklcfpaa
set_option linter.unusedVariables false

/-- a stretch: from, to, halves -/
structure Str where
  f : Int
  t : Int
  h : Int
def Str.ok (s : Str) : Prop := 0 ≤ s.f ∧ s.f < s.t ∧ s.t ≤ 1048576 ∧ 0 ≤ s.h ∧ s.h ≤ 2
def Str.argB (s : Str) : Bool := decide (s.f < 0) || decide (s.t ≤ s.f) || decide (1048576 < s.t) || decide (s.h < 0) || decide (2 < s.h)
theorem argB_no {s : Str} (h : s.argB = false) : s.ok := by
  unfold Str.argB at h
  simp at h
  unfold Str.ok
  omega
theorem argB_yes {s : Str} (h : s.ok) : s.argB = false := by
  unfold Str.ok at h
  unfold Str.argB
  simp
  omega
/-- the code of the stretch at k -/
def codeAt (l : List Str) (k : Nat) : Int :=
  match l[k]? with
  | none => 0
  | some s => if 4096 ≤ k then 7 else if s.argB then 1 else match (if k = 0 then none else l[k - 1]?) with
    | none => 0
    | some p => if p.t = s.f then 0 else 6
def chkFrom (l : List Str) : Nat → Nat → Nat × Int
  | 0, k => (k, 0)
  | n + 1, k => if codeAt l k = 0 then chkFrom l n (k + 1) else (k, codeAt l k)
/-- how many there are, or the first wrong one, and its code -/
def chk (l : List Str) : Nat × Int := chkFrom l l.length 0
theorem chk_step {l : List Str} {n k : Nat} (h : chk l = chkFrom l (n + 1) k) (hc : codeAt l k = 0) : chk l = chkFrom l n (k + 1) := by
  rw [h]
  simp [chkFrom, hc]
theorem chk_hit {l : List Str} {n k : Nat} (h : chk l = chkFrom l (n + 1) k) (hc : codeAt l k ≠ 0) : chk l = (k, codeAt l k) := by
  rw [h]
  simp [chkFrom, hc]
theorem chkFrom_ok (l : List Str) : ∀ n k, (chkFrom l n k).2 = 0 → ∀ j, k ≤ j → j < k + n → codeAt l j = 0
  | 0, k, _, j, h1, h2 => by omega
  | n + 1, k, h, j, h1, h2 => by
    unfold chkFrom at h
    split at h
    · rename_i hc
      rcases Nat.lt_or_ge k j with hlt | hge
      · exact chkFrom_ok l n (k + 1) h j hlt (by omega)
      · obtain rfl : j = k := by omega
        exact hc
    · rename_i hc
      exact absurd h hc
theorem chkFrom_all (l : List Str) : ∀ n k, (∀ j, k ≤ j → j < k + n → codeAt l j = 0) → chkFrom l n k = (k + n, 0)
  | 0, k, _ => rfl
  | n + 1, k, h => by
    unfold chkFrom
    rw [if_pos (h k (Nat.le_refl _) (by omega)), chkFrom_all l n (k + 1) (fun j h1 h2 => h j (by omega) (by omega))]
    congr 1
    omega
theorem chkFrom_codes (l : List Str) : ∀ n k, (chkFrom l n k).2 = 0 ∨ (chkFrom l n k).2 = codeAt l (chkFrom l n k).1
  | 0, k => .inl rfl
  | n + 1, k => by
    unfold chkFrom
    split
    · exact chkFrom_codes l n (k + 1)
    · exact .inr rfl
/-- one behind the other, from an hour on -/
def Chain : Int → List Str → Prop
  | _, [] => True
  | a, s :: l => s.f = a ∧ s.ok ∧ Chain s.t l
/-- the hour behind all -/
def lastTo : Int → List Str → Int
  | a, [] => a
  | _, s :: l => lastTo s.t l
theorem chain_append : ∀ (a : Int) (l m : List Str), Chain a (l ++ m) ↔ Chain a l ∧ Chain (lastTo a l) m
  | a, [], m => by simp [Chain, lastTo]
  | a, s :: l, m => by simp [Chain, lastTo, chain_append s.t l m, and_assoc]
theorem lastTo_append : ∀ (a : Int) (l m : List Str), lastTo a (l ++ m) = lastTo (lastTo a l) m
  | a, [], m => rfl
  | a, s :: l, m => lastTo_append s.t l m
theorem lastTo_get : ∀ (a : Int) (l : List Str) (s : Str), l[l.length - 1]? = some s → lastTo a l = s.t
  | a, [], s, h => by simp at h
  | a, [x], s, h => by simp at h; subst h; rfl
  | a, x :: y :: l, s, h => lastTo_get x.t (y :: l) s (by simpa using h)
theorem chain_of : ∀ (l : List Str) (a : Int), (∀ (k : Nat) (s : Str), l[k]? = some s → s.ok) → (∀ (s : Str), l[0]? = some s → s.f = a) → (∀ (k : Nat) (p s : Str), l[k]? = some p → l[k + 1]? = some s → p.t = s.f) → Chain a l
  | [], a, _, _, _ => trivial
  | s :: l, a, h1, h2, h3 => ⟨h2 s rfl, h1 0 s rfl, chain_of l s.t (fun k x hx => h1 (k + 1) x (by simpa using hx)) (fun x hx => (h3 0 s x rfl (by simpa using hx)).symm) (fun k p x hp hx => h3 (k + 1) p x (by simpa using hp) (by simpa using hx))⟩
theorem chain_get : ∀ (l : List Str) (a : Int), Chain a l → (∀ (k : Nat) (s : Str), l[k]? = some s → s.ok) ∧ (∀ (k : Nat) (p s : Str), l[k]? = some p → l[k + 1]? = some s → p.t = s.f)
  | [], a, _ => ⟨fun k s h => by simp at h, fun k p s h => by simp at h⟩
  | s :: l, a, ⟨h1, h2, h3⟩ => by
    obtain ⟨i1, i2⟩ := chain_get l s.t h3
    refine ⟨fun k x hx => ?_, fun k p x hp hx => ?_⟩
    · cases k with
      | zero => cases hx; exact h2
      | succ k => exact i1 k x hx
    · cases k with
      | zero =>
        cases hp
        cases l with
        | nil => simp at hx
        | cons y l => cases hx; exact h3.1.symm
      | succ k => exact i2 k p x hp hx
theorem codeAt_zero {l : List Str} {k : Nat} {s : Str} (hs : l[k]? = some s) (h : codeAt l k = 0) : k < 4096 ∧ s.ok ∧ ∀ p, 0 < k → l[k - 1]? = some p → p.t = s.f := by
  unfold codeAt at h
  rw [hs] at h
  simp only at h
  split at h
  · omega
  · split at h
    · omega
    · rename_i h1 h2
      refine ⟨by omega, argB_no (by simpa using h2), fun p hk hp => ?_⟩
      rw [if_neg (by omega), hp] at h
      simp only at h
      split at h
      · assumption
      · omega
theorem codeAt_mk {l : List Str} {k : Nat} {s : Str} (hs : l[k]? = some s) (h1 : k < 4096) (h2 : s.ok) (h3 : ∀ p, 0 < k → l[k - 1]? = some p → p.t = s.f) : codeAt l k = 0 := by
  unfold codeAt
  rw [hs]
  simp only
  rw [if_neg (by omega), argB_yes h2]
  simp only [Bool.false_eq_true, if_false]
  by_cases hk : k = 0
  · rw [if_pos hk]
  · rw [if_neg hk]
    cases hp : l[k - 1]? with
    | none => rfl
    | some p => simp only; rw [if_pos (h3 p (by omega) hp)]
def headF (l : List Str) : Int := match l with | [] => 0 | s :: _ => s.f
theorem chk_chain {l : List Str} (h : (chk l).2 = 0) : Chain (headF l) l ∧ l.length ≤ 4096 ∧ chk l = (l.length, 0) := by
  have hc := chkFrom_ok l l.length 0 h
  have hz : ∀ k, k < l.length → codeAt l k = 0 := fun k hk => hc k (by omega) (by omega)
  refine ⟨chain_of l _ (fun k s hs => ?_) (fun s hs => ?_) (fun k p s hp hs => ?_), ?_, ?_⟩
  · exact (codeAt_zero hs (hz k (List.getElem?_eq_some_iff.1 hs).1)).2.1
  · cases l with
    | nil => simp at hs
    | cons x l => cases hs; rfl
  · exact (codeAt_zero hs (hz (k + 1) (List.getElem?_eq_some_iff.1 hs).1)).2.2 p (by omega) hp
  · rcases Nat.eq_zero_or_pos l.length with h0 | h0
    · omega
    · have := (codeAt_zero (List.getElem?_eq_getElem (show l.length - 1 < l.length by omega)) (hz (l.length - 1) (by omega))).1
      omega
  · have := chkFrom_all l l.length 0 (fun j _ h2 => hz j (by omega))
    unfold chk
    rw [this]
    simp
theorem chk_mk {l : List Str} {a : Int} (h : Chain a l) (hl : l.length ≤ 4096) : chk l = (l.length, 0) := by
  obtain ⟨h1, h2⟩ := chain_get l a h
  have := chkFrom_all l l.length 0 (fun j _ hj => by
    have hs := List.getElem?_eq_getElem (show j < l.length by omega)
    refine codeAt_mk hs (by omega) (h1 j _ hs) fun p hk hp => ?_
    refine h2 (j - 1) p _ hp ?_
    rw [show j - 1 + 1 = j by omega]
    exact hs)
  unfold chk
  rw [this]
  simp

/-- an hour more -/
def step (F n h : Int) : Int := if F ≤ n then n + 2 else n + h
def fold (F n : Int) (l : List Int) : Int := l.foldl (step F) n
def hrs (s : Str) : List Int := List.replicate (s.t - s.f).toNat s.h
def hours (l : List Str) : List Int := l.flatMap hrs
theorem fold_append (F n : Int) (l m : List Int) : fold F n (l ++ m) = fold F (fold F n l) m := by simp [fold]
theorem hours_append (l m : List Str) : hours (l ++ m) = hours l ++ hours m := by simp [hours]
theorem step_le {F n h : Int} (hh : 0 ≤ h) : n ≤ step F n h := by unfold step; split <;> omega
theorem step_le2 {F n h : Int} (hh : h ≤ 2) : step F n h ≤ n + 2 := by unfold step; split <;> omega
theorem fold_le (F : Int) : ∀ (l : List Int) (n : Int), (∀ h ∈ l, 0 ≤ h) → n ≤ fold F n l
  | [], n, _ => Int.le_refl _
  | h :: l, n, hl => by
    have h1 := step_le (F := F) (n := n) (hl h (by simp))
    have h2 := fold_le F l (step F n h) (fun x hx => hl x (by simp [hx]))
    exact Int.le_trans h1 h2
theorem fold_bd (F : Int) : ∀ (l : List Int) (n : Int), (∀ h ∈ l, h ≤ 2) → fold F n l ≤ n + 2 * l.length
  | [], n, _ => by simp [fold]
  | h :: l, n, hl => by
    have h1 := step_le2 (F := F) (n := n) (hl h (by simp))
    have h2 := fold_bd F l (step F n h) (fun x hx => hl x (by simp [hx]))
    have : fold F n (h :: l) = fold F (step F n h) l := rfl
    rw [this, List.length_cons]
    omega
theorem fold_over (F : Int) : ∀ (l : List Int) (n : Int), F ≤ n → fold F n l = n + 2 * l.length
  | [], n, _ => by simp [fold]
  | h :: l, n, hn => by
    have : fold F n (h :: l) = fold F (step F n h) l := rfl
    have hs : step F n h = n + 2 := by unfold step; rw [if_pos hn]
    rw [this, hs, fold_over F l (n + 2) (by omega), List.length_cons]
    omega
theorem fold_more {F F' : Int} (hF : F ≤ F') : ∀ (l : List Int) (n n' : Int), n' ≤ n → (∀ h ∈ l, h ≤ 2) → fold F' n' l ≤ fold F n l
  | [], n, n', hn, _ => hn
  | h :: l, n, n', hn, hl => by
    refine fold_more hF l (step F n h) (step F' n' h) ?_ (fun x hx => hl x (by simp [hx]))
    have := hl h (by simp)
    unfold step
    split <;> split <;> omega
theorem chain_hours : ∀ (l : List Str) (a : Int), Chain a l → (∀ h ∈ hours l, 0 ≤ h ∧ h ≤ 2) ∧ ((hours l).length : Int) = lastTo a l - a ∧ a ≤ lastTo a l
  | [], a, _ => by simp [hours, lastTo]
  | s :: l, a, ⟨h1, h2, h3⟩ => by
    obtain ⟨i1, i2, i3⟩ := chain_hours l s.t h3
    have e : hours (s :: l) = hrs s ++ hours l := by simp [hours]
    unfold Str.ok at h2
    refine ⟨fun h hh => ?_, ?_, ?_⟩
    · rw [e, List.mem_append] at hh
      rcases hh with hh | hh
      · have := (List.mem_replicate.1 hh).2
        omega
      · exact i1 h hh
    · rw [e, List.length_append, hrs, List.length_replicate]
      simp only [lastTo]
      omega
    · simp only [lastTo]
      omega
theorem chain_last : ∀ (l : List Str) (a : Int), Chain a l → 0 ≤ a → a ≤ 1048576 → lastTo a l ≤ 1048576
  | [], a, _, _, h => h
  | s :: l, a, ⟨h1, h2, h3⟩, h0, h => chain_last l s.t h3 (by unfold Str.ok at h2; omega) (by unfold Str.ok at h2; omega)
/-- the hours of right stretches: from 0 to 2 each, few -/
theorem right_hours {l : List Str} (h : (chk l).2 = 0) : (∀ x ∈ hours l, 0 ≤ x ∧ x ≤ 2) ∧ (hours l).length ≤ 1048576 := by
  obtain ⟨hc, _, _⟩ := chk_chain h
  obtain ⟨h1, h2, h3⟩ := chain_hours l _ hc
  refine ⟨h1, ?_⟩
  cases l with
  | nil => simp [hours]
  | cons s l =>
    have hs := hc.2.1
    unfold Str.ok at hs
    have hf : headF (s :: l) = s.f := rfl
    have := chain_last (s :: l) _ hc (by rw [hf]; omega) (by rw [hf]; omega)
    rw [hf] at h2 this
    omega

/-- what a stretch uses in one go -/
theorem fold_rep_zero {F n : Int} (hn : n < F) : ∀ k : Nat, fold F n (List.replicate k 0) = n
  | 0 => rfl
  | k + 1 => by
    have : fold F n (List.replicate (k + 1) 0) = fold F (step F n 0) (List.replicate k 0) := rfl
    have hs : step F n 0 = n := by unfold step; rw [if_neg (by omega)]; omega
    rw [this, hs, fold_rep_zero hn k]
theorem fold_rep {F h : Int} : ∀ (j : Nat) (n : Int), (∀ i : Nat, i < j → n + i * h < F) → fold F n (List.replicate j h) = n + j * h
  | 0, n, _ => by simp [fold]
  | j + 1, n, hb => by
    have e : fold F n (List.replicate (j + 1) h) = fold F (step F n h) (List.replicate j h) := rfl
    have h0 := hb 0 (by omega)
    have hs : step F n h = n + h := by unfold step; rw [if_neg (by simp at h0; omega)]
    rw [e, hs, fold_rep j (n + h) fun i hi => by
      have := hb (i + 1) (by omega)
      have e2 : ((i + 1 : Nat) : Int) * h = i * h + h := by rw [Int.natCast_add, Int.add_mul]; simp
      omega]
    have e2 : ((j + 1 : Nat) : Int) * h = j * h + h := by rw [Int.natCast_add, Int.add_mul]; simp
    omega
end Go.Proofs.Ytlmnbdepklcfpaa
