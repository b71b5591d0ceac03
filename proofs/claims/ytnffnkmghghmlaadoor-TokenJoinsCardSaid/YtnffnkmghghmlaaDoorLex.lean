/- Tokens, plainly: laws of all tokens of a text. No condition. -/
import Derived.Test.YtnffnkmghghmlaaDoorPlain
namespace Go.Proofs.YtnffnkmghghmlaaDoor
set_option linter.unusedVariables false
set_option linter.unusedSimpArgs false
theorem lexF_fuel : ∀ (f g a : Nat) (l : Bs), l.length < f → l.length < g → lexF f a l = lexF g a l
  | 0, g, a, l, h, _ => by omega
  | f + 1, 0, a, l, _, h => by omega
  | f + 1, g + 1, a, l, hf, hg => by
    unfold lexF
    by_cases h1 : l.drop (spanN blI l) = []
    · rw [if_pos h1, if_pos h1]
    rw [if_neg h1, if_neg h1]
    by_cases h2 : (oneL (l.drop (spanN blI l))).err ≠ 0
    · rw [if_pos h2, if_pos h2]
    rw [if_neg h2, if_neg h2]
    have ok := one_ok h1 (by simpa using h2)
    have hl : ((l.drop (spanN blI l)).drop (oneL (l.drop (spanN blI l))).n).length < f := by simp; simp at ok; omega
    have hl' : ((l.drop (spanN blI l)).drop (oneL (l.drop (spanN blI l))).n).length < g := by simp; simp at ok; omega
    rw [lexF_fuel f g _ _ hl hl']
theorem lex_eq (a : Nat) (l : Bs) : lex a l =
    if l.drop (spanN blI l) = [] then ([], a + spanN blI l, 0)
    else if (oneL (l.drop (spanN blI l))).err ≠ 0 then ([], a + spanN blI l, (oneL (l.drop (spanN blI l))).err)
    else (⟨(oneL (l.drop (spanN blI l))).kind, a + spanN blI l, (oneL (l.drop (spanN blI l))).text⟩ :: (lex (a + spanN blI l + (oneL (l.drop (spanN blI l))).n) ((l.drop (spanN blI l)).drop (oneL (l.drop (spanN blI l))).n)).1,
      (lex (a + spanN blI l + (oneL (l.drop (spanN blI l))).n) ((l.drop (spanN blI l)).drop (oneL (l.drop (spanN blI l))).n)).2) := by
  unfold lex
  conv => lhs; unfold lexF
  by_cases h1 : l.drop (spanN blI l) = []
  · rw [if_pos h1, if_pos h1]
  rw [if_neg h1, if_neg h1]
  by_cases h2 : (oneL (l.drop (spanN blI l))).err ≠ 0
  · rw [if_pos h2, if_pos h2]
  rw [if_neg h2, if_neg h2]
  have ok := one_ok h1 (by simpa using h2)
  rw [lexF_fuel l.length (((l.drop (spanN blI l)).drop (oneL (l.drop (spanN blI l))).n).length + 1) _ _ (by simp; simp at ok; omega) (by omega)]
/-- a text's blanks ahead, and the rest -/
theorem lex_end {a : Nat} {l : Bs} (h : l.drop (spanN blI l) = []) : lex a l = ([], a + spanN blI l, 0) := by rw [lex_eq, if_pos h]
theorem lex_bad {a : Nat} {l : Bs} (h : l.drop (spanN blI l) ≠ []) (he : (oneL (l.drop (spanN blI l))).err ≠ 0) : lex a l = ([], a + spanN blI l, (oneL (l.drop (spanN blI l))).err) := by rw [lex_eq, if_neg h, if_pos he]
theorem lex_tok {a : Nat} {l : Bs} (h : l.drop (spanN blI l) ≠ []) (he : (oneL (l.drop (spanN blI l))).err = 0) : lex a l =
    (⟨(oneL (l.drop (spanN blI l))).kind, a + spanN blI l, (oneL (l.drop (spanN blI l))).text⟩ :: (lex (a + spanN blI l + (oneL (l.drop (spanN blI l))).n) ((l.drop (spanN blI l)).drop (oneL (l.drop (spanN blI l))).n)).1,
      (lex (a + spanN blI l + (oneL (l.drop (spanN blI l))).n) ((l.drop (spanN blI l)).drop (oneL (l.drop (spanN blI l))).n)).2) := by rw [lex_eq, if_neg h, if_neg (by simpa using he)]
/-- ways of a text: nothing but blanks; an error; a token and the rest -/
theorem lex_ind {P : Nat → Bs → Prop} (h0 : ∀ a l, l.drop (spanN blI l) = [] → P a l) (h1 : ∀ a l, l.drop (spanN blI l) ≠ [] → (oneL (l.drop (spanN blI l))).err ≠ 0 → P a l)
    (h2 : ∀ a l, l.drop (spanN blI l) ≠ [] → (oneL (l.drop (spanN blI l))).err = 0 → P (a + spanN blI l + (oneL (l.drop (spanN blI l))).n) ((l.drop (spanN blI l)).drop (oneL (l.drop (spanN blI l))).n) → P a l) : ∀ a l, P a l := by
  have : ∀ n a (l : Bs), l.length ≤ n → P a l := by
    intro n
    induction n with
    | zero =>
      intro a l h
      have hl : l = [] := List.length_eq_zero_iff.1 (by omega)
      exact h0 a l (by rw [hl]; rfl)
    | succ n ih =>
      intro a l h
      by_cases g1 : l.drop (spanN blI l) = []
      · exact h0 a l g1
      by_cases g2 : (oneL (l.drop (spanN blI l))).err = 0
      · refine h2 a l g1 g2 (ih _ _ ?_)
        have ok := one_ok g1 g2
        simp at ok ⊢
        omega
      · exact h1 a l g1 g2
  exact fun a l => this l.length a l (Nat.le_refl _)
/-- no more tokens than bytes; the place is within the text -/
theorem lex_len : ∀ a l, (lex a l).1.length ≤ l.length ∧ a ≤ (lex a l).2.1 ∧ (lex a l).2.1 ≤ a + l.length ∧ ((lex a l).2.2 ≠ 0 → (lex a l).2.1 < a + l.length) ∧ ((lex a l).2.2 = 0 → (lex a l).2.1 = a + l.length) := by
  apply lex_ind
  · intro a l h
    rw [lex_end h]
    have := spanN_le (p := blI) l
    have h' : l.length ≤ spanN blI l := by simpa using h
    simp
    omega
  · intro a l h he
    rw [lex_bad h he]
    have := spanN_le (p := blI) l
    have h' : spanN blI l < l.length := by simpa using h
    simp
    refine ⟨by omega, by omega, fun e => absurd e he⟩
  · intro a l h he ih
    rw [lex_tok h he]
    have ok := one_ok h he
    have := spanN_le (p := blI) l
    have h' : spanN blI l < l.length := by simpa using h
    simp only [List.length_drop, List.length_cons] at ih ok ⊢
    obtain ⟨i1, i2, i3, i4, i5⟩ := ih
    refine ⟨by omega, by omega, by omega, fun e => by have := i4 e; omega, fun e => by have := i5 e; omega⟩
/-- a token at another place -/
def mv (d : Nat) (x : Tk) : Tk := ⟨x.kind, x.at_ + d, x.text⟩
theorem lex_mv (d : Nat) : ∀ a l, lex (a + d) l = ((lex a l).1.map (mv d), (lex a l).2.1 + d, (lex a l).2.2) := by
  apply lex_ind
  · intro a l h
    rw [lex_end h, lex_end h]
    simp
    omega
  · intro a l h he
    rw [lex_bad h he, lex_bad h he]
    simp
    omega
  · intro a l h he ih
    rw [lex_tok h he, lex_tok h he]
    rw [show a + d + spanN blI l + (oneL (l.drop (spanN blI l))).n = a + spanN blI l + (oneL (l.drop (spanN blI l))).n + d by omega, ih]
    simp only [List.map_cons, mv]
    congr 3
    omega
/-- a blank behind a text parts it from what follows -/
theorem lex_append (t : Bs) : ∀ a l, (lex a l).2.2 = 0 → ∀ g : Bs, (∀ c ∈ g, on blI c = true) → g.head? = some 32 →
    lex a (l ++ g ++ t) = ((lex a l).1 ++ (lex (a + l.length + g.length) t).1, (lex (a + l.length + g.length) t).2) := by
  -- blanks ahead of a text
  have blanks : ∀ (a : Nat) (b t : Bs), (∀ c ∈ b, on blI c = true) → lex a (b ++ t) = lex (a + b.length) t := by
    intro a b t hb
    have e : spanN blI (b ++ t) = b.length + spanN blI t := by
      refine spanN_eq _ _ (by have := spanN_le (p := blI) t; simp; omega) (fun i c hi hc => ?_) fun c hc => ?_
      · rcases Nat.lt_or_ge i b.length with h | h
        · rw [List.getElem?_append_left h] at hc
          exact hb c (List.mem_of_getElem? hc)
        · rw [List.getElem?_append_right h] at hc
          exact spanN_get t _ c (by omega) hc
      · rw [List.getElem?_append_right (by omega), Nat.add_sub_cancel_left] at hc
        exact spanN_stop t c hc
    have e2 : (b ++ t).drop (spanN blI (b ++ t)) = t.drop (spanN blI t) := by rw [e, List.drop_append]; simp
    rw [lex_eq a (b ++ t), lex_eq (a + b.length) t, e2, e, ← Nat.add_assoc a]
  apply lex_ind
  · intro a l h _ g hg h32
    rw [lex_end h]
    have hl : spanN blI l = l.length := by
      have h' : l.length ≤ spanN blI l := by simpa using h
      have := spanN_le (p := blI) l
      omega
    have hall : ∀ c ∈ l, on blI c = true := fun c hc => by
      obtain ⟨i, hi⟩ := List.mem_iff_getElem?.1 hc
      exact spanN_get l i c (by have := (List.getElem?_eq_some_iff.1 hi).1; omega) hi
    rw [blanks a (l ++ g) t (fun c hc => (List.mem_append.1 hc).elim (hall c) (hg c))]
    simp [Nat.add_assoc]
  · intro a l h he h0
    rw [lex_bad h he] at h0
    exact absurd h0 he
  · intro a l h he ih h0 g hg h32
    rw [lex_tok h he] at h0 ⊢
    have ok := one_ok h he
    have hb := spanN_le (p := blI) l
    have hlt : spanN blI l < l.length := by simpa using h
    obtain ⟨m, hm⟩ : ∃ m, m = l.drop (spanN blI l) := ⟨_, rfl⟩
    have hml : m.length = l.length - spanN blI l := by rw [hm]; simp
    have e1 : spanN blI (l ++ g ++ t) = spanN blI l := by
      rw [List.append_assoc]
      refine spanN_same (fun i hi => List.getElem?_append_left (by omega)) fun c hc => ?_
      rw [List.getElem?_append_left hlt] at hc
      exact spanN_stop l c hc
    have e2 : (l ++ g ++ t).drop (spanN blI (l ++ g ++ t)) = m ++ (g ++ t) := by
      rw [e1, List.append_assoc, List.drop_append_of_le_length hb, hm]
    obtain ⟨g', rfl⟩ : ∃ g', g = 32 :: g' := by
      cases g with
      | nil => simp at h32
      | cons c g => simp at h32; exact ⟨g, by rw [h32]⟩
    rw [← hm] at ok ih h0 he h ⊢
    have e3 : oneL (m ++ (32 :: g' ++ t)) = oneL m := by
      refine one_same h he ?_ ?_
      · rw [List.take_append_of_le_length ok.2.1]
      · rcases Nat.lt_or_ge (oneL m).n m.length with h' | h'
        · left
          exact List.getElem?_append_left h'
        · right; right
          have : (oneL m).n = m.length := by omega
          rw [List.getElem?_append_right h', this]
          simp
    have n1 : (l ++ 32 :: g' ++ t).drop (spanN blI (l ++ 32 :: g' ++ t)) ≠ [] := by rw [e2]; simp
    have n2 : (oneL ((l ++ 32 :: g' ++ t).drop (spanN blI (l ++ 32 :: g' ++ t)))).err = 0 := by rw [e2, e3]; exact he
    rw [lex_tok n1 n2, e2, e3, e1]
    have e4 : (m ++ (32 :: g' ++ t)).drop (oneL m).n = m.drop (oneL m).n ++ 32 :: g' ++ t := by rw [List.drop_append_of_le_length ok.2.1, List.append_assoc]
    rw [e4, ih h0 (32 :: g') hg h32]
    have e5 : a + spanN blI l + (oneL m).n + (m.drop (oneL m).n).length + (32 :: g').length = a + l.length + (32 :: g').length := by
      have := ok.2.1
      simp only [List.length_drop]
      omega
    rw [e5]
    rfl
/-- a token that is just its own text's -/
def Good (k : Int) (t : Bs) : Prop := showL k t ≠ [] ∧ oneL (showL k t) = ⟨k, t, (showL k t).length, 0⟩
theorem one_good {m : Bs} (h : m ≠ []) (he : (oneL m).err = 0) : Good (oneL m).kind (oneL m).text := by
  have ok := one_ok h he
  have e := one_same (x := m.take (oneL m).n) h he (by rw [List.take_take, Nat.min_self]) (.inr (.inl (List.getElem?_eq_none (by rw [List.length_take]; omega))))
  unfold Good
  rw [ok.2.2]
  refine ⟨?_, ?_⟩
  · intro h0
    have := congrArg List.length h0
    simp at this
    have hp : 0 < m.length := List.length_pos_iff.2 h
    rcases this with h | h
    · omega
    · exact absurd h (by assumption)
  · rw [e]
    have : (m.take (oneL m).n).length = (oneL m).n := by rw [List.length_take]; omega
    rw [this]
    rw [← he]
theorem lex_good : ∀ a l, ∀ x ∈ (lex a l).1, Good x.kind x.text := by
  apply lex_ind
  · intro a l h x hx
    rw [lex_end h] at hx
    cases hx
  · intro a l h he x hx
    rw [lex_bad h he] at hx
    cases hx
  · intro a l h he ih x hx
    rw [lex_tok h he] at hx
    simp only [List.mem_cons] at hx
    rcases hx with rfl | hx
    · exact one_good h he
    · exact ih x hx
/-- a blank is no token's beginning -/
theorem one_blank {m : Bs} (h : m ≠ []) (he : (oneL m).err = 0) : spanN blI m = 0 := by
  obtain ⟨c, r, rfl, hc⟩ := head_some h
  unfold spanN
  by_cases hb : on blI c = true
  · exfalso
    have hb' : headC (c :: r) = 32 ∨ headC (c :: r) = 10 := by rw [hc]; simpa [on, blI] using hb
    unfold oneL at he
    rcases hb' with h | h <;>
    · rw [h] at he
      simp [runI, capI, sgI, badO] at he
  · rw [if_neg hb]
/-- tokens, with blanks between -/
def joinL : List (Int × Bs) → Bs
  | [] => []
  | [x] => showL x.1 x.2
  | x :: y :: l => showL x.1 x.2 ++ 32 :: joinL (y :: l)
def kt (x : Tk) : Int × Bs := (x.kind, x.text)
theorem lex_join : ∀ (l : List (Int × Bs)) (a : Nat), (∀ x ∈ l, Good x.1 x.2) → (lex a (joinL l)).2 = (a + (joinL l).length, 0) ∧ (lex a (joinL l)).1.map kt = l
  | [], a, _ => by
    have : lex a ([] : Bs) = ([], a + 0, 0) := lex_end rfl
    simp [joinL, this]
  | [x], a, h => by
    obtain ⟨g1, g2⟩ := h x (by simp)
    have he : (oneL (showL x.1 x.2)).err = 0 := by rw [g2]
    have e0 := one_blank g1 he
    have d0 : (showL x.1 x.2).drop (spanN blI (showL x.1 x.2)) = showL x.1 x.2 := by rw [e0]; rfl
    unfold joinL
    rw [lex_tok (by rw [d0]; exact g1) (by rw [d0]; exact he), d0, g2, e0]
    simp only [List.drop_length]
    have : ∀ b, lex b ([] : Bs) = ([], b + 0, 0) := fun b => lex_end rfl
    simp [this, kt]
  | x :: y :: l, a, h => by
    obtain ⟨g1, g2⟩ := h x (by simp)
    have he : (oneL (showL x.1 x.2)).err = 0 := by rw [g2]
    have e0 := one_blank g1 he
    have d0 : (showL x.1 x.2).drop (spanN blI (showL x.1 x.2)) = showL x.1 x.2 := by rw [e0]; rfl
    have l1 : lex a (showL x.1 x.2) = ([⟨x.1, a, x.2⟩], a + (showL x.1 x.2).length, 0) := by
      rw [lex_tok (by rw [d0]; exact g1) (by rw [d0]; exact he), d0, g2, e0]
      simp only [List.drop_length]
      have : ∀ b, lex b ([] : Bs) = ([], b + 0, 0) := fun b => lex_end rfl
      simp [this]
    have ih := lex_join (y :: l) (a + (showL x.1 x.2).length + 1) (fun z hz => h z (by simp at hz ⊢; exact .inr hz))
    unfold joinL
    have e := lex_append (joinL (y :: l)) a (showL x.1 x.2) (by rw [l1]) [32] (by simp [on, blI]) rfl
    rw [show showL x.1 x.2 ++ 32 :: joinL (y :: l) = showL x.1 x.2 ++ [32] ++ joinL (y :: l) by simp, e, l1]
    refine ⟨?_, ?_⟩
    · rw [show a + (showL x.1 x.2).length + [(32 : UInt8)].length = a + (showL x.1 x.2).length + 1 from rfl, ih.1]
      simp
      omega
    · rw [show a + (showL x.1 x.2).length + [(32 : UInt8)].length = a + (showL x.1 x.2).length + 1 from rfl, List.map_append, ih.2]
      rfl
theorem lex_kt (a b : Nat) (l : Bs) : (lex a l).1.map kt = (lex b l).1.map kt := by
  have h1 := lex_mv a 0 l
  have h2 := lex_mv b 0 l
  rw [Nat.zero_add] at h1 h2
  rw [h1, h2, List.map_map, List.map_map]
  rfl
end Go.Proofs.YtnffnkmghghmlaaDoor
