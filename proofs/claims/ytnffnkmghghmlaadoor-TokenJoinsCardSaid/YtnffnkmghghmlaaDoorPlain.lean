/- Tokens, plainly: what a text's tokens are. No condition. -/
import Derived.Test.YtnffnkmghghmlaaDoorLib
namespace Go.Proofs.YtnffnkmghghmlaaDoor
set_option linter.unusedVariables false
set_option linter.unusedSimpArgs false
abbrev Bs := List UInt8
def blI (c : Int) : Bool := decide (c = 32 ∨ c = 10)
def digI (c : Int) : Bool := decide (48 ≤ c ∧ c ≤ 57)
def runI (c : Int) : Bool := decide ((97 ≤ c ∧ c ≤ 122) ∨ (48 ≤ c ∧ c ≤ 57) ∨ c = 45)
def capI (c : Int) : Bool := decide (65 ≤ c ∧ c ≤ 90)
def plI (c : Int) : Bool := decide (32 ≤ c ∧ c ≤ 126 ∧ c ≠ 34)
def sgI (c : Int) : Bool := decide (c = 40 ∨ c = 41 ∨ c = 44 ∨ c = 59 ∨ c = 58 ∨ c = 46 ∨ c = 61 ∨ c = 126)
def on (p : Int → Bool) (c : UInt8) : Bool := p c.toNat
def spanN (p : Int → Bool) : Bs → Nat
  | [] => 0
  | c :: l => if on p c = true then spanN p l + 1 else 0
section
variable {p : Int → Bool}
theorem spanN_le : ∀ l : Bs, spanN p l ≤ l.length
  | [] => Nat.le_refl _
  | c :: l => by
    have := spanN_le l
    unfold spanN
    split
    · simp; omega
    · simp
theorem spanN_get : ∀ (l : Bs) (i : Nat) (c : UInt8), i < spanN p l → l[i]? = some c → on p c = true
  | [], i, c, h, _ => by simp [spanN] at h
  | d :: l, i, c, h, hc => by
    unfold spanN at h
    split at h
    next hd =>
      cases i with
      | zero => simp at hc; subst hc; exact hd
      | succ i => exact spanN_get l i c (by omega) (by simpa using hc)
    next => omega
theorem spanN_stop : ∀ (l : Bs) (c : UInt8), l[spanN p l]? = some c → on p c = false
  | [], c, h => by simp [spanN] at h
  | d :: l, c, h => by
    unfold spanN at h
    split at h
    next hd => exact spanN_stop l c (by simpa using h)
    next hd => simp at h; subst h; simpa using hd
theorem spanN_eq : ∀ (l : Bs) (k : Nat), k ≤ l.length → (∀ i c, i < k → l[i]? = some c → on p c = true) → (∀ c, l[k]? = some c → on p c = false) → spanN p l = k
  | [], k, h, _, _ => by simp at h; simp [spanN, h]
  | d :: l, 0, _, _, h => by
    have := h d (by simp)
    simp [spanN, this]
  | d :: l, k + 1, h, h1, h2 => by
    have hd := h1 0 d (by omega) (by simp)
    unfold spanN
    rw [if_pos hd, spanN_eq l k (by simpa using h) (fun i c hi hc => h1 (i + 1) c (by omega) (by simpa using hc)) (fun c hc => h2 c (by simpa using hc))]
/-- the same front and the same stop: the same span -/
theorem spanN_same {l x : Bs} (h : ∀ i, i < spanN p l → x[i]? = l[i]?) (hs : ∀ c, x[spanN p l]? = some c → on p c = false) : spanN p x = spanN p l := by
  refine spanN_eq x _ ?_ (fun i c hi hc => spanN_get l i c hi ((h i hi).symm.trans hc)) hs
  rcases Nat.lt_or_ge x.length (spanN p l) with hlt | hge
  · have h1 := h x.length hlt
    rw [List.getElem?_eq_none (Nat.le_refl _)] at h1
    have h2 := spanN_le (p := p) l
    rw [List.getElem?_eq_getElem (by omega)] at h1
    cases h1
  · exact hge
theorem spanN_all {l : Bs} (h : ∀ c ∈ l, on p c = true) : spanN p l = l.length :=
  spanN_eq l _ (Nat.le_refl _) (fun i c _ hc => h c (List.mem_of_getElem? hc)) (fun c hc => by simp at hc)
end
def valOf (l : Bs) : Nat := l.foldl (fun n c => n * 10 + (c.toNat - 48)) 0
def amtC (l : Bs) : Int := if 1 < l.length ∧ l.head? = some 48 then 2 else if 1099511627776 < valOf l then 3 else 0
def tbl : List Bs := [[97, 98, 111, 118, 101], [97, 108, 108], [97, 110, 100], [97, 110, 121], [97, 112, 112, 108, 105, 99, 97, 110, 116], [98, 101, 108, 111, 119], [98, 101, 110, 101, 102, 105, 99, 105, 97, 114, 121], [99, 104, 97, 110, 103, 101], [99, 111, 110, 102, 105, 114, 109, 101, 114], [99, 111, 112, 105, 101, 115], [99, 114, 101, 100, 105, 116], [100, 97, 121, 115], [100, 114, 97, 102, 116], [101, 120, 112, 105, 114, 121], [102, 114, 111, 109], [105, 110, 115, 117, 114, 97, 110, 99, 101], [105, 110, 118, 111, 105, 99, 101], [105, 115, 115, 117, 101, 114], [108, 97, 100, 105, 110, 103], [108, 97, 116, 101, 115, 116], [110, 111], [110, 111, 116], [111, 102], [111, 114], [111, 114, 105, 103, 105, 110], [112, 97, 99, 107, 105, 110, 103], [112, 97, 114, 116, 105, 97, 108], [115, 105, 103, 104, 116], [115, 117, 109], [116, 101, 110, 111, 114], [116, 111], [119, 97, 110, 116, 115], [119, 105, 116, 104], [119, 105, 116, 104, 105, 110], [121, 101, 115]]
def runC (t : Bs) : Int × Int :=
  if spanN digI t = t.length then (2, amtC t) else if tbl.contains t = true then (0, 0) else if t.length ≤ 16 then (1, 0) else (1, 2)
/-- the token that a text begins with: its kind, its text, how many bytes it has; the error -/
structure One where
  kind : Int
  text : Bs
  n : Nat
  err : Int
def badO : One := ⟨0, [], 0, 2⟩
def headC (m : Bs) : Int := (m.headD 0).toNat
def oneL (m : Bs) : One :=
  if runI (headC m) = true then ⟨(runC (m.take (spanN runI m))).1, m.take (spanN runI m), spanN runI m, (runC (m.take (spanN runI m))).2⟩
  else if capI (headC m) = true then (if spanN capI m = 3 then ⟨4, m.take 3, 3, 0⟩ else badO)
  else if headC m = 34 then (if m.tail[spanN plI m.tail]? = some 34 then ⟨3, m.tail.take (spanN plI m.tail), spanN plI m.tail + 2, 0⟩ else badO)
  else if sgI (headC m) = true then ⟨5, m.take 1, 1, 0⟩
  else if (headC m = 60 ∨ headC m = 62) ∧ m[1]? = some 61 then ⟨5, m.take 2, 2, 0⟩
  else badO
/-- a token as it stands in a text -/
def showL (k : Int) (t : Bs) : Bs := if k = 3 then 34 :: (t ++ [34]) else t
/-- a token -/
structure Tk where
  kind : Int
  at_ : Nat
  text : Bs
/-- all tokens of a text that begins at a place; the place where it ends, or goes wrong; the error -/
def lexF : Nat → Nat → Bs → List Tk × Nat × Int
  | 0, a, _ => ([], a, 0)
  | f + 1, a, l =>
    if l.drop (spanN blI l) = [] then ([], a + spanN blI l, 0)
    else if (oneL (l.drop (spanN blI l))).err ≠ 0 then ([], a + spanN blI l, (oneL (l.drop (spanN blI l))).err)
    else (⟨(oneL (l.drop (spanN blI l))).kind, a + spanN blI l, (oneL (l.drop (spanN blI l))).text⟩ :: (lexF f (a + spanN blI l + (oneL (l.drop (spanN blI l))).n) ((l.drop (spanN blI l)).drop (oneL (l.drop (spanN blI l))).n)).1,
      (lexF f (a + spanN blI l + (oneL (l.drop (spanN blI l))).n) ((l.drop (spanN blI l)).drop (oneL (l.drop (spanN blI l))).n)).2)
def lex (a : Nat) (l : Bs) : List Tk × Nat × Int := lexF (l.length + 1) a l
/-- as it is told -/
def scan (s : Bs) : List Tk × Nat × Int := if (lex 0 s).2.2 = 0 then lex 0 s else ([], (lex 0 s).2)
theorem head_some {m : Bs} (h : m ≠ []) : ∃ c r, m = c :: r ∧ headC m = c.toNat := by
  cases m with
  | nil => exact absurd rfl h
  | cons c r => exact ⟨c, r, rfl, rfl⟩
/-- what a token without error is -/
theorem one_ok {m : Bs} (h : m ≠ []) (he : (oneL m).err = 0) : 1 ≤ (oneL m).n ∧ (oneL m).n ≤ m.length ∧ showL (oneL m).kind (oneL m).text = m.take (oneL m).n := by
  obtain ⟨c, r, rfl, hc⟩ := head_some h
  unfold oneL at he ⊢
  by_cases h1 : runI (headC (c :: r)) = true
  · rw [if_pos h1] at he ⊢
    have hs : 1 ≤ spanN runI (c :: r) := by
      unfold spanN
      rw [if_pos (by rw [hc] at h1; exact h1)]
      omega
    refine ⟨hs, spanN_le _, ?_⟩
    have hk : (runC ((c :: r).take (spanN runI (c :: r)))).1 ≠ 3 := by
      unfold runC
      repeat' split
      all_goals simp
    unfold showL
    simp only
    rw [if_neg hk]
  rw [if_neg h1] at he ⊢
  by_cases h2 : capI (headC (c :: r)) = true
  · rw [if_pos h2] at he ⊢
    by_cases h3 : spanN capI (c :: r) = 3
    · rw [if_pos h3] at he ⊢
      have := spanN_le (p := capI) (c :: r)
      exact ⟨by simp, by simp only; omega, rfl⟩
    · rw [if_neg h3] at he
      cases he
  rw [if_neg h2] at he ⊢
  by_cases h3 : headC (c :: r) = 34
  · rw [if_pos h3] at he ⊢
    by_cases h4 : (c :: r).tail[spanN plI (c :: r).tail]? = some 34
    · rw [if_pos h4] at he ⊢
      simp only [List.tail_cons] at h4 ⊢
      have hlt : spanN plI r < r.length := (List.getElem?_eq_some_iff.1 h4).1
      refine ⟨by omega, by simp; omega, ?_⟩
      unfold showL
      rw [if_pos rfl]
      have hc34 : c = 34 := by
        rw [h3] at hc
        exact UInt8.toNat_inj.1 (by have : (34 : UInt8).toNat = 34 := rfl; omega)
      rw [show spanN plI r + 2 = (spanN plI r + 1) + 1 from rfl, List.take_succ_cons, hc34]
      congr 1
      rw [List.take_add_one, h4]
      rfl
    · rw [if_neg h4] at he
      cases he
  rw [if_neg h3] at he ⊢
  by_cases h4 : sgI (headC (c :: r)) = true
  · rw [if_pos h4] at he ⊢
    exact ⟨by simp, by simp, rfl⟩
  rw [if_neg h4] at he ⊢
  by_cases h5 : (headC (c :: r) = 60 ∨ headC (c :: r) = 62) ∧ (c :: r)[1]? = some 61
  · rw [if_pos h5] at he ⊢
    have := (List.getElem?_eq_some_iff.1 h5.2).1
    exact ⟨by simp, by simp only; omega, rfl⟩
  · rw [if_neg h5] at he
    cases he
theorem take_get {x m : Bs} {n i : Nat} (h : x.take n = m.take n) (hi : i < n) : x[i]? = m[i]? := by
  have := congrArg (·[i]?) h
  simpa [List.getElem?_take, hi] using this
theorem head_take {x m : Bs} {n : Nat} (h : x.take n = m.take n) (hn : 0 < n) : headC x = headC m := by
  have h0 := take_get h hn
  unfold headC
  cases x with
  | nil => cases m with
    | nil => rfl
    | cons d m => simp at h0
  | cons c x => cases m with
    | nil => simp at h0
    | cons d m => simp at h0; subst h0; rfl
/-- a token is told by its own bytes and by what stands right behind it -/
theorem one_same {m x : Bs} (h : m ≠ []) (he : (oneL m).err = 0) (hx : x.take (oneL m).n = m.take (oneL m).n) (hs : x[(oneL m).n]? = m[(oneL m).n]? ∨ x[(oneL m).n]? = none ∨ x[(oneL m).n]? = some 32) : oneL x = oneL m := by
  have ok := one_ok h he
  have hh := head_take hx (by omega)
  have span_of : ∀ p : Int → Bool, p 32 = false → (oneL m).n = spanN p m → spanN p x = spanN p m := by
    intro p p32 hn
    rw [hn] at hx hs
    refine spanN_same (fun i hi => take_get hx hi) fun c hc => ?_
    rcases hs with h | h | h
    · rw [h] at hc
      exact spanN_stop m c hc
    · rw [h] at hc
      cases hc
    · rw [h] at hc
      cases hc
      exact p32
  unfold oneL at he hx hs ok span_of ⊢
  rw [hh]
  by_cases h1 : runI (headC m) = true
  · simp only [if_pos h1] at he hx hs span_of ⊢
    rw [span_of runI rfl rfl, hx]
  simp only [if_neg h1] at he hx hs ok span_of ⊢
  by_cases h2 : capI (headC m) = true
  · simp only [if_pos h2] at he hx hs ok span_of ⊢
    by_cases h3 : spanN capI m = 3
    · simp only [if_pos h3] at he hx hs span_of ⊢
      rw [span_of capI rfl h3.symm, if_pos h3, hx]
    · rw [if_neg h3] at he
      cases he
  simp only [if_neg h2] at he hx hs ok span_of ⊢
  by_cases h3 : headC m = 34
  · simp only [if_pos h3] at he hx hs ok span_of ⊢
    by_cases h4 : m.tail[spanN plI m.tail]? = some 34
    · simp only [if_pos h4] at he hx hs span_of ⊢
      have hg : ∀ i, i ≤ spanN plI m.tail → x.tail[i]? = m.tail[i]? := fun i hi => by
        have := take_get (i := i + 1) hx (by omega)
        rw [List.getElem?_tail, List.getElem?_tail]
        exact this
      have e1 : spanN plI x.tail = spanN plI m.tail := by
        refine spanN_same (fun i hi => hg i (by omega)) fun c hc => ?_
        rw [hg _ (Nat.le_refl _), h4] at hc
        cases hc
        rfl
      rw [e1, hg _ (Nat.le_refl _), if_pos h4]
      congr 1
      apply List.ext_getElem?
      intro i
      rw [List.getElem?_take, List.getElem?_take]
      split
      · exact hg i (by omega)
      · rfl
    · rw [if_neg h4] at he
      cases he
  simp only [if_neg h3] at he hx hs ok span_of ⊢
  by_cases h4 : sgI (headC m) = true
  · simp only [if_pos h4] at he hx hs span_of ⊢
    rw [hx]
  simp only [if_neg h4] at he hx hs ok span_of ⊢
  by_cases h5 : (headC m = 60 ∨ headC m = 62) ∧ m[1]? = some 61
  · simp only [if_pos h5] at he hx hs span_of ⊢
    have := take_get (i := 1) hx (by omega)
    rw [this, if_pos h5, hx]
  · rw [if_neg h5] at he
    cases he
end Go.Proofs.YtnffnkmghghmlaaDoor
