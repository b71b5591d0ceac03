/- The sureties, plainly: what each act does, and what holds of any acts. No condition. -/
import Derived.Test.YtlmlepdmgopojaaRow
namespace Go.Proofs.Ytlmlepdmgopojaa

/-- a demand -/
structure Dem where
  day : Int
  amt : Int
  st : Int
/-- a reduction -/
structure Cut where
  day : Int
  amt : Int
/-- a bond -/
structure Bnd where
  num : ByteArray
  gua : ByteArray
  for_ : ByteArray
  to_ : ByteArray
  cur : ByteArray
  amt : Int
  exp : Int
/-- a surety -/
structure Sur where
  b : Bnd
  exp : Int
  cuts : List Cut
  dem : List Dem
def eqS (a b : ByteArray) : Bool := a.toList == b.toList
def right (sum day : Int) : Bool := decide (1 ≤ sum ∧ sum ≤ 1099511627776) && decide (0 ≤ day ∧ day ≤ 1048576)
def asked : List Dem → Int
  | [] => 0
  | d :: l => (if d.st = 2 then 0 else d.amt) + asked l
def cutTo (day : Int) : List Cut → Int
  | [] => 0
  | c :: l => (if c.day ≤ day then c.amt else 0) + cutTo day l
def Sur.left (s : Sur) (day : Int) : Int := max (s.b.amt - cutTo day s.cuts - asked s.dem) 0
def Sur.open_ (s : Sur) (n : Int) : Int :=
  if n < 0 ∨ s.dem.length ≤ n then 4 else match s.dem[n.toNat]? with | some d => if d.st = 0 then 0 else 9 | none => 0
def setSt (l : List Dem) (n : Nat) (k : Int) : List Dem := match l[n]? with | some d => l.set n ⟨d.day, d.amt, k⟩ | none => l
def Sur.demand (s : Sur) (by_ : ByteArray) (sum day : Int) : Sur × Int × Int :=
  if eqS by_ s.b.to_ = false then (s, 0, 8)
  else if right sum day = false then (s, 0, 3)
  else if s.exp < day then (s, 0, 11)
  else if s.left day < sum then (s, 0, 10)
  else ({ s with dem := s.dem ++ [⟨day, sum, 0⟩] }, s.dem.length, 0)
def Sur.extend (s : Sur) (n day : Int) : Sur × Int :=
  if s.open_ n ≠ 0 then (s, s.open_ n)
  else if ¬ (s.exp < day ∧ 0 ≤ day ∧ day ≤ 1048576) then (s, 3)
  else ({ s with exp := day, dem := setSt s.dem n.toNat 2 }, 0)
def Sur.pay (s : Sur) (n : Int) : Sur × Int × Int :=
  if s.open_ n ≠ 0 then (s, 0, s.open_ n)
  else ({ s with dem := setSt s.dem n.toNat 1 }, ((s.dem[n.toNat]?).map (·.amt)).getD 0, 0)
def Sur.reduce (s : Sur) (sum day : Int) : Sur × Int :=
  if right sum day = false then (s, 3)
  else if s.b.amt < cutTo 1048576 s.cuts + sum then (s, 10)
  else ({ s with cuts := s.cuts ++ [⟨day, sum⟩] }, 0)
def Sur.expired (s : Sur) (day : Int) : Bool := decide (s.exp < day) && s.dem.all fun d => decide (d.st ≠ 0)
/-- an act -/
structure Act' where
  kind : Int
  by_ : ByteArray
  sum : Int
  day : Int
  n : Int
def Sur.act (s : Sur) (a : Act') : Sur × Int × Int :=
  if a.kind % 4 = 0 then s.demand a.by_ a.sum a.day
  else if a.kind % 4 = 1 then ((s.extend a.n a.day).1, 0, (s.extend a.n a.day).2)
  else if a.kind % 4 = 2 then s.pay a.n
  else ((s.reduce a.sum a.day).1, 0, (s.reduce a.sum a.day).2)
def Sur.acts (s : Sur) : List Act' → Sur
  | [] => s
  | a :: l => (s.act a).1.acts l
def upc (l : List UInt8) : Bool := l.all fun c => decide (65 ≤ c.toNat ∧ c.toNat ≤ 90)
/-- what holds of each surety that a bond that may be begins -/
structure Sur.ok (s : Sur) (k : Nat) : Prop where
  amt : 1 ≤ s.b.amt ∧ s.b.amt ≤ 1099511627776
  exp : 0 ≤ s.exp ∧ s.exp ≤ 1048576
  dl : s.dem.length ≤ k
  cl : s.cuts.length ≤ k
  dok : ∀ d ∈ s.dem, (1 ≤ d.amt ∧ d.amt ≤ 1099511627776) ∧ (0 ≤ d.day ∧ d.day ≤ 1048576)
  cok : ∀ c ∈ s.cuts, (1 ≤ c.amt ∧ c.amt ≤ 1099511627776) ∧ (0 ≤ c.day ∧ c.day ≤ 1048576)
  most : asked s.dem ≤ s.b.amt
theorem asked_append (l m : List Dem) : asked (l ++ m) = asked l + asked m := by
  induction l with
  | nil => simp [asked]
  | cons d l ih => simp only [List.cons_append, asked, ih]; omega
theorem cutTo_append (n : Int) (l m : List Cut) : cutTo n (l ++ m) = cutTo n l + cutTo n m := by
  induction l with
  | nil => simp [cutTo]
  | cons d l ih => simp only [List.cons_append, cutTo, ih]; omega
theorem asked_nn {l : List Dem} (h : ∀ d ∈ l, (1 ≤ d.amt ∧ d.amt ≤ 1099511627776) ∧ (0 ≤ d.day ∧ d.day ≤ 1048576)) : 0 ≤ asked l ∧ asked l ≤ 1099511627776 * l.length := by
  induction l with
  | nil => simp [asked]
  | cons d l ih =>
    have := ih fun x hx => h x (by simp [hx])
    have := h d (by simp)
    simp only [asked, List.length_cons]
    split <;> omega
theorem cutTo_nn {l : List Cut} (n : Int) (h : ∀ d ∈ l, (1 ≤ d.amt ∧ d.amt ≤ 1099511627776) ∧ (0 ≤ d.day ∧ d.day ≤ 1048576)) : 0 ≤ cutTo n l ∧ cutTo n l ≤ 1099511627776 * l.length := by
  induction l with
  | nil => simp [cutTo]
  | cons d l ih =>
    have := ih fun x hx => h x (by simp [hx])
    have := h d (by simp)
    simp only [cutTo, List.length_cons]
    split <;> omega
theorem asked_take {l : List Dem} {k : Nat} {d : Dem} (h : l[k]? = some d) : asked (l.take (k + 1)) = asked (l.take k) + (if d.st = 2 then 0 else d.amt) := by
  rw [List.take_add_one, h, asked_append]
  simp [asked]
theorem cutTo_take {l : List Cut} {k : Nat} {d : Cut} (n : Int) (h : l[k]? = some d) : cutTo n (l.take (k + 1)) = cutTo n (l.take k) + (if d.day ≤ n then d.amt else 0) := by
  rw [List.take_add_one, h, cutTo_append]
  simp [cutTo]
theorem setSt_len (l : List Dem) (n : Nat) (k : Int) : (setSt l n k).length = l.length := by unfold setSt; split <;> simp
theorem setSt_some {l : List Dem} {n : Nat} {d : Dem} (k : Int) (h : l[n]? = some d) : setSt l n k = l.set n ⟨d.day, d.amt, k⟩ := by unfold setSt; rw [h]
theorem asked_set {l : List Dem} : ∀ {n : Nat} {d : Dem} (e : Dem), l[n]? = some d → asked (l.set n e) = asked l - (if d.st = 2 then 0 else d.amt) + (if e.st = 2 then 0 else e.amt) := by
  induction l with
  | nil => intro n d e h; simp at h
  | cons x l ih =>
    intro n d e h
    cases n with
    | zero =>
      simp at h
      subst h
      simp only [List.set_cons_zero, asked]
      omega
    | succ n =>
      simp only [List.set_cons_succ, asked]
      rw [ih e (by simpa using h)]
      omega
theorem right_iff {sum day : Int} : right sum day = true ↔ (1 ≤ sum ∧ sum ≤ 1099511627776) ∧ (0 ≤ day ∧ day ≤ 1048576) := by unfold right; simp
theorem Sur.ok.mono {s : Sur} {k m : Nat} (h : s.ok k) (hk : k ≤ m) : s.ok m := ⟨h.amt, h.exp, by have := h.dl; omega, by have := h.cl; omega, h.dok, h.cok, h.most⟩
theorem open_some {s : Sur} {n : Int} (h : s.open_ n = 0) : 0 ≤ n ∧ n < s.dem.length ∧ ∃ d, s.dem[n.toNat]? = some d ∧ d.st = 0 := by
  unfold Sur.open_ at h
  split at h
  · cases h
  · rename_i hn
    have hl : n.toNat < s.dem.length := by omega
    rw [List.getElem?_eq_getElem hl] at h ⊢
    refine ⟨by omega, by omega, _, rfl, ?_⟩
    simp only at h
    split at h
    · assumption
    · cases h
theorem Sur.ok.demand {s : Sur} {k : Nat} (h : s.ok k) (by_ : ByteArray) (sum day : Int) : (s.demand by_ sum day).1.ok (k + 1) := by
  unfold Sur.demand
  split
  · exact h.mono (by omega)
  split
  · exact h.mono (by omega)
  split
  · exact h.mono (by omega)
  split
  · exact h.mono (by omega)
  · rename_i h1 h2 h3 h4
    have hr := right_iff.1 (by simpa using h2)
    refine ⟨h.amt, h.exp, by have := h.dl; simp; omega, by have := h.cl; simp; omega, ?_, h.cok, ?_⟩
    · intro d hd
      simp only [List.mem_append, List.mem_singleton] at hd
      rcases hd with hd | rfl
      · exact h.dok d hd
      · exact hr
    · show asked (s.dem ++ [_]) ≤ _
      rw [asked_append]
      have := cutTo_nn day h.cok
      unfold Sur.left at h4
      simp [asked]
      omega
theorem Sur.ok.setSt_ {s : Sur} {k : Nat} (h : s.ok k) {n : Nat} {d : Dem} (hd : s.dem[n]? = some d) (h0 : d.st = 0) (j : Int) (e : Int) (he : 0 ≤ e ∧ e ≤ 1048576) : Sur.ok { s with exp := e, dem := setSt s.dem n j } k := by
  have hm := List.mem_of_getElem? hd
  refine ⟨h.amt, he, by rw [setSt_len]; exact h.dl, h.cl, ?_, h.cok, ?_⟩
  · intro x hx
    simp only [setSt_some j hd] at hx
    rcases List.mem_or_eq_of_mem_set hx with hx | rfl
    · exact h.dok x hx
    · exact h.dok d hm
  · show asked (setSt s.dem n j) ≤ _
    rw [setSt_some j hd, asked_set _ hd]
    have := h.most
    have := h.dok d hm
    simp [h0]
    split <;> omega
theorem Sur.ok.extend {s : Sur} {k : Nat} (h : s.ok k) (n day : Int) : (s.extend n day).1.ok k := by
  unfold Sur.extend
  split
  · exact h
  split
  · exact h
  · rename_i h1 h2
    obtain ⟨_, _, d, hd, h0⟩ := open_some (Decidable.not_not.1 h1)
    exact h.setSt_ hd h0 2 day (Decidable.not_not.1 h2).2
theorem Sur.ok.pay {s : Sur} {k : Nat} (h : s.ok k) (n : Int) : (s.pay n).1.ok k := by
  unfold Sur.pay
  split
  · exact h
  · rename_i h1
    obtain ⟨_, _, d, hd, h0⟩ := open_some (Decidable.not_not.1 h1)
    exact h.setSt_ hd h0 1 s.exp h.exp
theorem Sur.ok.reduce {s : Sur} {k : Nat} (h : s.ok k) (sum day : Int) : (s.reduce sum day).1.ok (k + 1) := by
  unfold Sur.reduce
  split
  · exact h.mono (by omega)
  split
  · exact h.mono (by omega)
  · rename_i h1 h2
    have hr := right_iff.1 (by simpa using h1)
    refine ⟨h.amt, h.exp, by have := h.dl; simp; omega, by have := h.cl; simp; omega, h.dok, ?_, h.most⟩
    intro c hc
    simp only [List.mem_append, List.mem_singleton] at hc
    rcases hc with hc | rfl
    · exact h.cok c hc
    · exact hr
theorem Sur.ok.act {s : Sur} {k : Nat} (h : s.ok k) (a : Act') : (s.act a).1.ok (k + 1) := by
  unfold Sur.act
  split
  · exact h.demand _ _ _
  split
  · exact (h.extend _ _).mono (by omega)
  split
  · exact (h.pay _).mono (by omega)
  · exact h.reduce _ _
theorem acts_take (s : Sur) (l : List Act') (k : Nat) (a : Act') (h : l[k]? = some a) : s.acts (l.take (k + 1)) = ((s.acts (l.take k)).act a).1 := by
  induction l generalizing s k with
  | nil => simp at h
  | cons x l ih =>
    cases k with
    | zero => simp at h; subst h; simp [Sur.acts]
    | succ k =>
      have := ih (s.act x).1 k (by simpa using h)
      simpa [Sur.acts] using this
theorem Sur.ok.acts {s : Sur} {k : Nat} (h : s.ok k) (l : List Act') : (s.acts l).ok (k + l.length) := by
  induction l generalizing s k with
  | nil => exact h
  | cons a l ih =>
    have := ih (h.act a)
    simp only [Sur.acts, List.length_cons]
    exact this.mono (by omega)
end Go.Proofs.Ytlmlepdmgopojaa
