/- A slice of the law's own that is appended to and cut: with all of its array's room, or with none. append's law for it, in a plain list of operations and as a step of a region that draws. No condition. -/
import Derived.Test.YtlmnbdepklcfpaaLib
import Derived.ArgAppend
import Derived.Deep.RegionLawGrows
namespace Go.Proofs.Ytlmnbdepklcfpaa
open Go.RowKit

/-- of old blocks those alone may have turned -/
structure Chg (S : Nat → Prop) (w w' : World) : Prop where
  os : w'.os = w.os
  tape : w'.tape = w.tape
  output : w'.output = w.output
  size : w.heap.size ≤ w'.heap.size
  block : ∀ k, k < w.heap.size → ¬ S k → w'.heap[k]? = w.heap[k]?
theorem Chg.refl (S : Nat → Prop) (w : World) : Chg S w w := ⟨rfl, rfl, rfl, Nat.le_refl _, fun _ _ _ => rfl⟩
theorem Chg.trans {S : Nat → Prop} {a b c : World} (h : Chg S a b) (k : Chg S b c) : Chg S a c :=
  ⟨k.os.trans h.os, k.tape.trans h.tape, k.output.trans h.output, Nat.le_trans h.size k.size, fun i hi hs => (k.block i (Nat.lt_of_lt_of_le hi h.size) hs).trans (h.block i hi hs)⟩
theorem Chg.of_below {S : Nat → Prop} {w w' : World} (h : Below w.heap.size w w') : Chg S w w' := ⟨h.os, h.tape, h.output, h.size, fun k hk _ => h.block k hk⟩
theorem Chg.below {S : Nat → Prop} {w w' : World} {B : Nat} (h : Chg S w w') (hB : B ≤ w.heap.size) (hS : ∀ k, S k → B ≤ k) : Below B w w' :=
  ⟨h.os, h.tape, h.output, h.size, fun k hk => h.block k (by omega) fun hs => by have := hS k hs; omega⟩
theorem Chg.mono {S T : Nat → Prop} {w w' : World} (h : Chg S w w') (hS : ∀ k, k < w.heap.size → S k → T k) : Chg T w w' := ⟨h.os, h.tape, h.output, h.size, fun k hk hn => h.block k hk fun hs => hn (hS k hk hs)⟩
theorem Chg.grown {S : Nat → Prop} {a w w' : World} {row : Option Nat} (h : Chg S a w) (hg : w.grownBy w' row) (hr : ∀ k, row = some k → S k ∨ a.heap.size ≤ k) : Chg S a w' :=
  ⟨hg.os.trans h.os, hg.tape.trans h.tape, hg.output.trans h.output, Nat.le_trans h.size hg.size, fun k hk hs => (hg.block k (Nat.lt_of_lt_of_le hk h.size) fun e => by
    rcases hr k e.symm with h | h
    · exact hs h
    · omega).trans (h.block k hk hs)⟩
theorem Chg.alloc {S : Nat → Prop} {a w : World} (h : Chg S a w) (o : Obj) : Chg S a (w.alloc o) := h.grown (World.grownBy_alloc w o none) (fun _ h => by cases h)
theorem Chg.drew {S : Nat → Prop} {a w : World} (h : Chg S a w) : Chg S a w.drew := ⟨h.os, h.tape, h.output, h.size, h.block⟩
theorem Chg.drewN {S : Nat → Prop} {a w : World} (h : Chg S a w) (n : Nat) : Chg S a (w.drewN n) := ⟨h.os, h.tape, h.output, h.size, h.block⟩
theorem Chg.setCell {S : Nat → Prop} {a w : World} (h : Chg S a w) {p : Addr} (hp : S p.block ∨ a.heap.size ≤ p.block) (u : Value) : Chg S a (w.setCell p u) :=
  ⟨h.os, h.tape, h.output, by simpa [World.setCell] using h.size, fun k hk hs => (Below.heap_setCell w p u k (by
    rintro rfl
    rcases hp with hp | hp
    · exact hs hp
    · omega)).trans (h.block k hk hs)⟩
theorem Chg.cell {S : Nat → Prop} {w w' : World} (h : Chg S w w') {a : Addr} (ha : a.block < w.heap.size) (hs : ¬ S a.block) : w'.cell? a = w.cell? a := World.cell?_of_block (h.block a.block ha hs)
theorem Chg.frozen {S : Nat → Prop} {w w' : World} (h : Chg S w w') {a : Addr} (ha : a.block < w.heap.size) (hs : ¬ S a.block) : w'.frozen? a = w.frozen? a := World.frozen?_of_block (h.block a.block ha hs)
theorem Chg.blk {S : Nat → Prop} {w w' : World} (h : Chg S w w') {g : Nat} {t : TypeId} {cs : Array Value} (hb : Blk w g t cs) (hs : ¬ S g) : Blk w' g t cs := (h.block g hb.lt hs).trans hb

/-- the block of a slice's array -/
def blockOf (A : Option Addr) (k : Nat) : Prop := ∃ a, A = some a ∧ a.block = k

/-- a slice of the law's own, from block B on, of n elements of type e (size cells each), the cells xs: nil; or it begins at the head of an array, with all of that array's room behind it, or with none -/
def Row (w : World) (B e size : Nat) (A : Option Addr) (n c : Nat) (xs : List Value) : Prop :=
  xs.length = n * size ∧ ((A = none ∧ n = 0 ∧ c = 0) ∨ ∃ r cur, A = some ⟨r, 0, none⟩ ∧ B ≤ r ∧ w.heap[r]? = some (.cells cur e (0, 0)) ∧ n ≤ c ∧ c ≤ maxLen ∧ n * size ≤ cur.size ∧ cur.toList.take (n * size) = xs ∧ (cur.size = c * size ∨ c = n))
section
variable {w w' : World} {B e size n c : Nat} {A : Option Addr} {xs : List Value}
theorem Row.nil (w : World) (B e size : Nat) : Row w B e size none 0 0 [] := ⟨by simp, .inl ⟨rfl, rfl, rfl⟩⟩
theorem Row.of_own (h : w.ownsRow B e size (.slice A n c) n xs) : Row w B e size A n c xs := by
  obtain ⟨h1, h2⟩ := h
  refine ⟨h1, ?_⟩
  rcases h2 with ⟨h2, rfl⟩ | ⟨g, cap, cur, hv, hg, hh, hc, hm, hs, ht⟩
  · injection h2 with a b c
    exact .inl ⟨a, rfl, c⟩
  · injection hv with a b c
    subst a c
    exact .inr ⟨g, cur, rfl, hg, hh, hc, hm, by rw [hs]; exact Nat.mul_le_mul_right _ hc, ht, .inl hs⟩
theorem Row.own (h : Row w B e size A n c xs) (hc : A = none ∨ c ≠ n) : w.ownsRow B e size (.slice A n c) n xs := by
  obtain ⟨h1, h2⟩ := h
  refine ⟨h1, ?_⟩
  rcases h2 with ⟨rfl, rfl, rfl⟩ | ⟨r, cur, rfl, hB, hh, hl, hm, hs, ht, hx⟩
  · exact .inl ⟨rfl, rfl⟩
  · rcases hc with hc | hc
    · cases hc
    · rcases hx with hx | hx
      · exact .inr ⟨r, c, cur, rfl, hB, hh, hl, hm, hx, ht⟩
      · exact absurd hx hc
theorem Row.le (h : Row w B e size A n c xs) : n ≤ c := by
  rcases h.2 with ⟨_, rfl, rfl⟩ | ⟨r, cur, _, _, _, hl, _⟩
  · exact Nat.le_refl _
  · exact hl
theorem Row.lt (h : Row w B e size A n c xs) {k : Nat} (hk : blockOf A k) : B ≤ k ∧ k < w.heap.size := by
  obtain ⟨a, rfl, rfl⟩ := hk
  rcases h.2 with ⟨h, _⟩ | ⟨r, cur, h, hB, hh, _⟩
  · cases h
  · cases h
    exact ⟨hB, (Array.getElem?_eq_some_iff.1 hh).1⟩
theorem Row.keep (h : Row w B e size A n c xs) (hk : ∀ k, blockOf A k → w'.heap[k]? = w.heap[k]?) : Row w' B e size A n c xs := by
  refine ⟨h.1, ?_⟩
  rcases h.2 with h2 | ⟨r, cur, rfl, hB, hh, h3⟩
  · exact .inl h2
  · exact .inr ⟨r, cur, rfl, hB, (hk r ⟨_, rfl, rfl⟩).trans hh, h3⟩
theorem Row.chg {S : Nat → Prop} (h : Row w B e size A n c xs) (hc : Chg S w w') (hS : ∀ k, blockOf A k → ¬ S k) : Row w' B e size A n c xs :=
  h.keep fun k hk => hc.block k (h.lt hk).2 (hS k hk)
theorem Row.below (h : Row w B e size A n c xs) (hb : Below w.heap.size w w') : Row w' B e size A n c xs := h.keep fun k hk => hb.block k (h.lt hk).2
theorem Row.alloc (h : Row w B e size A n c xs) (o : Obj) : Row (w.alloc o) B e size A n c xs := h.keep fun k hk => Below.heap_alloc w o k (h.lt hk).2
theorem Row.drew (h : Row w B e size A n c xs) : Row w.drew B e size A n c xs := h
theorem Row.drewN (h : Row w B e size A n c xs) (k : Nat) : Row (w.drewN k) B e size A n c xs := h
theorem Row.setCell (h : Row w B e size A n c xs) {p : Addr} (hp : ¬ blockOf A p.block) (u : Value) : Row (w.setCell p u) B e size A n c xs :=
  h.keep fun k hk => Below.heap_setCell w p u k (by rintro rfl; exact hp hk)
theorem Row.blk_ne {g : Nat} {t : TypeId} {cs : Array Value} (h : Row w B e size A n c xs) (hg : Blk w g t cs) (hne : e ≠ t) : ¬ blockOf A g := by
  rintro ⟨a, rfl, rfl⟩
  rcases h.2 with ⟨h, _⟩ | ⟨r, cur, h, hB, hh, _⟩
  · cases h
  · cases h
    exact Blk.ne_ (t := e) hh hg hne rfl
theorem Row.reads (h : Row w B e size A n c xs) : Reads w w.heap.size size A n xs := by
  refine ⟨h.1, fun hn => ?_⟩
  rcases h.2 with ⟨_, h0, _⟩ | ⟨r, cur, rfl, hB, hh, hl, hm, hs, ht, _⟩
  · omega
  · refine ⟨_, rfl, (Array.getElem?_eq_some_iff.1 hh).1, fun j u hu => ?_⟩
    have h0 : (⟨r, 0, none⟩ : Addr).add j = ⟨r, j, none⟩ := by unfold Addr.add; split <;> simp_all
    rw [h0, Blk.cell (show Blk w r e cur from hh) j, ← Array.getElem?_toList]
    rw [← ht] at hu
    have hj : j < n * size := by
      have := (List.getElem?_eq_some_iff.1 hu).1
      simp at this
      omega
    rwa [List.getElem?_take_of_lt hj] at hu
/-- cut to a beginning, with no room behind -/
theorem Row.cut (h : Row w B e size A n c xs) (m : Nat) (hm : m ≤ n) : Row w B e size A m m (xs.take (m * size)) := by
  have hms : m * size ≤ n * size := Nat.mul_le_mul_right _ hm
  refine ⟨by rw [List.length_take, h.1]; omega, ?_⟩
  rcases h.2 with ⟨rfl, rfl, rfl⟩ | ⟨r, cur, rfl, hB, hh, hl, hmx, hs, ht, _⟩
  · obtain rfl : m = 0 := by omega
    exact .inl ⟨rfl, rfl, rfl⟩
  · refine .inr ⟨r, cur, rfl, hB, hh, Nat.le_refl _, by omega, by omega, ?_, .inr rfl⟩
    rw [← ht, List.take_take, Nat.min_eq_left hms]
end

section
variable {P : Program} (w : World)
theorem run_append_row (B : Nat) (t ty e : TypeId) (i : TypeInfo) (z : Value) (size bytes : Nat) (ht : P.underlying t = some (.slice e)) (hi : P.info? e = some i) (hz : i.zero = some z)
    (hsize : i.size = size) (hby : i.bytes = bytes) (hzs : z.cells.size = size) (hsz : 0 < size)
    (A : Option Addr) (n c : Nat) (xs : List Value) (hrow : Row w B e size A n c xs) (hB : B ≤ w.heap.size)
    (ad : Addr) (m k : Nat) (hm : 0 < m) (news : List Value) (hr : Reads w w.heap.size size (some ad) m news) (h1 : ∀ u ∈ news, u.oneCell' = true)
    (h63 : n + m ≤ maxLen) (hbytes : (n + m) * bytes ≤ 140737488355328) :
    ∃ A' c' w', (Builtin.append_ #[t, t] ty #[.slice A n c, .slice (some ad) m k]).run P w = .ok (.slice A' (n + m) c') w' ∧ Row w' B e size A' (n + m) c' (xs ++ news) ∧ Chg (blockOf A) w w' ∧
      (A' = A ∨ ∀ k, blockOf A' k → w.heap.size ≤ k) := by
  obtain ⟨ad', e', _, hcells⟩ := hr.2 hm
  obtain rfl := Option.some.inj e'
  by_cases hc : A = none ∨ c ≠ n
  · obtain ⟨v', w', hrun, h2, h3, h4⟩ := run_append_any (P := P) w B t ty e i z size bytes ht hi hz hsize hby hzs hsz (.slice A n c) n xs (hrow.own hc) w.heap.size (some ad) m k news hr h1 h63 hbytes hB
    obtain ⟨A', c', rfl, _⟩ := own_form h2
    refine ⟨A', c', w', hrun, Row.of_own h2, ⟨h3.os, h3.tape, h3.output, h3.size, fun j hj hn => h3.block j hj fun hh => hn ?_⟩, ?_⟩
    · cases A with
      | none => simp [Value.ownBlock] at hh
      | some a => exact ⟨a, rfl, by simpa [Value.ownBlock] using hh.symm⟩
    · rcases h4 with h4 | h4
      · left
        rcases h2.2 with ⟨hv, hn⟩ | ⟨g, cap, cur, hv, _⟩
        · omega
        · injection hv with a _ _
          subst a
          cases A with
          | none => simp [Value.ownBlock] at h4
          | some a =>
            have hb : g = a.block := by simpa [Value.ownBlock] using h4
            rcases hrow.2 with ⟨hA, _⟩ | ⟨r, cur', hA, _⟩
            · cases hA
            · cases hA
              rw [hb]
      · right
        rintro j ⟨a, rfl, rfl⟩
        have : a.block = w.heap.size := by simpa [Value.ownBlock] using h4
        omega
  · simp only [not_or, Classical.not_not] at hc
    obtain ⟨hA, rfl⟩ := hc
    rcases hrow.2 with ⟨h, _⟩ | ⟨r, cur, rfl, hBr, hh, _, hmx, hs, htk, _⟩
    · exact absurd h hA
    · have hold : ∀ j u, xs[j]? = some u → w.cell? ((⟨r, 0, none⟩ : Addr).add j) = some u := fun j u hu => by
        have h0 : (⟨r, 0, none⟩ : Addr).add j = ⟨r, j, none⟩ := by unfold Addr.add; split <;> simp_all
        rw [h0, Blk.cell (show Blk w r e cur from hh) j, ← Array.getElem?_toList]
        rw [← htk] at hu
        have hj := (List.getElem?_eq_some_iff.1 hu).1
        rw [List.length_take] at hj
        rwa [List.getElem?_take_of_lt (by omega)] at hu
      obtain ⟨v', w', hrun, r1, r2⟩ := run_append_arg_grows (P := P) w t ty e i z size bytes ht hi hz hsize hby hzs hsz ⟨r, 0, none⟩ c c xs hrow.1 hold ad m k news hr.1 hcells (by omega) h63 hbytes
      obtain ⟨A', c', rfl, _⟩ := own_form r1
      have hr0 := Row.of_own r1
      refine ⟨A', c', w', hrun, ⟨hr0.1, ?_⟩, ⟨r2.os, r2.tape, r2.output, r2.size, fun j hj _ => r2.block j hj (by simp)⟩, .inr fun j hj => (hr0.lt hj).1⟩
      rcases hr0.2 with h | ⟨r', cur', a1, a2, a3⟩
      · exact .inl h
      · exact .inr ⟨r', cur', a1, by omega, a3⟩

theorem wp_append_row {o : Oper} {a : Act} {K : Act → World → Prop} {Q : Exit → Act → World → Prop} (s x : Operand) (t : TypeId)
    (ho : o.op = .call { callee := .builtin .append, args := #[s, x], argTypes := #[t, t] })
    (B : Nat) (e : TypeId) (i : TypeInfo) (z : Value) (size bytes : Nat) (ht : P.underlying t = some (.slice e)) (hi : P.info? e = some i) (hz : i.zero = some z)
    (hsize : i.size = size) (hby : i.bytes = bytes) (hzs : z.cells.size = size) (hsz : 0 < size)
    (A : Option Addr) (n c : Nat) (xs : List Value) (hs : a.eval s = .slice A n c) (hrow : Row w B e size A n c xs) (hB : B ≤ w.heap.size)
    (ad : Addr) (m k : Nat) (hm : 0 < m) (news : List Value) (hx : a.eval x = .slice (some ad) m k) (hr : Reads w w.heap.size size (some ad) m news) (h1 : ∀ u ∈ news, u.oneCell' = true)
    (h63 : n + m ≤ maxLen) (hbytes : (n + m) * bytes ≤ 140737488355328)
    (h : ∀ A' c' w', Row w' B e size A' (n + m) c' (xs ++ news) → Chg (blockOf A) w w' → (A' = A ∨ ∀ k, blockOf A' k → w.heap.size ≤ k) → K (a.put o.dst (.slice A' (n + m) c')) w') : o.wp P a w K Q := by
  obtain ⟨A', c', w', hrun, h2, h3, h4⟩ := run_append_row (P := P) w B t o.type e i z size bytes ht hi hz hsize hby hzs hsz A n c xs hrow hB ad m k hm news hr h1 h63 hbytes
  unfold Oper.wp execOp
  simp only [ho, resolve, invoke, builtin, Sem.run_bind, Sem.run_pure, Result.andThen_ok, List.map_toArray, List.map_cons, List.map_nil, hs, hx, hrun]
  exact h A' c' w' h2 h3 h4

theorem wpList_append_row {ops : Array Oper} {rest : List Oper} {o : Oper} {a : Act} {Q : Exit → Act → World → Prop} (hgd : o.guard = none) (s x : Operand) (t : TypeId)
    (ho : o.op = .call { callee := .builtin .append, args := #[s, x], argTypes := #[t, t] })
    (B : Nat) (e : TypeId) (i : TypeInfo) (z : Value) (size bytes : Nat) (ht : P.underlying t = some (.slice e)) (hi : P.info? e = some i) (hz : i.zero = some z)
    (hsize : i.size = size) (hby : i.bytes = bytes) (hzs : z.cells.size = size) (hsz : 0 < size)
    (A : Option Addr) (n c : Nat) (xs : List Value) (hs : a.eval s = .slice A n c) (hrow : Row w B e size A n c xs) (hB : B ≤ w.heap.size)
    (ad : Addr) (m k : Nat) (hm : 0 < m) (news : List Value) (hx : a.eval x = .slice (some ad) m k) (hr : Reads w w.heap.size size (some ad) m news) (h1 : ∀ u ∈ news, u.oneCell' = true)
    (h63 : n + m ≤ maxLen) (hbytes : (n + m) * bytes ≤ 140737488355328)
    (h : ∀ A' c' w', Row w' B e size A' (n + m) c' (xs ++ news) → Chg (blockOf A) w w' → (A' = A ∨ ∀ k, blockOf A' k → w.heap.size ≤ k) → wpList P ops Q rest (a.put o.dst (.slice A' (n + m) c')) w') : wpList P ops Q (o :: rest) a w :=
  wpList_plain hgd fun _ hK => wp_append_row w s x t ho B e i z size bytes ht hi hz hsize hby hzs hsz A n c xs hs hrow hB ad m k hm news hx hr h1 h63 hbytes fun A' c' w' h2 h3 h4 => hK _ _ (h A' c' w' h2 h3 h4)

theorem step_append_row {ops : Array Oper} {o : Oper} {a : Act} {K : Act → World → Prop} {Q : Exit → Act → World → Prop} {E : Prop} (hgd : o.guard = none) (s x : Operand) (t : TypeId)
    (ho : o.op = .call { callee := .builtin .append, args := #[s, x], argTypes := #[t, t] })
    (B : Nat) (e : TypeId) (i : TypeInfo) (z : Value) (size bytes : Nat) (ht : P.underlying t = some (.slice e)) (hi : P.info? e = some i) (hz : i.zero = some z)
    (hsize : i.size = size) (hby : i.bytes = bytes) (hzs : z.cells.size = size) (hsz : 0 < size)
    (A : Option Addr) (n c : Nat) (xs : List Value) (hs : a.eval s = .slice A n c) (hrow : Row w B e size A n c xs) (hB : B ≤ w.heap.size)
    (ad : Addr) (m k : Nat) (hm : 0 < m) (news : List Value) (hx : a.eval x = .slice (some ad) m k) (hr : Reads w w.heap.size size (some ad) m news) (h1 : ∀ u ∈ news, u.oneCell' = true)
    (h63 : n + m ≤ maxLen) (hbytes : (n + m) * bytes ≤ 140737488355328)
    (h : ∀ A' c' w', Row w' B e size A' (n + m) c' (xs ++ news) → Chg (blockOf A) w w' → (A' = A ∨ ∀ k, blockOf A' k → w.heap.size ≤ k) → K (a.put o.dst (.slice A' (n + m) c')) w') :
    if Region.wanted o (yielded ops a.tmps) = true then Oper.wp P o a w K Q else E := by
  have hw : Region.wanted o (yielded ops a.tmps) = true := by simp [Region.wanted, hgd]
  rw [if_pos hw]
  exact wp_append_row w s x t ho B e i z size bytes ht hi hz hsize hby hzs hsz A n c xs hs hrow hB ad m k hm news hx hr h1 h63 hbytes h
end
end Go.Proofs.Ytlmnbdepklcfpaa
