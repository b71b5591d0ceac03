/- SuretyNever's walk. Condition: where the acts lie; the sizes of the bond's texts. -/
import Derived.Test.YtlmlepdmgopojaaExtendsLaw
import Derived.Maps.OwnOps
import Derived.Maps.Views
namespace Go.Proofs.Ytlmlepdmgopojaa
open Go.RowKit
open Go.Maps (Keyed int_keyed keyOf_int_mk)
set_option linter.unusedVariables false
set_option linter.unusedSimpArgs false
def paidB (l : List Dem) (n : Int) : Bool := decide (0 ≤ n) && match l[n.toNat]? with | some d => decide (d.st = 1) | none => false
def paidSum : List Dem → Int
  | [] => 0
  | d :: l => (if d.st = 1 then d.amt else 0) + paidSum l
theorem paidSum_append (l m : List Dem) : paidSum (l ++ m) = paidSum l + paidSum m := by
  induction l with
  | nil => simp [paidSum]
  | cons d l ih => simp only [List.cons_append, paidSum, ih]; omega
theorem paidSum_le {l : List Dem} (h : ∀ d ∈ l, (1 ≤ d.amt ∧ d.amt ≤ 1099511627776) ∧ (0 ≤ d.day ∧ d.day ≤ 1048576)) : 0 ≤ paidSum l ∧ paidSum l ≤ asked l := by
  induction l with
  | nil => simp [paidSum, asked]
  | cons d l ih =>
    have := ih fun x hx => h x (by simp [hx])
    have := h d (by simp)
    simp only [paidSum, asked]
    by_cases h1 : d.st = 1
    · rw [if_pos h1, if_neg (by omega)]; omega
    · rw [if_neg h1]; split <;> omega
theorem paidSum_set {l : List Dem} : ∀ {n : Nat} {d : Dem} (e : Dem), l[n]? = some d → paidSum (l.set n e) = paidSum l - (if d.st = 1 then d.amt else 0) + (if e.st = 1 then e.amt else 0) := by
  induction l with
  | nil => intro n d e h; simp at h
  | cons x l ih =>
    intro n d e h
    cases n with
    | zero =>
      simp at h
      subst h
      simp only [List.set_cons_zero, paidSum]
      omega
    | succ n =>
      simp only [List.set_cons_succ, paidSum]
      rw [ih e (by simpa using h)]
      omega
theorem paidB_more (l : List Dem) (day sum n : Int) : paidB (l ++ [⟨day, sum, 0⟩]) n = paidB l n := by
  unfold paidB
  congr 1
  rcases Nat.lt_trichotomy n.toNat l.length with h | h | h
  · rw [List.getElem?_append_left h]
  · rw [List.getElem?_append_right (by omega), h]
    simp
  · rw [List.getElem?_append_right (by omega), List.getElem?_eq_none (by simp; omega), List.getElem?_eq_none (by omega)]
theorem paidB_set {l : List Dem} {k : Nat} {d : Dem} (h : l[k]? = some d) (j n : Int) : paidB (setSt l k j) n = if n = k then decide (j = 1) else paidB l n := by
  have hk : k < l.length := (List.getElem?_eq_some_iff.1 h).1
  rw [setSt_some j h]
  unfold paidB
  by_cases hn : n = k
  · subst hn
    rw [if_pos rfl, Int.toNat_natCast, List.getElem?_set_self hk]
    simp
  · rw [if_neg hn]
    by_cases h0 : 0 ≤ n
    · rw [List.getElem?_set_ne (by omega)]
    · rw [decide_eq_false h0]
      simp
theorem paid_keep {s : Sur} {a : Act'} (h : a.kind % 4 ≠ 2 ∨ (s.act a).2.2 ≠ 0) : (∀ n, paidB (s.act a).1.dem n = paidB s.dem n) ∧ paidSum (s.act a).1.dem = paidSum s.dem := by
  rcases (show a.kind % 4 = 0 ∨ a.kind % 4 = 1 ∨ a.kind % 4 = 2 ∨ a.kind % 4 = 3 by omega) with hm | hm | hm | hm
  · rw [act_0 hm]
    by_cases hz : (s.demand a.by_ a.sum a.day).2.2 = 0
    · rw [(demand_yes hz).1]
      exact ⟨fun n => paidB_more _ _ _ _, by show paidSum (s.dem ++ _) = _; rw [paidSum_append]; simp [paidSum]⟩
    · rw [demand_no hz]
      exact ⟨fun _ => rfl, rfl⟩
  · rw [act_1 hm]
    show (∀ n, paidB (s.extend a.n a.day).1.dem n = _) ∧ paidSum (s.extend a.n a.day).1.dem = _
    unfold Sur.extend
    split
    · exact ⟨fun _ => rfl, rfl⟩
    split
    · exact ⟨fun _ => rfl, rfl⟩
    · rename_i h1 h2
      obtain ⟨g1, g2, x, hx, hx0⟩ := open_some (Decidable.not_not.1 h1)
      refine ⟨fun n => ?_, ?_⟩
      · show paidB (setSt s.dem a.n.toNat 2) n = _
        rw [paidB_set hx]
        split
        · rename_i e
          unfold paidB
          rw [e, Int.toNat_natCast, hx]
          simp [hx0]
        · rfl
      · show paidSum (setSt s.dem a.n.toNat 2) = _
        rw [setSt_some 2 hx, paidSum_set _ hx]
        simp [hx0]
  · rw [act_2 hm] at h ⊢
    have h0 : (s.pay a.n).2.2 ≠ 0 := h.resolve_left (by simp [hm])
    have e : s.open_ a.n ≠ 0 := fun e => h0 (by unfold Sur.pay; rw [if_neg (by simp [e])])
    unfold Sur.pay
    rw [if_pos e]
    exact ⟨fun _ => rfl, rfl⟩
  · rw [act_3 hm]
    show (∀ n, paidB (s.reduce a.sum a.day).1.dem n = _) ∧ paidSum (s.reduce a.sum a.day).1.dem = _
    unfold Sur.reduce
    split
    · exact ⟨fun _ => rfl, rfl⟩
    split <;> exact ⟨fun _ => rfl, rfl⟩
theorem paid_pay {s : Sur} {a : Act'} (hm : a.kind % 4 = 2) (h : (s.act a).2.2 = 0) : ∃ (k : Nat) (x : Dem), a.n = k ∧ s.dem[k]? = some x ∧ x.st = 0 ∧ (s.act a).1 = { s with dem := setSt s.dem k 1 } ∧ (s.act a).2.1 = x.amt := by
  rw [act_2 hm] at h ⊢
  have e : s.open_ a.n = 0 := Decidable.byContradiction fun e => by
    unfold Sur.pay at h
    rw [if_pos e] at h
    exact e h
  obtain ⟨g1, g2, x, hx, hx0⟩ := open_some e
  obtain ⟨k, hk⟩ := Int.eq_ofNat_of_zero_le g1
  rw [hk] at hx
  refine ⟨k, x, hk, by simpa using hx, hx0, ?_, ?_⟩
  · unfold Sur.pay
    rw [if_neg (by simp [e]), hk]
    simp
  · unfold Sur.pay
    rw [if_neg (by simp [e]), hk, hx]
    rfl
theorem zeroB (w : World) : (zeroValue 4).run Try.prog w = .ok (.bool false) w := by kernel_rfl
theorem bool_inv {v : Value} {z : DataW Unit × List MemPlace} (h : plainElem (H := Unit) Try.prog 4 v = some z) : ∃ x, v = .bool x ∧ z = (.lit (.bool x), []) := by
  unfold plainElem at h
  rw [Try.underlying4] at h
  cases v <;> simp at h
  exact ⟨_, rfl, h.symm⟩
/-- the law's own map from numbers to bools, looked into -/
theorem look_bool {w : World} {ops : Array Oper} {rest : List Oper} {o : Oper} {a : Act} {Q : Exit → Act → World → Prop}
    (hg : o.guard = none) (m x : Operand) (hop : o.op = Op.lookup 46 m x false) (b n : Nat) (D : DataW Unit)
    (hm : a.eval m = .map (some b)) (hown : w.ownsMap Try.prog 3 (plainElem (H := Unit) Try.prog 4) b n D) (key : Int) (hx : a.eval x = .int .i64 key) (hkey : (Lit.int .i64 key).wf = true) (y : Bool) (hy : D.atKey (.int .i64 key) (.lit (.bool false)) = .lit (.bool y))
    (hK : wpList Try.prog ops Q rest (a.put o.dst (.bool y)) w) : wpList Try.prog ops Q (o :: rest) a w := by
  refine wpList_plain hg fun K' hK' => ?_
  obtain ⟨v, ps, hrun, hv⟩ := hown.lookup (int_keyed Try.underlying3) Try.underlying46 (zeroB w) (plainElem_bool Try.underlying4 false) (keyOf_int_mk Try.underlying3 hkey)
  obtain ⟨c, rfl, hc⟩ := bool_inv hv
  rw [hy] at hc
  have e : y = c := by
    have := congrArg Prod.fst hc
    simpa using this
  subst e
  unfold Oper.wp
  simp [execOp, hop, hm, hx, hrun, Result.andThen]
  exact hK' _ _ hK
/-- the law's memory at an act -/
def NSt (w1 v : World) (mb g : Nat) (s s0 : Sur) (k : Nat) (p : Int) : Prop := ∃ (O : Nat → Prop) (D : DataW Unit), At O v g s ∧ (∀ j, O j → w1.heap.size ≤ j) ∧ ¬ O mb ∧ Below w1.heap.size w1 v ∧ v.ownsMap Try.prog 3 (plainElem (H := Unit) Try.prog 4) mb k D ∧ Maps.IsMap D ∧
  (∀ n : Int, (Lit.int .i64 n).wf = true → D.atKey (.int .i64 n) (.lit (.bool false)) = .lit (.bool (paidB s0.dem n))) ∧ p = paidSum s0.dem
theorem ownsMap_heap {v v' : World} {mb k : Nat} {D : DataW Unit} (h : v.ownsMap Try.prog 3 (plainElem (H := Unit) Try.prog 4) mb k D) (hh : v'.heap[mb]? = v.heap[mb]?) : v'.ownsMap Try.prog 3 (plainElem (H := Unit) Try.prog 4) mb k D := by
  obtain ⟨es, clock, hb, F, hs, hD⟩ := h
  exact ⟨es, clock, hh.trans hb, F, hs, hD⟩
section
variable {w1 v v' : World} {mb g k : Nat} {s s0 : Sur} {p : Int}
theorem NSt.below (h : NSt w1 v mb g s s0 k p) (hb : Below v.heap.size v v') : NSt w1 v' mb g s s0 k p := by
  obtain ⟨O, D, h1, h2, h3, h4, h5, h6⟩ := h
  exact ⟨O, D, h1.below hb, h2, h3, below_trans h4 hb, ownsMap_heap h5 (hb.block mb h5.lt), h6⟩
theorem NSt.frame (h : NSt w1 v mb g s s0 k p) : Below w1.heap.size w1 v := by obtain ⟨_, _, _, _, _, h, _⟩ := h; exact h
theorem NSt.mine (h : NSt w1 v mb g s s0 k p) : Mine w1 v g s := by
  obtain ⟨O, D, h1, h2, h3, h4, _⟩ := h
  exact ⟨O, h1, h2, h4⟩
theorem NSt.turn {s1 : Sur} (h : NSt w1 v mb g s s0 k p) (e1 : ∀ n, paidB s1.dem n = paidB s0.dem n) (e2 : paidSum s1.dem = paidSum s0.dem) : NSt w1 v mb g s s1 k p := by
  obtain ⟨O, D, h1, h2, h3, h4, h5, h6, h7, h8⟩ := h
  exact ⟨O, D, h1, h2, h3, h4, h5, h6, fun n hn => by rw [e1]; exact h7 n hn, by rw [e2]; exact h8⟩
theorem NSt.more (h : NSt w1 v mb g s s0 k p) : NSt w1 v mb g s s0 (k + 1) p := by
  obtain ⟨O, D, h1, h2, h3, h4, h5, h6⟩ := h
  exact ⟨O, D, h1, h2, h3, h4, h5.mono (by omega), h6⟩
theorem do_n (h : NSt w1 v mb g s s0 k p) {K : Nat} (ok : s.ok K) (hK : K < 4096) (a : Act') (wf : a.wf) : Calls Try.prog 13 #[.pointer (some ⟨g, 0, none⟩), actV a] v fun e w' =>
    e = .returned (.tuple #[.int .i64 (s.act a).2.1, .int .i64 (s.act a).2.2]) ∧ NSt w1 w' mb g (s.act a).1 s0 k p := by
  obtain ⟨O, D, h1, h2, h3, h4, h5, h6, h7, h8⟩ := h
  refine (do_any s g v O h1 ok hK a wf).mono fun e w' q => ⟨q.1, ?_⟩
  obtain ⟨O', q1, q2, q3⟩ := q.2
  refine ⟨O', D, q1, fun j hj => ?_, fun hj => ?_, h4.trans (q2.below h4.size h2), ownsMap_heap h5 (q2.block mb h5.lt h3), h6, h7, h8⟩
  · rcases q3 j hj with h | h
    · exact h2 j h
    · exact Nat.le_trans h4.size h
  · rcases q3 mb hj with h | h
    · exact h3 h
    · have := h5.lt; omega
theorem At.small {O : Nat → Prop} (h : At O v g s) : ∃ O', At O' v g s ∧ (∀ j, O' j → O j) ∧ ∀ j, O' j → j < v.heap.size := by
  obtain ⟨C, c, D, d, sa, o1, o2, o3⟩ := h
  refine ⟨fun j => O j ∧ j < v.heap.size, ⟨C, c, D, d, sa, ⟨o1, sa.box.lt⟩, fun k hk => ⟨o2 k hk, (sa.rd.lt hk).2⟩, fun k hk => ⟨o3 k hk, (sa.rc.lt hk).2⟩⟩, fun j hj => hj.1, fun j hj => hj.2⟩
/-- .. with a new box beside it -/
theorem do_x (h : NSt w1 v mb g s s0 k p) {K : Nat} (ok : s.ok K) (hK : K < 4096) (a : Act') (wf : a.wf) : Calls Try.prog 13 #[.pointer (some ⟨g, 0, none⟩), actV a] (v.alloc (.cells a.cells.toArray 37)) fun e w' =>
    e = .returned (.tuple #[.int .i64 (s.act a).2.1, .int .i64 (s.act a).2.2]) ∧ NSt w1 w' mb g (s.act a).1 s0 k p ∧ Blk w' v.heap.size 37 a.cells.toArray := by
  obtain ⟨O, D, h1, h2, h3, h4, h5, h6, h7, h8⟩ := h
  obtain ⟨O1, g1, g2, g3⟩ := h1.small
  have hb : Below v.heap.size v (v.alloc (.cells a.cells.toArray 37)) := (Below.refl _ _).alloc (Nat.le_refl _) _
  have hsz : (v.alloc (.cells a.cells.toArray 37)).heap.size = v.heap.size + 1 := by simp
  refine (do_any s g _ O1 (g1.below hb) ok hK a wf).mono fun e w' q => ⟨q.1, ?_⟩
  obtain ⟨O', q1, q2, q3⟩ := q.2
  have h4' := below_trans h4 hb
  refine ⟨⟨O', D, q1, fun j hj => ?_, fun hj => ?_, h4'.trans (q2.below h4'.size fun j hj => h2 j (g2 j hj)), ownsMap_heap h5 ((q2.block mb (by have := h5.lt; omega) fun hj => h3 (g2 _ hj)).trans (hb.block mb h5.lt)), h6, h7, h8⟩, q2.blk (Blk.new v 37 _) fun hj => by have := g3 _ hj; omega⟩
  · rcases q3 j hj with h | h
    · exact h2 j (g2 j h)
    · have := h4.size; omega
  · rcases q3 mb hj with h | h
    · exact h3 (g2 _ h)
    · have := h5.lt; omega
/-- a demand more is noted as paid -/
theorem NSt.note {O : Nat → Prop} {D : DataW Unit} {x : Dem} {j : Nat} (h1 : At O v g { s0 with dem := setSt s0.dem j 1 }) (h2 : ∀ j, O j → w1.heap.size ≤ j) (h3 : ¬ O mb) (h4 : Below w1.heap.size w1 v) (hmb : w1.heap.size ≤ mb) (h6 : Maps.IsMap D)
    (h7 : ∀ n : Int, (Lit.int .i64 n).wf = true → D.atKey (.int .i64 n) (.lit (.bool false)) = .lit (.bool (paidB s0.dem n))) (h8 : p = paidSum s0.dem) (hx : s0.dem[j]? = some x) (hx0 : x.st = 0) (hwf : (Lit.int .i64 (j : Int)).wf = true)
    (hown : v'.ownsMap Try.prog 3 (plainElem (H := Unit) Try.prog 4) mb (k + 1) (D.put (.int .i64 (j : Int)) (.lit (.bool true)))) (hg : v.grownBy v' (some mb)) :
    NSt w1 v' mb g { s0 with dem := setSt s0.dem j 1 } { s0 with dem := setSt s0.dem j 1 } (k + 1) (p + x.amt) := by
  have hc : Chg (fun i => i = mb) v v' := (Chg.refl _ v).grown hg fun i hi => by cases hi; exact .inl rfl
  refine ⟨O, D.put (.int .i64 (j : Int)) (.lit (.bool true)), h1.chg hc (fun i hi e => h3 (e ▸ hi)), h2, h3, h4.trans (hc.below h4.size fun i hi => by rw [hi]; exact hmb), hown, h6.put _ _, fun n hn => ?_, ?_⟩
  · by_cases e : n = j
    · subst e
      rw [Maps.atKey_put_same h6 (by exact trivial)]
      show _ = DataW.lit (.bool (paidB (setSt s0.dem j 1) j))
      rw [paidB_set hx, if_pos rfl]
      rfl
    · rw [Maps.atKey_put_other (by intro h; injection h with _ h; exact e h), h7 n hn]
      show _ = DataW.lit (.bool (paidB (setSt s0.dem j 1) n))
      rw [paidB_set hx, if_neg e]
  · show p + x.amt = paidSum (setSt s0.dem j 1)
    rw [setSt_some 1 hx, paidSum_set _ hx, h8]
    simp [hx0]
end
end Go.Proofs.Ytlmlepdmgopojaa
