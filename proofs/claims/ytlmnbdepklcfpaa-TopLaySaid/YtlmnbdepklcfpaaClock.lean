/- Laytime's clock, plainly: what it uses is what the hours use; when it expires; cuts; money. No program. No condition. -/
import Derived.Test.YtlmnbdepklcfpaaPlain
namespace Go.Proofs.Ytlmnbdepklcfpaa
set_option linter.unusedVariables false

/-- what is used, and from which hour on nothing is free -/
structure Clk where
  used : Int
  out : Int
def Clk.over (F : Int) (c : Clk) (hour : Int) : Clk := if c.used < F then c else if c.out < 0 then ⟨c.used, hour⟩ else c
def freeH (F n : Int) (s : Str) : Int := if 0 < s.h then min (s.t - s.f) ((F - n + s.h - 1) / s.h) else s.t - s.f
def Clk.free (F : Int) (c : Clk) (s : Str) : Int := if c.used < F then freeH F c.used s else 0
def Clk.mid (F : Int) (c : Clk) (s : Str) : Clk := ⟨c.used + c.free F s * s.h, (c.over F s.f).out⟩
def Clk.take (F : Int) (c : Clk) (s : Str) : Clk :=
  ⟨if (c.mid F s).used < F then (c.mid F s).used else (c.mid F s).used + 2 * (s.t - s.f - c.free F s), ((c.mid F s).over F (s.f + c.free F s)).out⟩
theorem over_used (F : Int) (c : Clk) (h : Int) : (c.over F h).used = c.used := by
  unfold Clk.over
  split
  · rfl
  · split <;> rfl
def Clk.run (F : Int) (l : List Str) : Clk := l.foldl (Clk.take F) ⟨0, -1⟩
theorem fold_rep_nat {F h : Int} {n : Int} {j : Nat} {x : Int} (hx : (j : Int) * h = x) (hb : ∀ i : Nat, i < j → n + i * h < F) : fold F n (List.replicate j h) = n + x := by rw [fold_rep j n hb, hx]
/-- the free hours of a stretch: as long as something is free -/
theorem free_facts {F n : Int} {s : Str} (hs : s.ok) (hn : n < F) : ∃ j : Nat, freeH F n s = j ∧ (j : Int) ≤ s.t - s.f ∧ (∀ i : Nat, i < j → n + i * s.h < F) ∧ ((j : Int) = s.t - s.f ∨ F ≤ n + j * s.h) := by
  obtain ⟨h1, h2, h3, h4, h5⟩ := hs
  unfold freeH
  rcases (show s.h = 0 ∨ s.h = 1 ∨ s.h = 2 by omega) with h | h | h
  · rw [h, if_neg (by omega)]
    exact ⟨(s.t - s.f).toNat, by omega, by omega, fun i _ => by omega, .inl (by omega)⟩
  · rw [h, if_pos (by omega)]
    exact ⟨(min (s.t - s.f) ((F - n + 1 - 1) / 1)).toNat, by omega, by omega, fun i hi => by omega, by omega⟩
  · rw [h, if_pos (by omega)]
    exact ⟨(min (s.t - s.f) ((F - n + 2 - 1) / 2)).toNat, by omega, by omega, fun i hi => by omega, by omega⟩
theorem hrs_len {s : Str} (hs : s.ok) : ((hrs s).length : Int) = s.t - s.f ∧ 0 < (hrs s).length := by
  unfold Str.ok at hs
  unfold hrs
  rw [List.length_replicate]
  omega
theorem take_used {F : Int} {c : Clk} {s : Str} (hs : s.ok) : (c.take F s).used = fold F c.used (hrs s) := by
  have hl := hrs_len hs
  unfold Clk.take Clk.mid Clk.free
  simp only
  by_cases hn : c.used < F
  · rw [if_pos hn]
    obtain ⟨j, e, hj, h1, h2⟩ := free_facts hs hn
    rw [e]
    have hsp : hrs s = List.replicate j s.h ++ List.replicate ((s.t - s.f).toNat - j) s.h := by
      unfold hrs
      rw [List.replicate_append_replicate]
      congr 1
      omega
    rw [hsp, fold_append, fold_rep j c.used h1]
    rcases h2 with h2 | h2
    · by_cases hm : c.used + (j : Int) * s.h < F
      · rw [if_pos hm, show (s.t - s.f).toNat - j = 0 by omega]
        rfl
      · rw [if_neg hm, fold_over _ _ _ (by omega), List.length_replicate]
        omega
    · rw [if_neg (by omega), fold_over _ _ _ h2, List.length_replicate]
      omega
  · rw [if_neg hn, if_neg (by simp; omega), fold_over _ _ _ (by omega)]
    simp
    omega
/-- the first so many hours -/
def P (F : Int) (L : List Int) (j : Nat) : Int := fold F 0 (L.take j)
theorem P_mono {F : Int} {L : List Int} (hL : ∀ h ∈ L, 0 ≤ h) {i j : Nat} (hij : i ≤ j) : P F L i ≤ P F L j := by
  unfold P
  rw [show L.take j = L.take i ++ (L.take j).drop i by
    rw [show L.take i = (L.take j).take i by rw [List.take_take, Nat.min_eq_left hij]]
    exact (List.take_append_drop i _).symm, fold_append]
  exact fold_le F _ _ fun h hh => hL h (List.mem_of_mem_take (List.mem_of_mem_drop hh))
theorem P_all (F : Int) (L : List Int) : P F L L.length = fold F 0 L := by unfold P; rw [List.take_length]
theorem P_append_le (F : Int) (L M : List Int) {i : Nat} (h : i ≤ L.length) : P F (L ++ M) i = P F L i := by
  unfold P
  rw [List.take_append_of_le_length h]
theorem P_append (F : Int) (L M : List Int) (i : Nat) : P F (L ++ M) (L.length + i) = fold F (fold F 0 L) (M.take i) := by
  unfold P
  rw [List.take_length_add_append, fold_append]
/-- it expires at a0 + j -/
def Hits (F : Int) (L : List Int) (j : Nat) : Prop := j ≤ L.length ∧ F ≤ P F L j ∧ ∀ i, i < j → P F L i < F
structure Inv (F a0 : Int) (L : List Int) (c : Clk) : Prop where
  u : c.used = fold F 0 L
  o : (c.out = -1 ∧ (L ≠ [] → fold F 0 L < F)) ∨ ∃ j : Nat, c.out = a0 + j ∧ Hits F L j
theorem inv_start (F a0 : Int) : Inv F a0 [] ⟨0, -1⟩ := ⟨rfl, .inl ⟨rfl, fun h => absurd rfl h⟩⟩
theorem inv_take {F a0 : Int} {L : List Int} {c : Clk} {s : Str} (hI : Inv F a0 L c) (ha : 0 ≤ a0) (hL : ∀ h ∈ L, 0 ≤ h) (hs : s.ok) (hf : s.f = a0 + L.length) : Inv F a0 (L ++ hrs s) (c.take F s) := by
  obtain ⟨hlen, hpos⟩ := hrs_len hs
  have hne : L ++ hrs s ≠ [] := by
    intro h
    have := congrArg List.length h
    simp at this
    have := this.2
    rw [this] at hpos
    simp at hpos
  refine ⟨by rw [take_used hs, fold_append, hI.u], ?_⟩
  have hall : ∀ h ∈ L ++ hrs s, 0 ≤ h := fun h hh => by
    rcases List.mem_append.1 hh with hh | hh
    · exact hL h hh
    · unfold Str.ok at hs
      have := (List.mem_replicate.1 hh).2
      omega
  by_cases hn : c.used < F
  · obtain ⟨j, e, hj, h1, h2⟩ := free_facts hs hn
    have hout : c.out = -1 := by
      rcases hI.o with h | ⟨j, _, h3, h4, _⟩
      · exact h.1
      · have := P_mono (F := F) hL h3
        rw [P_all, ← hI.u] at this
        omega
    have hmid : c.mid F s = ⟨c.used + j * s.h, -1⟩ := by
      unfold Clk.mid Clk.free Clk.over
      rw [if_pos hn, if_pos hn, e, hout]
    have hfr : c.free F s = j := by unfold Clk.free; rw [if_pos hn, e]
    unfold Clk.take Clk.over
    rw [hmid, hfr]
    simp only
    by_cases hm : c.used + (j : Int) * s.h < F
    · rw [if_pos hm]
      have hjt : (j : Int) = s.t - s.f := by omega
      refine .inl ⟨rfl, fun _ => ?_⟩
      rw [fold_append, ← hI.u, show hrs s = List.replicate j s.h by unfold hrs; congr 1; omega, fold_rep j _ h1]
      exact hm
    · rw [if_neg hm, if_pos (by omega)]
      have htk : ∀ i : Nat, i ≤ j → (hrs s).take i = List.replicate i s.h := fun i hi => by
        unfold hrs
        rw [List.take_replicate, Nat.min_eq_left (by omega)]
      refine .inr ⟨L.length + j, by simp only; omega, by rw [List.length_append]; omega, ?_, fun i hi => ?_⟩
      · rw [P_append, htk j (Nat.le_refl _), ← hI.u, fold_rep j _ h1]
        omega
      · rcases Nat.lt_or_ge L.length i with hlt | hge
        · obtain ⟨k, rfl⟩ : ∃ k, i = L.length + k := ⟨i - L.length, by omega⟩
          rw [P_append, htk k (by omega), ← hI.u, fold_rep k _ (fun x hx => h1 x (by omega))]
          exact h1 k (by omega)
        · rw [P_append_le _ _ _ hge]
          have := P_mono (F := F) hL hge
          rw [P_all, ← hI.u] at this
          omega
  · have hfr : c.free F s = 0 := by unfold Clk.free; rw [if_neg hn]
    have hk : ∃ j : Nat, (c.over F s.f).out = a0 + j ∧ Hits F (L ++ hrs s) j := by
      rcases hI.o with ⟨h3, h4⟩ | ⟨j, h3, h4, h5, h6⟩
      · have hL0 : L = [] := by
          by_cases h0 : L = []
          · exact h0
          · have := h4 h0
            rw [← hI.u] at this
            omega
        subst hL0
        refine ⟨0, ?_, Nat.zero_le _, ?_, fun i hi => by omega⟩
        · unfold Clk.over
          rw [if_neg hn, if_pos (by omega)]
          simp at hf
          simp [hf]
        · have := hI.u
          have h0 : P F ([] ++ hrs s) 0 = 0 := by unfold P; simp [fold]
          rw [h0]
          simp [fold] at this
          omega
      · refine ⟨j, ?_, by rw [List.length_append]; omega, by rw [P_append_le _ _ _ h4]; exact h5, fun i hi => by rw [P_append_le _ _ _ (by omega)]; exact h6 i hi⟩
        unfold Clk.over
        rw [if_neg hn, if_neg (by omega)]
        exact h3
    obtain ⟨j, hj, hh⟩ := hk
    refine .inr ⟨j, ?_, hh⟩
    have hmid : c.mid F s = ⟨c.used, a0 + j⟩ := by
      unfold Clk.mid
      rw [hfr, hj]
      simp
    unfold Clk.take Clk.over
    rw [hmid]
    simp only
    rw [if_neg hn, if_neg (by omega)]
theorem inv_run {F a0 : Int} : ∀ (l : List Str) (L : List Int) (c : Clk), Inv F a0 L c → 0 ≤ a0 → (∀ h ∈ L, 0 ≤ h) → Chain (a0 + L.length) l → Inv F a0 (L ++ hours l) (l.foldl (Clk.take F) c)
  | [], L, c, h, _, _, _ => by simpa [hours] using h
  | s :: l, L, c, h, ha, hL, ⟨h1, h2, h3⟩ => by
    have hi := inv_take h ha hL h2 h1
    have hl := hrs_len h2
    have := inv_run l (L ++ hrs s) (c.take F s) hi ha (fun x hx => by
      rcases List.mem_append.1 hx with hx | hx
      · exact hL x hx
      · have h2' := h2
        unfold Str.ok at h2'
        have := (List.mem_replicate.1 hx).2
        omega) (by rw [List.length_append]; rw [show a0 + ((L.length + (hrs s).length : Nat) : Int) = s.t by omega]; exact h3)
    rw [List.append_assoc] at this
    simpa [hours] using this
theorem run_inv {F a : Int} {l : List Str} (h : Chain a l) (ha : 0 ≤ a) : Inv F a (hours l) (Clk.run F l) := by
  have := inv_run (F := F) l [] ⟨0, -1⟩ (inv_start F a) ha (by simp) (by simpa using h)
  unfold Clk.run
  simpa using this
theorem run_used {F a : Int} {l : List Str} (h : Chain a l) (ha : 0 ≤ a) : (Clk.run F l).used = fold F 0 (hours l) := (run_inv h ha).u

/-- cut at an hour: what is ahead, what is behind -/
def cutA (at_ : Int) (s : Str) : List Str := if s.f < at_ ∧ at_ < s.t then [⟨s.f, at_, s.h⟩] else if s.f < at_ then [s] else []
def cutB (at_ : Int) (s : Str) : List Str := if s.f < at_ ∧ at_ < s.t then [⟨at_, s.t, s.h⟩] else if s.f < at_ then [] else [s]
def ahead (at_ : Int) (l : List Str) : List Str := l.flatMap (cutA at_)
def behind (at_ : Int) (l : List Str) : List Str := l.flatMap (cutB at_)
theorem cut_len (at_ : Int) : ∀ l : List Str, (ahead at_ l).length ≤ l.length ∧ (behind at_ l).length ≤ l.length
  | [] => by simp [ahead, behind]
  | s :: l => by
    have := cut_len at_ l
    have ha : (cutA at_ s).length ≤ 1 := by
      unfold cutA
      split
      · simp
      · split <;> simp
    have hb : (cutB at_ s).length ≤ 1 := by
      unfold cutB
      split
      · simp
      · split <;> simp
    have e1 : ahead at_ (s :: l) = cutA at_ s ++ ahead at_ l := by simp [ahead]
    have e2 : behind at_ (s :: l) = cutB at_ s ++ behind at_ l := by simp [behind]
    rw [e1, e2, List.length_append, List.length_append, List.length_cons]
    omega
theorem ahead_none (at_ : Int) : ∀ (l : List Str) (a : Int), Chain a l → at_ ≤ a → ahead at_ l = [] ∧ behind at_ l = l
  | [], a, _, _ => ⟨rfl, rfl⟩
  | s :: l, a, ⟨h1, h2, h3⟩, h => by
    have hs := h2
    unfold Str.ok at hs
    obtain ⟨i1, i2⟩ := ahead_none at_ l s.t h3 (by omega)
    have e1 : ahead at_ (s :: l) = cutA at_ s ++ ahead at_ l := by simp [ahead]
    have e2 : behind at_ (s :: l) = cutB at_ s ++ behind at_ l := by simp [behind]
    have a1 : cutA at_ s = [] := by unfold cutA; rw [if_neg (by omega), if_neg (by omega)]
    have b1 : cutB at_ s = [s] := by unfold cutB; rw [if_neg (by omega), if_neg (by omega)]
    rw [e1, e2, a1, b1, i1, i2]
    exact ⟨rfl, rfl⟩
/-- cut, and put together again: right, and of the same hours; the hours ahead are the first ones -/
theorem cut_chain (at_ : Int) : ∀ (l : List Str) (a : Int), Chain a l →
    Chain a (ahead at_ l ++ behind at_ l) ∧ hours (ahead at_ l ++ behind at_ l) = hours l ∧ hours (ahead at_ l) = (hours l).take (at_ - a).toNat
  | [], a, _ => by simp [ahead, behind, hours, Chain]
  | s :: l, a, ⟨h1, h2, h3⟩ => by
    have hs := h2
    unfold Str.ok at hs
    have e1 : ahead at_ (s :: l) = cutA at_ s ++ ahead at_ l := by simp [ahead]
    have e2 : behind at_ (s :: l) = cutB at_ s ++ behind at_ l := by simp [behind]
    have eh : hours (s :: l) = hrs s ++ hours l := by simp [hours]
    obtain ⟨hl, _⟩ := hrs_len h2
    by_cases c1 : at_ ≤ s.f
    · obtain ⟨i1, i2⟩ := ahead_none at_ (s :: l) a ⟨h1, h2, h3⟩ (by omega)
      rw [i1, i2, show (at_ - a).toNat = 0 by omega]
      exact ⟨⟨h1, h2, h3⟩, rfl, by simp [hours]⟩
    · by_cases c2 : at_ < s.t
      · have a1 : cutA at_ s = [⟨s.f, at_, s.h⟩] := by unfold cutA; rw [if_pos (by omega)]
        have b1 : cutB at_ s = [⟨at_, s.t, s.h⟩] := by unfold cutB; rw [if_pos (by omega)]
        obtain ⟨i1, i2⟩ := ahead_none at_ l s.t h3 (by omega)
        rw [e1, e2, a1, b1, i1, i2]
        have hh1 : hrs ⟨s.f, at_, s.h⟩ ++ hrs ⟨at_, s.t, s.h⟩ = hrs s := by
          unfold hrs
          simp only
          rw [List.replicate_append_replicate]
          congr 1
          omega
        refine ⟨?_, ?_, ?_⟩
        · refine ⟨h1, ?_, rfl, ?_, h3⟩
          · unfold Str.ok; simp only; omega
          · unfold Str.ok; simp only; omega
        · simp only [hours, List.append_nil, List.cons_append, List.nil_append, List.flatMap_cons]
          rw [← List.append_assoc, hh1]
        · rw [eh, List.take_append_of_le_length (by omega)]
          simp only [hours, List.append_nil, List.flatMap_cons, List.flatMap_nil]
          unfold hrs
          rw [List.take_replicate]
          simp only
          congr 1
          omega
      · have a1 : cutA at_ s = [s] := by unfold cutA; rw [if_neg (by omega), if_pos (by omega)]
        have b1 : cutB at_ s = [] := by unfold cutB; rw [if_neg (by omega), if_pos (by omega)]
        obtain ⟨i1, i2, i3⟩ := cut_chain at_ l s.t h3
        rw [e1, e2, a1, b1]
        refine ⟨⟨h1, h2, by simpa using i1⟩, ?_, ?_⟩
        · have : hours ([s] ++ ahead at_ l ++ ([] ++ behind at_ l)) = hrs s ++ hours (ahead at_ l ++ behind at_ l) := by simp [hours]
          rw [this, i2, eh]
        · have : hours ([s] ++ ahead at_ l) = hrs s ++ hours (ahead at_ l) := by simp [hours]
          rw [this, i3, eh, show (at_ - a).toNat = (hrs s).length + (at_ - s.t).toNat by omega, List.take_length_add_append]
/-- the document's hours ahead of one -/
def hoursTo (at_ : Int) (l : List Str) : List Int := l.flatMap fun s => List.replicate (min s.t at_ - s.f).toNat s.h
theorem hoursTo_ahead (at_ : Int) : ∀ (l : List Str), (∀ s ∈ l, s.f < s.t) → hoursTo at_ l = hours (ahead at_ l)
  | [], _ => rfl
  | s :: l, h => by
    have hs := h s (by simp)
    have e1 : ahead at_ (s :: l) = cutA at_ s ++ ahead at_ l := by simp [ahead]
    have e2 : hoursTo at_ (s :: l) = List.replicate (min s.t at_ - s.f).toNat s.h ++ hoursTo at_ l := by simp [hoursTo]
    rw [e1, e2, hours_append, hoursTo_ahead at_ l fun x hx => h x (by simp [hx])]
    congr 1
    unfold cutA
    split
    · simp only [hours, List.flatMap_cons, List.flatMap_nil, List.append_nil, hrs]
      congr 1
      omega
    · split
      · simp only [hours, List.flatMap_cons, List.flatMap_nil, List.append_nil, hrs]
        congr 1
        omega
      · simp only [hours, List.flatMap_nil]
        rw [show (min s.t at_ - s.f).toNat = 0 by omega]
        rfl
/-- money -/
def money (la so F u : Int) : Int := if F < u then (la * (u - F) + 1) / 2 else if u < F then -(so * (F - u) / 2) else 0
theorem money_mono {la so F u u' : Int} (hl : 0 ≤ la) (hs : 0 ≤ so) (h : u ≤ u') : money la so F u ≤ money la so F u' := by
  unfold money
  by_cases h1 : F < u
  · rw [if_pos h1, if_pos (by omega)]
    have := Int.mul_le_mul_of_nonneg_left (show u - F ≤ u' - F by omega) hl
    omega
  · rw [if_neg h1]
    have p2 : 0 ≤ so * (F - u) := Int.mul_nonneg hs (by omega)
    by_cases h2 : F < u'
    · rw [if_pos h2]
      have p1 : 0 ≤ la * (u' - F) := Int.mul_nonneg hl (by omega)
      split <;> omega
    · rw [if_neg h2]
      by_cases h3 : u < F
      · rw [if_pos h3]
        by_cases h4 : u' < F
        · rw [if_pos h4]
          have := Int.mul_le_mul_of_nonneg_left (show F - u' ≤ F - u by omega) hs
          omega
        · rw [if_neg h4]
          omega
      · rw [if_neg h3, if_neg (by omega)]
        exact Int.le_refl _
end Go.Proofs.Ytlmnbdepklcfpaa
