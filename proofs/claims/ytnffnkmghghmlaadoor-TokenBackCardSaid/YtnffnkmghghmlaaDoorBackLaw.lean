/- TokenBack's walk. Condition: where the words lie. -/
import Derived.Test.YtnffnkmghghmlaaDoorAwake
import Derived.Test.YtnffnkmghghmlaaDoorJoin
namespace Go.Proofs.YtnffnkmghghmlaaDoor
open Go.RowKit
set_option linter.unusedVariables false
set_option linter.unusedSimpArgs false
theorem show_ge (k : Int) (t : Bs) : t.length ≤ (showL k t).length := by
  unfold showL
  split <;> simp
  omega
theorem lex_text : ∀ a l, ∀ x ∈ (lex a l).1, x.text.length ≤ l.length := by
  apply lex_ind
  · intro a l h x hx
    rw [lex_end h] at hx
    cases hx
  · intro a l h he x hx
    rw [lex_bad h he] at hx
    cases hx
  · intro a l h he ih x hx
    rw [lex_tok h he] at hx
    have ok := one_ok h he
    simp only [List.mem_cons] at hx
    rcases hx with rfl | hx
    · have h1 := show_ge (oneL (l.drop (spanN blI l))).kind (oneL (l.drop (spanN blI l))).text
      rw [ok.2.2, List.length_take, List.length_drop] at h1
      simp only
      omega
    · have := ih x hx
      simp only [List.length_drop] at this
      omega
theorem join_ne {l : List (Int × Bs)} (h : ∀ x ∈ l, Good x.1 x.2) (hl : l ≠ []) : joinL l ≠ [] := by
  match l with
  | [] => exact absurd rfl hl
  | [x] => exact (h x (by simp)).1
  | x :: y :: l =>
    have := (h x (by simp)).1
    simp only [joinL]
    intro e
    have := congrArg List.length e
    simp at this
/-- what comes back -/
theorem back_plain {S : Bs} (hS : S.length ≤ 3000) : ((scan S).2.2 ≠ 0 → (scan S).1 = [] ∧ (scan S).2.1 < S.length) ∧
    ((scan S).2.2 = 0 → (scan S).2.1 = S.length ∧ (scan S).1.length ≤ 3000 ∧ (∀ x ∈ (scan S).1, x.text.length ≤ 3000) ∧ (lex 0 (joinP ((scan S).1.map kt))).1.length < 4096 ∧ (joinP ((scan S).1.map kt)).length ≤ 100000000 ∧
      (scan (joinP ((scan S).1.map kt))).2.1 = (joinP ((scan S).1.map kt)).length ∧ (scan (joinP ((scan S).1.map kt))).2.2 = 0 ∧ (scan (joinP ((scan S).1.map kt))).1.map kt = (scan S).1.map kt ∧ ((scan S).1 = [] ↔ joinP ((scan S).1.map kt) = [])) := by
  have hlen := lex_len 0 S
  have hg := lex_good 0 S
  have ht := lex_text 0 S
  refine ⟨fun h => ?_, fun h => ?_⟩
  · unfold scan at h ⊢
    split at h
    · rename_i h1
      exact absurd h1 h
    · rename_i h1
      rw [if_neg h1]
      exact ⟨rfl, by have := hlen.2.2.2.1 h1; simp only; omega⟩
  · have e : scan S = lex 0 S := by
      unfold scan at h ⊢
      split
      · rfl
      · rename_i h1
        rw [if_neg h1] at h
        exact absurd h h1
    have e0 : (lex 0 S).2.2 = 0 := by rw [← e]; exact h
    rw [e]
    generalize lex 0 S = r at *
    obtain ⟨l, a, er⟩ := r
    simp only at *
    have good : ∀ x ∈ l.map kt, Good x.1 x.2 := by
      intro x hx
      rw [List.mem_map] at hx
      obtain ⟨y, hy, rfl⟩ := hx
      exact hg y hy
    have hJ : joinP (l.map kt) = joinL (l.map kt) := by
      unfold joinP
      rw [if_pos]
      rw [List.all_eq_true]
      intro x hx
      exact good_right (good x hx)
    rw [hJ]
    have lj := lex_join (l.map kt) 0 good
    have jl := joinL_len (B := 3000) (l.map kt) fun x hx => by
      rw [List.mem_map] at hx
      obtain ⟨y, hy, rfl⟩ := hx
      have := ht y hy
      simp only [kt]
      omega
    have hml : (lex 0 (joinL (l.map kt))).1.length = l.length := by
      have := congrArg List.length lj.2
      simpa using this
    have es : scan (joinL (l.map kt)) = lex 0 (joinL (l.map kt)) := by
      unfold scan
      rw [if_pos (by rw [lj.1])]
    rw [es, hml, lj.1]
    refine ⟨by have := hlen.2.2.2.2 e0; omega, by omega, fun x hx => by have := ht x hx; omega, by omega, ?_, by simp, rfl, lj.2, ?_⟩
    · simp only [List.length_map] at jl
      have : l.length * 3003 ≤ 3000 * 3003 := Nat.mul_le_mul_right _ (by omega)
      omega
    · constructor
      · intro h
        rw [h]
        rfl
      · intro h
        cases l with
        | nil => rfl
        | cons x l => exact absurd h (join_ne good (by simp))
set_option maxRecDepth 100000 in
set_option maxHeartbeats 4000000 in
theorem backLaw_any (s : ByteArray) (w : World) {b o c : Nat} (T : Tab w b o c) (hs : s.size ≤ maxLen) : Calls Tryd.prog 7 #[.string s] w fun e w' => e = .returned (.bool true) ∧ Below w.heap.size w w' := by
  have HT := Lib.hid T
  have AW := Lib.hid (awake_any w T)
  by_cases h : 3000 < s.size
  · have h' : (3000 : Int) < s.size := by omega
    clear h T
    unfold maxLen at hs
    go_enter Tryd.func7, Tryd.ntmps7
    go_wp2_with fail
    refine AW.out.mono ?_
    rintro e w1 ⟨rfl, hb1⟩
    have B1 := Lib.hid hb1
    clear hb1
    go_wp2_with fail
    go_ret
    exact ⟨rfl, B1.out⟩
  have h' : (s.size : Int) ≤ 3000 := by omega
  have few : (lex 0 (bs s)).1.length < 4096 := by
    have := (lex_len 0 (bs s)).1
    rw [bs_len] at this
    omega
  have SC := Lib.hid fun w T => scan_any (b := b) (o := o) (c := c) s w T hs few
  have BP := back_plain (S := bs s) (by rw [bs_len]; omega)
  unfold ScanR at SC
  rw [bs_len] at BP
  generalize scan (bs s) = r at *
  obtain ⟨l, at_, er⟩ := r
  simp only at BP SC
  unfold maxLen at hs
  clear few h T
  by_cases he : er = 0
  rotate_left
  · have he' : (er != 0) = true := by simpa using he
    obtain ⟨p1, p2⟩ := BP.1 he
    subst p1
    have p2' : (at_ : Int) < s.size := by omega
    simp only [List.length_nil] at SC
    clear he BP p2
    go_enter Tryd.func7, Tryd.ntmps7
    go_wp2_with fail
    refine AW.out.mono ?_
    rintro e w1 ⟨rfl, hb1⟩
    have B1 := Lib.hid hb1
    clear hb1
    go_wp2_with fail
    refine (SC.out w1 (HT.out.below B1.out)).mono ?_
    rintro e w2 ⟨A, c1, rfl, hl1, hb2⟩
    have B2 := Lib.hid (below_trans B1.out hb2)
    clear hb2 hl1
    go_wp2_with fail
    go_ret
    exact ⟨by simp [p2'], B2.out⟩
  subst he
  obtain ⟨p1, p2, p3, p4, p5, p6, p7, p8, p9⟩ := BP.2 rfl
  subst p1
  have SJ := Lib.hid fun w T => scan_any (b := b) (o := o) (c := c) (str (joinP (l.map kt))) w T (by rw [str_size]; unfold maxLen; omega) (by rw [bs_str]; exact p4)
  rw [bs_str] at SJ
  unfold ScanR at SJ
  have JN := Lib.hid fun (A : Option Addr) (c1 : Nat) w (T : Tab w b o c) (h : TokR w A l) => join_any l A c1 w T h (by omega) fun x hx => by have := p3 x hx; omega
  have sz := str_size (joinP (l.map kt))
  have HZ : Hid (((str (joinP (l.map kt))).toList == []) = (((l.length : Int) == 0))) := by
    show _ = _
    rw [toList_str, Bool.eq_iff_iff]
    simp
    rw [← p9]
  have JM := Lib.hid fun (m : List Tk) (hm : m.map kt = l.map kt) (A : Option Addr) (c1 : Nat) w (T : Tab w b o c) (h : TokR w A m) => join_any m A c1 w T h (by have := congrArg List.length hm; simp at this; omega) fun x hx => by
    obtain ⟨i, hi⟩ := List.mem_iff_getElem?.1 hx
    have := congrArg (·[i]?) hm
    simp only [List.getElem?_map, hi, Option.map_some] at this
    cases hj : l[i]? with
    | none => rw [hj] at this; cases this
    | some y =>
      rw [hj] at this
      simp only [Option.map_some, Option.some.injEq, kt, Prod.mk.injEq] at this
      have h2 := p3 y (List.mem_of_getElem? hj)
      rw [this.2]
      omega
  have HP8 := Lib.hid p8
  generalize hJ : joinP (l.map kt) = J at *
  generalize scan J = rj at *
  obtain ⟨m, aj, ej⟩ := rj
  simp only at p6 p7 SJ p8 HP8
  subst p6 p7
  have JM2 := Lib.hid (JM.out m p8)
  have e8 : m.map kt = l.map kt := p8
  rw [e8, hJ] at JM2
  have L8 := Lib.hid p2
  clear BP p3 p4 p8 p9 JM e8 hJ
  go_enter Tryd.func7, Tryd.ntmps7
  go_wp2_with fail
  refine AW.out.mono ?_
  rintro e w1 ⟨rfl, hb1⟩
  have B1 := Lib.hid hb1
  clear hb1
  go_wp2_with fail
  refine (SC.out w1 (HT.out.below B1.out)).mono ?_
  rintro e w2 ⟨A, c1, rfl, hl1, hb2⟩
  have B2 := Lib.hid (below_trans B1.out hb2)
  have L2 := Lib.hid hl1
  clear hb2 hl1
  go_wp2_with fail
  refine (JN.out A c1 w2 (HT.out.below B2.out) L2.out).mono ?_
  rintro e w3 ⟨rfl, hb3⟩
  have B3 := Lib.hid (below_trans B2.out hb3)
  have L3 := Lib.hid (L2.out.up hb3)
  clear hb3
  go_wp2_with fail
  refine (SJ.out w3 (HT.out.below B3.out)).mono ?_
  rintro e w4 ⟨A2, c2, rfl, hl2, hb4⟩
  have B4 := Lib.hid (below_trans B3.out hb4)
  have L4 := Lib.hid (L3.out.up hb4)
  have M4 := Lib.hid hl2
  clear hb4 hl2
  go_wp2_with fail
  refine (alike_any l m A A2 c1 c2 w4 L4.out M4.out (by omega) HP8.out.symm).mono ?_
  rintro e w5 ⟨rfl, hb5⟩
  have B5 := Lib.hid (below_trans B4.out hb5)
  have M5 := Lib.hid (M4.out.up hb5)
  clear hb5
  go_wp2_with fail
  refine (JM2.out A2 c2 w5 (HT.out.below B5.out) M5.out).mono ?_
  rintro e w6 ⟨rfl, hb6⟩
  have B6 := Lib.hid (below_trans B5.out hb6)
  clear hb6
  have hz := HZ.out
  go_wp2_with fail
  all_goals go_ret
  all_goals exact ⟨by simp, B6.out⟩
end Go.Proofs.YtnffnkmghghmlaaDoor
