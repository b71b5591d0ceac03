/- TokenPlaces' walk. Condition: where the words lie. -/
import Derived.Test.YtnffnkmghghmlaaDoorAwake
namespace Go.Proofs.YtnffnkmghghmlaaDoor
open Go.RowKit
set_option linter.unusedVariables false
set_option linter.unusedSimpArgs false
/-- the tokens rise, blanks alone between them; each is told as it stands -/
def Placed (S : Bs) : Nat → List Tk → Prop
  | _, [] => True
  | e, x :: r => e ≤ x.at_ ∧ 1 ≤ (showL x.kind x.text).length ∧ x.at_ + (showL x.kind x.text).length ≤ S.length ∧ (∀ j c, e ≤ j → j < x.at_ → S[j]? = some c → on blI c = true) ∧ (S.drop x.at_).take (showL x.kind x.text).length = showL x.kind x.text ∧ Placed S (x.at_ + (showL x.kind x.text).length) r
theorem lex_placed (S : Bs) : ∀ a l, S.drop a = l → Placed S a (lex a l).1 := by
  apply lex_ind
  · intro a l h hl
    rw [lex_end h]
    trivial
  · intro a l h he hl
    rw [lex_bad h he]
    trivial
  · intro a l h he ih hl
    rw [lex_tok h he]
    have ok := one_ok h he
    have hb : spanN blI l < l.length := by simpa using h
    have e1 : (showL (oneL (l.drop (spanN blI l))).kind (oneL (l.drop (spanN blI l))).text).length = (oneL (l.drop (spanN blI l))).n := by rw [ok.2.2, List.length_take]; omega
    have e2 : l.drop (spanN blI l) = S.drop (a + spanN blI l) := by rw [← hl, List.drop_drop]
    refine ⟨by simp only; omega, by simp only; omega, ?_, ?_, ?_, ?_⟩
    · simp only
      rw [e1]
      have h1 := ok.2.1
      rw [e2, List.length_drop] at h1
      have h2 : l.length = S.length - a := by rw [← hl, List.length_drop]
      rw [e2]
      omega
    · intro j c h1 h2 hc
      simp only at h2
      refine spanN_get l (j - a) c (by omega) ?_
      rw [← hl, List.getElem?_drop, show a + (j - a) = j by omega]
      exact hc
    · simp only
      rw [e1, ← e2, ok.2.2]
    · simp only
      rw [e1]
      exact ih (by rw [e2, List.drop_drop])
theorem bs_append (a b : ByteArray) : bs (a ++ b) = bs a ++ bs b := by unfold bs; simp
theorem show_str (k : Int) (t : Bs) : (k = 3 → str (showL k t) = ⟨#[34]⟩ ++ str t ++ ⟨#[34]⟩) ∧ (k ≠ 3 → showL k t = t) := by
  refine ⟨fun h => ?_, fun h => if_neg h⟩
  unfold showL
  rw [if_pos h]
  apply bs_inj
  rw [bs_str, bs_append, bs_append, bs_str]
  rfl
theorem show_len (k : Int) (t : Bs) : (k = 3 → (showL k t).length = t.length + 2) ∧ (k ≠ 3 → (showL k t).length = t.length) := by
  refine ⟨fun h => ?_, fun h => ?_⟩
  · unfold showL; rw [if_pos h]; simp
  · unfold showL; rw [if_neg h]
set_option maxRecDepth 100000 in
set_option maxHeartbeats 4000000 in
theorem placesLaw_any (s : ByteArray) (w : World) {b o c : Nat} (T : Tab w b o c) (hs : s.size ≤ maxLen) : Calls Tryd.prog 5 #[.string s] w fun e w' => e = .returned (.bool true) ∧ Below w.heap.size w w' := by
  have HT := Lib.hid T
  have AW := Lib.hid (awake_any w T)
  by_cases h : 3000 < s.size
  · have h' : (3000 : Int) < s.size := by omega
    clear h T
    unfold maxLen at hs
    go_enter Tryd.func5, Tryd.ntmps5
    go_wp2_with fail
    refine AW.out.mono ?_
    rintro e w1 ⟨rfl, hb1⟩
    have B1 := Lib.hid hb1
    clear hb1
    go_wp2_with fail
    go_ret
    exact ⟨rfl, B1.out⟩
  have h' : (s.size : Int) ≤ 3000 := by omega
  have few : (lex 0 (bs s)).1.length < 4096 := by
    have := (lex_len 0 (bs s)).1
    rw [bs_len] at this
    omega
  have SC := Lib.hid fun w T => scan_any (b := b) (o := o) (c := c) s w T hs few
  have hp := lex_placed (bs s) 0 (bs s) (by simp)
  have hsc : Hid ((scan (bs s)).2.2 = 0 → Placed (bs s) 0 (scan (bs s)).1) := by
    intro h
    unfold scan at h ⊢
    split
    · exact hp
    · trivial
  have hl : (scan (bs s)).1.length < 4096 := by
    unfold scan
    split
    · exact few
    · simp
  unfold ScanR at SC
  generalize scan (bs s) = r at *
  obtain ⟨l, at_, er⟩ := r
  simp only at SC hl hsc
  clear few h T hp
  unfold maxLen at hs
  by_cases he : er = 0
  rotate_left
  · have he' : (er != 0) = true := by simpa using he
    clear he hsc
    go_enter Tryd.func5, Tryd.ntmps5
    go_wp2_with fail
    refine AW.out.mono ?_
    rintro e w1 ⟨rfl, hb1⟩
    have B1 := Lib.hid hb1
    clear hb1
    go_wp2_with fail
    refine (SC.out w1 (HT.out.below B1.out)).mono ?_
    rintro e w2 ⟨A, c1, rfl, hl1, hb2⟩
    have B2 := Lib.hid (below_trans B1.out hb2)
    clear hb2 hl1
    go_wp2_with fail
    go_ret
    exact ⟨rfl, B2.out⟩
  have PL := Lib.hid (hsc.out he)
  subst he
  clear hsc
  go_enter Tryd.func5, Tryd.ntmps5
  go_wp2_with fail
  refine AW.out.mono ?_
  rintro e w1 ⟨rfl, hb1⟩
  have B1 := Lib.hid hb1
  clear hb1
  go_wp2_with fail
  refine (SC.out w1 (HT.out.below B1.out)).mono ?_
  rintro e w2 ⟨A, c1, rfl, hl1, hb2⟩
  have B2 := Lib.hid (below_trans B1.out hb2)
  have L2 := Lib.hid hl1
  clear hb2 hl1
  go_wp2_with fail
  go_loopw [6, 7] (fun n i v => ∃ (k e : Nat), k ≤ l.length ∧ e ≤ s.size ∧ i = .int .i64 k ∧ n = .int .i64 e ∧ Hid (Placed (bs s) e (l.drop k)) ∧ w2 = v) (fun _ i _ => l.length - (intOf i).toNat)
  case atStart => exact ⟨0, 0, Nat.zero_le _, Nat.zero_le _, rfl, rfl, PL, rfl⟩
  case round =>
    obtain ⟨k, e, hk, hes, rfl, rfl, hpl, rfl⟩ := hrel
    by_cases hlt : k < l.length
    · obtain ⟨a, x, rfl, hx, hblk, c0, c1', c2⟩ := L2.out.at_ hlt
      have hd : l.drop k = x :: l.drop (k + 1) := by
        rw [List.drop_eq_getElem_cons hlt]
        congr 1
        exact (List.getElem?_eq_some_iff.1 hx).2
      rw [hd] at hpl
      obtain ⟨p1, p2, p3, p4, p5, p6⟩ := hpl.out
      rw [bs_len] at p3
      have P6 := Lib.hid p6
      have P4 := Lib.hid p4
      have q1 : (e : Int) ≤ x.at_ := by omega
      obtain ⟨n, hn⟩ : ∃ n, n = x.text.length := ⟨_, rfl⟩
      have tsz : (str x.text).size = n := by rw [str_size, hn]
      by_cases h3 : x.kind = 3
      · rw [(show_len x.kind x.text).1 h3, ← hn] at p2 p3 p5 P6
        have hx2 : s.extract x.at_ (x.at_ + (n + 2)) = ⟨#[34]⟩ ++ str x.text ++ ⟨#[34]⟩ := by
          rw [← (show_str x.kind x.text).1 h3, ← p5]
          exact ext_str (by rw [List.drop_take]; simp)
        have W1 : IntKind.i64.wrap ((n : Int) + 2) = (n : Int) + 2 := IntWalk.i64_in _ (by omega)
        have c0' : w2.cell? (a.add (k * 3)) = some (.int .i64 3) := by rw [← h3]; exact c0
        clear c0 h3
        have W2 : IntKind.i64.wrap ((x.at_ : Int) + ((n : Int) + 2)) = (x.at_ : Int) + ((n : Int) + 2) := IntWalk.i64_in _ (by omega)
        have q2 : (x.at_ : Int) + ((n : Int) + 2) ≤ s.size := by omega
        have q3 : (1 : Int) ≤ ((n : Int) + 2) := by omega
        have HX2 := Lib.hid hx2
        clear hx hd hpl p4 p5 p6 p2 hn hx2
        go_wp2_with fail
        go_loopw [9] (fun i v => ∃ (j : Nat), e ≤ j ∧ j ≤ x.at_ ∧ i = .int .i64 j ∧ w2 = v) (fun i _ => x.at_ - (intOf i).toNat)
        case atStart => exact ⟨e, Nat.le_refl _, p1, rfl, rfl⟩
        case round =>
          obtain ⟨j, hej, hj, rfl, rfl⟩ := hrel
          by_cases hjl : j < x.at_
          · have hjs : j < s.size := by omega
            have hb := P4.out j _ hej hjl (bs_get hjs)
            have hb' : (s[j].toNat : Int) = 32 ∨ (s[j].toNat : Int) = 10 := by simpa [on, blI] using hb
            clear hb
            rcases hb' with hb | hb
            · have e1 : ((s[j].toNat : Int) != 32) = false := by rw [hb]; rfl
              clear hb
              go_wp2_with fail
              go_roundw
              case rel => exact ⟨j + 1, by omega, by omega, by go_num, trivial⟩
              case measure => simp [intOf]; omega
            · have e1 : ((s[j].toNat : Int) != 32) = true := by rw [hb]; rfl
              have e2 : ((s[j].toNat : Int) != 10) = false := by rw [hb]; rfl
              clear hb
              go_wp2_with fail
              go_roundw
              case rel => exact ⟨j + 1, by omega, by omega, by go_num, trivial⟩
              case measure => simp [intOf]; omega
          · have hge : (x.at_ : Int) ≤ j := by omega
            have hx3 := HX2.out
            clear hjl
            go_wp2_with fail
            refine ⟨⟨k + 1, x.at_ + (n + 2), by omega, by omega, by go_num, ?_, P6, trivial⟩, by simp [intOf]; omega⟩
            simp
      · rw [(show_len x.kind x.text).2 h3, ← hn] at p2 p3 p5 P6
        have hx2 : s.extract x.at_ (x.at_ + n) = str x.text := by
          rw [(show_str x.kind x.text).2 h3] at p5
          rw [← p5]
          exact ext_str (by rw [List.drop_take]; simp)
        have h3' : (x.kind == 3) = false := by simpa using h3
        have h3'' : (x.kind != 3) = true := by simpa using h3
        clear h3
        have W2 : IntKind.i64.wrap ((x.at_ : Int) + (n : Int)) = (x.at_ : Int) + (n : Int) := IntWalk.i64_in _ (by omega)
        have q2 : (x.at_ : Int) + (n : Int) ≤ s.size := by omega
        have q3 : (1 : Int) ≤ (n : Int) := by omega
        have HX2 := Lib.hid hx2
        clear hx hd hpl p4 p5 p6 p2 hn hx2
        go_wp2_with fail
        go_loopw [9] (fun i v => ∃ (j : Nat), e ≤ j ∧ j ≤ x.at_ ∧ i = .int .i64 j ∧ w2 = v) (fun i _ => x.at_ - (intOf i).toNat)
        case atStart => exact ⟨e, Nat.le_refl _, p1, rfl, rfl⟩
        case round =>
          obtain ⟨j, hej, hj, rfl, rfl⟩ := hrel
          by_cases hjl : j < x.at_
          · have hjs : j < s.size := by omega
            have hb := P4.out j _ hej hjl (bs_get hjs)
            have hb' : (s[j].toNat : Int) = 32 ∨ (s[j].toNat : Int) = 10 := by simpa [on, blI] using hb
            clear hb
            rcases hb' with hb | hb
            · have e1 : ((s[j].toNat : Int) != 32) = false := by rw [hb]; rfl
              clear hb
              go_wp2_with fail
              go_roundw
              case rel => exact ⟨j + 1, by omega, by omega, by go_num, trivial⟩
              case measure => simp [intOf]; omega
            · have e1 : ((s[j].toNat : Int) != 32) = true := by rw [hb]; rfl
              have e2 : ((s[j].toNat : Int) != 10) = false := by rw [hb]; rfl
              clear hb
              go_wp2_with fail
              go_roundw
              case rel => exact ⟨j + 1, by omega, by omega, by go_num, trivial⟩
              case measure => simp [intOf]; omega
          · have hge : (x.at_ : Int) ≤ j := by omega
            have hx3 := HX2.out
            clear hjl
            go_wp2_with fail
            refine ⟨⟨k + 1, x.at_ + n, by omega, by omega, by go_num, ?_, P6, trivial⟩, by simp [intOf]; omega⟩
            simp
    · have hge : (l.length : Int) ≤ k := by omega
      clear hlt
      go_wp2_with fail
      go_ret
      exact ⟨rfl, B2.out⟩
end Go.Proofs.YtnffnkmghghmlaaDoor
