/- TokenQuotes' walk. Condition: where the words lie. -/
import Derived.Test.YtnffnkmghghmlaaDoorAwake
import Derived.Test.YtnffnkmghghmlaaDoorJoin
namespace Go.Proofs.YtnffnkmghghmlaaDoor
open Go.RowKit
set_option linter.unusedVariables false
set_option linter.unusedSimpArgs false
theorem quote_one (S : Bs) : oneL (showL 3 S) = if (S ++ [34])[spanN plI (S ++ [34])]? = some 34 then ⟨3, (S ++ [34]).take (spanN plI (S ++ [34])), spanN plI (S ++ [34]) + 2, 0⟩ else badO := by
  have e : showL 3 S = 34 :: (S ++ [34]) := rfl
  rw [e]
  unfold oneL
  have hc : headC (34 :: (S ++ [34])) = 34 := rfl
  rw [hc, if_neg (by decide), if_neg (by decide), if_pos rfl, List.tail_cons]
theorem quote_right (S : Bs) : rightB (3, S) = S.all (on plI) := by
  have hne : showL 3 S ≠ [] := by intro h; cases h
  have hb : spanN blI (showL 3 S) = 0 := rfl
  cases hp : S.all (on plI)
  · cases hr : rightB (3, S)
    · rfl
    · exfalso
      unfold rightB at hr
      simp only [Bool.and_eq_true, decide_eq_true_eq] at hr
      obtain ⟨h1, h2⟩ := hr
      by_cases he : (oneL (showL 3 S)).err = 0
      · rw [lex_tok (by rw [hb]; exact hne) (by rw [hb]; exact he), hb] at h2
        simp only [List.drop_zero, List.map_cons, List.cons.injEq, List.map_eq_nil_iff, tri, Prod.mk.injEq] at h2
        obtain ⟨⟨_, _, h3⟩, _⟩ := h2
        rw [quote_one] at h3 he
        split at h3
        · simp only at h3
          rw [List.all_eq_false] at hp
          obtain ⟨c, hc, hcp⟩ := hp
          rw [← h3] at hc
          obtain ⟨i, hi⟩ := List.mem_iff_getElem?.1 hc
          have hlt : i < spanN plI (S ++ [34]) := by
            have := (List.getElem?_eq_some_iff.1 hi).1
            rw [List.length_take] at this
            omega
          rw [List.getElem?_take_of_lt hlt] at hi
          exact hcp (spanN_get _ i c hlt hi)
        · rename_i h4
          rw [if_neg h4] at he
          cases he
      · rw [lex_bad (by rw [hb]; exact hne) (by rw [hb]; exact he), hb] at h1
        exact he h1
  · rw [List.all_eq_true] at hp
    have hs : spanN plI (S ++ [34]) = S.length := by
      refine spanN_eq _ _ (by simp) (fun i c hi hc => ?_) fun c hc => ?_
      · rw [List.getElem?_append_left hi] at hc
        exact hp c (List.mem_of_getElem? hc)
      · rw [List.getElem?_append_right (Nat.le_refl _)] at hc
        simp at hc
        subst hc
        rfl
    refine good_right (x := (3, S)) ⟨hne, ?_⟩
    rw [quote_one, hs, if_pos (by simp)]
    congr 1
    · simp
    · simp [showL]
theorem all_take {S : Bs} {k : Nat} {c : UInt8} (h : S[k]? = some c) : (S.take (k + 1)).all (on plI) = ((S.take k).all (on plI) && on plI c) := by
  rw [List.take_add_one, h, List.all_append]
  simp
theorem str_get {S : Bs} {k : Nat} (h : k < (str S).size) : S[k]? = some (str S)[k] := by
  have := bs_get h
  rwa [bs_str] at this
set_option maxRecDepth 100000 in
set_option maxHeartbeats 4000000 in
theorem quotesLaw_str (S : Bs) (w : World) {b o c : Nat} (T : Tab w b o c) (hs : (str S).size ≤ maxLen) : Calls Tryd.prog 8 #[.string (str S)] w fun e w' => e = .returned (.bool true) ∧ Below w.heap.size w w' := by
  have HT := Lib.hid T
  have AW := Lib.hid (awake_any w T)
  have HSZ := Lib.hid (str_size S)
  by_cases h : 1000 < (str S).size
  · have h' : (1000 : Int) < (str S).size := by omega
    clear h T
    unfold maxLen at hs
    go_enter Tryd.func8, Tryd.ntmps8
    go_wp2_with fail
    refine AW.out.mono ?_
    rintro e w1 ⟨rfl, hb1⟩
    have B1 := Lib.hid hb1
    clear hb1
    go_wp2_with fail
    go_ret
    exact ⟨rfl, B1.out⟩
  have h' : ((str S).size : Int) ≤ 1000 := by omega
  have hS : S.length ≤ 1000 := by rw [← str_size]; omega
  have told := told_of (x := (3, S)) (by simp only; omega)
  have SC := Lib.hid fun w T => scan_any (b := b) (o := o) (c := c) (str (showL 3 S)) w T (by rw [str_size]; have := told.2; unfold maxLen; simp only at this; omega) (by rw [bs_str]; exact told.1)
  rw [bs_str] at SC
  have HQ := Lib.hid (show_q (k := 3) S rfl)
  have hlen := (lex_len 0 (showL 3 S)).2.2.2.2
  have RW := right_ways (3, S)
  rw [quote_right] at RW
  have END : Hid ((scan (showL 3 S)).2.2 = 0 → (scan (showL 3 S)).2.1 = (str S).size + 2) := by
    intro h0
    unfold scan at h0 ⊢
    split
    · rename_i h1
      rw [hlen h1, str_size]
      simp [showL]
    · rename_i h1
      rw [if_neg h1] at h0
      exact absurd h0 h1
  unfold ScanR at SC
  have RWH := Lib.hid RW
  unfold maxLen at hs
  clear h T told RW hlen hS
  go_enter Tryd.func8, Tryd.ntmps8
  go_wp2_with fail
  refine AW.out.mono ?_
  rintro e w1 ⟨rfl, hb1⟩
  have B1 := Lib.hid hb1
  clear hb1
  go_wp2_with fail
  go_loopw [3, 4] (fun p i v => ∃ (k : Nat), k ≤ (str S).size ∧ p = .bool ((S.take k).all (on plI)) ∧ i = .int .i64 k ∧ w1 = v) (fun _ i _ => (str S).size - (intOf i).toNat)
  case atStart => exact ⟨0, Nat.zero_le _, rfl, rfl, rfl⟩
  case round =>
    obtain ⟨k, hk, rfl, rfl, rfl⟩ := hrel
    by_cases hlt : k < (str S).size
    · have AT := Lib.hid (all_take (str_get hlt))
      generalize (S.take k).all (on plI) = p at *
      cases p
      · have AT2 : Hid ((S.take (k + 1)).all (on plI) = false) := by show _ = false; rw [AT.out]; rfl
        clear AT
        go_wp2_with fail
        go_roundw
        case rel => exact ⟨k + 1, by omega, by rw [AT2.out], by go_num, trivial⟩
        case measure => simp [intOf]; omega
      · have AT2 : Hid ((S.take (k + 1)).all (on plI) = plI ((str S)[k].toNat : Int)) := by show _ = _; rw [AT.out]; simp [on]
        clear AT
        by_cases g1 : 32 ≤ ((str S)[k].toNat : Int)
        · by_cases g2 : ((str S)[k].toNat : Int) ≤ 126
          · have AT3 : Hid ((S.take (k + 1)).all (on plI) = (((str S)[k].toNat : Int) != 34)) := by
              show _ = _
              rw [AT2.out, Bool.eq_iff_iff]
              simp [plI]
              omega
            clear AT2
            go_wp2_with fail
            go_roundw
            case rel => exact ⟨k + 1, by omega, by rw [AT3.out], by go_num, trivial⟩
            case measure => simp [intOf]; omega
          · have AT3 : Hid ((S.take (k + 1)).all (on plI) = false) := by show _ = false; rw [AT2.out]; simp [plI]; omega
            have g2' : 126 < ((str S)[k].toNat : Int) := by omega
            clear AT2 g2
            go_wp2_with fail
            go_roundw
            case rel => exact ⟨k + 1, by omega, by rw [AT3.out], by go_num, trivial⟩
            case measure => simp [intOf]; omega
        · have AT3 : Hid ((S.take (k + 1)).all (on plI) = false) := by show _ = false; rw [AT2.out]; simp [plI]; omega
          have g1' : ((str S)[k].toNat : Int) < 32 := by omega
          clear AT2 g1
          go_wp2_with fail
          go_roundw
          case rel => exact ⟨k + 1, by omega, by rw [AT3.out], by go_num, trivial⟩
          case measure => simp [intOf]; omega
    · have hge : ((str S).size : Int) ≤ k := by omega
      rw [List.take_of_length_le (by have := HSZ.out; omega)]
      clear hlt
      go_wp2_with fail
      rw [HQ.out]
      have JP : Hid (S.all (on plI) = true → joinP ([(⟨3, 0, S⟩ : Tk)].map kt) = showL 3 S) := by
        intro hp
        rw [← quote_right] at hp
        unfold joinP
        rw [if_pos (by simpa [kt] using hp)]
        rfl
      have TL : Hid (S.length ≤ 4000) := by show S.length ≤ 4000; have := HSZ.out; omega
      generalize scan (showL 3 S) = r at *
      obtain ⟨rl, ra, re⟩ := r
      generalize S.all (on plI) = p at *
      refine (SC.out w1 (HT.out.below B1.out)).mono ?_
      rintro e w2 ⟨A, c1, rfl, hl1, hb2⟩
      have B2 := Lib.hid (below_trans B1.out hb2)
      have L2 := Lib.hid hl1
      clear hb2 hl1
      rcases RWH.out with ⟨h1, h2⟩ | ⟨h1, h2⟩ | ⟨h1, h2, h3⟩ | ⟨h1, h2, y, h3, h4⟩
      · simp only [Prod.mk.injEq] at h2
        obtain ⟨rfl, _, rfl⟩ := h2
        subst h1
        have JN := Lib.hid fun w (T : Tab w b o c) (h : TokR w A [⟨3, 0, S⟩]) => join_any [⟨3, 0, S⟩] A c1 w T h (by simp) (fun x hx => by simp at hx; subst hx; exact TL.out)
        rw [JP.out rfl] at JN
        obtain rfl := END.out rfl
        obtain ⟨ao, xo, rfl, hxo, hko, g0, g1, g2⟩ := L2.out.at_ (k := 0) (by simp)
        cases hxo
        simp [Addr.add] at g0 g1 g2
        have hq := HQ.out
        clear RWH END hko
        simp only [List.length_cons, List.length_nil] at JN ⊢
        have W9 : IntKind.i64.wrap (((str S).size : Int) + 2) = ((str S).size : Int) + 2 := IntWalk.i64_in _ (by omega)
        go_wp2_with fail
        refine (JN.out w2 (HT.out.below B2.out) L2.out).mono ?_
        rintro e w3 ⟨rfl, hb3⟩
        have B3 := Lib.hid (below_trans B2.out hb3)
        clear hb3
        go_wp2_with fail
        go_ret
        exact ⟨rfl, B3.out⟩
      · subst h1
        have e1 : (re == 0) = false := by simpa using h2
        clear h2 RWH JP END
        go_wp2_with fail
        go_ret
        exact ⟨rfl, B2.out⟩
      · subst h1
        simp only at h2 h3
        subst h2
        have e1 : ((rl.length : Int) == 1) = false := by simp; omega
        clear h3 RWH JP END
        go_wp2_with fail
        go_ret
        exact ⟨rfl, B2.out⟩
      · subst h1
        simp only at h2 h3
        subst h2 h3
        obtain ⟨ao, xo, rfl, hxo, hko, g0, g1, g2⟩ := L2.out.at_ (k := 0) (by simp)
        cases hxo
        simp [Addr.add] at g0 g1 g2
        clear RWH JP END hko
        simp only [List.length_cons, List.length_nil]
        obtain ⟨yk, ya, yt⟩ := y
        simp only at h4 g0 g1 g2
        by_cases hk1 : yk = 3
        · subst hk1
          by_cases ha1 : ya = 0
          · subst ha1
            have e3 : ((str yt).toList == (str S).toList) = false := by
              rw [toList_str, toList_str]
              have : yt ≠ S := fun e => h4 (by rw [e])
              simpa using this
            clear h4
            go_wp2_with fail
            go_ret
            exact ⟨rfl, B2.out⟩
          · have e2 : ((ya : Int) == 0) = false := by simp; omega
            clear h4 ha1
            go_wp2_with fail
            go_ret
            exact ⟨rfl, B2.out⟩
        · have e1 : (yk == 3) = false := by simpa using hk1
          clear h4 hk1
          go_wp2_with fail
          go_ret
          exact ⟨rfl, B2.out⟩
theorem quotesLaw_any (s : ByteArray) (w : World) {b o c : Nat} (T : Tab w b o c) (hs : s.size ≤ maxLen) : Calls Tryd.prog 8 #[.string s] w fun e w' => e = .returned (.bool true) ∧ Below w.heap.size w w' := by
  have := quotesLaw_str (bs s) w T (by rw [str_bs]; exact hs)
  rwa [str_bs] at this
end Go.Proofs.YtnffnkmghghmlaaDoor
