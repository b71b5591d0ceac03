/- TokenWords' walk. Condition: where the words lie. -/
import Derived.Test.YtnffnkmghghmlaaDoorAwake
import Derived.Test.YtnffnkmghghmlaaDoorRefSmall
namespace Go.Proofs.YtnffnkmghghmlaaDoor
open Go.RowKit
set_option linter.unusedVariables false
set_option linter.unusedSimpArgs false
/-- of a name's bytes -/
theorem name_lex {S : Bs} (h : nameL S = true) : lex 0 S = if (runC S).2 = 0 then ([⟨(runC S).1, 0, S⟩], S.length, 0) else ([], 0, (runC S).2) := by
  unfold nameL at h
  simp only [Bool.and_eq_true, decide_eq_true_eq] at h
  obtain ⟨⟨h1, h2⟩, h3⟩ := h
  have hne : S ≠ [] := by rintro rfl; simp at h1
  obtain ⟨c, r, rfl, hc⟩ := head_some hne
  have hr : runI (c.toNat : Int) = true := spanN_get (p := runI) (c :: r) 0 c (by rw [h3]; simp) rfl
  have hb : spanN blI (c :: r) = 0 := by
    unfold spanN
    rw [if_neg]
    unfold on
    simp [runI, blI] at hr ⊢
    omega
  have ho : oneL (c :: r) = ⟨(runC (c :: r)).1, c :: r, (c :: r).length, (runC (c :: r)).2⟩ := by
    unfold oneL
    rw [hc, if_pos hr, h3, List.take_length]
  by_cases he : (runC (c :: r)).2 = 0
  · rw [if_pos he, lex_tok (by rw [hb]; exact hne) (by rw [hb, List.drop_zero, ho]; exact he), hb, List.drop_zero, ho]
    have e0 : lex (0 + 0 + (c :: r).length) ((c :: r).drop (c :: r).length) = ([], (c :: r).length, 0) := by
      rw [List.drop_length]
      have : ∀ b, lex b ([] : Bs) = ([], b + 0, 0) := fun b => lex_end rfl
      rw [this]
      simp
    rw [e0]
  · rw [if_neg he, lex_bad (by rw [hb]; exact hne) (by rw [hb, List.drop_zero, ho]; exact he), hb, List.drop_zero, ho]
theorem tbl_runC : ∀ x ∈ tbl, runC x = (0, 0) ∧ nameL x = true := by decide +kernel
theorem tbl_lex {x : Bs} (h : x ∈ tbl) : scan x = ([⟨0, 0, x⟩], x.length, 0) := by
  have h1 := tbl_runC x h
  unfold scan
  rw [name_lex h1.2, h1.1]
  rfl
/-- of a name: how it is told -/
theorem name_scan {S : Bs} (h : nameL S = true) : (tbl.contains S = true ∧ scan S = ([⟨0, 0, S⟩], S.length, 0)) ∨ (tbl.contains S = false ∧ ∃ k, (k = 1 ∨ k = 2) ∧ scan S = ([⟨k, 0, S⟩], S.length, 0)) ∨ (tbl.contains S = false ∧ ∃ e, e ≠ 0 ∧ scan S = ([], 0, e)) := by
  cases hc : tbl.contains S
  · right
    have hk : (runC S).1 = 1 ∨ (runC S).1 = 2 := by
      unfold runC
      rw [hc]
      split
      · exact .inr rfl
      · simp only [Bool.false_eq_true, if_false]
        split <;> exact .inl rfl
    by_cases he : (runC S).2 = 0
    · refine .inl ⟨rfl, (runC S).1, hk, ?_⟩
      unfold scan
      rw [name_lex h, if_pos he]
      rfl
    · refine .inr ⟨rfl, (runC S).2, he, ?_⟩
      unfold scan
      rw [name_lex h, if_neg he]
      simp [he]
  · left
    rw [List.contains_eq_mem, decide_eq_true_eq] at hc
    exact ⟨rfl, tbl_lex hc⟩
theorem name_few {S : Bs} (h : nameL S = true) : (lex 0 S).1.length < 4096 := by
  rw [name_lex h]
  split <;> simp
set_option maxRecDepth 100000 in
set_option maxHeartbeats 2000000 in
theorem rname_any (s : ByteArray) (w : World) (hs : s.size ≤ maxLen) : Calls Tryd.prog 17 #[.string s] w fun e w' => e = .returned (.bool (nameL (bs s))) ∧ w = w' := by
  unfold maxLen at hs
  go_enter Tryd.func17, Tryd.ntmps17
  go_wp2_with fail
  go_loopw [3] (fun i v => ∃ k : Nat, k ≤ s.size ∧ i = .int .i64 k ∧ Hid (FrontTo runI s k) ∧ w = v) (fun i _ => s.size - (intOf i).toNat)
  case atStart => exact ⟨0, Nat.zero_le _, rfl, fun i c h _ => by omega, rfl⟩
  case round =>
    obtain ⟨k, hk, rfl, ha, rfl⟩ := hrel
    by_cases hlt : k < s.size
    · have YES := Lib.hid (ha.out.next hlt)
      have NO : Hid (runI (s[k].toNat : Int) = false → nameL (bs s) = false) := fun hb => by
        have : spanN runI (bs s) = k := spanN_eq _ _ (by rw [bs_len]; exact hk) ha.out fun c hc => by
          rw [bs_get hlt] at hc
          cases hc
          exact hb
        unfold nameL
        rw [this, bs_len, decide_eq_false (p := k = s.size) (by omega), Bool.and_false]
      obtain ⟨c, hc⟩ : ∃ c : Int, c = s[k].toNat := ⟨_, rfl⟩
      rw [← hc] at YES NO
      have HC := Lib.hid hc
      cases h1 : lowI c
      · cases h2 : digI c
        · by_cases h3 : c = 45
          · have Y := Lib.hid (YES.out (by rw [h3]; rfl))
            have e3 : ((s[k].toNat : Int) != 45) = false := by rw [← hc, h3]; rfl
            have D1 := Lib.hid h1
            have D2 := Lib.hid h2
            clear YES NO h1 h2 h3 hc
            go_wp2_with fail
            rw [← HC.out]
            refine (rletter_any c w).mono ?_
            rintro e w' ⟨rfl, rfl⟩
            rw [D1.out]
            go_wp2_with fail
            rw [← HC.out]
            refine (rdigit_any c w).mono ?_
            rintro e w' ⟨rfl, rfl⟩
            rw [D2.out]
            go_wp2_with fail
            go_roundw
            case rel => exact ⟨k + 1, by omega, by go_num, Y.out, trivial⟩
            case measure => simp [intOf]; omega
          · have N := Lib.hid (NO.out (by simp [runI, lowI, digI] at *; omega))
            have e3 : ((s[k].toNat : Int) != 45) = true := by rw [← hc]; simpa using h3
            have D1 := Lib.hid h1
            have D2 := Lib.hid h2
            clear YES NO h1 h2 h3 hc
            go_wp2_with fail
            rw [← HC.out]
            refine (rletter_any c w).mono ?_
            rintro e w' ⟨rfl, rfl⟩
            rw [D1.out]
            go_wp2_with fail
            rw [← HC.out]
            refine (rdigit_any c w).mono ?_
            rintro e w' ⟨rfl, rfl⟩
            rw [D2.out]
            go_wp2_with fail
            go_ret
            exact ⟨ret_bool N.out, rfl⟩
        · have Y := Lib.hid (YES.out (by simp [runI, digI] at *; omega))
          have D1 := Lib.hid h1
          have D2 := Lib.hid h2
          clear YES NO h1 h2 hc
          go_wp2_with fail
          rw [← HC.out]
          refine (rletter_any c w).mono ?_
          rintro e w' ⟨rfl, rfl⟩
          rw [D1.out]
          go_wp2_with fail
          rw [← HC.out]
          refine (rdigit_any c w).mono ?_
          rintro e w' ⟨rfl, rfl⟩
          rw [D2.out]
          go_wp2_with fail
          go_roundw
          case rel => exact ⟨k + 1, by omega, by go_num, Y.out, trivial⟩
          case measure => simp [intOf]; omega
      · have Y := Lib.hid (YES.out (by simp [runI, lowI] at *; omega))
        have D1 := Lib.hid h1
        clear YES NO h1 hc
        go_wp2_with fail
        rw [← HC.out]
        refine (rletter_any c w).mono ?_
        rintro e w' ⟨rfl, rfl⟩
        rw [D1.out]
        go_wp2_with fail
        go_roundw
        case rel => exact ⟨k + 1, by omega, by go_num, Y.out, trivial⟩
        case measure => simp [intOf]; omega
    · obtain rfl : k = s.size := by omega
      have hspan : spanN runI (bs s) = s.size := spanN_eq _ _ (by rw [bs_len]; exact hk) ha.out fun c hc => by
        rw [← bs_len] at hc
        simp at hc
      have HN : Hid (nameL (bs s) = (decide (1 ≤ s.size) && decide (s.size ≤ 16))) := by
        show _ = _
        unfold nameL
        rw [hspan, bs_len]
        simp
      clear hspan hlt
      by_cases h1 : s.size < 1
      · have h1' : (s.size : Int) < 1 := by omega
        have N : Hid (nameL (bs s) = false) := by show _ = _; rw [HN.out, decide_eq_false (p := 1 ≤ s.size) (by omega)]; rfl
        go_wp2_with fail
        all_goals first | (go_ret; exact ⟨ret_bool N.out, rfl⟩) | (exfalso; rename_i hq; simp at hq; omega)
      · have h1' : (1 : Int) ≤ s.size := by omega
        by_cases h2 : s.size ≤ 16
        · have h2' : (s.size : Int) ≤ 16 := by omega
          have N : Hid (nameL (bs s) = true) := by show _ = _; rw [HN.out, decide_eq_true (p := 1 ≤ s.size) (by omega), decide_eq_true h2]; rfl
          clear h1 h2
          go_wp2_with fail
          go_ret
          exact ⟨ret_bool N.out, rfl⟩
        · have h2' : (16 : Int) < s.size := by omega
          have N : Hid (nameL (bs s) = false) := by show _ = _; rw [HN.out, decide_eq_false h2, Bool.and_false]
          clear h1
          go_wp2_with fail
          go_ret
          exact ⟨ret_bool (N.out.trans (decide_eq_false (by omega)).symm), rfl⟩
/-- is a text one of the first words? -/
def inT (k : Nat) (S : Bs) : Bool := (tbl.take k).contains S
theorem take_has (L : List Bs) (k : Nat) (x S : Bs) (h : L[k]? = some x) : (L.take (k + 1)).contains S = ((L.take k).contains S || (S == x)) := by
  rw [List.take_add_one, h]
  by_cases hs : S = x
  · simp [hs]
  · simp [List.contains_eq_mem, hs]
theorem inT_next {k : Nat} {x S : Bs} (h : tbl[k]? = some x) : inT (k + 1) S = (inT k S || (S == x)) := take_has tbl k x S h
theorem inT_all {k : Nat} (S : Bs) (h : 35 ≤ k) : inT k S = tbl.contains S := by
  unfold inT
  rw [List.take_of_length_le (by rw [tbl_len]; exact h)]
theorem StrR.at_ {w : World} {A : Option Addr} {L : List Bs} (h : StrR w A L) {k : Nat} (hk : k < L.length) : ∃ a x, A = some a ∧ L[k]? = some x ∧ a.block < w.heap.size ∧ w.cell? (a.add k) = some (.string (str x)) := by
  obtain ⟨a, u, h1, h2, h3, h4⟩ := Reads.at_ h hk
  simp only [List.getElem?_map, Option.map_eq_some_iff] at h3
  obtain ⟨x, hx, rfl⟩ := h3
  exact ⟨a, x, h1, hx, h2, h4⟩
set_option maxRecDepth 100000 in
set_option maxHeartbeats 1000000 in
theorem words_any (w : World) {b o c : Nat} (T : Tab w b o c) : Calls Tryd.prog 15 #[] w fun e w' => ∃ A c', e = .returned (.slice A 35 c') ∧ StrR w' A tbl ∧ Below w.heap.size w w' := by
  have hw := T.hw
  have CL := Lib.hid (Tryd.slices_Clone_string b o 35 c (tbl.map str) w (by decide) (by omega) (fun j hj => by
    rw [List.length_map] at hj
    have e := tbl_at (t := j) (by rw [← tbl_len]; exact hj)
    rw [T.cw j _ e, List.getD_eq_getElem?_getD, List.getElem?_map, e]
    rfl))
  clear T
  go_enter Tryd.func15, Tryd.ntmps15
  go_wp2_with fail
  refine CL.out.mono ?_
  rintro e w' ⟨v, rfl, hown, _, hb⟩
  obtain ⟨A, c', rfl, _⟩ := own_form hown
  have R := Lib.hid (Row.of_own hown).reads
  have B := Lib.hid hb
  clear hown hb
  go_wp2_with fail
  go_ret
  refine ⟨A, c', rfl, ?_, B.out⟩
  have h1 := R.out
  have e : ((tbl.map str).take 35).map Value.string = tbl.map fun x => .string (str x) := rfl
  rw [e] at h1
  exact h1
set_option maxRecDepth 100000 in
set_option maxHeartbeats 8000000 in
theorem wordsLaw_str (S : Bs) (w : World) {b o c : Nat} (T : Tab w b o c) (hs : (str S).size ≤ maxLen) : Calls Tryd.prog 6 #[.string (str S)] w fun e w' => e = .returned (.bool true) ∧ Below w.heap.size w w' := by
  have HT := Lib.hid T
  have AW := Lib.hid (awake_any w T)
  have WD := Lib.hid fun w (T : Tab w b o c) => words_any w T
  have NM := Lib.hid fun w => rname_any (str S) w hs
  rw [bs_str] at NM
  have HS := Lib.hid hs
  unfold maxLen at hs
  clear T
  go_enter Tryd.func6, Tryd.ntmps6
  go_wp2_with fail
  refine AW.out.mono ?_
  rintro e w1 ⟨rfl, hb1⟩
  have B1 := Lib.hid hb1
  clear hb1
  go_wp2_with fail
  refine (WD.out w1 (HT.out.below B1.out)).mono ?_
  rintro e w2 ⟨A, c1, rfl, hl, hb2⟩
  have B2 := Lib.hid (below_trans B1.out hb2)
  have L2 := Lib.hid hl
  clear hb2 hl
  go_wp2_with fail
  go_loopw [4, 5] (fun p i v => ∃ (k : Nat), k ≤ 35 ∧ p = .bool (inT k S) ∧ i = .int .i64 k ∧ Hid (Below w2.heap.size w2 v)) (fun _ i _ => 35 - (intOf i).toNat)
  case atStart => exact ⟨0, Nat.zero_le _, rfl, rfl, Lib.hid (Below.refl _ _)⟩
  case round =>
    obtain ⟨k, hk, rfl, rfl, hb⟩ := hrel
    by_cases hlt : k < 35
    · obtain ⟨a, x, rfl, hx, hblk, c0⟩ := (L2.out.up hb.out).at_ (k := k) (by rw [tbl_len]; exact hlt)
      have hmem := List.mem_of_getElem? hx
      have hsc := tbl_lex hmem
      have hfew := name_few (tbl_runC x hmem).2
      have hxl : x.length ≤ 16 := by
        have := (tbl_runC x hmem).2
        unfold nameL at this
        simp only [Bool.and_eq_true, decide_eq_true_eq] at this
        exact this.1.2
      have SC := Lib.hid fun w T => scan_any (b := b) (o := o) (c := c) (str x) w T (by rw [str_size]; unfold maxLen; omega) (by rw [bs_str]; exact hfew)
      rw [bs_str, hsc] at SC
      have NXT : Hid (inT (k + 1) S = (inT k S || (S == x))) := inT_next hx
      have CMP : Hid (((str x).toList == (str S).toList) = (S == x)) := by
        show _ = _
        rw [toList_str, toList_str, Bool.eq_iff_iff, beq_iff_eq, beq_iff_eq]
        exact eq_comm
      have BW := Lib.hid (below_trans B2.out hb.out)
      unfold ScanR at SC
      simp only [List.length_cons, List.length_nil] at SC
      generalize inT k S = p at *
      have HX := Lib.hid hx
      clear hmem hsc hfew hxl hx
      rcases Nat.eq_zero_or_pos k with hk0 | hk0
      · have hk1 : (k : Int) ≤ 0 := by omega
        have hk3 : decide (0 < k) = false := decide_eq_false (by omega)
        have hk4 : decide ((0 : Int) < k) = false := decide_eq_false (by omega)
        clear hk0
        go_wp2_with fail
        refine (SC.out wr (HT.out.below BW.out)).mono ?_
        rintro e w3 ⟨A3, c3, rfl, hl3, hb3⟩
        have B3 := Lib.hid (below_trans hb.out hb3)
        obtain ⟨ao, xo, rfl, hxo, hko, g0, g1, g2⟩ := hl3.at_ (k := 0) (by simp)
        cases hxo
        simp [Addr.add] at g0 g1 g2
        have cc0 := (hb3.cell (p := a.add k) (by rw [block_of_add]; exact hblk)).trans c0
        clear hb3 hl3 hko c0
        simp only [Nat.zero_add]
        go_wp2_with fail
        go_quiet (fail)
        have cc1 : (w3.drewN nq).cell? (a.add k) = some (.string (str x)) := cc0
        cases p
        · have NX2 : Hid (inT (k + 1) S = (S == x)) := by show _ = _; rw [NXT.out]; rfl
          have cmp := CMP.out
          go_wp2_with fail
          go_roundw
          case rel => exact ⟨k + 1, by omega, by rw [NX2.out], by go_num, below_drewN' B3.out _⟩
          case measure => simp [intOf]; omega
        · have NX2 : Hid (inT (k + 1) S = true) := by show _ = _; rw [NXT.out]; rfl
          go_wp2_with fail
          go_roundw
          case rel => exact ⟨k + 1, by omega, by rw [NX2.out], by go_num, below_drewN' B3.out _⟩
          case measure => simp [intOf]; omega
      · have hk1 : (0 : Int) < k := by omega
        obtain ⟨j, hj⟩ : ∃ j, j = k - 1 := ⟨_, rfl⟩
        have W1 : IntKind.i64.wrap ((k : Int) - 1) = (j : Int) := by rw [show (k : Int) - 1 = j by omega]; exact IntWalk.i64_in _ (by omega)
        have hj35 : j < 35 := by omega
        have hjI : (j : Int) < 35 := by omega
        obtain ⟨a', y, ha', hy, hblk', d0⟩ := (L2.out.up hb.out).at_ (k := j) (by rw [tbl_len]; exact hj35)
        obtain rfl : a = a' := Option.some.inj ha'
        have LS : Op.bytesLess (str y).toList (str x).toList = true := by
          have := tbl_sorted ⟨j, hj35⟩ ⟨k, hlt⟩
          rw [show tbl[(⟨j, hj35⟩ : Fin 35).1]? = some y from hy, show tbl[(⟨k, hlt⟩ : Fin 35).1]? = some x from HX.out] at this
          rw [toList_str, toList_str]
          rw [Option.getD_some, Option.getD_some] at this
          rw [this]
          exact decide_eq_true (show j < k by omega)
        clear ha' hy hj
        go_wp2_with fail
        refine (SC.out wr (HT.out.below BW.out)).mono ?_
        rintro e w3 ⟨A3, c3, rfl, hl3, hb3⟩
        have B3 := Lib.hid (below_trans hb.out hb3)
        obtain ⟨ao, xo, rfl, hxo, hko, g0, g1, g2⟩ := hl3.at_ (k := 0) (by simp)
        cases hxo
        simp [Addr.add] at g0 g1 g2
        have cc0 := (hb3.cell (p := a.add k) (by rw [block_of_add]; exact hblk)).trans c0
        have dd0 := (hb3.cell (p := a.add j) (by rw [block_of_add]; exact hblk')).trans d0
        clear d0
        clear hb3 hl3 hko c0
        simp only [Nat.zero_add]
        go_wp2_with fail
        go_quiet (fail)
        have cc1 : (w3.drewN nq).cell? (a.add k) = some (.string (str x)) := cc0
        cases p
        · have NX2 : Hid (inT (k + 1) S = (S == x)) := by show _ = _; rw [NXT.out]; rfl
          have cmp := CMP.out
          go_wp2_with fail
          go_roundw
          case rel => exact ⟨k + 1, by omega, by rw [NX2.out], by go_num, below_drewN' B3.out _⟩
          case measure => simp [intOf]; omega
        · have NX2 : Hid (inT (k + 1) S = true) := by show _ = _; rw [NXT.out]; rfl
          go_wp2_with fail
          go_roundw
          case rel => exact ⟨k + 1, by omega, by rw [NX2.out], by go_num, below_drewN' B3.out _⟩
          case measure => simp [intOf]; omega
    · have hge : (35 : Int) ≤ k := by omega
      have BW := Lib.hid (below_trans B2.out hb.out)
      have IA := Lib.hid (inT_all S (show 35 ≤ k by omega))
      clear hlt
      have RW := Lib.hid fun w => rwords_any w
      go_wp2_with fail
      refine (RW.out wr).mono ?_
      rintro e w3 ⟨A3, c3, rfl, hl3, hb3⟩
      have B3 := Lib.hid (below_trans BW.out hb3)
      clear hb3 hl3
      go_wp2_with fail
      refine (NM.out w3).mono ?_
      rintro e w' ⟨rfl, rfl⟩
      cases hn : nameL S
      · have HN := Lib.hid hn
        clear hn
        go_wp2_with fail
        refine (RW.out w3).mono ?_
        rintro e w4 ⟨A4, c4, rfl, hl4, hb4⟩
        have B4 := Lib.hid (below_trans B3.out hb4)
        clear hb4 hl4
        go_wp2_with fail
        go_ret
        exact ⟨rfl, B4.out⟩
      · have SC := Lib.hid fun w T => scan_any (b := b) (o := o) (c := c) (str S) w T HS.out (by rw [bs_str]; exact name_few hn)
        have NS := Lib.hid (name_scan hn)
        rw [← IA.out] at NS
        rw [bs_str] at SC
        unfold ScanR at SC
        generalize scan S = r at *
        clear IA
        generalize inT k S = q at *
        obtain ⟨rl, ra, re⟩ := r
        clear hn
        go_wp2_with fail
        refine (SC.out w3 (HT.out.below B3.out)).mono ?_
        rintro e w4 ⟨A4, c4, rfl, hl4, hb4⟩
        have B4 := Lib.hid (below_trans B3.out hb4)
        have L4 := Lib.hid hl4
        clear hb4 hl4
        rcases NS.out with ⟨hq, h2⟩ | ⟨hq, kd, hkd, h2⟩ | ⟨hq, er, her, h2⟩
        · simp only [Prod.mk.injEq] at h2
          obtain ⟨rfl, rfl, rfl⟩ := h2
          obtain ⟨ao, xo, rfl, hxo, hko, g0, g1, g2⟩ := L4.out.at_ (k := 0) (by simp)
          cases hxo
          simp [Addr.add] at g0 g1 g2
          simp only [List.length_cons, List.length_nil, Nat.zero_add]
          subst hq
          clear SC NS hko
          go_wp2_with fail
          go_ret
          exact ⟨rfl, B4.out⟩
        · simp only [Prod.mk.injEq] at h2
          obtain ⟨rfl, rfl, rfl⟩ := h2
          obtain ⟨ao, xo, rfl, hxo, hko, g0, g1, g2⟩ := L4.out.at_ (k := 0) (by simp)
          cases hxo
          simp [Addr.add] at g0 g1 g2
          simp only [List.length_cons, List.length_nil, Nat.zero_add]
          subst hq
          clear SC NS hko
          rcases hkd with rfl | rfl
          · go_wp2_with fail
            go_ret
            exact ⟨rfl, B4.out⟩
          · go_wp2_with fail
            go_ret
            exact ⟨rfl, B4.out⟩
        · simp only [Prod.mk.injEq] at h2
          obtain ⟨rfl, rfl, h9⟩ := h2
          have e1 : (re != 0) = true := by rw [h9]; simpa using her
          clear h9
          simp only [List.length_nil]
          subst hq
          clear SC NS her
          go_wp2_with fail
          go_ret
          exact ⟨rfl, B4.out⟩
theorem wordsLaw_any (s : ByteArray) (w : World) {b o c : Nat} (T : Tab w b o c) (hs : s.size ≤ maxLen) : Calls Tryd.prog 6 #[.string s] w fun e w' => e = .returned (.bool true) ∧ Below w.heap.size w w' := by
  have := wordsLaw_str (bs s) w T (by rw [str_bs]; exact hs)
  rwa [str_bs] at this
end Go.Proofs.YtnffnkmghghmlaaDoor
