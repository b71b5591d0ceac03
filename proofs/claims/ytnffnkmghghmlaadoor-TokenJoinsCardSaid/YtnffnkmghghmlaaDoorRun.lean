/- The walks of names and of run. Conditions: where the words lie; a run's bytes. -/
import Derived.Test.YtnffnkmghghmlaaDoorAmount
import Derived.Test.YtnffnkmghghmlaaDoorShelf
namespace Go.Proofs.YtnffnkmghghmlaaDoor
open Go.RowKit
set_option linter.unusedVariables false
set_option linter.unusedSimpArgs false
def str (l : Bs) : ByteArray := ⟨l.toArray⟩
theorem bs_str (l : Bs) : bs (str l) = l := by simp [bs, str]
theorem str_bs (s : ByteArray) : str (bs s) = s := bs_inj (bs_str _)
theorem str_size (l : Bs) : (str l).size = l.length := by rw [← bs_len, bs_str]
def kinds : List Bs := [[119, 111, 114, 100], [110, 97, 109, 101], [110, 117, 109, 98, 101, 114], [116, 101, 120, 116], [99, 111, 100, 101], [115, 105, 103, 110]]
/-- the program's table of words -/
structure Tab (w : World) (b o c : Nat) : Prop where
  hw : w.cell? ⟨0, 0, none⟩ = some (.slice (some ⟨b, o, none⟩) 35 c)
  cw : ∀ (j : Nat) x, tbl[j]? = some x → w.cell? ⟨b, o + j, none⟩ = some (.string (str x))
  bw : b < w.heap.size
  lw : 35 ≤ c
theorem Tab.below {w w' : World} {b o c : Nat} (T : Tab w b o c) (hb : Below w.heap.size w w') : Tab w' b o c where
  hw := (hb.cell (p := ⟨0, 0, none⟩) (lt_of_cell T.hw)).trans T.hw
  cw j x hx := (hb.cell (p := ⟨b, o + j, none⟩) T.bw).trans (T.cw j x hx)
  bw := Nat.lt_of_lt_of_le T.bw hb.size
  lw := T.lw
def wordAt (x : ByteArray) (t : Nat) : ByteArray := (tbl[t]?.map str).getD x
theorem tbl_len : tbl.length = 35 := rfl
theorem tbl_sorted : ∀ i : Fin 35, ∀ j : Fin 35, Op.bytesLess (tbl[i.1]?.getD []) (tbl[j.1]?.getD []) = decide (i.1 < j.1) := by decide +kernel
theorem less_self (l : Bs) : Op.bytesLess l l = false := by
  induction l with
  | nil => rfl
  | cons c l ih => simp [Op.bytesLess, ih]
theorem tbl_at {t : Nat} (h : t < 35) : tbl[t]? = some (tbl[t]?.getD []) := by rw [List.getElem?_eq_getElem (by rw [tbl_len]; exact h), Option.getD_some]
theorem wordAt_in (x : ByteArray) {t : Nat} {l : Bs} (h : tbl[t]? = some l) : wordAt x t = str l := by unfold wordAt; rw [h]; rfl
theorem wordAt_out (x : ByteArray) {t : Nat} (h : ¬ t < 35) : wordAt x t = x := by unfold wordAt; rw [List.getElem?_eq_none (by rw [tbl_len]; omega)]; rfl
theorem toList_str (l : Bs) : (str l).toList = l := by rw [ByteArray.toList_eq]; exact bs_str l
theorem found_eq (x : ByteArray) : (decide (Lib.bsGo (fun t => Op.bytesLess (wordAt x t).toList x.toList) 35 0 35 < 35 ∧ wordAt x (Lib.bsGo (fun t => Op.bytesLess (wordAt x t).toList x.toList) 35 0 35) = x)) = tbl.contains (bs x) := by
  have hxl : x.toList = bs x := ByteArray.toList_eq x
  generalize hI : Lib.bsGo (fun t => Op.bytesLess (wordAt x t).toList x.toList) 35 0 35 = I
  cases hx : tbl.contains (bs x)
  · refine decide_eq_false fun ⟨h1, h2⟩ => ?_
    have e := tbl_at h1
    rw [wordAt_in x e] at h2
    have hm : bs x ∈ tbl := by rw [← h2, bs_str]; exact List.mem_of_getElem? e
    rw [List.contains_eq_mem, decide_eq_false_iff_not] at hx
    exact hx hm
  · rw [List.contains_eq_mem, decide_eq_true_eq] at hx
    obtain ⟨j, hj⟩ := List.mem_iff_getElem?.1 hx
    have hj35 : j < 35 := (List.getElem?_eq_some_iff.1 hj).1
    have hjD : tbl[j]?.getD [] = bs x := by rw [hj, Option.getD_some]
    have key := Lib.bsGo_spec (fun t => Op.bytesLess (wordAt x t).toList x.toList) j (fun t ht => by
        have ht35 : t < 35 := by omega
        have h := tbl_sorted ⟨t, ht35⟩ ⟨j, hj35⟩
        have e := tbl_at ht35
        rw [hjD, decide_eq_true (p := t < j) ht] at h
        rw [wordAt_in x e, toList_str, hxl]
        exact h) (fun t ht => by
        by_cases ht35 : t < 35
        · have h := tbl_sorted ⟨t, ht35⟩ ⟨j, hj35⟩
          have e := tbl_at ht35
          rw [hjD, decide_eq_false (p := t < j) (by omega)] at h
          rw [wordAt_in x e, toList_str, hxl]
          exact h
        · rw [wordAt_out x ht35]
          exact less_self _) 35 0 35 (by omega) (by omega) (by omega)
    rw [hI] at key
    subst key
    refine decide_eq_true ⟨hj35, ?_⟩
    rw [wordAt_in x hj, str_bs]
/-- is a text a name? -/
def nameL (l : Bs) : Bool := decide (1 ≤ l.length) && decide (l.length ≤ 16) && decide (spanN runI l = l.length)
set_option maxRecDepth 100000 in
set_option maxHeartbeats 1000000 in
theorem all_any (s : ByteArray) (w : World) (hs : s.size ≤ maxLen) : Calls Tryd.prog 55 #[.string s, .func (.func 56) #[] #[]] w fun e w' => e = .returned (.bool (decide (spanN runI (bs s) = s.size))) ∧ w = w' := by
  unfold maxLen at hs
  go_enter Tryd.func55, Tryd.ntmps55
  go_wp2_with fail
  go_loopw [5, 8] (fun _ i v => ∃ k : Nat, k ≤ s.size ∧ i = .int .i64 k ∧ Hid (FrontTo runI s k) ∧ w = v) (fun _ i _ => s.size - (intOf i).toNat)
  case atStart => exact ⟨0, Nat.zero_le _, rfl, fun i c h _ => by omega, rfl⟩
  case round =>
    obtain ⟨k, hk, rfl, ha, rfl⟩ := hrel
    by_cases hlt : k < s.size
    · cases hb : runI (s[k].toNat : Int)
      · have HB := Lib.hid hb
        have HN : Hid (decide (spanN runI (bs s) = s.size) = false) := by
          show _ = false
          have : spanN runI (bs s) = k := spanN_eq _ _ (by rw [bs_len]; exact hk) ha.out fun c hc => by
            rw [bs_get hlt] at hc
            cases hc
            exact HB.out
          exact decide_eq_false (by omega)
        clear hb
        go_wp2_with fail
        refine (mname1_any _ w).mono ?_
        rintro e w' ⟨rfl, rfl⟩
        rw [HB.out]
        go_wp2_with fail
        go_ret
        exact ⟨ret_bool HN.out, rfl⟩
      · have HB := Lib.hid hb
        clear hb
        go_wp2_with fail
        refine (mname1_any _ w).mono ?_
        rintro e w' ⟨rfl, rfl⟩
        rw [HB.out]
        go_wp2_with fail
        go_roundw
        case rel => exact ⟨k + 1, by omega, by go_num, ha.out.next hlt HB.out, trivial⟩
        case measure => simp [intOf]; omega
    · obtain rfl : k = s.size := by omega
      have HN : Hid (decide (spanN runI (bs s) = s.size) = true) := by
        show _ = true
        exact decide_eq_true (spanN_eq _ _ (by rw [bs_len]; exact hk) ha.out fun c hc => by
          rw [← bs_len] at hc
          simp at hc)
      go_wp2_with fail
      go_ret
      exact ⟨ret_bool HN.out, rfl⟩
set_option maxHeartbeats 1000000 in
theorem name_any (s : ByteArray) (w : World) (hs : s.size ≤ maxLen) : Calls Tryd.prog 49 #[.string s] w fun e w' => e = .returned (.bool (nameL (bs s))) ∧ w = w' := by
  by_cases h1 : s.size < 1
  · have HN : Hid (nameL (bs s) = false) := by
      show nameL (bs s) = false
      unfold nameL
      rw [bs_len, decide_eq_false (by omega)]
      rfl
    have h1' : (s.size : Int) < 1 := by omega
    go_enter Tryd.func49, Tryd.ntmps49
    go_wp2_with fail
    go_ret
    exact ⟨ret_bool HN.out, rfl⟩
  · by_cases h2 : 16 < s.size
    · have HN : Hid (nameL (bs s) = false) := by
        show nameL (bs s) = false
        unfold nameL
        rw [bs_len, decide_eq_false (p := s.size ≤ 16) (by omega)]
        simp
      have h1' : (1 : Int) ≤ s.size := by omega
      have h2' : (16 : Int) < s.size := by omega
      go_enter Tryd.func49, Tryd.ntmps49
      go_wp2_with fail
      go_ret
      exact ⟨ret_bool HN.out, rfl⟩
    · have h1' : (1 : Int) ≤ s.size := by omega
      have h2' : (s.size : Int) ≤ 16 := by omega
      have HN : Hid (nameL (bs s) = decide (spanN runI (bs s) = s.size)) := by
        show nameL (bs s) = _
        unfold nameL
        rw [bs_len, decide_eq_true (p := s.size ≤ 16) (by omega), decide_eq_true (p := 1 ≤ s.size) (by omega)]
        rfl
      clear h1 h2
      go_enter Tryd.func49, Tryd.ntmps49
      go_wp2_with fail
      refine (all_any s w hs).mono ?_
      rintro e w' ⟨rfl, rfl⟩
      go_wp2_with fail
      go_ret
      exact ⟨ret_bool HN.out, rfl⟩
theorem ent_dig : Enters Tryd.prog 46 := enters_of Tryd.func46 (by kernel_rfl) rfl
theorem ent_run : Enters Tryd.prog 34 := enters_of Tryd.func34 (by kernel_rfl) rfl
theorem ent_cap : Enters Tryd.prog 36 := enters_of Tryd.func36 (by kernel_rfl) rfl
theorem ent_pl : Enters Tryd.prog 37 := enters_of Tryd.func37 (by kernel_rfl) rfl
theorem ent_bl : Enters Tryd.prog 24 := enters_of Tryd.func24 (by kernel_rfl) rfl
set_option maxRecDepth 100000 in
set_option maxHeartbeats 1000000 in
theorem run_any (s : ByteArray) (w : World) {b o c : Nat} (T : Tab w b o c) (hs : s.size ≤ maxLen) (h1 : 1 ≤ s.size) (hr : spanN runI (bs s) = s.size) :
    Calls Tryd.prog 35 #[.string s] w fun e w' => e = .returned (.tuple #[.int .i64 (runC (bs s)).1, .int .i64 (runC (bs s)).2]) ∧ Below w.heap.size w w' := by
  have SP := Lib.hid (span_any digI 46 ent_dig digit_any s w hs)
  by_cases hd : spanN digI (bs s) = s.size
  · have HR : Hid (runC (bs s) = (2, amtC (bs s))) := by
      show runC (bs s) = _
      unfold runC
      rw [if_pos (by rw [bs_len]; exact hd)]
    have AM := Lib.hid (amount_any s w hs hd)
    have hd' := Lib.hid hd
    rw [HR.out]
    clear hd hr
    go_enter Tryd.func35, Tryd.ntmps35
    go_wp2_with fail
    refine SP.out.mono ?_
    rintro e w' ⟨rfl, rfl⟩
    rw [hd'.out]
    go_wp2_with fail
    refine AM.out.mono ?_
    rintro e w' ⟨rfl, rfl⟩
    go_wp2_with fail
    go_ret2
    exact ⟨rfl, Below.refl _ _⟩
  · have hne : ((spanN digI (bs s) : Int) == s.size) = false := by
      simp
      omega
    have BSr := Lib.hid fun (w : World) (T : Tab w b o c) => Tryd.slices_BinarySearch_string b o 35 c (wordAt s) s w (by omega) (fun j hj => by
      have e := tbl_at hj
      rw [T.cw j _ e, wordAt_in s e])
    rw [found_eq s] at BSr
    have hw := T.hw
    have HT := Lib.hid T
    by_cases hc : tbl.contains (bs s) = true
    · have HR : Hid (runC (bs s) = (0, 0)) := by
        show runC (bs s) = _
        unfold runC
        rw [if_neg (by rw [bs_len]; exact hd), if_pos hc]
      have HC := Lib.hid hc
      rw [HR.out]
      clear hd hc hr T
      generalize Lib.bsGo (fun t => Op.bytesLess (wordAt s t).toList s.toList) 35 0 35 = I at BSr
      go_enter Tryd.func35, Tryd.ntmps35
      go_wp2_with fail
      refine SP.out.mono ?_
      rintro e w' ⟨rfl, rfl⟩
      go_wp2_with fail
      refine (BSr.out w HT.out).mono ?_
      rintro e w' ⟨rfl, q, rfl⟩
      rw [HC.out]
      go_wp2_with fail
      go_ret2
      exact ⟨rfl, below_drewN' (Below.refl _ _) _⟩
    · have HC := Lib.hid (show tbl.contains (bs s) = false by simpa using hc)
      have NA := Lib.hid fun w => name_any s w hs
      by_cases h16 : s.size ≤ 16
      · have HR : Hid (runC (bs s) = (1, 0)) := by
          show runC (bs s) = _
          unfold runC
          rw [if_neg (by rw [bs_len]; exact hd), if_neg hc, if_pos (by rw [bs_len]; exact h16)]
        have HN : Hid (nameL (bs s) = true) := by
          show nameL (bs s) = _
          unfold nameL
          rw [bs_len, hr]
          simp [h1, h16]
        rw [HR.out]
        clear hd hc hr T
        generalize Lib.bsGo (fun t => Op.bytesLess (wordAt s t).toList s.toList) 35 0 35 = I at BSr
        go_enter Tryd.func35, Tryd.ntmps35
        go_wp2_with fail
        refine SP.out.mono ?_
        rintro e w' ⟨rfl, rfl⟩
        go_wp2_with fail
        refine (BSr.out w HT.out).mono ?_
        rintro e w' ⟨rfl, q, rfl⟩
        rw [HC.out]
        go_wp2_with fail
        refine (NA.out _).mono ?_
        rintro e w' ⟨rfl, rfl⟩
        rw [HN.out]
        go_wp2_with fail
        go_ret2
        exact ⟨rfl, below_drewN' (Below.refl _ _) _⟩
      · have HR : Hid (runC (bs s) = (1, 2)) := by
          show runC (bs s) = _
          unfold runC
          rw [if_neg (by rw [bs_len]; exact hd), if_neg hc, if_neg (by rw [bs_len]; exact h16)]
        have HN : Hid (nameL (bs s) = false) := by
          show nameL (bs s) = _
          unfold nameL
          rw [bs_len, hr]
          simp [h1, h16]
        rw [HR.out]
        clear hd hc hr T
        generalize Lib.bsGo (fun t => Op.bytesLess (wordAt s t).toList s.toList) 35 0 35 = I at BSr
        go_enter Tryd.func35, Tryd.ntmps35
        go_wp2_with fail
        refine SP.out.mono ?_
        rintro e w' ⟨rfl, rfl⟩
        go_wp2_with fail
        refine (BSr.out w HT.out).mono ?_
        rintro e w' ⟨rfl, q, rfl⟩
        rw [HC.out]
        go_wp2_with fail
        refine (NA.out _).mono ?_
        rintro e w' ⟨rfl, rfl⟩
        rw [HN.out]
        go_wp2_with fail
        go_ret2
        exact ⟨rfl, below_drewN' (Below.refl _ _) _⟩
end Go.Proofs.YtnffnkmghghmlaaDoor
