/- The walks of the document's Right and Join. Conditions: where the tokens lie; their sizes. -/
import Derived.Test.YtnffnkmghghmlaaDoorJoin
import Derived.Test.YtnffnkmghghmlaaDoorRScan
namespace Go.Proofs.YtnffnkmghghmlaaDoor
open Go.RowKit
set_option linter.unusedVariables false
set_option linter.unusedSimpArgs false
set_option maxRecDepth 100000 in
set_option maxHeartbeats 4000000 in
theorem right_any (k a : Int) (t : Bs) (w : World) (ht : t.length ≤ 4000) : Calls Tryd.prog 32 #[.agg #[.int .i64 k, .int .i64 a, .string (str t)]] w fun e w' => e = .returned (.bool (rightB (k, t))) ∧ Below w.heap.size w w' := by
  have told := told_of (x := (k, t)) ht
  have SH := Lib.hid fun w => rshow_any k a t w (by omega)
  have SC := Lib.hid fun w => rscan_any (str (showL k t)) w (by rw [str_size]; have := told.2; unfold maxLen; simp only at this; omega) (by rw [bs_str]; exact told.1)
  rw [bs_str] at SC
  have RW := Lib.hid (right_ways (k, t))
  unfold ScanR at SC
  simp only at RW
  generalize rightB (k, t) = rb at *
  clear told
  go_enter Tryd.func32, Tryd.ntmps32
  go_wp2_with fail
  refine (SH.out _).mono ?_
  rintro e w3 ⟨rfl, hb3⟩
  have hba : Below w.heap.size w (w.alloc (.cells #[.int .i64 k, .int .i64 a, .string (str t)] 31)) := (Below.refl _ _).alloc (Nat.le_refl _) _
  have B3 := Lib.hid (below_trans hba hb3)
  have BX3 := Lib.hid ((Blk.new w 31 #[.int .i64 k, .int .i64 a, .string (str t)]).below hb3 (by simp))
  clear hb3 hba
  go_wp2_with fail
  refine (SC.out w3).mono ?_
  rintro e w4 ⟨O, co, rfl, hto, hb4⟩
  have B4 := Lib.hid (below_trans B3.out hb4)
  have BX4 := Lib.hid (BX3.out.below hb4 BX3.out.lt)
  have O4 := Lib.hid hto
  clear hb4 hto
  have x0 : w4.cell? ⟨w.heap.size, 0, none⟩ = some (.int .i64 k) := BX4.out.cell 0
  have x1 : w4.cell? ⟨w.heap.size, 1, none⟩ = some (.int .i64 a) := BX4.out.cell 1
  have x2 : w4.cell? ⟨w.heap.size, 2, none⟩ = some (.string (str t)) := BX4.out.cell 2
  have lb := BX4.out.lt
  generalize scan (showL k t) = r at *
  obtain ⟨rl, ra, re⟩ := r
  simp only at RW O4
  rcases RW.out with ⟨h1, h2⟩ | ⟨h1, h2⟩ | ⟨h1, h2, h3⟩ | ⟨h1, h2, y, h3, h4⟩
  · simp only [Prod.mk.injEq] at h2
    obtain ⟨rfl, _, rfl⟩ := h2
    subst h1
    obtain ⟨ao, xo, rfl, hxo, hko, g0, g1, g2⟩ := O4.out.at_ (k := 0) (by simp)
    cases hxo
    simp [Addr.add] at g0 g1 g2
    clear RW hko SC
    simp only [List.length_cons, List.length_nil]
    go_wp2_with fail
    go_quiet (fail)
    go_wp2_with fail
    go_ret
    exact ⟨rfl, below_drewN' B4.out _⟩
  · subst h1
    have e1 : (re == 0) = false := by simpa using h2
    clear h2 RW SC
    go_wp2_with fail
    go_quiet (fail)
    go_wp2_with fail
    go_ret
    exact ⟨rfl, below_drewN' B4.out _⟩
  · subst h1
    subst h2
    have e1 : ((rl.length : Int) == 1) = false := by simp; omega
    clear h3 RW SC
    go_wp2_with fail
    go_quiet (fail)
    go_wp2_with fail
    go_ret
    exact ⟨rfl, below_drewN' B4.out _⟩
  · subst h1
    subst h2 h3
    obtain ⟨ao, xo, rfl, hxo, hko, g0, g1, g2⟩ := O4.out.at_ (k := 0) (by simp)
    cases hxo
    simp [Addr.add] at g0 g1 g2
    clear RW hko SC
    simp only [List.length_cons, List.length_nil]
    obtain ⟨yk, ya, yt⟩ := y
    simp only at h4 g0 g1 g2
    by_cases hk1 : yk = k
    · subst hk1
      by_cases ht1 : yt = t
      · subst ht1
        have e2 : ((ya : Int) == 0) = false := by
          have : ya ≠ 0 := fun e => h4 (by rw [e])
          simp; omega
        clear h4
        go_wp2_with fail
        go_quiet (fail)
        go_wp2_with fail
        go_ret
        exact ⟨rfl, below_drewN' B4.out _⟩
      · have e3 : ((str yt).toList == (str t).toList) = false := by
          rw [toList_str, toList_str]
          simpa using ht1
        clear h4 ht1
        go_wp2_with fail
        go_quiet (fail)
        go_wp2_with fail
        go_ret
        exact ⟨rfl, below_drewN' B4.out _⟩
    · have e1 : (yk == k) = false := by simpa using hk1
      clear h4 hk1
      go_wp2_with fail
      go_quiet (fail)
      go_wp2_with fail
      go_ret
      exact ⟨rfl, below_drewN' B4.out _⟩
theorem joinL_push : ∀ (l : List (Int × Bs)) (x : Int × Bs), joinL (l ++ [x]) = if l = [] then showL x.1 x.2 else joinL l ++ 32 :: showL x.1 x.2
  | [], x => rfl
  | [y], x => by simp [joinL]
  | y :: z :: l, x => by
    have := joinL_push (z :: l) x
    rw [if_neg (by simp)] at this ⊢
    simp only [List.cons_append] at this ⊢
    rw [joinL, this, joinL]
    simp
theorem bs_ap (a b : ByteArray) : bs (a ++ b) = bs a ++ bs b := by unfold bs; simp
theorem str_ap (a b : Bs) : str a ++ str b = str (a ++ b) := bs_inj (by rw [bs_ap, bs_str, bs_str, bs_str])
set_option maxRecDepth 100000 in
set_option maxHeartbeats 4000000 in
theorem rjoin_any (l : List Tk) (A : Option Addr) (c : Nat) (w : World) (h : TokR w A l) (hn : l.length ≤ 100) (hx : ∀ x ∈ l, x.text.length ≤ 200) : Calls Tryd.prog 20 #[.slice A l.length c] w fun e w' => e = .returned (.string (str (joinP (l.map kt)))) ∧ Below w.heap.size w w' := by
  have H := Lib.hid h
  have HX := Lib.hid hx
  clear h hx
  go_enter Tryd.func20, Tryd.ntmps20
  go_wp2_with fail
  go_loopw [3, 4] (fun p i v => ∃ (k : Nat), k ≤ l.length ∧ p = .string (str (joinL ((l.take k).map kt))) ∧ i = .int .i64 k ∧ Hid (∀ j x, j < k → l[j]? = some x → rightB (kt x) = true) ∧ Hid (Below w.heap.size w v)) (fun _ i _ => l.length - (intOf i).toNat)
  case atStart => exact ⟨0, Nat.zero_le _, rfl, rfl, fun j x h => by omega, Lib.hid (Below.refl _ _)⟩
  case round =>
    obtain ⟨k, hk, rfl, rfl, hg, hb⟩ := hrel
    by_cases hlt : k < l.length
    · obtain ⟨a, x, rfl, hx, hblk, c0, c1, c2⟩ := (H.out.up hb.out).at_ hlt
      have HXX := Lib.hid hx
      have xl := HX.out x (List.mem_of_getElem? hx)
      have RI := Lib.hid fun w => right_any x.kind x.at_ x.text w (by omega)
      have SH := Lib.hid fun w => rshow_any x.kind x.at_ x.text w (by omega)
      have PU := Lib.hid (joinL_push ((l.take k).map kt) (kt x))
      have NX : Hid ((l.take (k + 1)).map kt = (l.take k).map kt ++ [kt x]) := by
        show _ = _
        rw [List.take_add_one, hx]
        simp
      have jl := joinL_len (B := 200) ((l.take k).map kt) fun z hz => by
        rw [List.mem_map] at hz
        obtain ⟨y, hy, rfl⟩ := hz
        exact HX.out y (List.mem_of_mem_take hy)
      simp only [List.length_map, List.length_take] at jl
      have hJ : (str (joinL ((l.take k).map kt))).size ≤ 30000 := by
        rw [str_size]
        have : min k l.length * 203 ≤ 100 * 203 := Nat.mul_le_mul_right _ (by omega)
        omega
      have hsh : (str (showL x.kind x.text)).size ≤ 300 := by rw [str_size]; have := show_le x.kind x.text; omega
      have BAD : Hid (rightB (x.kind, x.text) = false → joinP (l.map kt) = []) := by
        intro hbad
        unfold joinP
        rw [if_neg]
        intro hall
        rw [List.all_eq_true] at hall
        have := hall (kt x) (List.mem_map_of_mem (List.mem_of_getElem? HXX.out))
        unfold kt at this
        rw [hbad] at this
        cases this
      have GOOD : Hid (rightB (x.kind, x.text) = true → ∀ j z, j < k + 1 → l[j]? = some z → rightB (kt z) = true) := by
        intro hr j z hj hz
        rcases Nat.lt_or_ge j k with h' | h'
        · exact hg.out j z h' hz
        · obtain rfl : j = k := by omega
          have := HXX.out
          rw [hz] at this
          cases this
          exact hr
      have E0 : Hid (((l.take k).map kt = []) ↔ k = 0) := by
        show _ ↔ _
        rw [← List.length_eq_zero_iff, List.length_map, List.length_take]
        omega
      generalize (l.take k).map kt = L at *
      have klt : (k : Int) < 4096 := by omega
      clear hx jl
      go_wp2_with fail
      refine (RI.out wr).mono ?_
      rintro e w3 ⟨rfl, hb3⟩
      have B3 := Lib.hid (below_trans hb.out hb3)
      have cc0 := (hb3.cell (p := a.add (k * 3)) (by assumption)).trans c0
      have cc1 := (hb3.cell (p := ⟨(a.add (k * 3)).block, (a.add (k * 3)).off + 1, none⟩) (by assumption)).trans c1
      have cc2 := (hb3.cell (p := ⟨(a.add (k * 3)).block, (a.add (k * 3)).off + 2, none⟩) (by assumption)).trans c2
      clear hb3 c0 c1 c2
      cases hrb : rightB (x.kind, x.text)
      · have J := Lib.hid (BAD.out hrb)
        clear BAD GOOD hrb
        go_wp2_with fail
        go_ret
        exact ⟨ret_str (by rw [J.out]; rfl), B3.out⟩
      · have G := Lib.hid (GOOD.out hrb)
        clear BAD GOOD hrb
        rcases Nat.eq_zero_or_pos k with hk0 | hk0
        · have e0 := E0.out.2 hk0
          have NJ : Hid (str (joinL L) ++ str (showL x.kind x.text) = str (joinL (L ++ [kt x]))) := by
            show _ = _
            rw [PU.out, if_pos e0, e0, str_ap]
            rfl
          have hk1 : (k : Int) ≤ 0 := by omega
          clear hk0 e0
          go_wp2_with fail
          refine (SH.out w3).mono ?_
          rintro e w4 ⟨rfl, hb4⟩
          have B4 := Lib.hid (below_trans B3.out hb4)
          clear hb4
          go_wp2_with fail
          go_roundw
          case rel => exact ⟨k + 1, by omega, by rw [NX.out, ← NJ.out], by go_num, G, B4⟩
          case measure => simp [intOf]; omega
        · have e0 : L ≠ [] := fun h => by have := E0.out.1 h; omega
          have NJ : Hid (str (joinL L) ++ ⟨#[32]⟩ ++ str (showL x.kind x.text) = str (joinL (L ++ [kt x]))) := by
            show _ = _
            rw [PU.out, if_neg e0]
            have := str_ap (joinL L) [32]
            rw [show (⟨#[32]⟩ : ByteArray) = str [32] from rfl, this, str_ap]
            simp [kt]
          have hk1 : (0 : Int) < k := by omega
          clear e0
          go_wp2_with fail
          refine (SH.out w3).mono ?_
          rintro e w4 ⟨rfl, hb4⟩
          have B4 := Lib.hid (below_trans B3.out hb4)
          clear hb4
          go_wp2_with fail
          go_roundw
          case rel => exact ⟨k + 1, by omega, by rw [NX.out, ← NJ.out], by go_num, G, B4⟩
          case measure => simp [intOf]; omega
    · have hge : (l.length : Int) ≤ k := by omega
      have HJ : Hid (joinP (l.map kt) = joinL ((l.take k).map kt)) := by
        show _ = _
        rw [List.take_of_length_le (by omega)]
        unfold joinP
        rw [if_pos]
        rw [List.all_eq_true]
        intro z hz
        rw [List.mem_map] at hz
        obtain ⟨y, hy, rfl⟩ := hz
        obtain ⟨j, hj⟩ := List.mem_iff_getElem?.1 hy
        exact hg.out j y (by have := (List.getElem?_eq_some_iff.1 hj).1; omega) hj
      clear hlt
      go_wp2_with fail
      go_ret
      exact ⟨ret_str (by rw [HJ.out]), hb.out⟩
end Go.Proofs.YtnffnkmghghmlaaDoor
