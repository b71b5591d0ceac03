/- The walks of show and of Join. Conditions: where the words and the tokens lie; the tokens' sizes. -/
import Derived.Test.YtnffnkmghghmlaaDoorScan
import Derived.Test.YtnffnkmghghmlaaDoorRefSmall
import Derived.Deep.Cut
namespace Go.Proofs.YtnffnkmghghmlaaDoor
open Go.RowKit
set_option linter.unusedVariables false
set_option linter.unusedSimpArgs false
theorem bs_append' (a b : ByteArray) : bs (a ++ b) = bs a ++ bs b := by unfold bs; simp
theorem show_q {k : Int} (t : Bs) (h : k = 3) : ⟨#[34]⟩ ++ str t ++ ⟨#[34]⟩ = str (showL k t) := by
  unfold showL
  rw [if_pos h]
  apply bs_inj
  rw [bs_str, bs_append', bs_append', bs_str]
  rfl
theorem show_n {k : Int} (t : Bs) (h : k ≠ 3) : showL k t = t := if_neg h
theorem show_le (k : Int) (t : Bs) : (showL k t).length ≤ t.length + 2 := by
  unfold showL
  split <;> simp
set_option maxRecDepth 100000 in
set_option maxHeartbeats 1000000 in
theorem show_any (k a : Int) (t : Bs) (w : World) (ht : t.length ≤ 100000) : Calls Tryd.prog 30 #[.agg #[.int .i64 k, .int .i64 a, .string (str t)]] w fun e w' => e = .returned (.string (str (showL k t))) ∧ Below w.heap.size w w' := by
  have hsz := str_size t
  have hsz' : (str t).size ≤ 100000 := by omega
  by_cases h : k = 3
  · subst h
    have HQ := Lib.hid (show_q (k := 3) t rfl)
    clear hsz
    go_enter Tryd.func30, Tryd.ntmps30
    go_wp2_with fail
    go_ret
    exact ⟨by rw [← HQ.out]; rfl, (Below.refl _ _).alloc (Nat.le_refl _) _⟩
  · have h' : (k == 3) = false := by simpa using h
    rw [show_n t h]
    clear hsz h
    go_enter Tryd.func30, Tryd.ntmps30
    go_wp2_with fail
    go_ret
    exact ⟨rfl, (Below.refl _ _).alloc (Nat.le_refl _) _⟩
set_option maxRecDepth 100000 in
set_option maxHeartbeats 1000000 in
theorem rshow_any (k a : Int) (t : Bs) (w : World) (ht : t.length ≤ 100000) : Calls Tryd.prog 33 #[.agg #[.int .i64 k, .int .i64 a, .string (str t)]] w fun e w' => e = .returned (.string (str (showL k t))) ∧ Below w.heap.size w w' := by
  have hsz := str_size t
  have hsz' : (str t).size ≤ 100000 := by omega
  by_cases h : k = 3
  · subst h
    have HQ := Lib.hid (show_q (k := 3) t rfl)
    clear hsz
    go_enter Tryd.func33, Tryd.ntmps33
    go_wp2_with fail
    go_ret
    exact ⟨by rw [← HQ.out]; rfl, (Below.refl _ _).alloc (Nat.le_refl _) _⟩
  · have h' : (k == 3) = false := by simpa using h
    rw [show_n t h]
    clear hsz h
    go_enter Tryd.func33, Tryd.ntmps33
    go_wp2_with fail
    go_ret
    exact ⟨rfl, (Below.refl _ _).alloc (Nat.le_refl _) _⟩
def tri (x : Tk) : Int × Nat × Bs := (x.kind, x.at_, x.text)
/-- is a token just the one of its text? -/
def rightB (x : Int × Bs) : Bool := decide ((lex 0 (showL x.1 x.2)).2.2 = 0) && decide ((lex 0 (showL x.1 x.2)).1.map tri = [(x.1, 0, x.2)])
theorem good_right {x : Int × Bs} (h : Good x.1 x.2) : rightB x = true := by
  have he : (oneL (showL x.1 x.2)).err = 0 := by rw [h.2]
  have e0 := one_blank h.1 he
  have d0 : (showL x.1 x.2).drop (spanN blI (showL x.1 x.2)) = showL x.1 x.2 := by rw [e0]; rfl
  have l1 : lex 0 (showL x.1 x.2) = ([⟨x.1, 0, x.2⟩], (showL x.1 x.2).length, 0) := by
    rw [lex_tok (by rw [d0]; exact h.1) (by rw [d0]; exact he), d0, h.2, e0]
    simp only [List.drop_length]
    have : ∀ b, lex b ([] : Bs) = ([], b + 0, 0) := fun b => lex_end rfl
    simp [this]
  unfold rightB
  rw [l1]
  simp [tri]
/-- the text of tokens -/
def joinP (l : List (Int × Bs)) : Bs := if l.all rightB = true then joinL l else []
theorem joinL_lib : ∀ l : List (Int × Bs), Lib.join (l.map fun x => showL x.1 x.2) [32] = joinL l
  | [] => rfl
  | [x] => by simp [Lib.join, joinL]
  | x :: y :: l => by
    have := joinL_lib (y :: l)
    simp only [List.map_cons] at this ⊢
    rw [Lib.join_cons] at this ⊢
    rw [joinL, ← this]
    simp [Lib.joinTail]
theorem joinL_len {B : Nat} : ∀ l : List (Int × Bs), (∀ x ∈ l, x.2.length ≤ B) → (joinL l).length ≤ l.length * (B + 3)
  | [], _ => by simp [joinL]
  | [x], h => by
    have h1 := show_le x.1 x.2
    have h2 := h x (by simp)
    simp [joinL]
    omega
  | x :: y :: l, h => by
    have h1 := show_le x.1 x.2
    have h2 := h x (by simp)
    have ih := joinL_len (y :: l) fun z hz => h z (by simp at hz ⊢; exact .inr hz)
    simp only [joinL, List.length_append, List.length_cons, Nat.add_mul] at ih ⊢
    omega
/-- how a token's text is told -/
def Told (x : Int × Bs) : Prop := (lex 0 (showL x.1 x.2)).1.length < 4096 ∧ (showL x.1 x.2).length ≤ 100000
theorem told_of {x : Int × Bs} (h : x.2.length ≤ 4000) : Told x := by
  have h1 := show_le x.1 x.2
  have h2 := (lex_len 0 (showL x.1 x.2)).1
  exact ⟨by omega, by omega⟩
/-- the ways of a scanned token: as it was; an error; not one; another one -/
theorem right_ways (x : Int × Bs) : (rightB x = true ∧ scan (showL x.1 x.2) = ([⟨x.1, 0, x.2⟩], (scan (showL x.1 x.2)).2.1, 0)) ∨ (rightB x = false ∧ (scan (showL x.1 x.2)).2.2 ≠ 0) ∨
    (rightB x = false ∧ (scan (showL x.1 x.2)).2.2 = 0 ∧ (scan (showL x.1 x.2)).1.length ≠ 1) ∨ (rightB x = false ∧ (scan (showL x.1 x.2)).2.2 = 0 ∧ ∃ y, (scan (showL x.1 x.2)).1 = [y] ∧ (y.kind, y.at_, y.text) ≠ (x.1, 0, x.2)) := by
  unfold scan rightB
  by_cases he : (lex 0 (showL x.1 x.2)).2.2 = 0
  · rw [if_pos he]
    simp only [he, decide_true, Bool.true_and, decide_eq_true_eq, decide_eq_false_iff_not, ne_eq, not_true, and_false, false_or, true_and]
    generalize lex 0 (showL x.1 x.2) = r at *
    obtain ⟨l, a, er⟩ := r
    simp only at he ⊢
    match l with
    | [] => exact .inr (.inl ⟨by simp, by simp⟩)
    | [y] =>
      by_cases hy : tri y = (x.1, 0, x.2)
      · left
        obtain ⟨k, p, t⟩ := y
        simp only [tri, Prod.mk.injEq] at hy
        obtain ⟨rfl, rfl, rfl⟩ := hy
        exact ⟨by simp [tri], by rw [he]⟩
      · right; right
        exact ⟨by simpa using hy, y, rfl, hy⟩
    | y :: z :: m => exact .inr (.inl ⟨by simp, by simp⟩)
  · rw [if_neg he]
    simp [he]
theorem setCell_chg {O : Nat → Prop} {w : World} {p : Addr} (h : O p.block) (u : Value) : Chg O w (w.setCell p u) := (Chg.refl O w).setCell (.inl h) u
theorem Reads.chg {w w' : World} {size n : Nat} {A : Option Addr} {xs : List Value} {S : Nat → Prop} (h : Reads w w.heap.size size A n xs) (hc : Chg S w w') (hS : ∀ k, blockOf A k → ¬ S k) : Reads w' w'.heap.size size A n xs := by
  refine ⟨h.1, fun hn => ?_⟩
  obtain ⟨a, rfl, hb, hcell⟩ := h.2 hn
  refine ⟨a, rfl, Nat.lt_of_lt_of_le hb hc.size, fun j u hu => ?_⟩
  rw [hc.cell (by rw [block_of_add]; exact hb) (by rw [block_of_add]; exact hS _ ⟨a, rfl, rfl⟩)]
  exact hcell j u hu
theorem info9 : (Tryd.prog.info? 9).map (fun i => (i.zero, i.size, i.bytes)) = some (some (.string ⟨#[]⟩), 1, 16) := by kernel_rfl
def shown (l : List Tk) : List Value := l.map fun x => .string (str (showL x.kind x.text))
theorem shown_take {l : List Tk} {k : Nat} {x : Tk} (h : l[k]? = some x) : shown (l.take (k + 1)) = shown (l.take k) ++ [.string (str (showL x.kind x.text))] := by
  unfold shown
  rw [List.take_add_one, h]
  simp
theorem ret_str {a b : ByteArray} (h : b = a) : Ending.returned (.string a) = .returned (.string b) := by rw [h]
set_option maxRecDepth 100000 in
set_option maxHeartbeats 4000000 in
theorem join_any (l : List Tk) (A : Option Addr) (c : Nat) (w : World) {b o cc : Nat} (T : Tab w b o cc) (h : TokR w A l) (hn : l.length ≤ 4096) (hx : ∀ x ∈ l, x.text.length ≤ 4000) : Calls Tryd.prog 18 #[.slice A l.length c] w fun e w' => e = .returned (.string (str (joinP (l.map kt)))) ∧ Below w.heap.size w w' := by
  obtain ⟨i0, hi, hz0, hz1, hz2⟩ := info_parts info9
  have HI := Lib.hid hi
  have Z0 := Lib.hid hz0
  have Z1 := Lib.hid hz1
  have Z2 := Lib.hid hz2
  have H := Lib.hid h
  have HT := Lib.hid T
  have HX := Lib.hid hx
  clear h hi hz0 hz1 hz2 T hx
  go_enter Tryd.func18, Tryd.ntmps18
  go_wp2_with fail
  go_loopw [3, 15] (fun p i v => ∃ (k : Nat) (P : Option Addr) (c' : Nat), k ≤ l.length ∧ p = .slice P k c' ∧ i = .int .i64 k ∧ Hid (Row v w.heap.size 9 1 P k c' (shown (l.take k))) ∧ Hid (∀ j x, j < k → l[j]? = some x → rightB (kt x) = true) ∧ Hid (Below w.heap.size w v)) (fun _ i _ => l.length - (intOf i).toNat)
  case atStart => exact ⟨0, none, 0, Nat.zero_le _, rfl, rfl, Row.nil _ _ _ _, fun j x h => by omega, Lib.hid (Below.refl _ _)⟩
  case round =>
    obtain ⟨k, P, c', hk, rfl, rfl, hr, hg, hb⟩ := hrel
    by_cases hlt : k < l.length
    · obtain ⟨a, x, rfl, hx, hblk, c0, c1, c2⟩ := (H.out.up hb.out).at_ hlt
      have HXX := Lib.hid hx
      have xl := HX.out x (List.mem_of_getElem? hx)
      have told := told_of (x := kt x) xl
      have SH := Lib.hid fun w => show_any x.kind x.at_ x.text w (by omega)
      have SC := Lib.hid fun w (T : Tab w b o cc) => scan_fresh (str (showL x.kind x.text)) w T (by rw [str_size]; have := told.2; unfold maxLen; simp only [kt] at this; omega) (by rw [bs_str]; exact told.1)
      rw [bs_str] at SC
      have RW := Lib.hid (right_ways (kt x))
      unfold ScanF at SC
      unfold kt at RW
      simp only at RW
      clear hx told
      go_wp2_with fail
      refine (SH.out _).mono ?_
      rintro e w3 ⟨rfl, hb3⟩
      have hba : Below w.heap.size w (wr.alloc (.cells #[.int .i64 x.kind, .int .i64 x.at_, .string (str x.text)] 31)) := hb.out.alloc hb.out.size _
      have B3 := Lib.hid (below_trans hba hb3)
      have BX3 := Lib.hid ((Blk.new wr 31 #[.int .i64 x.kind, .int .i64 x.at_, .string (str x.text)]).below hb3 (by simp))
      have R3 := Lib.hid ((hr.out.alloc (.cells #[.int .i64 x.kind, .int .i64 x.at_, .string (str x.text)] 31)).below hb3)
      clear hb3 hba
      go_wp2_with fail
      refine (SC.out w3 (HT.out.below B3.out)).mono ?_
      rintro e w4 ⟨O, co, rfl, hto, hb4, hfr⟩
      have B4 := Lib.hid (below_trans B3.out hb4)
      have BX4 := Lib.hid (BX3.out.below hb4 BX3.out.lt)
      have R4 := Lib.hid (R3.out.below hb4)
      have O4 := Lib.hid hto
      clear hb4 hto
      have x0 : w4.cell? ⟨wr.heap.size, 0, none⟩ = some (.int .i64 x.kind) := BX4.out.cell 0
      have x1 : w4.cell? ⟨wr.heap.size, 1, none⟩ = some (.int .i64 x.at_) := BX4.out.cell 1
      have x2 : w4.cell? ⟨wr.heap.size, 2, none⟩ = some (.string (str x.text)) := BX4.out.cell 2
      have f1 := BX4.out.frozen 1
      have lb := BX4.out.lt
      have nO : ¬ blockOf O wr.heap.size := fun h => by
        have := hfr _ h
        have := BX3.out.lt
        omega
      clear hfr
      go_upto_region 10 with fail
      obtain ⟨w5, hw5⟩ : ∃ w5, w5 = w4.setCell ⟨wr.heap.size, 1, none⟩ (.int .i64 0) := ⟨_, rfl⟩
      have ch : Chg (fun j => j = wr.heap.size) w4 w5 := by rw [hw5]; exact setCell_chg (O := fun j => j = wr.heap.size) (p := ⟨wr.heap.size, 1, none⟩) rfl _
      have BX5 := Lib.hid (show Blk w5 wr.heap.size 31 #[.int .i64 x.kind, .int .i64 0, .string (str x.text)] by rw [hw5]; exact BX4.out.set_ 1 _)
      have B5 := Lib.hid (show Below w.heap.size w w5 by rw [hw5]; exact B4.out.setCell (p := ⟨wr.heap.size, 1, none⟩) hb.out.size _)
      have R5 := Lib.hid (R4.out.chg ch fun j hj e => by
        have h1 := (hr.out.lt hj).2
        omega)
      have O5 : Hid (TokR w5 O (scan (showL x.kind x.text)).1) := Reads.chg O4.out ch fun j hj e => nO (e ▸ hj)
      rw [← hw5]
      clear hw5 ch nO x0 x1 x2 f1 lb BX4 BX3 R4 R3 O4 B4 B3
      generalize scan (showL x.kind x.text) = r at *
      obtain ⟨rl, ra, re⟩ := r
      simp only at RW O5
      have y0 : w5.cell? ⟨wr.heap.size, 0, none⟩ = some (.int .i64 x.kind) := BX5.out.cell 0
      have y1 : w5.cell? ⟨wr.heap.size, 1, none⟩ = some (.int .i64 0) := BX5.out.cell 1
      have y2 : w5.cell? ⟨wr.heap.size, 2, none⟩ = some (.string (str x.text)) := BX5.out.cell 2
      have lb := BX5.out.lt
      have BAD : Hid (rightB (x.kind, x.text) = false → joinP (l.map kt) = []) := by
        intro hbad
        unfold joinP
        rw [if_neg]
        intro hall
        rw [List.all_eq_true] at hall
        have := hall (kt x) (List.mem_map_of_mem (List.mem_of_getElem? HXX.out))
        unfold kt at this
        rw [hbad] at this
        cases this
      rcases RW.out with ⟨h1, h2⟩ | ⟨h1, h2⟩ | ⟨h1, h2, h3⟩ | ⟨h1, h2, y, h3, h4⟩
      · simp only [Prod.mk.injEq] at h2
        obtain ⟨rfl, _, rfl⟩ := h2
        have G := Lib.hid h1
        obtain ⟨ao, xo, rfl, hxo, hko, g0, g1, g2⟩ := O5.out.at_ (k := 0) (by simp)
        cases hxo
        simp [Addr.add] at g0 g1 g2
        clear h1 RW BAD hko
        simp only [List.length_cons, List.length_nil]
        go_quiet (fail)
        go_wp2_with (at_builtin; refine wpList_append_row _ rfl (.tmp 42) (.tmp 44) 33 rfl w.heap.size 9 i0 (.string ⟨#[]⟩) 1 16 Tryd.underlying33 HI.out Z0.out Z1.out Z2.out rfl (by decide) P k c' (shown (l.take k)) rfl ((R5.out.drewN _).alloc _) (by have := B5.out.size; simp; omega) ⟨w5.heap.size, 0, none⟩ 1 1 (by omega) [.string (str (showL x.kind x.text))] rfl ((lit_readsN _ #[.string (str (showL x.kind x.text))] 9 w5.heap.size 1 1 _ (by simp) rfl rfl).more (by simp)) (fun u hu => by simp at hu; subst hu; rfl) (by unfold maxLen; omega) (by omega) ?_)
        intro P' c2' w6 hrow hch hfr2
        have HR : Hid (Row w6 w.heap.size 9 1 P' (k + 1) c2' (shown (l.take (k + 1)))) := by
          show Row w6 _ _ _ _ _ _ _
          rw [shown_take HXX.out]
          exact hrow
        have HB6 : Hid (Below w.heap.size w w6) := by
          have h1 : Below w.heap.size w ((w5.drewN nq).alloc (.cells #[.string (str (showL x.kind x.text))] 9)) := (below_drewN' B5.out _).alloc (by have := B5.out.size; simpa using this) _
          exact h1.trans (hch.below h1.size fun j hj => (R5.out.lt hj).1)
        have HG : Hid (∀ j x, j < k + 1 → l[j]? = some x → rightB (kt x) = true) := by
          intro j z hj hz
          rcases Nat.lt_or_ge j k with h' | h'
          · exact hg.out j z h' hz
          · obtain rfl : j = k := by omega
            have := HXX.out
            rw [hz] at this
            cases this
            exact G.out
        clear hrow hch hfr2
        go_wp2_with fail
        go_roundw
        case rel => exact ⟨k + 1, P', c2', by omega, rfl, by go_num, HR, HG, HB6⟩
        case measure => simp [intOf]; omega
      · have J := Lib.hid (BAD.out h1)
        have e1 : (re != 0) = true := by simpa using h2
        clear h1 h2 RW BAD
        go_quiet (fail)
        go_wp2_with fail
        go_ret
        exact ⟨ret_str (by rw [J.out]; rfl), below_drewN' B5.out _⟩
      · have J := Lib.hid (BAD.out h1)
        subst h2
        have e1 : ((rl.length : Int) != 1) = true := by simp; omega
        clear h1 h3 RW BAD
        go_quiet (fail)
        go_wp2_with fail
        go_ret
        exact ⟨ret_str (by rw [J.out]; rfl), below_drewN' B5.out _⟩
      · have J := Lib.hid (BAD.out h1)
        subst h2 h3
        obtain ⟨ao, xo, rfl, hxo, hko, g0, g1, g2⟩ := O5.out.at_ (k := 0) (by simp)
        cases hxo
        simp [Addr.add] at g0 g1 g2
        clear h1 RW BAD hko
        simp only [List.length_cons, List.length_nil]
        obtain ⟨yk, ya, yt⟩ := y
        simp only at h4 g0 g1 g2
        by_cases hk1 : yk = x.kind
        · subst hk1
          by_cases ha1 : ya = 0
          · subst ha1
            have e3 : ((str yt).toList == (str x.text).toList) = false := by
              rw [toList_str, toList_str]
              have : yt ≠ x.text := fun e => h4 (by rw [e])
              simpa using this
            clear h4
            go_quiet (fail)
            go_wp2_with fail
            go_ret
            exact ⟨ret_str (by rw [J.out]; rfl), below_drewN' B5.out _⟩
          · have e2 : ((ya : Int) == 0) = false := by simp; omega
            clear h4 ha1
            go_quiet (fail)
            go_wp2_with fail
            go_ret
            exact ⟨ret_str (by rw [J.out]; rfl), below_drewN' B5.out _⟩
        · have e1 : (yk == x.kind) = false := by simpa using hk1
          clear h4 hk1
          go_quiet (fail)
          go_wp2_with fail
          go_ret
          exact ⟨ret_str (by rw [J.out]; rfl), below_drewN' B5.out _⟩
    · have hge : (l.length : Int) ≤ k := by omega
      have e : k = l.length := by omega
      have HJ : Hid (joinP (l.map kt) = joinL (l.map kt)) := by
        show _ = _
        unfold joinP
        rw [if_pos]
        rw [List.all_eq_true]
        intro z hz
        rw [List.mem_map] at hz
        obtain ⟨y, hy, rfl⟩ := hz
        obtain ⟨j, hj⟩ := List.mem_iff_getElem?.1 hy
        exact hg.out j y (by have := (List.getElem?_eq_some_iff.1 hj).1; omega) hj
      have hll := Lib.hid (joinL_len (B := 4000) (l.map kt) fun z hz => by
        rw [List.mem_map] at hz
        obtain ⟨y, hy, rfl⟩ := hz
        exact HX.out y hy)
      rw [List.take_of_length_le (by omega)] at hr
      have e2 : (l.map fun x => str (showL x.kind x.text)).length = l.length := by simp
      have hlib : Lib.join ((l.map fun x => str (showL x.kind x.text)).map (·.data.toList)) (⟨#[32]⟩ : ByteArray).data.toList = joinL (l.map kt) := by
        rw [← joinL_lib, List.map_map, List.map_map]
        congr 1
      cases P with
      | none =>
        have hz : l.length = 0 := by
          rcases hr.out.2 with ⟨_, h, _⟩ | ⟨r, cur, h, _⟩
          · omega
          · cases h
        have hl0 : l = [] := List.length_eq_zero_iff.1 hz
        have JN := Lib.hid fun c w => Tryd.strings_Join_none none c ⟨#[32]⟩ w
        have k0 : k = 0 := by omega
        subst k0 hl0
        clear hlt e e2 hlib hz
        go_wp2_with fail
        refine (JN.out _ _).mono ?_
        rintro e w' ⟨rfl, rfl⟩
        go_wp2_with fail
        go_ret
        exact ⟨rfl, hb.out⟩
      | some p =>
        obtain ⟨r, rfl⟩ : ∃ r, p = ⟨r, 0, none⟩ := by
          rcases hr.out.2 with ⟨h, _⟩ | ⟨r, cur, h, _⟩
          · cases h
          · exact ⟨r, Option.some.inj h⟩
        have JN := Lib.hid (Tryd.strings_Join r 0 c' (l.map fun x => str (showL x.kind x.text)) ⟨#[32]⟩ wr (fun j x hj => by
            have h1 := hr.out.reads
            obtain ⟨a, ha, hb, hc⟩ := h1.2 (by rw [List.length_map] at e2; have := (List.getElem?_eq_some_iff.1 hj).1; simp at this; omega)
            cases ha
            have := hc j (.string x) (by
              unfold shown
              rw [List.getElem?_map] at hj ⊢
              cases hq : l[j]? with
              | none => rw [hq] at hj; cases hj
              | some y => rw [hq] at hj; simp at hj; subst hj; rfl)
            rw [Go.WideShapes.add_plain] at this
            exact this) (hr.out.lt ⟨_, rfl, rfl⟩).2 (by rw [e2]; omega) (by rw [e2]; have := hr.out.le; omega) (by rw [hlib]; have := hll.out; simp at this; omega))
        rw [hlib, e2] at JN
        rw [← e] at JN
        clear hlt e e2 hlib
        go_wp2_with fail
        refine JN.out.mono ?_
        rintro e w' ⟨rfl, hbj⟩
        have BJ := Lib.hid (below_trans hb.out hbj)
        clear hbj
        go_wp2_with fail
        go_ret
        exact ⟨by rw [HJ.out]; rfl, BJ.out⟩
end Go.Proofs.YtnffnkmghghmlaaDoor
