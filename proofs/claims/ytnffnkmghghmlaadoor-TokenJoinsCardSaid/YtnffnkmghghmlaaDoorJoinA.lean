/- Join and the document's Join, of tokens at any places. Conditions: where the tokens lie; their sizes. -/
import Derived.Test.YtnffnkmghghmlaaDoorRJoin
import Derived.Deep.Cut
namespace Go.Proofs.YtnffnkmghghmlaaDoor
open Go.RowKit
set_option linter.unusedVariables false
set_option linter.unusedSimpArgs false
/-- a token at any place -/
structure Ta where
  kind : Int
  at_ : Int
  text : Bs
def kta (x : Ta) : Int × Bs := (x.kind, x.text)
def Ta.cells (x : Ta) : List Value := [.int .i64 x.kind, .int .i64 x.at_, .string (str x.text)]
theorem ta_len (x : Ta) : x.cells.length = 3 := rfl
theorem ta_one (x : Ta) : ∀ u ∈ x.cells, u.oneCell' = true := by
  intro u hu
  simp [Ta.cells] at hu
  rcases hu with rfl | rfl | rfl <;> rfl
def flatA (l : List Ta) : List Value := flatF Ta.cells l
/-- so many tokens lie there -/
def TaR (w : World) (A : Option Addr) (l : List Ta) : Prop := Reads w w.heap.size 3 A l.length (flatA l)
section
variable {w w' : World} {A : Option Addr} {l : List Ta}
theorem TaR.up (h : TaR w A l) (hb : Below w.heap.size w w') : TaR w' A l := (h.below hb).more hb.size
theorem TaR.nil (w : World) : TaR w none [] := ⟨by simp [flatA, flatF], fun h => absurd h (by simp)⟩
theorem TaR.at_ (h : TaR w A l) {k : Nat} (hk : k < l.length) : ∃ (a : Addr) (d : Ta), A = some a ∧ l[k]? = some d ∧ (a.add (k * 3)).block < w.heap.size ∧
    w.cell? (a.add (k * 3)) = some (.int .i64 d.kind) ∧ w.cell? ⟨(a.add (k * 3)).block, (a.add (k * 3)).off + 1, none⟩ = some (.int .i64 d.at_) ∧ w.cell? ⟨(a.add (k * 3)).block, (a.add (k * 3)).off + 2, none⟩ = some (.string (str d.text)) := by
  obtain ⟨s, hs⟩ : ∃ s, l[k]? = some s := ⟨_, List.getElem?_eq_getElem hk⟩
  obtain ⟨a, rfl, hb, hc⟩ := h.2 (by omega)
  have g := flatF_get ta_len l k s hs
  have x0 := hc _ _ (g 0 (by omega))
  have x1 := hc _ _ (g 1 (by omega))
  have x2 := hc _ _ (g 2 (by omega))
  have e1 : (a.add (k * 3)).add 1 = ⟨(a.add (k * 3)).block, (a.add (k * 3)).off + 1, none⟩ := by unfold Addr.add; split <;> simp_all
  have e2 : (a.add (k * 3)).add 2 = ⟨(a.add (k * 3)).block, (a.add (k * 3)).off + 2, none⟩ := by unfold Addr.add; split <;> simp_all
  rw [← add_of_add, e1] at x1
  rw [← add_of_add, e2] at x2
  exact ⟨a, s, rfl, hs, by rw [block_of_add]; exact hb, by simpa using x0, x1, x2⟩
end
def shownA (l : List Ta) : List Value := l.map fun x => .string (str (showL x.kind x.text))
theorem shownA_take {l : List Ta} {k : Nat} {x : Ta} (h : l[k]? = some x) : shownA (l.take (k + 1)) = shownA (l.take k) ++ [.string (str (showL x.kind x.text))] := by
  unfold shownA
  rw [List.take_add_one, h]
  simp
set_option maxRecDepth 100000 in
set_option maxHeartbeats 4000000 in
theorem joinA_any (l : List Ta) (A : Option Addr) (c : Nat) (w : World) {b o cc : Nat} (T : Tab w b o cc) (h : TaR w A l) (hn : l.length ≤ 4096) (hx : ∀ x ∈ l, x.text.length ≤ 4000) : Calls Tryd.prog 18 #[.slice A l.length c] w fun e w' => e = .returned (.string (str (joinP (l.map kta)))) ∧ Below w.heap.size w w' := by
  obtain ⟨i0, hi, hz0, hz1, hz2⟩ := info_parts info9
  have HI := Lib.hid hi
  have Z0 := Lib.hid hz0
  have Z1 := Lib.hid hz1
  have Z2 := Lib.hid hz2
  have H := Lib.hid h
  have HT := Lib.hid T
  have HX := Lib.hid hx
  clear h hi hz0 hz1 hz2 T hx
  go_enter Tryd.func18, Tryd.ntmps18
  go_wp2_with fail
  go_loopw [3, 15] (fun p i v => ∃ (k : Nat) (P : Option Addr) (c' : Nat), k ≤ l.length ∧ p = .slice P k c' ∧ i = .int .i64 k ∧ Hid (Row v w.heap.size 9 1 P k c' (shownA (l.take k))) ∧ Hid (∀ j x, j < k → l[j]? = some x → rightB (kta x) = true) ∧ Hid (Below w.heap.size w v)) (fun _ i _ => l.length - (intOf i).toNat)
  case atStart => exact ⟨0, none, 0, Nat.zero_le _, rfl, rfl, Row.nil _ _ _ _, fun j x h => by omega, Lib.hid (Below.refl _ _)⟩
  case round =>
    obtain ⟨k, P, c', hk, rfl, rfl, hr, hg, hb⟩ := hrel
    by_cases hlt : k < l.length
    · obtain ⟨a, x, rfl, hx, hblk, c0, c1, c2⟩ := (H.out.up hb.out).at_ hlt
      have HXX := Lib.hid hx
      have xl := HX.out x (List.mem_of_getElem? hx)
      have told := told_of (x := kta x) xl
      have SH := Lib.hid fun w => show_any x.kind x.at_ x.text w (by omega)
      have SC := Lib.hid fun w (T : Tab w b o cc) => scan_fresh (str (showL x.kind x.text)) w T (by rw [str_size]; have := told.2; unfold maxLen; simp only [kta] at this; omega) (by rw [bs_str]; exact told.1)
      rw [bs_str] at SC
      have RW := Lib.hid (right_ways (kta x))
      unfold ScanF at SC
      unfold kta at RW
      simp only at RW
      clear hx told
      go_wp2_with fail
      refine (SH.out _).mono ?_
      rintro e w3 ⟨rfl, hb3⟩
      have hba : Below w.heap.size w (wr.alloc (.cells #[.int .i64 x.kind, .int .i64 x.at_, .string (str x.text)] 31)) := hb.out.alloc hb.out.size _
      have B3 := Lib.hid (below_trans hba hb3)
      have BX3 := Lib.hid ((Blk.new wr 31 #[.int .i64 x.kind, .int .i64 x.at_, .string (str x.text)]).below hb3 (by simp))
      have R3 := Lib.hid ((hr.out.alloc (.cells #[.int .i64 x.kind, .int .i64 x.at_, .string (str x.text)] 31)).below hb3)
      clear hb3 hba
      go_wp2_with fail
      refine (SC.out w3 (HT.out.below B3.out)).mono ?_
      rintro e w4 ⟨O, co, rfl, hto, hb4, hfr⟩
      have B4 := Lib.hid (below_trans B3.out hb4)
      have BX4 := Lib.hid (BX3.out.below hb4 BX3.out.lt)
      have R4 := Lib.hid (R3.out.below hb4)
      have O4 := Lib.hid hto
      clear hb4 hto
      have x0 : w4.cell? ⟨wr.heap.size, 0, none⟩ = some (.int .i64 x.kind) := BX4.out.cell 0
      have x1 : w4.cell? ⟨wr.heap.size, 1, none⟩ = some (.int .i64 x.at_) := BX4.out.cell 1
      have x2 : w4.cell? ⟨wr.heap.size, 2, none⟩ = some (.string (str x.text)) := BX4.out.cell 2
      have f1 := BX4.out.frozen 1
      have lb := BX4.out.lt
      have nO : ¬ blockOf O wr.heap.size := fun h => by
        have := hfr _ h
        have := BX3.out.lt
        omega
      clear hfr
      go_upto_region 10 with fail
      obtain ⟨w5, hw5⟩ : ∃ w5, w5 = w4.setCell ⟨wr.heap.size, 1, none⟩ (.int .i64 0) := ⟨_, rfl⟩
      have ch : Chg (fun j => j = wr.heap.size) w4 w5 := by rw [hw5]; exact setCell_chg (O := fun j => j = wr.heap.size) (p := ⟨wr.heap.size, 1, none⟩) rfl _
      have BX5 := Lib.hid (show Blk w5 wr.heap.size 31 #[.int .i64 x.kind, .int .i64 0, .string (str x.text)] by rw [hw5]; exact BX4.out.set_ 1 _)
      have B5 := Lib.hid (show Below w.heap.size w w5 by rw [hw5]; exact B4.out.setCell (p := ⟨wr.heap.size, 1, none⟩) hb.out.size _)
      have R5 := Lib.hid (R4.out.chg ch fun j hj e => by
        have h1 := (hr.out.lt hj).2
        omega)
      have O5 : Hid (TokR w5 O (scan (showL x.kind x.text)).1) := Reads.chg O4.out ch fun j hj e => nO (e ▸ hj)
      rw [← hw5]
      clear hw5 ch nO x0 x1 x2 f1 lb BX4 BX3 R4 R3 O4 B4 B3
      generalize scan (showL x.kind x.text) = r at *
      obtain ⟨rl, ra, re⟩ := r
      simp only at RW O5
      have y0 : w5.cell? ⟨wr.heap.size, 0, none⟩ = some (.int .i64 x.kind) := BX5.out.cell 0
      have y1 : w5.cell? ⟨wr.heap.size, 1, none⟩ = some (.int .i64 0) := BX5.out.cell 1
      have y2 : w5.cell? ⟨wr.heap.size, 2, none⟩ = some (.string (str x.text)) := BX5.out.cell 2
      have lb := BX5.out.lt
      have BAD : Hid (rightB (x.kind, x.text) = false → joinP (l.map kta) = []) := by
        intro hbad
        unfold joinP
        rw [if_neg]
        intro hall
        rw [List.all_eq_true] at hall
        have := hall (kta x) (List.mem_map_of_mem (List.mem_of_getElem? HXX.out))
        unfold kta at this
        rw [hbad] at this
        cases this
      rcases RW.out with ⟨h1, h2⟩ | ⟨h1, h2⟩ | ⟨h1, h2, h3⟩ | ⟨h1, h2, y, h3, h4⟩
      · simp only [Prod.mk.injEq] at h2
        obtain ⟨rfl, _, rfl⟩ := h2
        have G := Lib.hid h1
        obtain ⟨ao, xo, rfl, hxo, hko, g0, g1, g2⟩ := O5.out.at_ (k := 0) (by simp)
        cases hxo
        simp [Addr.add] at g0 g1 g2
        clear h1 RW BAD hko
        simp only [List.length_cons, List.length_nil]
        go_quiet (fail)
        go_wp2_with (at_builtin; refine wpList_append_row _ rfl (.tmp 42) (.tmp 44) 33 rfl w.heap.size 9 i0 (.string ⟨#[]⟩) 1 16 Tryd.underlying33 HI.out Z0.out Z1.out Z2.out rfl (by decide) P k c' (shownA (l.take k)) rfl ((R5.out.drewN _).alloc _) (by have := B5.out.size; simp; omega) ⟨w5.heap.size, 0, none⟩ 1 1 (by omega) [.string (str (showL x.kind x.text))] rfl ((lit_readsN _ #[.string (str (showL x.kind x.text))] 9 w5.heap.size 1 1 _ (by simp) rfl rfl).more (by simp)) (fun u hu => by simp at hu; subst hu; rfl) (by unfold maxLen; omega) (by omega) ?_)
        intro P' c2' w6 hrow hch hfr2
        have HR : Hid (Row w6 w.heap.size 9 1 P' (k + 1) c2' (shownA (l.take (k + 1)))) := by
          show Row w6 _ _ _ _ _ _ _
          rw [shownA_take HXX.out]
          exact hrow
        have HB6 : Hid (Below w.heap.size w w6) := by
          have h1 : Below w.heap.size w ((w5.drewN nq).alloc (.cells #[.string (str (showL x.kind x.text))] 9)) := (below_drewN' B5.out _).alloc (by have := B5.out.size; simpa using this) _
          exact h1.trans (hch.below h1.size fun j hj => (R5.out.lt hj).1)
        have HG : Hid (∀ j x, j < k + 1 → l[j]? = some x → rightB (kta x) = true) := by
          intro j z hj hz
          rcases Nat.lt_or_ge j k with h' | h'
          · exact hg.out j z h' hz
          · obtain rfl : j = k := by omega
            have := HXX.out
            rw [hz] at this
            cases this
            exact G.out
        clear hrow hch hfr2
        go_wp2_with fail
        go_roundw
        case rel => exact ⟨k + 1, P', c2', by omega, rfl, by go_num, HR, HG, HB6⟩
        case measure => simp [intOf]; omega
      · have J := Lib.hid (BAD.out h1)
        have e1 : (re != 0) = true := by simpa using h2
        clear h1 h2 RW BAD
        go_quiet (fail)
        go_wp2_with fail
        go_ret
        exact ⟨ret_str (by rw [J.out]; rfl), below_drewN' B5.out _⟩
      · have J := Lib.hid (BAD.out h1)
        subst h2
        have e1 : ((rl.length : Int) != 1) = true := by simp; omega
        clear h1 h3 RW BAD
        go_quiet (fail)
        go_wp2_with fail
        go_ret
        exact ⟨ret_str (by rw [J.out]; rfl), below_drewN' B5.out _⟩
      · have J := Lib.hid (BAD.out h1)
        subst h2 h3
        obtain ⟨ao, xo, rfl, hxo, hko, g0, g1, g2⟩ := O5.out.at_ (k := 0) (by simp)
        cases hxo
        simp [Addr.add] at g0 g1 g2
        clear h1 RW BAD hko
        simp only [List.length_cons, List.length_nil]
        obtain ⟨yk, ya, yt⟩ := y
        simp only at h4 g0 g1 g2
        by_cases hk1 : yk = x.kind
        · subst hk1
          by_cases ha1 : ya = 0
          · subst ha1
            have e3 : ((str yt).toList == (str x.text).toList) = false := by
              rw [toList_str, toList_str]
              have : yt ≠ x.text := fun e => h4 (by rw [e])
              simpa using this
            clear h4
            go_quiet (fail)
            go_wp2_with fail
            go_ret
            exact ⟨ret_str (by rw [J.out]; rfl), below_drewN' B5.out _⟩
          · have e2 : ((ya : Int) == 0) = false := by simp; omega
            clear h4 ha1
            go_quiet (fail)
            go_wp2_with fail
            go_ret
            exact ⟨ret_str (by rw [J.out]; rfl), below_drewN' B5.out _⟩
        · have e1 : (yk == x.kind) = false := by simpa using hk1
          clear h4 hk1
          go_quiet (fail)
          go_wp2_with fail
          go_ret
          exact ⟨ret_str (by rw [J.out]; rfl), below_drewN' B5.out _⟩
    · have hge : (l.length : Int) ≤ k := by omega
      have e : k = l.length := by omega
      have HJ : Hid (joinP (l.map kta) = joinL (l.map kta)) := by
        show _ = _
        unfold joinP
        rw [if_pos]
        rw [List.all_eq_true]
        intro z hz
        rw [List.mem_map] at hz
        obtain ⟨y, hy, rfl⟩ := hz
        obtain ⟨j, hj⟩ := List.mem_iff_getElem?.1 hy
        exact hg.out j y (by have := (List.getElem?_eq_some_iff.1 hj).1; omega) hj
      have hll := Lib.hid (joinL_len (B := 4000) (l.map kta) fun z hz => by
        rw [List.mem_map] at hz
        obtain ⟨y, hy, rfl⟩ := hz
        exact HX.out y hy)
      rw [List.take_of_length_le (by omega)] at hr
      have e2 : (l.map fun x => str (showL x.kind x.text)).length = l.length := by simp
      have hlib : Lib.join ((l.map fun x => str (showL x.kind x.text)).map (·.data.toList)) (⟨#[32]⟩ : ByteArray).data.toList = joinL (l.map kta) := by
        rw [← joinL_lib, List.map_map, List.map_map]
        congr 1
      cases P with
      | none =>
        have hz : l.length = 0 := by
          rcases hr.out.2 with ⟨_, h, _⟩ | ⟨r, cur, h, _⟩
          · omega
          · cases h
        have hl0 : l = [] := List.length_eq_zero_iff.1 hz
        have JN := Lib.hid fun c w => Tryd.strings_Join_none none c ⟨#[32]⟩ w
        have k0 : k = 0 := by omega
        subst k0 hl0
        clear hlt e e2 hlib hz
        go_wp2_with fail
        refine (JN.out _ _).mono ?_
        rintro e w' ⟨rfl, rfl⟩
        go_wp2_with fail
        go_ret
        exact ⟨rfl, hb.out⟩
      | some p =>
        obtain ⟨r, rfl⟩ : ∃ r, p = ⟨r, 0, none⟩ := by
          rcases hr.out.2 with ⟨h, _⟩ | ⟨r, cur, h, _⟩
          · cases h
          · exact ⟨r, Option.some.inj h⟩
        have JN := Lib.hid (Tryd.strings_Join r 0 c' (l.map fun x => str (showL x.kind x.text)) ⟨#[32]⟩ wr (fun j x hj => by
            have h1 := hr.out.reads
            obtain ⟨a, ha, hb, hc⟩ := h1.2 (by rw [List.length_map] at e2; have := (List.getElem?_eq_some_iff.1 hj).1; simp at this; omega)
            cases ha
            have := hc j (.string x) (by
              unfold shownA
              rw [List.getElem?_map] at hj ⊢
              cases hq : l[j]? with
              | none => rw [hq] at hj; cases hj
              | some y => rw [hq] at hj; simp at hj; subst hj; rfl)
            rw [Go.WideShapes.add_plain] at this
            exact this) (hr.out.lt ⟨_, rfl, rfl⟩).2 (by rw [e2]; omega) (by rw [e2]; have := hr.out.le; omega) (by rw [hlib]; have := hll.out; simp at this; omega))
        rw [hlib, e2] at JN
        rw [← e] at JN
        clear hlt e e2 hlib
        go_wp2_with fail
        refine JN.out.mono ?_
        rintro e w' ⟨rfl, hbj⟩
        have BJ := Lib.hid (below_trans hb.out hbj)
        clear hbj
        go_wp2_with fail
        go_ret
        exact ⟨by rw [HJ.out]; rfl, BJ.out⟩
set_option maxRecDepth 100000 in
set_option maxHeartbeats 4000000 in
theorem rjoinA_any (l : List Ta) (A : Option Addr) (c : Nat) (w : World) (h : TaR w A l) (hn : l.length ≤ 100) (hx : ∀ x ∈ l, x.text.length ≤ 200) : Calls Tryd.prog 20 #[.slice A l.length c] w fun e w' => e = .returned (.string (str (joinP (l.map kta)))) ∧ Below w.heap.size w w' := by
  have H := Lib.hid h
  have HX := Lib.hid hx
  clear h hx
  go_enter Tryd.func20, Tryd.ntmps20
  go_wp2_with fail
  go_loopw [3, 4] (fun p i v => ∃ (k : Nat), k ≤ l.length ∧ p = .string (str (joinL ((l.take k).map kta))) ∧ i = .int .i64 k ∧ Hid (∀ j x, j < k → l[j]? = some x → rightB (kta x) = true) ∧ Hid (Below w.heap.size w v)) (fun _ i _ => l.length - (intOf i).toNat)
  case atStart => exact ⟨0, Nat.zero_le _, rfl, rfl, fun j x h => by omega, Lib.hid (Below.refl _ _)⟩
  case round =>
    obtain ⟨k, hk, rfl, rfl, hg, hb⟩ := hrel
    by_cases hlt : k < l.length
    · obtain ⟨a, x, rfl, hx, hblk, c0, c1, c2⟩ := (H.out.up hb.out).at_ hlt
      have HXX := Lib.hid hx
      have xl := HX.out x (List.mem_of_getElem? hx)
      have RI := Lib.hid fun w => right_any x.kind x.at_ x.text w (by omega)
      have SH := Lib.hid fun w => rshow_any x.kind x.at_ x.text w (by omega)
      have PU := Lib.hid (joinL_push ((l.take k).map kta) (kta x))
      have NX : Hid ((l.take (k + 1)).map kta = (l.take k).map kta ++ [kta x]) := by
        show _ = _
        rw [List.take_add_one, hx]
        simp
      have jl := joinL_len (B := 200) ((l.take k).map kta) fun z hz => by
        rw [List.mem_map] at hz
        obtain ⟨y, hy, rfl⟩ := hz
        exact HX.out y (List.mem_of_mem_take hy)
      simp only [List.length_map, List.length_take] at jl
      have hJ : (str (joinL ((l.take k).map kta))).size ≤ 30000 := by
        rw [str_size]
        have : min k l.length * 203 ≤ 100 * 203 := Nat.mul_le_mul_right _ (by omega)
        omega
      have hsh : (str (showL x.kind x.text)).size ≤ 300 := by rw [str_size]; have := show_le x.kind x.text; omega
      have BAD : Hid (rightB (x.kind, x.text) = false → joinP (l.map kta) = []) := by
        intro hbad
        unfold joinP
        rw [if_neg]
        intro hall
        rw [List.all_eq_true] at hall
        have := hall (kta x) (List.mem_map_of_mem (List.mem_of_getElem? HXX.out))
        unfold kta at this
        rw [hbad] at this
        cases this
      have GOOD : Hid (rightB (x.kind, x.text) = true → ∀ j z, j < k + 1 → l[j]? = some z → rightB (kta z) = true) := by
        intro hr j z hj hz
        rcases Nat.lt_or_ge j k with h' | h'
        · exact hg.out j z h' hz
        · obtain rfl : j = k := by omega
          have := HXX.out
          rw [hz] at this
          cases this
          exact hr
      have E0 : Hid (((l.take k).map kta = []) ↔ k = 0) := by
        show _ ↔ _
        rw [← List.length_eq_zero_iff, List.length_map, List.length_take]
        omega
      generalize (l.take k).map kta = L at *
      have klt : (k : Int) < 4096 := by omega
      clear hx jl
      go_wp2_with fail
      refine (RI.out wr).mono ?_
      rintro e w3 ⟨rfl, hb3⟩
      have B3 := Lib.hid (below_trans hb.out hb3)
      have cc0 := (hb3.cell (p := a.add (k * 3)) (by assumption)).trans c0
      have cc1 := (hb3.cell (p := ⟨(a.add (k * 3)).block, (a.add (k * 3)).off + 1, none⟩) (by assumption)).trans c1
      have cc2 := (hb3.cell (p := ⟨(a.add (k * 3)).block, (a.add (k * 3)).off + 2, none⟩) (by assumption)).trans c2
      clear hb3 c0 c1 c2
      cases hrb : rightB (x.kind, x.text)
      · have J := Lib.hid (BAD.out hrb)
        clear BAD GOOD hrb
        go_wp2_with fail
        go_ret
        exact ⟨ret_str (by rw [J.out]; rfl), B3.out⟩
      · have G := Lib.hid (GOOD.out hrb)
        clear BAD GOOD hrb
        rcases Nat.eq_zero_or_pos k with hk0 | hk0
        · have e0 := E0.out.2 hk0
          have NJ : Hid (str (joinL L) ++ str (showL x.kind x.text) = str (joinL (L ++ [kta x]))) := by
            show _ = _
            rw [PU.out, if_pos e0, e0, str_ap]
            rfl
          have hk1 : (k : Int) ≤ 0 := by omega
          clear hk0 e0
          go_wp2_with fail
          refine (SH.out w3).mono ?_
          rintro e w4 ⟨rfl, hb4⟩
          have B4 := Lib.hid (below_trans B3.out hb4)
          clear hb4
          go_wp2_with fail
          go_roundw
          case rel => exact ⟨k + 1, by omega, by rw [NX.out, ← NJ.out], by go_num, G, B4⟩
          case measure => simp [intOf]; omega
        · have e0 : L ≠ [] := fun h => by have := E0.out.1 h; omega
          have NJ : Hid (str (joinL L) ++ ⟨#[32]⟩ ++ str (showL x.kind x.text) = str (joinL (L ++ [kta x]))) := by
            show _ = _
            rw [PU.out, if_neg e0]
            have := str_ap (joinL L) [32]
            rw [show (⟨#[32]⟩ : ByteArray) = str [32] from rfl, this, str_ap]
            simp [kta]
          have hk1 : (0 : Int) < k := by omega
          clear e0
          go_wp2_with fail
          refine (SH.out w3).mono ?_
          rintro e w4 ⟨rfl, hb4⟩
          have B4 := Lib.hid (below_trans B3.out hb4)
          clear hb4
          go_wp2_with fail
          go_roundw
          case rel => exact ⟨k + 1, by omega, by rw [NX.out, ← NJ.out], by go_num, G, B4⟩
          case measure => simp [intOf]; omega
    · have hge : (l.length : Int) ≤ k := by omega
      have HJ : Hid (joinP (l.map kta) = joinL ((l.take k).map kta)) := by
        show _ = _
        rw [List.take_of_length_le (by omega)]
        unfold joinP
        rw [if_pos]
        rw [List.all_eq_true]
        intro z hz
        rw [List.mem_map] at hz
        obtain ⟨y, hy, rfl⟩ := hz
        obtain ⟨j, hj⟩ := List.mem_iff_getElem?.1 hy
        exact hg.out j y (by have := (List.getElem?_eq_some_iff.1 hj).1; omega) hj
      clear hlt
      go_wp2_with fail
      go_ret
      exact ⟨ret_str (by rw [HJ.out]), hb.out⟩
set_option maxRecDepth 100000 in
set_option maxHeartbeats 2000000 in
theorem few_any (l : List Ta) (A : Option Addr) (c : Nat) (w : World) (h : TaR w A l) (hn : l.length ≤ maxLen) (hx : ∀ x ∈ l, x.text.length ≤ maxLen) : Calls Tryd.prog 19 #[.slice A l.length c] w fun e w' => (∃ r, e = .returned (.bool r) ∧ (r = true → l.length ≤ 61 ∧ ∀ x ∈ l, x.text.length ≤ 100)) ∧ w = w' := by
  unfold maxLen at hn hx
  have H := Lib.hid h
  have HX := Lib.hid hx
  clear h hx
  go_enter Tryd.func19, Tryd.ntmps19
  go_wp2_with fail
  go_loopw [3] (fun i v => ∃ (k : Nat), k ≤ l.length ∧ k ≤ 61 ∧ i = .int .i64 k ∧ Hid (∀ j x, j < k → l[j]? = some x → x.text.length ≤ 100) ∧ w = v) (fun i _ => l.length - (intOf i).toNat)
  case atStart => exact ⟨0, Nat.zero_le _, by omega, rfl, fun j x h => by omega, rfl⟩
  case round =>
    obtain ⟨k, hk, hk61, rfl, hg, rfl⟩ := hrel
    by_cases hlt : k < l.length
    · obtain ⟨a, x, rfl, hx, hblk, c0, c1, c2⟩ := H.out.at_ hlt
      have HXX := Lib.hid hx
      have sz := Lib.hid (str_size x.text)
      clear hx
      by_cases h60 : 60 < k
      · have h60' : (60 : Int) < k := by omega
        go_wp2_with fail
        go_ret
        exact ⟨⟨false, rfl, by simp⟩, rfl⟩
      · have h60' : (k : Int) ≤ 60 := by omega
        by_cases h100 : 100 < (str x.text).size
        · have h100' : (100 : Int) < (str x.text).size := by omega
          clear h60
          go_wp2_with fail
          go_ret
          exact ⟨⟨false, rfl, by simp⟩, rfl⟩
        · have h100' : ((str x.text).size : Int) ≤ 100 := by omega
          have HG : Hid (∀ j x, j < k + 1 → l[j]? = some x → x.text.length ≤ 100) := by
            intro j z hj hz
            rcases Nat.lt_or_ge j k with h' | h'
            · exact hg.out j z h' hz
            · obtain rfl : j = k := by omega
              have := HXX.out
              rw [hz] at this
              cases this
              have := sz.out
              omega
          clear h60 h100
          go_wp2_with fail
          go_roundw
          case rel => exact ⟨k + 1, by omega, by omega, by go_num, HG, trivial⟩
          case measure => simp [intOf]; omega
    · have hge : (l.length : Int) ≤ k := by omega
      have HG : Hid (l.length ≤ 61 ∧ ∀ x ∈ l, x.text.length ≤ 100) := by
        refine ⟨by omega, fun x hx => ?_⟩
        obtain ⟨j, hj⟩ := List.mem_iff_getElem?.1 hx
        exact hg.out j x (by have := (List.getElem?_eq_some_iff.1 hj).1; omega) hj
      clear hlt
      go_wp2_with fail
      go_ret
      exact ⟨⟨true, rfl, fun _ => HG.out⟩, rfl⟩
end Go.Proofs.YtnffnkmghghmlaaDoor
