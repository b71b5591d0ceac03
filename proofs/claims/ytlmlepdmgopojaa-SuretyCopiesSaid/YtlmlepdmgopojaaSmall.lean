/- The walks of a surety's small methods. Condition: where it lies. -/
import Derived.Test.YtlmlepdmgopojaaMem
import Derived.Deep.RegionHeld3
import Derived.IntWalk
import Derived.Test.YtlmlepdmgopojaaMayC
namespace Go.Proofs.Ytlmlepdmgopojaa
open Go.RowKit
set_option linter.unusedVariables false
set_option linter.unusedSimpArgs false
theorem ret_int {a b : Int} (h : a = b) : Ending.returned (.int .i64 a) = .returned (.int .i64 b) := by rw [h]
theorem ret_slice {A : Option Addr} {a b c : Nat} (h : a = b) : Ending.returned (.slice A a c) = .returned (.slice A b c) := by rw [h]
theorem asked_bnd {l : List Dem} (h : ∀ d ∈ l, (1 ≤ d.amt ∧ d.amt ≤ 1099511627776) ∧ (0 ≤ d.day ∧ d.day ≤ 1048576)) (hl : l.length ≤ 4096) (k : Nat) : 0 ≤ asked (l.take k) ∧ asked (l.take k) ≤ 4503599627370496 := by
  have := asked_nn (l := l.take k) fun d hd => h d (List.mem_of_mem_take hd)
  have : (l.take k).length ≤ l.length := by simp; omega
  omega
theorem cutTo_bnd {l : List Cut} (h : ∀ d ∈ l, (1 ≤ d.amt ∧ d.amt ≤ 1099511627776) ∧ (0 ≤ d.day ∧ d.day ≤ 1048576)) (hl : l.length ≤ 4096) (n : Int) (k : Nat) : 0 ≤ cutTo n (l.take k) ∧ cutTo n (l.take k) ≤ 4503599627370496 := by
  have := cutTo_nn (l := l.take k) n fun d hd => h d (List.mem_of_mem_take hd)
  have : (l.take k).length ≤ l.length := by simp; omega
  omega
set_option maxRecDepth 100000 in
set_option maxHeartbeats 2000000 in
theorem asked_any (s : Sur) (g c d : Nat) (C D : Option Addr) (w : World) (h : SA w g s C c D d) {K : Nat} (ok : s.ok K) (hK : K ≤ 4096) :
    Calls Try.prog 29 #[.pointer (some ⟨g, 0, none⟩)] w fun e w' => e = .returned (.int .i64 (asked s.dem)) ∧ Below w.heap.size w w' := by
  have q := h.cellD
  have lt := h.box.lt
  have hd := h.dem
  have len : s.dem.length ≤ 4096 := by have := ok.dl; omega
  have OK := Lib.hid ok.dok
  generalize s.dem = l at *
  clear h ok
  go_enter Try.func29, Try.ntmps29
  go_wp2_with fail
  go_loopw [3, 11] (fun n i v => ∃ (k : Nat) (m : Int), k ≤ l.length ∧ n = .int .i64 m ∧ i = .int .i64 k ∧ Hid (m = asked (l.take k)) ∧ Hid (Below w.heap.size w v)) (fun _ i _ => l.length - (intOf i).toNat)
  case atStart => exact ⟨0, 0, Nat.zero_le _, rfl, rfl, Lib.hid rfl, Lib.hid (Below.refl _ _)⟩
  case round =>
    obtain ⟨k, m, hk, rfl, rfl, hm, hb⟩ := hrel
    have bm : 0 ≤ m ∧ m ≤ 4503599627370496 := by rw [hm.out]; exact asked_bnd OK.out len k
    by_cases hlt : k < l.length
    · obtain ⟨a, x, rfl, hx, hblk, c0, c1, c2⟩ := (hd.up hb.out).at_ hlt
      have bx := (OK.out x (List.mem_of_getElem? hx)).1
      have HX := Lib.hid hx
      have HD := Lib.hid hd
      clear hx hd
      by_cases h2 : x.st = 2
      · have HE := Lib.hid (asked_take HX.out)
        have c2' : wr.cell? ⟨(a.add (k * 3)).block, (a.add (k * 3)).off + 2, none⟩ = some (.int .i64 2) := by rw [c2, h2]
        have H2 := Lib.hid h2
        clear h2 c2
        go_wp2_with fail
        go_roundw
        case rel => exact ⟨k + 1, m, by omega, rfl, by go_num, Lib.hid (by rw [HE.out, ← hm.out, if_pos H2.out]; omega), Lib.hid (hb.out.alloc hb.out.size _)⟩
        case measure => simp [intOf]; omega
      · have HE := Lib.hid (asked_take HX.out)
        have h2' : (x.st != 2) = true := by simpa using h2
        have H2 := Lib.hid h2
        clear h2
        go_wp2_with fail
        go_roundw
        case rel => exact ⟨k + 1, m + x.amt, by omega, rfl, by go_num, Lib.hid (by rw [HE.out, ← hm.out, if_neg H2.out]), Lib.hid (hb.out.alloc hb.out.size _)⟩
        case measure => simp [intOf]; omega
    · have hge : (l.length : Int) ≤ k := by omega
      have hge' : l.length ≤ k := by omega
      rw [List.take_of_length_le (by omega)] at hm
      clear hlt
      go_wp2_with fail
      go_ret
      exact ⟨ret_int hm.out, hb.out⟩
set_option maxRecDepth 100000 in
set_option maxHeartbeats 2000000 in
theorem cut_any (s : Sur) (g c d : Nat) (C D : Option Addr) (w : World) (h : SA w g s C c D d) {K : Nat} (ok : s.ok K) (hK : K ≤ 4096) (day : Int) :
    Calls Try.prog 28 #[.pointer (some ⟨g, 0, none⟩), .int .i64 day] w fun e w' => e = .returned (.int .i64 (cutTo day s.cuts)) ∧ Below w.heap.size w w' := by
  have q := h.cellC
  have lt := h.box.lt
  have hd := h.cut
  have len : s.cuts.length ≤ 4096 := by have := ok.cl; omega
  have OK := Lib.hid ok.cok
  generalize s.cuts = l at *
  clear h ok
  go_enter Try.func28, Try.ntmps28
  go_wp2_with fail
  go_loopw [5, 13] (fun n i v => ∃ (k : Nat) (m : Int), k ≤ l.length ∧ n = .int .i64 m ∧ i = .int .i64 k ∧ Hid (m = cutTo day (l.take k)) ∧ Hid (Below w.heap.size w v)) (fun _ i _ => l.length - (intOf i).toNat)
  case atStart => exact ⟨0, 0, Nat.zero_le _, rfl, rfl, Lib.hid rfl, Lib.hid (Below.refl _ _)⟩
  case round =>
    obtain ⟨k, m, hk, rfl, rfl, hm, hb⟩ := hrel
    have bm : 0 ≤ m ∧ m ≤ 4503599627370496 := by rw [hm.out]; exact cutTo_bnd OK.out len day k
    by_cases hlt : k < l.length
    · obtain ⟨a, x, rfl, hx, hblk, c0, c1⟩ := (hd.up hb.out).at_ hlt
      have bx := (OK.out x (List.mem_of_getElem? hx)).1
      have HE := Lib.hid (cutTo_take day hx)
      have HX := Lib.hid hx
      have HD := Lib.hid hd
      clear hx hd
      by_cases h2 : x.day ≤ day
      · have H2 := Lib.hid h2
        go_wp2_with fail
        go_roundw
        case rel => exact ⟨k + 1, m + x.amt, by omega, rfl, by go_num, Lib.hid (by rw [HE.out, ← hm.out, if_pos H2.out]), Lib.hid (hb.out.alloc hb.out.size _)⟩
        case measure => simp [intOf]; omega
      · have h2' : day < x.day := by omega
        have H2 := Lib.hid h2
        clear h2
        go_wp2_with fail
        go_roundw
        case rel => exact ⟨k + 1, m, by omega, rfl, by go_num, Lib.hid (by rw [HE.out, ← hm.out, if_neg H2.out]; omega), Lib.hid (hb.out.alloc hb.out.size _)⟩
        case measure => simp [intOf]; omega
    · have hge : (l.length : Int) ≤ k := by omega
      have hge' : l.length ≤ k := by omega
      rw [List.take_of_length_le (by omega)] at hm
      clear hlt
      go_wp2_with fail
      go_ret
      exact ⟨ret_int hm.out, hb.out⟩
theorem left_bnd {s : Sur} {K : Nat} (ok : s.ok K) (hK : K ≤ 4096) (day : Int) : (0 ≤ asked s.dem ∧ asked s.dem ≤ 4503599627370496) ∧ (0 ≤ cutTo day s.cuts ∧ cutTo day s.cuts ≤ 4503599627370496) := by
  have h1 := asked_bnd ok.dok (by have := ok.dl; omega) s.dem.length
  have h2 := cutTo_bnd ok.cok (by have := ok.cl; omega) day s.cuts.length
  rw [List.take_length] at h1 h2
  exact ⟨h1, h2⟩
set_option maxRecDepth 100000 in
set_option maxHeartbeats 2000000 in
theorem left_any (s : Sur) (g c d : Nat) (C D : Option Addr) (w : World) (h : SA w g s C c D d) {K : Nat} (ok : s.ok K) (hK : K ≤ 4096) (day : Int) :
    Calls Try.prog 12 #[.pointer (some ⟨g, 0, none⟩), .int .i64 day] w fun e w' => e = .returned (.int .i64 (s.left day)) ∧ Below w.heap.size w w' := by
  have q := h.cellA
  have lt := h.box.lt
  obtain ⟨b1, b2⟩ := left_bnd ok hK day
  have ba := ok.amt
  have CU := fun (v : World) (hv : Below w.heap.size w v) => cut_any s g c d C D v (h.below hv) ok hK day
  have AS := fun (v : World) (hv : Below w.heap.size w v) => asked_any s g c d C D v (h.below hv) ok hK
  have e : s.left day = max (s.b.amt - cutTo day s.cuts - asked s.dem) 0 := rfl
  rw [e]
  generalize cutTo day s.cuts = m at *
  generalize asked s.dem = n at *
  generalize s.b.amt = amt at *
  have CU' := Lib.hid CU
  have AS' := Lib.hid AS
  clear CU AS e h ok
  go_enter Try.func12, Try.ntmps12
  have W1 : IntKind.i64.wrap (amt - m) = amt - m := IntWalk.i64_in _ (by omega)
  have W2 : IntKind.i64.wrap (amt - m - n) = amt - m - n := IntWalk.i64_in _ (by omega)
  have B0 : Hid (Below w.heap.size w w.drew) := (Below.refl _ _).drew
  go_wp2_with fail
  go_region_held3 (fun v => v.cell? ⟨g, 5, none⟩ = some (.int .i64 amt)) (go_keep) (first | (go_at_call 28; refine (CU'.out _ (by first | exact B29.out | exact B0.out)).mono ?_; rintro e v28 ⟨rfl, hb28⟩; have B28 : Hid (Below w.heap.size w v28) := (by first | exact below_trans B29.out hb28 | exact below_trans B0.out hb28); have r28 : v28.cell? ⟨g, 5, none⟩ = some (.int .i64 amt) := (B28.out.cell (p := ⟨g, 5, none⟩) lt).trans q; clear hb28) | (go_at_call 29; refine (AS'.out _ (by first | exact B28.out | exact B0.out)).mono ?_; rintro e v29 ⟨rfl, hb29⟩; have B29 : Hid (Below w.heap.size w v29) := (by first | exact below_trans B28.out hb29 | exact below_trans B0.out hb29); have r29 : v29.cell? ⟨g, 5, none⟩ = some (.int .i64 amt) := (B29.out.cell (p := ⟨g, 5, none⟩) lt).trans q; clear hb29))
  all_goals go_wp2_with fail
  all_goals
    go_ret
    first | exact ⟨ret_int (by omega), B28.out⟩ | exact ⟨ret_int (by omega), B29.out⟩
set_option maxRecDepth 100000 in
set_option maxHeartbeats 2000000 in
theorem new_any (b : Bnd) (hb : b.wf) (w : World) : Calls Try.prog 9 #[bndV b] w fun e w' => Below w.heap.size w w' ∧
    ((mayS b = true ∧ ∃ g, e = .returned (.tuple #[.pointer (some ⟨g, 0, none⟩), .int .i64 0]) ∧ SA w' g ⟨b, b.exp, [], []⟩ none 0 none 0 ∧ w.heap.size ≤ g) ∨ (mayS b = false ∧ e = .returned (.tuple #[.pointer none, .int .i64 1]))) := by
  have MA := Lib.hid fun v => may_any b hb v
  have HB := Lib.hid (show Below w.heap.size w (w.alloc (.cells b.cells 25)) from (Below.refl _ _).alloc (Nat.le_refl _) _)
  have HX := Lib.hid (Blk.new w 25 b.cells)
  unfold bndV at MA ⊢
  unfold Bnd.cells at HB MA HX ⊢
  cases hm : mayS b
  · have HM := Lib.hid hm
    clear hm
    go_enter Try.func9, Try.ntmps9
    go_wp2_with fail
    refine (MA.out _).mono ?_
    rintro e w1 ⟨rfl, hb1⟩
    rw [HM.out]
    go_wp2_with fail
    go_ret2
    exact ⟨below_trans HB.out hb1, .inr ⟨trivial, rfl⟩⟩
  · have HM := Lib.hid hm
    clear hm
    go_enter Try.func9, Try.ntmps9
    go_wp2_with fail
    refine (MA.out _).mono ?_
    rintro e w1 ⟨rfl, hb1⟩
    rw [HM.out]
    have HB1 := Lib.hid (below_trans HB.out hb1)
    have bx := HX.out.below hb1 HX.out.lt
    have c0 := bx.cell 0
    have c1 := bx.cell 1
    have c2 := bx.cell 2
    have c3 := bx.cell 3
    have c4 := bx.cell 4
    have c5 := bx.cell 5
    have c6 := bx.cell 6
    simp only [List.getElem?_toArray, List.getElem?_cons_zero, List.getElem?_cons_succ] at c0 c1 c2 c3 c4 c5 c6
    clear bx hb1 HX
    go_wp2_with fail
    go_ret2
    refine ⟨below_trans HB1.out ((Below.refl _ _).alloc (Nat.le_refl _) _), .inl ⟨trivial, _, rfl, ⟨Blk.new w1 63 _, Row.nil _ _ _ _, Row.nil _ _ _ _⟩, HB1.out.size⟩⟩
theorem info48 : (Try.prog.info? 48).map (fun i => (i.zero, i.size, i.bytes)) = some (some (.agg #[.int .i64 0, .int .i64 0]), 2, 16) := by kernel_rfl
def drawn (l : List Dem) : List Cut := l.map fun d => ⟨d.day, d.amt⟩
theorem drawn_take {l : List Dem} {k : Nat} {x : Dem} (h : l[k]? = some x) : flatC (drawn (l.take (k + 1))) = flatC (drawn (l.take k)) ++ flatC [⟨x.day, x.amt⟩] := by
  rw [List.take_add_one, h]
  simp [drawn, flatC, flatF]
set_option maxRecDepth 100000 in
set_option maxHeartbeats 4000000 in
theorem demands_any (s : Sur) (g c d : Nat) (C D : Option Addr) (w : World) (h : SA w g s C c D d) {K : Nat} (ok : s.ok K) (hK : K ≤ 4096) :
    Calls Try.prog 11 #[.pointer (some ⟨g, 0, none⟩)] w fun e w' => ∃ A c', e = .returned (.slice A s.dem.length c') ∧ Below w.heap.size w w' ∧ CutR w' A (drawn s.dem) := by
  obtain ⟨i0, hi, hz0, hz1, hz2⟩ := info_parts info48
  have q := h.cellD
  have lt := h.box.lt
  have hd := h.dem
  have len : s.dem.length ≤ 4096 := by have := ok.dl; omega
  generalize s.dem = l at *
  clear h ok
  have HI := Lib.hid hi
  have Z0 := Lib.hid hz0
  have Z1 := Lib.hid hz1
  have Z2 := Lib.hid hz2
  clear hi hz0 hz1 hz2
  go_enter Try.func11, Try.ntmps11
  go_wp2_with fail
  go_loopw [3, 11] (fun n i v => ∃ (k : Nat) (A : Option Addr) (c' : Nat), k ≤ l.length ∧ n = .slice A k c' ∧ i = .int .i64 k ∧ Hid (Row v w.heap.size 48 2 A k c' (flatC (drawn (l.take k)))) ∧ Hid (Below w.heap.size w v)) (fun _ i _ => l.length - (intOf i).toNat)
  case atStart => exact ⟨0, none, 0, Nat.zero_le _, rfl, rfl, Row.nil _ _ _ _, Lib.hid (Below.refl _ _)⟩
  case round =>
    obtain ⟨k, A, c', hk, rfl, rfl, hr, hb⟩ := hrel
    by_cases hlt : k < l.length
    · obtain ⟨a, x, rfl, hx, hblk, c0, c1, c2⟩ := (hd.up hb.out).at_ hlt
      have HX := Lib.hid hx
      have HD := Lib.hid hd
      clear hx hd
      go_wp2_with (at_builtin; refine wpList_append_row _ rfl (.tmp 15) (.tmp 18) 32 rfl w.heap.size 48 i0 (.agg #[.int .i64 0, .int .i64 0]) 2 16 Try.underlying32 HI.out Z0.out Z1.out Z2.out rfl (by decide) A k c' (flatC (drawn (l.take k))) rfl ((hr.out.alloc _).alloc _) (by have := hb.out.size; simp; omega) ⟨wr.heap.size + 1, 0, none⟩ 1 1 (by omega) (flatC [⟨x.day, x.amt⟩]) rfl ((lit_readsN _ #[.int .i64 x.day, .int .i64 x.amt] 48 (wr.heap.size + 1) 2 1 _ (by simp) rfl rfl).more (by simp)) (flatF_one cut_one _) (by unfold maxLen; omega) (by omega) ?_)
      intro A' c2' w2 hrow hch hfr
      have HR : Hid (Row w2 w.heap.size 48 2 A' (k + 1) c2' (flatC (drawn (l.take (k + 1))))) := by
        show Row w2 w.heap.size 48 2 A' (k + 1) c2' _
        rw [drawn_take HX.out]
        exact hrow
      have HB2 : Hid (Below w.heap.size w w2) := by
        have h1 : Below w.heap.size w ((wr.alloc (.cells #[.int .i64 x.day, .int .i64 x.amt, .int .i64 x.st] 67)).alloc (.cells #[.int .i64 x.day, .int .i64 x.amt] 48)) := (hb.out.alloc hb.out.size _).alloc (by have := hb.out.size; simp; omega) _
        exact h1.trans (hch.below h1.size fun j hj => (hr.out.lt hj).1)
      clear hrow hch hfr
      go_wp2_with fail
      go_roundw
      case rel => exact ⟨k + 1, A', c2', by omega, rfl, by go_num, HR, HB2⟩
      case measure => simp [intOf]; omega
    · have hge : (l.length : Int) ≤ k := by omega
      have hge' : l.length ≤ k := by omega
      have e : k = l.length := by omega
      have E := Lib.hid e
      rw [List.take_of_length_le (by omega)] at hr
      clear hlt e
      go_wp2_with fail
      go_ret
      exact ⟨A, c', ret_slice E.out, hb.out, by have := hr.out.reads; rw [E.out] at this; unfold CutR; simpa [drawn] using this⟩
end Go.Proofs.Ytlmlepdmgopojaa
