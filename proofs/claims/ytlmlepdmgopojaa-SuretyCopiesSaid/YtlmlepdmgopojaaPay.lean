/- The walk of Pay. Condition: where the surety lies. -/
import Derived.Test.YtlmlepdmgopojaaOpen
import Derived.Deep.Cut
namespace Go.Proofs.Ytlmlepdmgopojaa
open Go.RowKit
set_option linter.unusedVariables false
set_option linter.unusedSimpArgs false
theorem Row.set_ {w : World} {B e size n c r : Nat} {xs : List Value} (h : Row w B e size (some ⟨r, 0, none⟩) n c xs) (i : Nat) (hi : i < n * size) (u : Value) : Row (w.setCell ⟨r, i, none⟩ u) B e size (some ⟨r, 0, none⟩) n c (xs.set i u) := by
  refine ⟨by rw [List.length_set]; exact h.1, ?_⟩
  rcases h.2 with ⟨h0, _⟩ | ⟨r', cur, hA, hB, hh, hl, hm, hs, ht, hx⟩
  · cases h0
  · cases hA
    refine .inr ⟨r, cur.setIfInBounds i u, rfl, hB, (Blk.set_ (show Blk w r e cur from hh) i u), hl, hm, by simpa using hs, ?_, by simpa using hx⟩
    rw [← ht, Array.toList_setIfInBounds, List.take_set]
theorem SA.form {w : World} {g c d : Nat} {s : Sur} {C : Option Addr} {a : Addr} (h : SA w g s C c (some a) d) : a = ⟨a.block, 0, none⟩ ∧ ∃ cur, Blk w a.block 67 cur := by
  rcases h.rd.2 with ⟨h0, _⟩ | ⟨r, cur, hA, _, hh, _⟩
  · cases h0
  · cases hA
    exact ⟨rfl, cur, hh⟩
theorem add_block (a : Addr) (n : Nat) : (a.add n).block = a.block := block_of_add a n
theorem add_off {r : Nat} (n : Nat) : (⟨r, 0, none⟩ : Addr).add n = ⟨r, n, none⟩ := by unfold Addr.add; split <;> simp_all
/-- the place of a demand's standing -/
def stAt (a : Addr) (k : Nat) : Addr := ⟨(a.add (k * 3)).block, (a.add (k * 3)).off + 2, none⟩
theorem SA.stand {w : World} {g c d k : Nat} {s : Sur} {C : Option Addr} {a : Addr} {x : Dem} (h : SA w g s C c (some a) d) (hx : s.dem[k]? = some x) (j : Int) :
    SA (w.setCell ⟨(a.add (k * 3)).block, (a.add (k * 3)).off + 2, none⟩ (.int .i64 j)) g { s with dem := setSt s.dem k j } C c (some a) d := by
  obtain ⟨ea, cur, hcur⟩ := h.form
  have hl : k < s.dem.length := (List.getElem?_eq_some_iff.1 hx).1
  have e : (⟨(a.add (k * 3)).block, (a.add (k * 3)).off + 2, none⟩ : Addr) = ⟨a.block, k * 3 + 2, none⟩ := by rw [ea, add_off]
  rw [e]
  have hrd := h.rd
  have n1 : ¬ blockOf (some a) g := h.rd.blk_ne h.box (by decide)
  have n2 : a.block ≠ g := fun hh => n1 ⟨a, rfl, hh⟩
  have n3 : ¬ blockOf C a.block := h.rc.blk_ne hcur (by decide)
  refine ⟨?_, ?_, h.rc.setCell (p := ⟨a.block, k * 3 + 2, none⟩) n3 _⟩
  · have := h.box.far (p := ⟨a.block, k * 3 + 2, none⟩) (Ne.symm n2) (.int .i64 j)
    unfold Sur.cells at this ⊢
    simp only [setSt_len]
    exact this
  · rw [ea] at hrd ⊢
    have := hrd.set_ (k * 3 + 2) (by omega) (.int .i64 j)
    simp only [setSt_len]
    rw [flatD_set hx]
    exact this
theorem SA.unfrozen {w : World} {g c d : Nat} {s : Sur} {C : Option Addr} {a : Addr} (h : SA w g s C c (some a) d) (i : Nat) (j : Nat) : w.frozen? ⟨(a.add i).block, j, none⟩ = false := by
  obtain ⟨ea, cur, hcur⟩ := h.form
  rw [add_block]
  exact hcur.frozen j
theorem SA.expd {w : World} {g c d : Nat} {s : Sur} {C D : Option Addr} (h : SA w g s C c D d) (e : Int) : SA (w.setCell ⟨g, 7, none⟩ (.int .i64 e)) g { s with exp := e } C c D d := by
  refine ⟨?_, h.rd.setCell (p := ⟨g, 7, none⟩) (h.rd.blk_ne h.box (by decide)) _, h.rc.setCell (p := ⟨g, 7, none⟩) (h.rc.blk_ne h.box (by decide)) _⟩
  have := h.box.set_ 7 (.int .i64 e)
  unfold Sur.cells at this ⊢
  simpa using this
theorem setCell_chg {O : Nat → Prop} {w : World} {p : Addr} (h : O p.block) (u : Value) : Chg O w (w.setCell p u) := (Chg.refl O w).setCell (.inl h) u
set_option maxRecDepth 100000 in
set_option maxHeartbeats 4000000 in
theorem pay_any (s : Sur) (g : Nat) (w : World) (O : Nat → Prop) (h : At O w g s) {K : Nat} (ok : s.ok K) (hK : K ≤ 4096) (n : Int) :
    Calls Try.prog 16 #[.pointer (some ⟨g, 0, none⟩), .int .i64 n] w fun e w' => e = .returned (.tuple #[.int .i64 (s.pay n).2.1, .int .i64 (s.pay n).2.2]) ∧ At O w' g (s.pay n).1 ∧ Chg O w w' := by
  obtain ⟨C, c, D, d, sa, o1, o2, o3⟩ := h
  have OP := Lib.hid (isOpen_any s g c d C D w sa ok hK n)
  by_cases h0 : s.open_ n = 0
  · obtain ⟨g1, g2, x, hx, hx0⟩ := open_some h0
    have e1 : (s.pay n).1 = { s with dem := setSt s.dem n.toNat 1 } := by unfold Sur.pay; rw [if_neg (by simp [h0])]
    have e2 : (s.pay n).2 = (x.amt, 0) := by unfold Sur.pay; rw [if_neg (by simp [h0]), hx]; rfl
    rw [e1, e2]
    obtain ⟨k, rfl⟩ := Int.eq_ofNat_of_zero_le g1
    have hk : k < s.dem.length := by omega
    rw [Int.toNat_natCast] at hx ⊢
    obtain ⟨a, _, rfl, _, _⟩ := sa.dem.at_ hk
    have SA0 := Lib.hid sa
    have HX := Lib.hid hx
    have H0 := Lib.hid h0
    have hkI : (k : Int) < s.dem.length := by omega
    clear sa hx h0 e1 e2 hx0 g1 g2
    go_enter Try.func16, Try.ntmps16
    go_wp2_with fail
    refine OP.out.mono ?_
    rintro e w1 ⟨rfl, hb⟩
    rw [H0.out]
    have SA1 := Lib.hid (SA0.out.below hb)
    have HB := Lib.hid hb
    have t := SA1.out.cellD
    have lg := SA1.out.box.lt
    have fz := SA1.out.unfrozen (k * 3) ((a.add (k * 3)).off + 2)
    obtain ⟨a', y, ha, hy, hblk, c0, c1, c2⟩ := SA1.out.dem.at_ hk
    cases ha
    obtain rfl := Option.some.inj (HX.out.symm.trans hy)
    clear hb hy c0
    go_upto_region 5 with fail
    obtain ⟨w2, hw2⟩ : ∃ w2, w2 = w1.setCell ⟨(a.add (k * 3)).block, (a.add (k * 3)).off + 2, none⟩ (.int .i64 1) := ⟨_, rfl⟩
    have SA2 := Lib.hid (show SA w2 g { s with dem := setSt s.dem k 1 } C c (some a) d by rw [hw2]; exact SA1.out.stand HX.out 1)
    have CH := Lib.hid (show Chg O w w2 by rw [hw2]; exact (Chg.of_below HB.out).trans (setCell_chg (p := ⟨(a.add (k * 3)).block, (a.add (k * 3)).off + 2, none⟩) (by rw [add_block]; exact o2 _ ⟨a, rfl, rfl⟩) _))
    rw [← hw2]
    have t2 := SA2.out.cellD
    simp only [setSt_len] at t2
    obtain ⟨a', y, ha, hy, hblk2, d0, d1, d2⟩ := SA2.out.dem.at_ (k := k) (by simp only [setSt_len]; exact hk)
    cases ha
    simp only [setSt_some 1 HX.out, List.getElem?_set_self hk, Option.some.injEq] at hy
    subst hy
    simp only at d1
    clear hw2 t fz c1 c2 d0 d2 lg hblk
    go_wp2_with fail
    go_ret2
    exact ⟨rfl, ⟨C, c, some a, d, SA2.out, o1, o2, o3⟩, CH.out⟩
  · have e1 : (s.pay n).1 = s := by unfold Sur.pay; rw [if_pos (by simpa using h0)]
    have e2 : (s.pay n).2 = (0, s.open_ n) := by unfold Sur.pay; rw [if_pos (by simpa using h0)]
    rw [e1, e2]
    have h0' : (s.open_ n != 0) = true := by simpa using h0
    have SA0 := Lib.hid sa
    generalize s.open_ n = z at *
    clear sa h0 e1 e2
    go_enter Try.func16, Try.ntmps16
    go_wp2_with fail
    refine OP.out.mono ?_
    rintro e w1 ⟨rfl, hb⟩
    have HB := Lib.hid hb
    clear hb
    go_wp2_with fail
    go_ret2
    exact ⟨rfl, ⟨C, c, D, d, SA0.out.below HB.out, o1, o2, o3⟩, Chg.of_below HB.out⟩
end Go.Proofs.Ytlmlepdmgopojaa
