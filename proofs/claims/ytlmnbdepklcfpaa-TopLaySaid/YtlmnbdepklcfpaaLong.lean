/- The walk of Long; the clock's own methods. Condition: how the stretches lie. -/
import Derived.Test.YtlmnbdepklcfpaaCheck
namespace Go.Proofs.Ytlmnbdepklcfpaa
open Go.RowKit
set_option linter.unusedVariables false

theorem add_zero_ (a : Addr) : a.add 0 = a := by unfold Addr.add; simp
theorem right_get {l : List Str} (h : (chk l).2 = 0) {k : Nat} {s : Str} (hs : l[k]? = some s) : s.ok := (chain_get l _ (chk_chain h).1).1 k s hs
set_option maxRecDepth 100000 in
set_option maxHeartbeats 2000000 in
theorem long_any (A : Option Addr) (n c : Nat) (l : List Str) (w : World) (h : Strs w w.heap.size A n l) (hn : n ≤ maxLen) (m : Int) :
    Calls Try.prog 10 #[.slice A n c, .int .i64 m] w fun e w' => ∃ b, e = .returned (.bool b) ∧ Below w.heap.size w w' := by
  have hm := hn
  unfold maxLen at hm
  go_enter Try.func10, Try.ntmps10
  go_wp2_with fail
  refine (rcheck_any A n c l w h hn).mono ?_
  rintro e w1 ⟨rfl, hb⟩
  have h1 := h.below hb
  have HB := Lib.hid hb
  have HN := Lib.hid hn
  clear hb hn
  unfold chkV
  rcases chk_some l with hz | hz
  · have HZ := Lib.hid hz
    rw [HZ.out]
    clear hz
    by_cases n0 : n = 0
    · have n0i : (n : Int) ≤ 0 := by omega
      have n0d : decide (0 < n) = false := by simp; omega
      have n0e : decide ((0 : Int) < (n : Int)) = false := by simp; omega
      clear n0
      go_wp2
      go_quiet (fail)
      go_wp2
      go_ret
      exact ⟨_, rfl, below_drewN' HB.out _⟩
    · have n1 : 0 < n := by omega
      have n1i : (0 : Int) < n := by omega
      obtain ⟨a, s, hA, hs, hab, x0, x1, x2⟩ := h1.at_ (show 0 < n by omega)
      subst hA
      obtain ⟨a', p, hA, hp, hab', y0, y1, y2⟩ := h1.at_ (show n - 1 < n by omega)
      cases hA
      obtain ⟨o1, o2, o3, _, _⟩ := right_get HZ.out hs
      obtain ⟨p1, p2, p3, _, _⟩ := right_get HZ.out hp
      have W1 : IntKind.i64.wrap ((n : Int) - 1) = ((n - 1 : Nat) : Int) := by rw [show (n : Int) - 1 = ((n - 1 : Nat) : Int) by omega]; exact IntWalk.i64_in _ (by omega)
      have W2 : IntKind.i64.wrap (p.t - s.f) = p.t - s.f := IntWalk.i64_in _ (by omega)
      have z0 : w1.cell? a = some (.int .i64 s.f) := by rw [Nat.zero_mul, add_zero_] at x0; exact x0
      have hle : n - 1 < n := by omega
      clear hs hp n0 y0 y2 x0 x1 x2
      by_cases g : p.t - s.f > m
      · have g' : m < p.t - s.f := g
        clear g
        go_wp2
        go_quiet (fail)
        go_wp2
        go_ret
        exact ⟨_, rfl, below_drewN' HB.out _⟩
      · have g' : p.t - s.f ≤ m := by omega
        clear g
        go_wp2
        go_quiet (fail)
        go_wp2
        go_ret
        exact ⟨_, rfl, below_drewN' HB.out _⟩
  · have q : ((chk l).2 == 0) = false := by simp; omega
    generalize (chk l).2 = cd at *
    generalize (chk l).1 = ck at *
    clear hz
    go_wp2
    go_quiet (fail)
    go_wp2
    go_ret
    exact ⟨_, rfl, below_drewN' HB.out _⟩
theorem all_any (w : World) : Calls Try.prog 17 #[] w fun e w' => e = .returned (.int .i64 1048577) ∧ w = w' := by
  go_enter Try.func17, Try.ntmps17
  go_wp2
  go_ret
  exact ⟨rfl, rfl⟩
/-- a store into block g -/
theorem Chg.at_ {g : Nat} {w w' : World} (h : Chg (· = g) w w') (i : Nat) (v : Value) : Chg (· = g) w (w'.setCell ⟨g, i, none⟩ v) := Chg.setCell (S := (· = g)) (p := ⟨g, i, none⟩) h (.inl rfl) v
/-- a clock in memory -/
def Ck (w : World) (g : Nat) (F : Int) (k : Clk) : Prop := Blk w g 54 #[.int .i64 F, .int .i64 k.used, .int .i64 k.out]
theorem Blk.three_ {w : World} {g : Nat} {t : TypeId} {a b c : Value} (h : Blk w g t #[a, b, c]) : w.cell? ⟨g, 0, none⟩ = some a ∧ w.cell? ⟨g, 1, none⟩ = some b ∧ w.cell? ⟨g, 2, none⟩ = some c ∧ w.frozen? ⟨g, 0, none⟩ = false ∧ w.frozen? ⟨g, 1, none⟩ = false ∧ w.frozen? ⟨g, 2, none⟩ = false :=
  ⟨h.cell 0, h.cell 1, h.cell 2, h.frozen 0, h.frozen 1, h.frozen 2⟩
/-- what a step of the clock leaves -/
def Ticked (g : Nat) (F : Int) (k : Clk) (w w' : World) : Prop := Ck w' g F k ∧ Chg (· = g) w w'
set_option maxHeartbeats 1000000 in
theorem over_any (g : Nat) (F : Int) (k : Clk) (hr : Int) (w : World) (h : Ck w g F k) :
    Calls Try.prog 36 #[.pointer (some ⟨g, 0, none⟩), .int .i64 hr] w fun e w' => e = .returned (.bool (decide (F ≤ k.used))) ∧ Ticked g F (k.over F hr) w w' := by
  obtain ⟨c0, c1, c2, f0, f1, f2⟩ := h.three_
  obtain ⟨u, o⟩ := k
  simp only at c0 c1 c2
  have hb : Blk w g 54 #[.int .i64 F, .int .i64 u, .int .i64 o] := h
  by_cases hlt : u < F
  · have e1 : decide (F ≤ u) = false := by simp; omega
    have e2 : Clk.over F ⟨u, o⟩ hr = ⟨u, o⟩ := by unfold Clk.over; rw [if_pos hlt]
    rw [e1, e2]
    clear e1 e2 h
    have HBk := Lib.hid hb
    clear hb
    go_enter Try.func36, Try.ntmps36
    go_wp2
    go_quiet (fail)
    go_wp2
    go_ret
    exact ⟨rfl, HBk.out, (Chg.refl _ _).drewN _⟩
  · have hge : F ≤ u := by omega
    have e1 : decide (F ≤ u) = true := by simpa using hge
    by_cases ho : o < 0
    · have e2 : Clk.over F ⟨u, o⟩ hr = ⟨u, hr⟩ := by unfold Clk.over; rw [if_neg (by simpa using hge), if_pos ho]
      rw [e1, e2]
      clear e1 e2 h hlt
      have HBk := Lib.hid hb
      clear hb
      go_enter Try.func36, Try.ntmps36
      go_wp2
      go_quiet (fail)
      go_wp2
      go_ret
      exact ⟨rfl, (HBk.out.drewN _).set_ 2 (.int .i64 hr), ((Chg.refl _ _).drewN _).at_ 2 _⟩
    · have e2 : Clk.over F ⟨u, o⟩ hr = ⟨u, o⟩ := by unfold Clk.over; rw [if_neg (by simpa using hge), if_neg ho]
      have ho' : 0 ≤ o := by omega
      rw [e1, e2]
      clear e1 e2 h hlt ho
      have HBk := Lib.hid hb
      clear hb
      go_enter Try.func36, Try.ntmps36
      go_wp2
      go_quiet (fail)
      go_wp2
      go_ret
      exact ⟨rfl, HBk.out, (Chg.refl _ _).drewN _⟩
end Go.Proofs.Ytlmnbdepklcfpaa
