/- The chapter's example. No condition. -/
import Derived.Test.YtlmlepdmgopojaaDo
namespace Go.Proofs.Ytlmlepdmgopojaa
open Go.RowKit
set_option linter.unusedVariables false
set_option linter.unusedSimpArgs false
/-- a surety of the call's own, whose call began in the world w0 -/
def Mine (w0 w : World) (g : Nat) (s : Sur) : Prop := ∃ O, At O w g s ∧ (∀ k, O k → w0.heap.size ≤ k) ∧ Below w0.heap.size w0 w
section
variable {w0 w w' : World} {g : Nat} {s : Sur}
theorem Mine.frame (h : Mine w0 w g s) : Below w0.heap.size w0 w := by obtain ⟨_, _, _, h⟩ := h; exact h
theorem Mine.below (h : Mine w0 w g s) (hb : Below w.heap.size w w') : Mine w0 w' g s := by
  obtain ⟨O, h1, h2, h3⟩ := h
  exact ⟨O, h1.below hb, h2, below_trans h3 hb⟩
theorem Mine.sa (h : Mine w0 w g s) : ∃ C c D d, SA w g s C c D d := by
  obtain ⟨O, ⟨C, c, D, d, h, _⟩, _⟩ := h
  exact ⟨C, c, D, d, h⟩
theorem Mine.next {O : Nat → Prop} (hO : ∀ k, O k → w0.heap.size ≤ k) (hb : Below w0.heap.size w0 w) {s' : Sur} (h : ∃ O', At O' w' g s' ∧ Chg O w w' ∧ ∀ k, O' k → O k ∨ w.heap.size ≤ k) : Mine w0 w' g s' := by
  obtain ⟨O', q1, q2, q3⟩ := h
  refine ⟨O', q1, fun k hk => ?_, hb.trans (q2.below hb.size hO)⟩
  rcases q3 k hk with h | h
  · exact hO k h
  · exact Nat.le_trans hb.size h
theorem Mine.start (hb : Below w0.heap.size w0 w) (h : SA w g s none 0 none 0) (hg : w0.heap.size ≤ g) : Mine w0 w g s :=
  ⟨fun k => k = g, ⟨none, 0, none, 0, h, rfl, (fun k hk => by obtain ⟨a, h, _⟩ := hk; cases h), (fun k hk => by obtain ⟨a, h, _⟩ := hk; cases h)⟩, fun k hk => by rw [hk]; exact hg, hb⟩
end
section
variable {w0 w : World} {g : Nat} {s : Sur} (h : Mine w0 w g s) {K : Nat} (ok : s.ok K) (hK : K < 4096)
include h ok hK
theorem left_m (day : Int) : Calls Try.prog 12 #[.pointer (some ⟨g, 0, none⟩), .int .i64 day] w fun e w' => e = .returned (.int .i64 (s.left day)) ∧ Mine w0 w' g s := by
  obtain ⟨C, c, D, d, sa⟩ := h.sa
  exact (left_any s g c d C D w sa ok (by omega) day).mono fun e w' q => ⟨q.1, h.below q.2⟩
theorem expired_m (day : Int) : Calls Try.prog 17 #[.pointer (some ⟨g, 0, none⟩), .int .i64 day] w fun e w' => e = .returned (.bool (s.expired day)) ∧ Mine w0 w' g s := by
  obtain ⟨C, c, D, d, sa⟩ := h.sa
  exact (expired_any s g c d C D w sa ok (by omega) day).mono fun e w' q => ⟨q.1, h.below q.2⟩
theorem demands_m : Calls Try.prog 11 #[.pointer (some ⟨g, 0, none⟩)] w fun e w' => (∃ A c', e = .returned (.slice A s.dem.length c') ∧ CutR w' A (drawn s.dem)) ∧ Mine w0 w' g s := by
  obtain ⟨C, c, D, d, sa⟩ := h.sa
  exact (demands_any s g c d C D w sa ok (by omega)).mono fun e w' ⟨A, c', q1, q2, q3⟩ => ⟨⟨A, c', q1, q3⟩, h.below q2⟩
theorem demand_m (by_ : ByteArray) (sum day : Int) : Calls Try.prog 14 #[.pointer (some ⟨g, 0, none⟩), .string by_, .int .i64 sum, .int .i64 day] w fun e w' =>
    e = .returned (.tuple #[.int .i64 (s.demand by_ sum day).2.1, .int .i64 (s.demand by_ sum day).2.2]) ∧ Mine w0 w' g (s.demand by_ sum day).1 := by
  obtain ⟨O, h1, h2, h3⟩ := h
  exact (demand_any s g w O h1 ok hK by_ sum day).mono fun e w' q => ⟨q.1, Mine.next h2 h3 q.2⟩
theorem reduce_m (sum day : Int) : Calls Try.prog 22 #[.pointer (some ⟨g, 0, none⟩), .int .i64 sum, .int .i64 day] w fun e w' =>
    e = .returned (.int .i64 (s.reduce sum day).2) ∧ Mine w0 w' g (s.reduce sum day).1 := by
  obtain ⟨O, h1, h2, h3⟩ := h
  exact (reduce_any s g w O h1 ok hK sum day).mono fun e w' q => ⟨q.1, Mine.next h2 h3 q.2⟩
theorem extend_m (n day : Int) : Calls Try.prog 15 #[.pointer (some ⟨g, 0, none⟩), .int .i64 n, .int .i64 day] w fun e w' =>
    e = .returned (.int .i64 (s.extend n day).2) ∧ Mine w0 w' g (s.extend n day).1 := by
  obtain ⟨O, h1, h2, h3⟩ := h
  exact (extend_any s g w O h1 ok (by omega) n day).mono fun e w' q => ⟨q.1, Mine.next h2 h3 ⟨O, q.2.1, q.2.2, fun k hk => .inl hk⟩⟩
theorem pay_m (n : Int) : Calls Try.prog 16 #[.pointer (some ⟨g, 0, none⟩), .int .i64 n] w fun e w' =>
    e = .returned (.tuple #[.int .i64 (s.pay n).2.1, .int .i64 (s.pay n).2.2]) ∧ Mine w0 w' g (s.pay n).1 := by
  obtain ⟨O, h1, h2, h3⟩ := h
  exact (pay_any s g w O h1 ok (by omega) n).mono fun e w' q => ⟨q.1, Mine.next h2 h3 ⟨O, q.2.1, q.2.2, fun k hk => .inl hk⟩⟩
theorem do_m (a : Act') (wf : a.wf) : Calls Try.prog 13 #[.pointer (some ⟨g, 0, none⟩), actV a] w fun e w' =>
    e = .returned (.tuple #[.int .i64 (s.act a).2.1, .int .i64 (s.act a).2.2]) ∧ Mine w0 w' g (s.act a).1 := by
  obtain ⟨O, h1, h2, h3⟩ := h
  exact (do_any s g w O h1 ok hK a wf).mono fun e w' q => ⟨q.1, Mine.next h2 h3 q.2⟩
end
/-- the surety that a bond begins -/
def sur0 (b : Bnd) : Sur := ⟨b, b.exp, [], []⟩
theorem sur0_ok {b : Bnd} (h : mayS b = true) : (sur0 b).ok 0 := by
  obtain ⟨_, _, _, _, _, _, _, _, h1, h2⟩ := mayS_all.1 h
  exact ⟨h1, h2, Nat.le_refl _, Nat.le_refl _, (fun d hd => by cases hd), (fun d hd => by cases hd), by show (0 : Int) ≤ b.amt; omega⟩
theorem new_m (b : Bnd) (hb : b.wf) (w : World) : Calls Try.prog 9 #[bndV b] w fun e w' =>
    (mayS b = true ∧ ∃ g, e = .returned (.tuple #[.pointer (some ⟨g, 0, none⟩), .int .i64 0]) ∧ Mine w w' g (sur0 b)) ∨ (mayS b = false ∧ e = .returned (.tuple #[.pointer none, .int .i64 1]) ∧ Below w.heap.size w w') :=
  (new_any b hb w).mono fun e w' q => by
    obtain ⟨hb, ⟨hm, g, he, sa, hg⟩ | ⟨hm, he⟩⟩ := q
    · exact .inl ⟨hm, g, he, Mine.start hb sa hg⟩
    · exact .inr ⟨hm, he, hb⟩
def exB : Bnd := ⟨⟨#[110]⟩, ⟨#[103]⟩, ⟨#[102]⟩, ⟨#[98]⟩, ⟨#[69, 85, 82]⟩, 100, 9⟩
theorem eqS_data (a b : ByteArray) : eqS a b = (a.data.toList == b.data.toList) := by unfold eqS; rw [ByteArray.toList_eq, ByteArray.toList_eq]
theorem exB_may : mayS exB = true := mayS_all.2 ⟨by decide, by decide, by decide, by decide, by rw [eqS_data]; decide, by rw [eqS_data]; decide, by rw [eqS_data]; decide, by decide, by decide, by decide⟩
theorem exB_wf : exB.wf := ⟨by decide, by decide, by decide, by decide, by decide⟩
def ex1 : Sur := ⟨exB, 9, [⟨5, 30⟩], []⟩
def ex2 : Sur := ⟨exB, 9, [⟨5, 30⟩], [⟨4, 80, 0⟩]⟩
def ex3 : Sur := ⟨exB, 20, [⟨5, 30⟩], [⟨4, 80, 2⟩]⟩
theorem ex_12 : (sur0 exB).reduce 30 5 = (ex1, 0) := rfl
theorem ex_23 : ex1.demand ⟨#[98]⟩ 80 4 = (ex2, 0, 0) := by
  have h : eqS ⟨#[98]⟩ ex1.b.to_ = true := by rw [eqS_data]; decide
  unfold Sur.demand
  rw [h]
  rfl
theorem ex_34 : ex2.extend 0 20 = (ex3, 0) := rfl
theorem ex_facts : ex1.left 4 = 100 ∧ ex1.left 5 = 70 ∧ ex2.left 5 = 0 ∧ ex3.left 5 = 70 ∧ ex3.expired 10 = false := by decide
theorem ex1_ok : ex1.ok 1 := by have := (sur0_ok exB_may).reduce 30 5; rwa [ex_12] at this
theorem ex2_ok : ex2.ok 2 := by have := ex1_ok.demand ⟨#[98]⟩ 80 4; rwa [ex_23] at this
theorem ex3_ok : ex3.ok 2 := by have := ex2_ok.extend 0 20; rwa [ex_34] at this
set_option maxRecDepth 100000 in
set_option maxHeartbeats 2000000 in
theorem bond_any (w : World) : Calls Try.prog 21 #[] w fun e w' => e = .returned (bndV exB) ∧ Below w.heap.size w w' := by
  unfold bndV Bnd.cells exB
  go_enter Try.func21, Try.ntmps21
  go_wp2
  refine bodyPost_ret (v := .agg #[.string ⟨#[110]⟩, .string ⟨#[103]⟩, .string ⟨#[102]⟩, .string ⟨#[98]⟩, .string ⟨#[69, 85, 82]⟩, .int .i64 100, .int .i64 9]) (by simp [results, Try.results21, go_sem]) rfl ?_
  exact ⟨rfl, (Below.refl _ _).alloc (Nat.le_refl _) _⟩
set_option maxRecDepth 100000 in
set_option maxHeartbeats 8000000 in
theorem awake_any (w : World) : Calls Try.prog 7 #[] w fun e w' => e = .returned (.bool true) ∧ Below w.heap.size w w' := by
  obtain ⟨f2, f3, f5, f7, f8⟩ := ex_facts
  have F2 := Lib.hid f2
  have F3 := Lib.hid f3
  have F5 := Lib.hid f5
  have F7 := Lib.hid f7
  have F8 := Lib.hid f8
  clear f2 f3 f5 f7 f8
  go_enter Try.func7, Try.ntmps7
  go_wp2_with fail
  refine (bond_any _).mono ?_
  rintro e w1 ⟨rfl, hb⟩
  have HB := Lib.hid hb
  clear hb
  go_wp2_with fail
  refine (new_m exB exB_wf w1).mono ?_
  rintro e w2 (⟨_, g, rfl, hm⟩ | ⟨hm, _⟩)
  rotate_left
  · rw [exB_may] at hm
    cases hm
  have M2 := Lib.hid hm
  clear hm
  go_wp2_with fail
  refine (reduce_m M2.out (sur0_ok exB_may) (by omega) 30 5).mono ?_
  rintro e w3 ⟨rfl, hm⟩
  rw [ex_12] at hm ⊢
  have M3 := Lib.hid hm
  clear hm
  go_wp2_with fail
  refine (left_m M3.out ex1_ok (by omega) 4).mono ?_
  rintro e w4 ⟨rfl, hm⟩
  rw [F2.out]
  have M4 := Lib.hid hm
  clear hm
  go_wp2_with fail
  refine (left_m M4.out ex1_ok (by omega) 5).mono ?_
  rintro e w5 ⟨rfl, hm⟩
  rw [F3.out]
  have M5 := Lib.hid hm
  clear hm
  go_wp2_with fail
  refine (demand_m M5.out ex1_ok (by omega) ⟨#[98]⟩ 80 4).mono ?_
  rintro e w6 ⟨rfl, hm⟩
  rw [ex_23] at hm ⊢
  have M6 := Lib.hid hm
  clear hm
  go_wp2_with fail
  refine (left_m M6.out ex2_ok (by omega) 5).mono ?_
  rintro e w7 ⟨rfl, hm⟩
  rw [F5.out]
  have M7 := Lib.hid hm
  clear hm
  go_wp2_with fail
  refine (extend_m M7.out ex2_ok (by omega) 0 20).mono ?_
  rintro e w8 ⟨rfl, hm⟩
  rw [ex_34] at hm ⊢
  have M8 := Lib.hid hm
  clear hm
  go_wp2_with fail
  refine (left_m M8.out ex3_ok (by omega) 5).mono ?_
  rintro e w9 ⟨rfl, hm⟩
  rw [F7.out]
  have M9 := Lib.hid hm
  clear hm
  go_wp2_with fail
  refine (expired_m M9.out ex3_ok (by omega) 10).mono ?_
  rintro e w10 ⟨rfl, hm⟩
  rw [F8.out]
  have M10 := Lib.hid hm
  clear hm
  go_wp2_with fail
  go_ret
  exact ⟨rfl, below_trans HB.out M10.out.frame⟩
end Go.Proofs.Ytlmlepdmgopojaa
