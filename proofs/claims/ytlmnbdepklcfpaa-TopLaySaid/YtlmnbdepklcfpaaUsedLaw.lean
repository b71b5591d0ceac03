/- LayUsed's walk. Condition: how the stretches lie. -/
import Derived.Test.YtlmnbdepklcfpaaRefU
import Derived.Deep.RegionHeld3
namespace Go.Proofs.Ytlmnbdepklcfpaa
open Go.RowKit
set_option linter.unusedVariables false
set_option linter.unusedSimpArgs false

def exL : List Str := [⟨0, 3, 2⟩, ⟨3, 6, 0⟩]
theorem ex_chk : (chk exL).2 = 0 := by decide
theorem ex_U : U 2 exL = 12 := by decide
theorem ex_out : (Clk.run (2 * 2) exL).out = 2 := by decide
theorem ex_may : mayB 2 0 0 = true := by decide
theorem ex_strs (w : World) (g : Nat) (hg : g = w.heap.size) : Strs (w.alloc (.cells #[.int .i64 0, .int .i64 3, .int .i64 2, .int .i64 3, .int .i64 6, .int .i64 0] 44)) (w.alloc (.cells #[.int .i64 0, .int .i64 3, .int .i64 2, .int .i64 3, .int .i64 6, .int .i64 0] 44)).heap.size (some ⟨g, 0, none⟩) 2 exL := by
  refine ⟨rfl, ?_⟩
  have := lit_readsN w #[.int .i64 0, .int .i64 3, .int .i64 2, .int .i64 3, .int .i64 6, .int .i64 0] 44 g 3 2 (flat exL) hg rfl rfl
  simpa using this
set_option maxRecDepth 100000 in
set_option maxHeartbeats 2000000 in
theorem awake_any (w : World) : Calls Try.prog 9 #[] w fun e w' => e = .returned (.bool true) ∧ Below w.heap.size w w' := by
  obtain ⟨w1, hw1⟩ : ∃ w1, w1 = ((w.alloc (.cells #[.int .i64 2, .int .i64 0, .int .i64 0] 23)).alloc (.cells #[.int .i64 0, .int .i64 3, .int .i64 2] 44)).alloc (.cells #[.int .i64 3, .int .i64 6, .int .i64 0] 44) := ⟨_, rfl⟩
  have b1 : Blk w1 w.heap.size 23 #[.int .i64 2, .int .i64 0, .int .i64 0] := by rw [hw1]; exact ((Blk.new w 23 _).alloc _).alloc _
  have b2 : Blk w1 (w.heap.size + 1) 44 #[.int .i64 0, .int .i64 3, .int .i64 2] := by rw [hw1]; have := Blk.new (w.alloc (.cells #[.int .i64 2, .int .i64 0, .int .i64 0] 23)) 44 #[.int .i64 0, .int .i64 3, .int .i64 2]; simp only [World.size_alloc] at this; exact this.alloc _
  have b3 : Blk w1 (w.heap.size + 1 + 1) 44 #[.int .i64 3, .int .i64 6, .int .i64 0] := by rw [hw1]; have := Blk.new ((w.alloc (.cells #[.int .i64 2, .int .i64 0, .int .i64 0] 23)).alloc (.cells #[.int .i64 0, .int .i64 3, .int .i64 2] 44)) 44 #[.int .i64 3, .int .i64 6, .int .i64 0]; simpa using this
  have hb : Below w.heap.size w w1 := by rw [hw1]; exact (((Below.refl _ _).alloc (Nat.le_refl _) _).alloc (by simp) _).alloc (by simp; omega) _
  have hsz : w1.heap.size = w.heap.size + 1 + 1 + 1 := by rw [hw1]; simp
  obtain ⟨p0, p1, p2, _, _, _⟩ := b1.three_
  obtain ⟨q0, q1, q2, _, _, _⟩ := b2.three_
  obtain ⟨r0, r1, r2, _, _, _⟩ := b3.three_
  have B1 := Lib.hid b1
  have B2 := Lib.hid b2
  have B3 := Lib.hid b3
  have HB := Lib.hid hb
  have HS := Lib.hid hsz
  have HW := Lib.hid hw1
  clear b1 b2 b3 hb hsz hw1
  go_enter Try.func9, Try.ntmps9
  go_wp2_with fail
  rw [← HW.out, ← HS.out]
  refine (used_ok 2 0 0 _ 2 2 exL _ (ex_strs w1 w1.heap.size rfl) (by unfold maxLen; omega) ex_may ex_chk).mono ?_
  rintro e w2 ⟨rfl, hb2⟩
  rw [ex_U]
  have hb12 : Below w1.heap.size w1 w2 := below_trans ((Below.refl _ _).alloc (Nat.le_refl _) _) hb2
  obtain ⟨p0', p1', p2', _, _, _⟩ := (B1.out.below hb12 B1.out.lt).three_
  obtain ⟨q0', q1', q2', _, _, _⟩ := (B2.out.below hb12 B2.out.lt).three_
  obtain ⟨r0', r1', r2', _, _, _⟩ := (B3.out.below hb12 B3.out.lt).three_
  have HB2 := Lib.hid (below_trans HB.out hb12)
  clear hb2 hb12 HW p0 p1 p2 q0 q1 q2 r0 r1 r2
  go_wp2_with fail
  refine (expires_any 2 0 0 _ 2 2 exL _ (ex_strs w2 w2.heap.size rfl) (by unfold maxLen; omega) ex_may ex_chk (by omega)).mono ?_
  rintro e w3 ⟨rfl, hb3⟩
  rw [ex_out, if_neg (by omega)]
  have HB3 := Lib.hid (below_trans (below_trans HB2.out ((Below.refl _ _).alloc (Nat.le_refl _) _)) hb3)
  clear hb3
  go_wp2_with fail
  go_ret
  exact ⟨rfl, HB3.out⟩
theorem V_all {a : Int} {l : List Str} (hr : (chk l).2 = 0) : V a l 1048577 = U a l := by
  have hok := (chain_get l _ (chk_chain hr).1).1
  have : hoursTo 1048577 l = hours l := by
    have hall : ∀ s ∈ l, s.t ≤ 1048576 := fun s hs => by
      obtain ⟨i, hi⟩ := List.mem_iff_getElem?.1 hs
      have := hok i s hi
      unfold Str.ok at this
      omega
    clear hr hok
    induction l with
    | nil => rfl
    | cons s l ih =>
      have h1 := hall s (by simp)
      have e1 : hoursTo 1048577 (s :: l) = List.replicate (min s.t 1048577 - s.f).toNat s.h ++ hoursTo 1048577 l := by simp [hoursTo]
      have e2 : hours (s :: l) = hrs s ++ hours l := by simp [hours]
      rw [e1, e2, ih fun x hx => hall x (by simp [hx]), hrs, show min s.t 1048577 = s.t by omega]
  unfold V U
  rw [this]
/-- the law's memory, and its box with the lay -/
def Kp (w : World) (a b c : Int) (v : World) : Prop := Below w.heap.size w v ∧ Blk v w.heap.size 23 #[.int .i64 a, .int .i64 b, .int .i64 c]
theorem Kp.step {w v v' : World} {a b c : Int} (h : Kp w a b c v) (hb : Below v.heap.size v v') : Kp w a b c v' := ⟨below_trans h.1 hb, h.2.below hb h.2.lt⟩
theorem Kp.drew {w v : World} {a b c : Int} (h : Kp w a b c v) : Kp w a b c v.drew := ⟨h.1.drew, h.2⟩
theorem Kp.drewN {w v : World} {a b c : Int} (h : Kp w a b c v) (n : Nat) : Kp w a b c (v.drewN n) := ⟨below_drewN' h.1 n, h.2⟩
theorem Kp.three {w v : World} {a b c : Int} (h : Kp w a b c v) : v.cell? ⟨w.heap.size, 0, none⟩ = some (.int .i64 a) ∧ v.cell? ⟨w.heap.size, 1, none⟩ = some (.int .i64 b) ∧ v.cell? ⟨w.heap.size, 2, none⟩ = some (.int .i64 c) := by
  obtain ⟨h1, h2, h3, _, _, _⟩ := h.2.three_
  exact ⟨h1, h2, h3⟩
theorem Kp.new (w : World) (a b c : Int) : Kp w a b c (w.alloc (.cells #[.int .i64 a, .int .i64 b, .int .i64 c] 23)) := ⟨(Below.refl _ _).alloc (Nat.le_refl _) _, Blk.new w 23 _⟩
theorem Kp.strs {w v : World} {a b c : Int} (h : Kp w a b c v) {A : Option Addr} {n : Nat} {l : List Str} (hs : Strs w w.heap.size A n l) : Strs v v.heap.size A n l := hs.up h.1
set_option maxRecDepth 100000 in
set_option maxHeartbeats 4000000 in
theorem usedLaw_any (a b c : Int) (A : Option Addr) (n k : Nat) (l : List Str) (w : World) (h : Strs w w.heap.size A n l) (hn : n ≤ maxLen) :
    Calls Try.prog 3 #[layV a b c, .slice A n k] w fun e w' => e = .returned (.bool true) ∧ Below w.heap.size w w' := by
  have K0 := Lib.hid (Kp.new w a b c)
  have H := Lib.hid h
  clear h
  unfold layV
  go_enter Try.func3, Try.ntmps3
  go_wp2_with fail
  refine (awake_any _).mono ?_
  rintro e w1 ⟨rfl, hb⟩
  have K1 := Lib.hid (K0.out.step hb)
  clear hb K0
  by_cases h60 : 60 < n
  · have q : (60 : Int) < n := by omega
    go_wp2_with fail
    go_ret
    exact ⟨rfl, K1.out.1⟩
  have q : (n : Int) ≤ 60 := by omega
  clear h60
  go_wp2_with fail
  refine (long_any A n k l w1 (K1.out.strs H.out) hn 2000).mono ?_
  rintro e w2 ⟨lg, rfl, hb⟩
  have K2 := Lib.hid (K1.out.step hb)
  clear hb K1
  cases lg
  case true =>
    go_wp2_with fail
    go_ret
    exact ⟨rfl, K2.out.1⟩
  go_wp2_with fail
  refine (check_any A n k l w2 (K2.out.strs H.out) hn).mono ?_
  rintro e w3 ⟨rfl, hb⟩
  have K3 := Lib.hid (K2.out.step hb)
  clear hb K2
  unfold chkV
  go_wp2_with fail
  refine (rcheck_any A n k l w3 (K3.out.strs H.out) hn).mono ?_
  rintro e w4 ⟨rfl, hb⟩
  have K4 := Lib.hid (K3.out.step hb)
  obtain ⟨p0, p1, p2⟩ := K4.out.three
  clear hb K3
  unfold chkV
  have e1 : (((chk l).1 : Int) != ((chk l).1 : Int)) = false := by simp
  have e2 : ((chk l).2 != (chk l).2) = false := by simp
  have e3 : ((chk l).2 == (chk l).2) = true := by simp
  have eM : (mayB a b c != mayB a b c) = false := by simp
  by_cases hm : mayB a b c = true
  · by_cases hr : (chk l).2 = 0
    · have HM := Lib.hid hm
      have HR := Lib.hid hr
      have e4 : (U a l == U a l) = true := by simp
      generalize hc1 : (chk l).1 = c1 at *
      have HC1 := Lib.hid hc1
      rw [HR.out]
      clear hm hr hc1 e2 e3
      go_wp2_with fail
      refine (used_ok a b c A n k l w4 (K4.out.strs H.out) hn HM.out HR.out).mono ?_
      rintro e w5 ⟨rfl, hb⟩
      have K5 := Lib.hid (K4.out.step hb)
      have K5d := Lib.hid (K4.out.step hb).drew
      obtain ⟨q0, q1, q2⟩ := K5.out.three
      clear hb K4 p0 p1 p2
      go_wp2_with fail
      go_region_held3 (fun v => v.cell? ⟨w.heap.size, 0, none⟩ = some (.int .i64 a) ∧ v.cell? ⟨w.heap.size, 1, none⟩ = some (.int .i64 b) ∧ v.cell? ⟨w.heap.size, 2, none⟩ = some (.int .i64 c)) (go_keep) (first | (go_at_call 14; refine (may_any a b c _).mono ?_; rintro e v14 ⟨rfl, hb14⟩; have K14 := Lib.hid (K15.out.step hb14); obtain ⟨r0, r1, r2⟩ := K14.out.three; clear hb14) | (go_at_call 14; refine (may_any a b c _).mono ?_; rintro e v14 ⟨rfl, hb14⟩; have K14 := Lib.hid (K5d.out.step hb14); obtain ⟨r0, r1, r2⟩ := K14.out.three; clear hb14) | (go_at_call 15; refine (rmay_any a b c _).mono ?_; rintro e v15 ⟨rfl, hb15⟩; have K15 := Lib.hid (K14.out.step hb15); obtain ⟨t0, t1, t2⟩ := K15.out.three; clear hb15) | (go_at_call 15; refine (rmay_any a b c _).mono ?_; rintro e v15 ⟨rfl, hb15⟩; have K15 := Lib.hid (K5d.out.step hb15); obtain ⟨t0, t1, t2⟩ := K15.out.three; clear hb15))
      all_goals
        go_wp2_with fail
        refine (rmay_any a b c _).mono ?_
        rintro e w6 ⟨rfl, hb⟩
        rw [HM.out]
        have K6 := Lib.hid (K15.out.step hb)
        clear hb
        obtain ⟨s0, s1, s2⟩ := K6.out.three
        have K6d := Lib.hid K6.out.drew
        go_wp2_with fail
        go_region_held3 (fun v => v.cell? ⟨w.heap.size, 0, none⟩ = some (.int .i64 a) ∧ v.cell? ⟨w.heap.size, 1, none⟩ = some (.int .i64 b) ∧ v.cell? ⟨w.heap.size, 2, none⟩ = some (.int .i64 c)) (go_keep) (first | (go_at_call 17; refine (all_any _).mono ?_; rintro e v17 ⟨rfl, rfl⟩) | (go_at_call 16; refine (rused_any a b c A n k l 1048577 _ (K6d.out.strs H.out) hn HM.out HR.out).mono ?_; rintro e v16 ⟨rfl, hb16⟩; rw [V_all HR.out]; have K7 := Lib.hid (K6d.out.step hb16); obtain ⟨x0, x1, x2⟩ := K7.out.three; clear hb16))
        all_goals
          go_wp2_with fail
          go_ret
          exact ⟨rfl, K7.out.1⟩
    · have HM := Lib.hid hm
      have HBad : Hid (badC a b c l = (chk l).2) := by show badC a b c l = _; unfold badC; rw [if_pos hm]
      have HNZ := Lib.hid hr
      have e5 : ((chk l).2 != 0) = true := by simpa using hr
      generalize hc1 : (chk l).1 = c1 at *
      generalize hc2 : (chk l).2 = c2 at *
      clear hm hr hc1 hc2
      go_wp2_with fail
      refine (used_bad a b c A n k l w4 (K4.out.strs H.out) hn (by rw [HBad.out]; exact HNZ.out)).mono ?_
      rw [HBad.out]
      rintro e w5 ⟨rfl, hb⟩
      have K5 := Lib.hid (K4.out.step hb)
      have K5d := Lib.hid (K4.out.step hb).drew
      obtain ⟨q0, q1, q2⟩ := K5.out.three
      clear hb K4 p0 p1 p2
      go_wp2_with fail
      go_region_held3 (fun v => v.cell? ⟨w.heap.size, 0, none⟩ = some (.int .i64 a) ∧ v.cell? ⟨w.heap.size, 1, none⟩ = some (.int .i64 b) ∧ v.cell? ⟨w.heap.size, 2, none⟩ = some (.int .i64 c)) (go_keep) (first | (go_at_call 14; refine (may_any a b c _).mono ?_; rintro e v14 ⟨rfl, hb14⟩; have K14 := Lib.hid (K15.out.step hb14); obtain ⟨r0, r1, r2⟩ := K14.out.three; clear hb14) | (go_at_call 14; refine (may_any a b c _).mono ?_; rintro e v14 ⟨rfl, hb14⟩; have K14 := Lib.hid (K5d.out.step hb14); obtain ⟨r0, r1, r2⟩ := K14.out.three; clear hb14) | (go_at_call 15; refine (rmay_any a b c _).mono ?_; rintro e v15 ⟨rfl, hb15⟩; have K15 := Lib.hid (K14.out.step hb15); obtain ⟨t0, t1, t2⟩ := K15.out.three; clear hb15) | (go_at_call 15; refine (rmay_any a b c _).mono ?_; rintro e v15 ⟨rfl, hb15⟩; have K15 := Lib.hid (K5d.out.step hb15); obtain ⟨t0, t1, t2⟩ := K15.out.three; clear hb15))
      all_goals
        go_wp2_with fail
        refine (rmay_any a b c _).mono ?_
        rintro e w6 ⟨rfl, hb⟩
        rw [HM.out]
        have K6 := Lib.hid (K15.out.step hb)
        clear hb
        go_wp2_with fail
        go_ret
        exact ⟨rfl, K6.out.1⟩
  · have HM : Hid (mayB a b c = false) := by show mayB a b c = false; simpa using hm
    have HBad : Hid (badC a b c l = 1) := by show badC a b c l = _; unfold badC; rw [if_neg hm]
    have HNZ : Hid ((1 : Int) ≠ 0) := by show (1 : Int) ≠ 0; omega
    generalize hc1 : (chk l).1 = c1 at *
    generalize hc2 : (chk l).2 = c2 at *
    clear hm hc1 hc2
    go_wp2_with fail
    refine (used_bad a b c A n k l w4 (K4.out.strs H.out) hn (by rw [HBad.out]; exact HNZ.out)).mono ?_
    rw [HBad.out]
    rintro e w5 ⟨rfl, hb⟩
    have K5 := Lib.hid (K4.out.step hb)
    have K5d := Lib.hid (K4.out.step hb).drew
    obtain ⟨q0, q1, q2⟩ := K5.out.three
    clear hb K4 p0 p1 p2
    go_wp2_with fail
    go_region_held3 (fun v => v.cell? ⟨w.heap.size, 0, none⟩ = some (.int .i64 a) ∧ v.cell? ⟨w.heap.size, 1, none⟩ = some (.int .i64 b) ∧ v.cell? ⟨w.heap.size, 2, none⟩ = some (.int .i64 c)) (go_keep) (first | (go_at_call 14; refine (may_any a b c _).mono ?_; rintro e v14 ⟨rfl, hb14⟩; have K14 := Lib.hid (K15.out.step hb14); obtain ⟨r0, r1, r2⟩ := K14.out.three; clear hb14) | (go_at_call 14; refine (may_any a b c _).mono ?_; rintro e v14 ⟨rfl, hb14⟩; have K14 := Lib.hid (K5d.out.step hb14); obtain ⟨r0, r1, r2⟩ := K14.out.three; clear hb14) | (go_at_call 15; refine (rmay_any a b c _).mono ?_; rintro e v15 ⟨rfl, hb15⟩; have K15 := Lib.hid (K14.out.step hb15); obtain ⟨t0, t1, t2⟩ := K15.out.three; clear hb15) | (go_at_call 15; refine (rmay_any a b c _).mono ?_; rintro e v15 ⟨rfl, hb15⟩; have K15 := Lib.hid (K5d.out.step hb15); obtain ⟨t0, t1, t2⟩ := K15.out.three; clear hb15))
    all_goals
      go_wp2_with fail
      refine (rmay_any a b c _).mono ?_
      rintro e w6 ⟨rfl, hb⟩
      rw [HM.out]
      have K6 := Lib.hid (K15.out.step hb)
      clear hb
      go_wp2_with fail
      go_ret
      exact ⟨rfl, K6.out.1⟩
end Go.Proofs.Ytlmnbdepklcfpaa
