/- The walk of the clock's take. Condition: how the clock lies; a right stretch; bounds. -/
import Derived.Test.YtlmnbdepklcfpaaLong
namespace Go.Proofs.Ytlmnbdepklcfpaa
open Go.RowKit
set_option linter.unusedVariables false
set_option linter.unusedSimpArgs false

theorem Ck.three_ {w : World} {g : Nat} {F : Int} {k : Clk} (h : Ck w g F k) : w.cell? ⟨g, 0, none⟩ = some (.int .i64 F) ∧ w.cell? ⟨g, 1, none⟩ = some (.int .i64 k.used) ∧ w.cell? ⟨g, 2, none⟩ = some (.int .i64 k.out) ∧ w.frozen? ⟨g, 0, none⟩ = false ∧ w.frozen? ⟨g, 1, none⟩ = false ∧ w.frozen? ⟨g, 2, none⟩ = false := Blk.three_ h
theorem over_less {F u o hr : Int} (h : u < F) : Clk.over F ⟨u, o⟩ hr = ⟨u, o⟩ := by unfold Clk.over; rw [if_pos h]
theorem dec_less {F u : Int} (h : u < F) : decide (F ≤ u) = false := by simp; omega
theorem dec_more {F u : Int} (h : F ≤ u) : decide (F ≤ u) = true := by simpa using h
theorem take_less {F u o : Int} {s : Str} {j : Int} (hu : u < F) (hj : freeH F u s = j) (hm : u + j * s.h < F) : Clk.take F ⟨u, o⟩ s = ⟨u + j * s.h, o⟩ := by
  have hf : Clk.free F ⟨u, o⟩ s = j := by unfold Clk.free; rw [if_pos hu, hj]
  have hmid : Clk.mid F ⟨u, o⟩ s = ⟨u + j * s.h, o⟩ := by unfold Clk.mid; rw [hf, over_less hu]
  unfold Clk.take
  rw [hmid, hf, over_less hm]
  simp only
  rw [if_pos hm]
theorem take_more {F u o : Int} {s : Str} {j : Int} (hu : u < F) (hj : freeH F u s = j) (hm : F ≤ u + j * s.h) : Clk.take F ⟨u, o⟩ s = ⟨u + j * s.h + 2 * (s.t - s.f - j), (Clk.over F ⟨u + j * s.h, o⟩ (s.f + j)).out⟩ := by
  have hf : Clk.free F ⟨u, o⟩ s = j := by unfold Clk.free; rw [if_pos hu, hj]
  have hmid : Clk.mid F ⟨u, o⟩ s = ⟨u + j * s.h, o⟩ := by unfold Clk.mid; rw [hf, over_less hu]
  unfold Clk.take
  rw [hmid, hf]
  simp only
  rw [if_neg (by omega)]
theorem Ck.used_ {w : World} {g : Nat} {F : Int} {k : Clk} (h : Ck w g F k) (u : Int) (m : Nat) : Ck ((w.drewN m).setCell ⟨g, 1, none⟩ (.int .i64 u)) g F ⟨u, k.out⟩ := (h.drewN m).set_ 1 (.int .i64 u)
theorem Ck.used0_ {w : World} {g : Nat} {F : Int} {k : Clk} (h : Ck w g F k) (u : Int) : Ck (w.setCell ⟨g, 1, none⟩ (.int .i64 u)) g F ⟨u, k.out⟩ := Blk.set_ h 1 (.int .i64 u)
theorem chg_new {g : Nat} {w w1 : World} {o : Obj} (h : Chg (· = g) (w.alloc o) w1) : Chg (· = g) w w1 := ((Chg.refl _ w).alloc o).trans h
theorem ck_eq {w : World} {g : Nat} {F u u' o : Int} (h : Ck w g F ⟨u, o⟩) (e : u = u') : Ck w g F ⟨u', o⟩ := e ▸ h
theorem Ck.stored {w : World} {g : Nat} {F o u2 u3 hr hr2 x x2 : Int} (h : Ck w g F (Clk.over F ⟨x, o⟩ hr)) (e : u2 = u3) (e2 : x = x2 ∧ hr = hr2) : Ck (w.setCell ⟨g, 1, none⟩ (.int .i64 u2)) g F ⟨u3, (Clk.over F ⟨x2, o⟩ hr2).out⟩ := by
  obtain ⟨rfl, rfl⟩ := e2
  subst e
  exact Blk.set_ h 1 (.int .i64 u2)
set_option maxRecDepth 100000 in
set_option maxHeartbeats 4000000 in
theorem take_h1 (g : Nat) (F u o f t : Int) (w : World) (h : Ck w g F ⟨u, o⟩) (hF : 0 ≤ F) (hF2 : F ≤ 4194304) (hu : 0 ≤ u) (hu2 : u ≤ 4194304) (hn : u < F) (h0 : 0 ≤ f) (h1 : f < t) (h2 : t ≤ 1048576) :
    Calls Try.prog 33 #[.pointer (some ⟨g, 0, none⟩), .agg #[.int .i64 f, .int .i64 t, .int .i64 1]] w fun e w' => e = .returned (.tuple #[]) ∧ Ticked g F (Clk.take F ⟨u, o⟩ ⟨f, t, 1⟩) w w' := by
  have hg := h.lt
  have hck : Ck (w.alloc (.cells #[.int .i64 f, .int .i64 t, .int .i64 1] 44)) g F ⟨u, o⟩ := h.alloc _
  have HC := Lib.hid hck
  have HU := Lib.hid (over_less (o := o) (hr := f) hn)
  have HD := Lib.hid (dec_less hn)
  have hfr : freeH F u ⟨f, t, 1⟩ = min (t - f) ((F - u + 1 - 1) / 1) := by unfold freeH; simp
  clear h hck
  by_cases hj : t - f ≤ (F - u + 1 - 1) / 1
  · have hfj : freeH F u ⟨f, t, 1⟩ = t - f := by rw [hfr]; omega
    clear hfr
    by_cases hm : u + (t - f) * 1 < F
    · have HX := Lib.hid (take_less (o := o) (s := ⟨f, t, 1⟩) hn hfj hm)
      clear hfj
      simp only at HX
      go_enter Try.func33, Try.ntmps33
      go_wp2_with fail
      refine (over_any g F ⟨u, o⟩ f _ HC.out).mono ?_
      rintro e w1 ⟨rfl, hT, hCh⟩
      rw [HU.out] at hT
      simp only
      rw [HD.out]
      obtain ⟨c0, c1, c2, f0, f1, f2⟩ := hT.three_
      have HT := Lib.hid hT
      have HCh := Lib.hid hCh
      obtain ⟨b0, b1, b2, _, _, _⟩ := (HCh.out.blk (Blk.new w 44 #[.int .i64 f, .int .i64 t, .int .i64 1]) (by omega)).three_
      clear hT hCh
      simp only at c1
      go_wp2_with fail
      go_quiet (fail)
      go_wp2_with fail
      go_region
      all_goals
        go_wp2_with fail
        refine (over_any g F ⟨_, o⟩ _ _ (by exact HT.out.used_ _ _)).mono ?_
        rintro e w2 ⟨rfl, hT2, hCh2⟩
        rw [over_less (by omega)] at hT2
        simp only
        rw [dec_less (by omega)]
        have HT2 := Lib.hid hT2
        have HCh2 := Lib.hid hCh2
        clear hT2 hCh2 c0 c1 c2 f0 f1 f2
        go_wp2_with fail
        go_end0
        refine ⟨rfl, ?_, (((chg_new HCh.out).drewN _).at_ 1 _).trans HCh2.out⟩
        rw [HX.out]
        exact ck_eq HT2.out (by omega)
    · have hm' : F ≤ u + (t - f) * 1 := by omega
      have HX := Lib.hid (take_more (o := o) (s := ⟨f, t, 1⟩) hn hfj hm')
      clear hfj hm
      simp only at HX
      go_enter Try.func33, Try.ntmps33
      go_wp2_with fail
      refine (over_any g F ⟨u, o⟩ f _ HC.out).mono ?_
      rintro e w1 ⟨rfl, hT, hCh⟩
      rw [HU.out] at hT
      simp only
      rw [HD.out]
      obtain ⟨c0, c1, c2, f0, f1, f2⟩ := hT.three_
      have HT := Lib.hid hT
      have HCh := Lib.hid hCh
      obtain ⟨b0, b1, b2, _, _, _⟩ := (HCh.out.blk (Blk.new w 44 #[.int .i64 f, .int .i64 t, .int .i64 1]) (by omega)).three_
      clear hT hCh
      simp only at c1
      go_wp2_with fail
      go_quiet (fail)
      go_wp2_with fail
      go_region
      all_goals
        go_wp2_with fail
        refine (over_any g F ⟨_, o⟩ _ _ (by exact HT.out.used_ _ _)).mono ?_
        rintro e w2 ⟨rfl, hT2, hCh2⟩
        simp only
        rw [dec_more (by omega)]
        obtain ⟨d0, d1, d2, g0, g1, g2⟩ := hT2.three_
        rw [over_used] at d1
        simp only at d1
        have HT2 := Lib.hid hT2
        have HCh2 := Lib.hid hCh2
        clear hT2 hCh2 c0 c1 c2 f0 f1 f2 b0 b1 b2
        go_wp2_with fail
        go_end0
        refine ⟨rfl, ?_, ((((chg_new HCh.out).drewN _).at_ 1 _).trans HCh2.out).at_ 1 _⟩
        rw [HX.out]
        exact HT2.out.stored (by omega) (by omega)
  · have hfj : freeH F u ⟨f, t, 1⟩ = (F - u + 1 - 1) / 1 := by rw [hfr]; omega
    have hj' : (F - u + 1 - 1) / 1 < t - f := by omega
    clear hj hfr
    have hm' : F ≤ u + (F - u + 1 - 1) / 1 * 1 := by omega
    have HX := Lib.hid (take_more (o := o) (s := ⟨f, t, 1⟩) hn hfj hm')
    clear hfj
    simp only at HX
    go_enter Try.func33, Try.ntmps33
    go_wp2_with fail
    refine (over_any g F ⟨u, o⟩ f _ HC.out).mono ?_
    rintro e w1 ⟨rfl, hT, hCh⟩
    rw [HU.out] at hT
    simp only
    rw [HD.out]
    obtain ⟨c0, c1, c2, f0, f1, f2⟩ := hT.three_
    have HT := Lib.hid hT
    have HCh := Lib.hid hCh
    obtain ⟨b0, b1, b2, _, _, _⟩ := (HCh.out.blk (Blk.new w 44 #[.int .i64 f, .int .i64 t, .int .i64 1]) (by omega)).three_
    clear hT hCh
    simp only at c1
    go_wp2_with fail
    go_quiet (fail)
    go_wp2_with fail
    go_region
    all_goals
      go_wp2_with fail
      refine (over_any g F ⟨_, o⟩ _ _ (by exact HT.out.used_ _ _)).mono ?_
      rintro e w2 ⟨rfl, hT2, hCh2⟩
      simp only
      rw [dec_more (by omega)]
      obtain ⟨d0, d1, d2, g0, g1, g2⟩ := hT2.three_
      rw [over_used] at d1
      simp only at d1
      have HT2 := Lib.hid hT2
      have HCh2 := Lib.hid hCh2
      clear hT2 hCh2 c0 c1 c2 f0 f1 f2 b0 b1 b2
      go_wp2_with fail
      go_end0
      refine ⟨rfl, ?_, ((((chg_new HCh.out).drewN _).at_ 1 _).trans HCh2.out).at_ 1 _⟩
      rw [HX.out]
      exact HT2.out.stored (by omega) (by omega)
set_option maxRecDepth 100000 in
set_option maxHeartbeats 4000000 in
theorem take_h2 (g : Nat) (F u o f t : Int) (w : World) (h : Ck w g F ⟨u, o⟩) (hF : 0 ≤ F) (hF2 : F ≤ 4194304) (hu : 0 ≤ u) (hu2 : u ≤ 4194304) (hn : u < F) (h0 : 0 ≤ f) (h1 : f < t) (h2 : t ≤ 1048576) :
    Calls Try.prog 33 #[.pointer (some ⟨g, 0, none⟩), .agg #[.int .i64 f, .int .i64 t, .int .i64 2]] w fun e w' => e = .returned (.tuple #[]) ∧ Ticked g F (Clk.take F ⟨u, o⟩ ⟨f, t, 2⟩) w w' := by
  have hg := h.lt
  have hck : Ck (w.alloc (.cells #[.int .i64 f, .int .i64 t, .int .i64 2] 44)) g F ⟨u, o⟩ := h.alloc _
  have HC := Lib.hid hck
  have HU := Lib.hid (over_less (o := o) (hr := f) hn)
  have HD := Lib.hid (dec_less hn)
  have hfr : freeH F u ⟨f, t, 2⟩ = min (t - f) ((F - u + 2 - 1) / 2) := by unfold freeH; simp
  clear h hck
  by_cases hj : t - f ≤ (F - u + 2 - 1) / 2
  · have hfj : freeH F u ⟨f, t, 2⟩ = t - f := by rw [hfr]; omega
    clear hfr
    by_cases hm : u + (t - f) * 2 < F
    · have HX := Lib.hid (take_less (o := o) (s := ⟨f, t, 2⟩) hn hfj hm)
      clear hfj
      simp only at HX
      go_enter Try.func33, Try.ntmps33
      go_wp2_with fail
      refine (over_any g F ⟨u, o⟩ f _ HC.out).mono ?_
      rintro e w1 ⟨rfl, hT, hCh⟩
      rw [HU.out] at hT
      simp only
      rw [HD.out]
      obtain ⟨c0, c1, c2, f0, f1, f2⟩ := hT.three_
      have HT := Lib.hid hT
      have HCh := Lib.hid hCh
      obtain ⟨b0, b1, b2, _, _, _⟩ := (HCh.out.blk (Blk.new w 44 #[.int .i64 f, .int .i64 t, .int .i64 2]) (by omega)).three_
      clear hT hCh
      simp only at c1
      go_wp2_with fail
      go_quiet (fail)
      go_wp2_with fail
      go_region
      all_goals
        go_wp2_with fail
        refine (over_any g F ⟨_, o⟩ _ _ (by exact HT.out.used_ _ _)).mono ?_
        rintro e w2 ⟨rfl, hT2, hCh2⟩
        rw [over_less (by omega)] at hT2
        simp only
        rw [dec_less (by omega)]
        have HT2 := Lib.hid hT2
        have HCh2 := Lib.hid hCh2
        clear hT2 hCh2 c0 c1 c2 f0 f1 f2
        go_wp2_with fail
        go_end0
        refine ⟨rfl, ?_, (((chg_new HCh.out).drewN _).at_ 1 _).trans HCh2.out⟩
        rw [HX.out]
        exact ck_eq HT2.out (by omega)
    · have hm' : F ≤ u + (t - f) * 2 := by omega
      have HX := Lib.hid (take_more (o := o) (s := ⟨f, t, 2⟩) hn hfj hm')
      clear hfj hm
      simp only at HX
      go_enter Try.func33, Try.ntmps33
      go_wp2_with fail
      refine (over_any g F ⟨u, o⟩ f _ HC.out).mono ?_
      rintro e w1 ⟨rfl, hT, hCh⟩
      rw [HU.out] at hT
      simp only
      rw [HD.out]
      obtain ⟨c0, c1, c2, f0, f1, f2⟩ := hT.three_
      have HT := Lib.hid hT
      have HCh := Lib.hid hCh
      obtain ⟨b0, b1, b2, _, _, _⟩ := (HCh.out.blk (Blk.new w 44 #[.int .i64 f, .int .i64 t, .int .i64 2]) (by omega)).three_
      clear hT hCh
      simp only at c1
      go_wp2_with fail
      go_quiet (fail)
      go_wp2_with fail
      go_region
      all_goals
        go_wp2_with fail
        refine (over_any g F ⟨_, o⟩ _ _ (by exact HT.out.used_ _ _)).mono ?_
        rintro e w2 ⟨rfl, hT2, hCh2⟩
        simp only
        rw [dec_more (by omega)]
        obtain ⟨d0, d1, d2, g0, g1, g2⟩ := hT2.three_
        rw [over_used] at d1
        simp only at d1
        have HT2 := Lib.hid hT2
        have HCh2 := Lib.hid hCh2
        clear hT2 hCh2 c0 c1 c2 f0 f1 f2 b0 b1 b2
        go_wp2_with fail
        go_end0
        refine ⟨rfl, ?_, ((((chg_new HCh.out).drewN _).at_ 1 _).trans HCh2.out).at_ 1 _⟩
        rw [HX.out]
        exact HT2.out.stored (by omega) (by omega)
  · have hfj : freeH F u ⟨f, t, 2⟩ = (F - u + 2 - 1) / 2 := by rw [hfr]; omega
    have hj' : (F - u + 2 - 1) / 2 < t - f := by omega
    clear hj hfr
    have hm' : F ≤ u + (F - u + 2 - 1) / 2 * 2 := by omega
    have HX := Lib.hid (take_more (o := o) (s := ⟨f, t, 2⟩) hn hfj hm')
    clear hfj
    simp only at HX
    go_enter Try.func33, Try.ntmps33
    go_wp2_with fail
    refine (over_any g F ⟨u, o⟩ f _ HC.out).mono ?_
    rintro e w1 ⟨rfl, hT, hCh⟩
    rw [HU.out] at hT
    simp only
    rw [HD.out]
    obtain ⟨c0, c1, c2, f0, f1, f2⟩ := hT.three_
    have HT := Lib.hid hT
    have HCh := Lib.hid hCh
    obtain ⟨b0, b1, b2, _, _, _⟩ := (HCh.out.blk (Blk.new w 44 #[.int .i64 f, .int .i64 t, .int .i64 2]) (by omega)).three_
    clear hT hCh
    simp only at c1
    go_wp2_with fail
    go_quiet (fail)
    go_wp2_with fail
    go_region
    all_goals
      go_wp2_with fail
      refine (over_any g F ⟨_, o⟩ _ _ (by exact HT.out.used_ _ _)).mono ?_
      rintro e w2 ⟨rfl, hT2, hCh2⟩
      simp only
      rw [dec_more (by omega)]
      obtain ⟨d0, d1, d2, g0, g1, g2⟩ := hT2.three_
      rw [over_used] at d1
      simp only at d1
      have HT2 := Lib.hid hT2
      have HCh2 := Lib.hid hCh2
      clear hT2 hCh2 c0 c1 c2 f0 f1 f2 b0 b1 b2
      go_wp2_with fail
      go_end0
      refine ⟨rfl, ?_, ((((chg_new HCh.out).drewN _).at_ 1 _).trans HCh2.out).at_ 1 _⟩
      rw [HX.out]
      exact HT2.out.stored (by omega) (by omega)
set_option maxRecDepth 100000 in
set_option maxHeartbeats 4000000 in
theorem take_h0 (g : Nat) (F u o f t : Int) (w : World) (h : Ck w g F ⟨u, o⟩) (hF : 0 ≤ F) (hF2 : F ≤ 4194304) (hu : 0 ≤ u) (hu2 : u ≤ 4194304) (hn : u < F) (h0 : 0 ≤ f) (h1 : f < t) (h2 : t ≤ 1048576) :
    Calls Try.prog 33 #[.pointer (some ⟨g, 0, none⟩), .agg #[.int .i64 f, .int .i64 t, .int .i64 0]] w fun e w' => e = .returned (.tuple #[]) ∧ Ticked g F (Clk.take F ⟨u, o⟩ ⟨f, t, 0⟩) w w' := by
  have hg := h.lt
  have hck : Ck (w.alloc (.cells #[.int .i64 f, .int .i64 t, .int .i64 0] 44)) g F ⟨u, o⟩ := h.alloc _
  have HC := Lib.hid hck
  have HU := Lib.hid (over_less (o := o) (hr := f) hn)
  have HD := Lib.hid (dec_less hn)
  have hfr : freeH F u ⟨f, t, 0⟩ = t - f := by unfold freeH; simp
  have HX := Lib.hid (take_less (o := o) (s := ⟨f, t, 0⟩) hn hfr (by simp only; omega))
  clear h hck hfr
  simp only at HX
  go_enter Try.func33, Try.ntmps33
  go_wp2_with fail
  refine (over_any g F ⟨u, o⟩ f _ HC.out).mono ?_
  rintro e w1 ⟨rfl, hT, hCh⟩
  rw [HU.out] at hT
  simp only
  rw [HD.out]
  obtain ⟨c0, c1, c2, f0, f1, f2⟩ := hT.three_
  have HT := Lib.hid hT
  have HCh := Lib.hid hCh
  obtain ⟨b0, b1, b2, _, _, _⟩ := (HCh.out.blk (Blk.new w 44 #[.int .i64 f, .int .i64 t, .int .i64 0]) (by omega)).three_
  clear hT hCh
  simp only at c1
  go_wp2_with fail
  go_region
  all_goals
    go_wp2_with fail
    refine (over_any g F ⟨_, o⟩ _ _ (by exact HT.out.used_ _ _)).mono ?_
    rintro e w2 ⟨rfl, hT2, hCh2⟩
    rw [over_less (by omega)] at hT2
    simp only
    rw [dec_less (by omega)]
    have HT2 := Lib.hid hT2
    have HCh2 := Lib.hid hCh2
    clear hT2 hCh2 c0 c1 c2 f0 f1 f2
    go_wp2_with fail
    go_end0
    refine ⟨rfl, ?_, (((chg_new HCh.out).drewN _).at_ 1 _).trans HCh2.out⟩
    rw [HX.out]
    exact ck_eq HT2.out (by omega)
theorem take_full {F u o : Int} {s : Str} (hu : F ≤ u) : Clk.take F ⟨u, o⟩ s = ⟨u + 2 * (s.t - s.f), (Clk.over F (Clk.over F ⟨u, o⟩ s.f) s.f).out⟩ := by
  have hf : Clk.free F ⟨u, o⟩ s = 0 := by unfold Clk.free; rw [if_neg (by simpa using hu)]
  have hmid : Clk.mid F ⟨u, o⟩ s = ⟨u, (Clk.over F ⟨u, o⟩ s.f).out⟩ := by unfold Clk.mid; rw [hf]; simp
  have hov : Clk.over F ⟨u, o⟩ s.f = ⟨u, (Clk.over F ⟨u, o⟩ s.f).out⟩ := by
    have := over_used F ⟨u, o⟩ s.f
    generalize Clk.over F ⟨u, o⟩ s.f = k at *
    obtain ⟨a, b⟩ := k
    simp only at this
    rw [this]
  unfold Clk.take
  rw [hmid, hf, ← hov]
  rw [over_used]
  simp only
  rw [if_neg (by omega)]
  simp
set_option maxRecDepth 100000 in
set_option maxHeartbeats 4000000 in
theorem take_out (g : Nat) (F u o f t h : Int) (w : World) (hk : Ck w g F ⟨u, o⟩) (hF : 0 ≤ F) (hF2 : F ≤ 4194304) (hu : 0 ≤ u) (hu2 : u ≤ 4194304) (hn : F ≤ u) (h0 : 0 ≤ f) (h1 : f < t) (h2 : t ≤ 1048576) :
    Calls Try.prog 33 #[.pointer (some ⟨g, 0, none⟩), .agg #[.int .i64 f, .int .i64 t, .int .i64 h]] w fun e w' => e = .returned (.tuple #[]) ∧ Ticked g F (Clk.take F ⟨u, o⟩ ⟨f, t, h⟩) w w' := by
  have hg := hk.lt
  have hck : Ck (w.alloc (.cells #[.int .i64 f, .int .i64 t, .int .i64 h] 44)) g F ⟨u, o⟩ := hk.alloc _
  have HC := Lib.hid hck
  have HX := Lib.hid (take_full (o := o) (s := ⟨f, t, h⟩) hn)
  have HD := Lib.hid (dec_more hn)
  clear hk hck
  simp only at HX
  go_enter Try.func33, Try.ntmps33
  go_wp2_with fail
  refine (over_any g F ⟨u, o⟩ f _ HC.out).mono ?_
  rintro e w1 ⟨rfl, hT, hCh⟩
  simp only
  rw [HD.out]
  have hU := over_used F ⟨u, o⟩ f
  obtain ⟨k1, hk1⟩ : ∃ k1, k1 = Clk.over F ⟨u, o⟩ f := ⟨_, rfl⟩
  rw [← hk1] at hT hU
  obtain ⟨u1, o1⟩ := k1
  simp only at hU
  subst hU
  have HK := Lib.hid hk1
  have HT := Lib.hid hT
  have HCh := Lib.hid hCh
  obtain ⟨b0, b1, b2, _, _, _⟩ := (HCh.out.blk (Blk.new w 44 #[.int .i64 f, .int .i64 t, .int .i64 h]) (by omega)).three_
  clear hT hCh hk1
  go_wp2_with fail
  refine (over_any g F ⟨u1, o1⟩ _ _ HT.out).mono ?_
  rintro e w2 ⟨rfl, hT2, hCh2⟩
  simp only
  rw [HD.out]
  obtain ⟨d0, d1, d2, g0, g1, g2⟩ := hT2.three_
  rw [over_used] at d1
  simp only at d1
  have HT2 := Lib.hid hT2
  have HCh2 := Lib.hid hCh2
  clear hT2 hCh2 b0 b1 b2
  go_wp2_with fail
  go_end0
  refine ⟨rfl, ?_, ((chg_new HCh.out).trans HCh2.out).at_ 1 _⟩
  rw [HX.out, ← HK.out]
  exact HT2.out.stored (by omega) ⟨rfl, by omega⟩
theorem take_any (g : Nat) (F : Int) (k : Clk) (s : Str) (hs : s.ok) (w : World) (h : Ck w g F k) (hF : 0 ≤ F) (hF2 : F ≤ 4194304) (hu : 0 ≤ k.used) (hu2 : k.used ≤ 4194304) :
    Calls Try.prog 33 #[.pointer (some ⟨g, 0, none⟩), .agg #[.int .i64 s.f, .int .i64 s.t, .int .i64 s.h]] w fun e w' => e = .returned (.tuple #[]) ∧ Ticked g F (k.take F s) w w' := by
  obtain ⟨u, o⟩ := k
  obtain ⟨f, t, z⟩ := s
  obtain ⟨h0, h1, h2, h3, h4⟩ := hs
  simp only at *
  by_cases hn : u < F
  · rcases (show z = 0 ∨ z = 1 ∨ z = 2 by omega) with rfl | rfl | rfl
    · exact take_h0 g F u o f t w h hF hF2 hu hu2 hn h0 h1 h2
    · exact take_h1 g F u o f t w h hF hF2 hu hu2 hn h0 h1 h2
    · exact take_h2 g F u o f t w h hF hF2 hu hu2 hn h0 h1 h2
  · exact take_out g F u o f t z w h hF hF2 hu hu2 (by omega) h0 h1 h2
end Go.Proofs.Ytlmnbdepklcfpaa
