/- LayStays's walk. Condition: how the stretches lie. -/
import Derived.Test.YtlmnbdepklcfpaaSplit
namespace Go.Proofs.Ytlmnbdepklcfpaa
open Go.RowKit
set_option linter.unusedVariables false
set_option linter.unusedSimpArgs false

theorem V_P {a : Int} {l : List Str} {at_ : Int} (hr : (chk l).2 = 0) : V a l at_ = P (2 * a) (hours l) (at_ - headF l).toNat := by
  have hc := (chk_chain hr).1
  have h3 := (cut_chain at_ l _ hc).2.2
  have hu := (V_ahead (a := a) (at_ := at_) hr).2
  rw [← hu, run_used (V_ahead (a := a) (at_ := at_) hr).1 (headF_ok hr), h3]
  rfl
theorem hours_ne {l : List Str} (hr : (chk l).2 = 0) (h1 : 1 ≤ l.length) : hours l ≠ [] := by
  obtain ⟨c1, c2, c3⟩ := chain_hours l _ (chk_chain hr).1
  cases l with
  | nil => simp at h1
  | cons s l =>
    intro e
    have hs := (hrs_len (chk_chain hr).1.2.1).2
    have e2 : hours (s :: l) = hrs s ++ hours l := by simp [hours]
    rw [e2] at e
    have := (List.append_eq_nil_iff.1 e).1
    rw [this] at hs
    simp at hs
theorem st_no {a : Int} {l : List Str} (hr : (chk l).2 = 0) (h1 : 1 ≤ l.length) (ho : (Clk.run (2 * a) l).out < 0) : U a l < 2 * a := by
  have hi := run_inv (F := 2 * a) (chk_chain hr).1 (headF_ok hr)
  rcases hi.o with ⟨_, h2⟩ | ⟨j, h2, _⟩
  · exact h2 (hours_ne hr h1)
  · have := headF_ok hr
    omega
theorem st_yes {a : Int} {l : List Str} (hr : (chk l).2 = 0) (ho : ¬ (Clk.run (2 * a) l).out < 0) :
    headF l ≤ (Clk.run (2 * a) l).out ∧ (Clk.run (2 * a) l).out ≤ lastTo (headF l) l ∧ 2 * a ≤ V a l (Clk.run (2 * a) l).out ∧ U a l - V a l (Clk.run (2 * a) l).out = 2 * (lastTo (headF l) l - (Clk.run (2 * a) l).out) ∧
      ∀ at_, headF l ≤ at_ → at_ < (Clk.run (2 * a) l).out → V a l at_ < 2 * a := by
  have hi := run_inv (F := 2 * a) (chk_chain hr).1 (headF_ok hr)
  obtain ⟨c1, c2, c3⟩ := chain_hours l _ (chk_chain hr).1
  rcases hi.o with ⟨h2, _⟩ | ⟨j, h2, h3, h4, h5⟩
  · omega
  · have hv : V a l (Clk.run (2 * a) l).out = P (2 * a) (hours l) j := by
      rw [V_P hr, h2]
      congr 1
      omega
    rw [hv]
    refine ⟨by omega, by omega, h4, ?_, fun at_ h6 h7 => ?_⟩
    · unfold U
      have : hours l = (hours l).take j ++ (hours l).drop j := (List.take_append_drop j _).symm
      have hf : fold (2 * a) 0 (hours l) = P (2 * a) (hours l) j + 2 * ((hours l).drop j).length := by
        rw [show fold (2 * a) 0 (hours l) = fold (2 * a) (P (2 * a) (hours l) j) ((hours l).drop j) by
          unfold P; rw [← fold_append, List.take_append_drop], fold_over _ _ _ h4]
      rw [hf, List.length_drop]
      omega
    · rw [V_P hr]
      exact h5 _ (by omega)
theorem headF_get {l : List Str} {s : Str} (h : l[0]? = some s) : headF l = s.f := by
  cases l with
  | nil => simp at h
  | cons x l => cases h; rfl
set_option maxRecDepth 100000 in
set_option maxHeartbeats 8000000 in
theorem staysLaw_any (a b c : Int) (A : Option Addr) (n k : Nat) (l : List Str) (at_ : Int) (w : World) (h : Strs w w.heap.size A n l) (hn : n ≤ maxLen) :
    Calls Try.prog 7 #[layV a b c, .slice A n k, .int .i64 at_] w fun e w' => e = .returned (.bool true) ∧ Below w.heap.size w w' := by
  have K0 := Lib.hid (Kp.new w a b c)
  have H := Lib.hid h
  clear h
  unfold layV
  go_enter Try.func7, Try.ntmps7
  go_wp2_with fail
  refine (awake_any _).mono ?_
  rintro e w1 ⟨rfl, hb⟩
  have K1 := Lib.hid (K0.out.step hb)
  clear hb K0
  by_cases h0 : n < 1
  · have q : (n : Int) < 1 := by omega
    go_wp2_with fail
    go_ret
    exact ⟨rfl, K1.out.1⟩
  have q0 : (1 : Int) ≤ n := by omega
  have n1 : 1 ≤ n := by omega
  clear h0
  by_cases h30 : 30 < n
  · have q : (30 : Int) < n := by omega
    go_wp2_with fail
    go_ret
    exact ⟨rfl, K1.out.1⟩
  have q : (n : Int) ≤ 30 := by omega
  have hn5 : n ≤ 100000 := by omega
  clear h30
  go_wp2_with fail
  refine (long_any A n k l w1 (K1.out.strs H.out) hn 300).mono ?_
  rintro e w2 ⟨lg, rfl, hb⟩
  have K2 := Lib.hid (K1.out.step hb)
  obtain ⟨p0, p1, p2⟩ := K2.out.three
  clear hb K1
  cases lg
  case true =>
    go_wp2_with fail
    go_ret
    exact ⟨rfl, K2.out.1⟩
  go_wp2_with fail
  refine (rmay_any a b c w2).mono ?_
  rintro e w3 ⟨rfl, hb⟩
  have K3 := Lib.hid (K2.out.step hb)
  clear hb K2 p0 p1 p2
  generalize hm : mayB a b c = m
  have HM := Lib.hid hm
  clear hm
  cases m
  · go_wp2_with fail
    go_ret
    exact ⟨rfl, K3.out.1⟩
  go_wp2_with fail
  refine (rcheck_any A n k l w3 (K3.out.strs H.out) hn).mono ?_
  rintro e w4 ⟨rfl, hb⟩
  have K4 := Lib.hid (K3.out.step hb)
  obtain ⟨p0, p1, p2⟩ := K4.out.three
  clear hb K3
  unfold chkV
  by_cases hr : (chk l).2 = 0
  case neg =>
    have q : ((chk l).2 != 0) = true := by simpa using hr
    generalize (chk l).1 = c1 at *
    generalize (chk l).2 = c2 at *
    clear hr
    go_wp2_with fail
    go_ret
    exact ⟨rfl, K4.out.1⟩
  have HR := Lib.hid hr
  have HL : Hid (1 ≤ l.length) := by show 1 ≤ l.length; rw [H.out.1]; exact n1
  obtain ⟨u1, u2⟩ := U_bd (a := a) hr
  rw [HR.out]
  generalize (chk l).1 = c1
  obtain ⟨ao1, ao2, _⟩ := mayB_yes HM.out
  clear hr
  by_cases ho : (Clk.run (2 * a) l).out < 0
  · have hu := st_no HR.out HL.out ho
    have HO := Lib.hid ho
    clear ho
    go_wp2_with fail
    refine (expires_any a b c A n k l w4 (K4.out.strs H.out) hn HM.out HR.out n1).mono ?_
    rintro e w5 ⟨rfl, hb⟩
    rw [if_pos HO.out]
    have K5 := Lib.hid (K4.out.step hb)
    have HS5 := K5.out.strs H.out
    obtain ⟨x, s, hA, hs, hab, x0, x1, x2⟩ := HS5.at_ (show 0 < n by omega)
    subst hA
    obtain ⟨x', p, hA, hp, hab', y0, y1, y2⟩ := HS5.at_ (show n - 1 < n by omega)
    cases hA
    have W1 : IntKind.i64.wrap ((n : Int) - 1) = ((n - 1 : Nat) : Int) := by rw [show (n : Int) - 1 = ((n - 1 : Nat) : Int) by omega]; exact IntWalk.i64_in _ (by omega)
    have z0 : w5.cell? x = some (.int .i64 s.f) := by rw [Nat.zero_mul, add_zero_] at x0; exact x0
    have hle : n - 1 < n := by omega
    obtain ⟨r0, r1, r2⟩ := K5.out.three
    clear hb K4 p0 p1 p2 HS5 hs hp y0 y2 x0 x1 x2
    go_wp2_with fail
    go_quiet (fail)
    go_wp2_with fail
    refine (used_ok a b c _ n k l _ ((K5.out.drewN _).strs H.out) hn HM.out HR.out).mono ?_
    rintro e w6 ⟨rfl, hb⟩
    have K6 := Lib.hid ((K5.out.drewN _).step hb)
    obtain ⟨t0, t1, t2⟩ := K6.out.three
    clear hb K5 r0 r1 r2 z0 y1
    go_wp2_with fail
    go_ret
    exact ⟨rfl, K6.out.1⟩
  · obtain ⟨g1, g2, g3, g4, g5⟩ := st_yes HR.out ho
    obtain ⟨v1, v2⟩ := V_bd (a := a) (Clk.run (2 * a) l).out HR.out
    have HO := Lib.hid ho
    obtain ⟨o, ho'⟩ : ∃ o, o = (Clk.run (2 * a) l).out := ⟨_, rfl⟩
    rw [← ho'] at g1 g2 g3 g4 g5 v1 v2
    have HO' := Lib.hid ho'
    have G5 := Lib.hid g5
    clear ho ho' g5
    go_wp2_with fail
    refine (expires_any a b c A n k l w4 (K4.out.strs H.out) hn HM.out HR.out n1).mono ?_
    rintro e w5 ⟨rfl, hb⟩
    rw [if_neg (Int.not_lt.2 HO.out), ← HO'.out]
    have K5 := Lib.hid (K4.out.step hb)
    have HS5 := K5.out.strs H.out
    obtain ⟨x, s, hA, hs, hab, x0, x1, x2⟩ := HS5.at_ (show 0 < n by omega)
    subst hA
    obtain ⟨x', p, hA, hp, hab', y0, y1, y2⟩ := HS5.at_ (show n - 1 < n by omega)
    cases hA
    have W1 : IntKind.i64.wrap ((n : Int) - 1) = ((n - 1 : Nat) : Int) := by rw [show (n : Int) - 1 = ((n - 1 : Nat) : Int) by omega]; exact IntWalk.i64_in _ (by omega)
    have z0 : w5.cell? x = some (.int .i64 s.f) := by rw [Nat.zero_mul, add_zero_] at x0; exact x0
    have hle : n - 1 < n := by omega
    obtain ⟨r0, r1, r2⟩ := K5.out.three
    have f1 : headF l = s.f := headF_get hs
    have f2 : lastTo (headF l) l = p.t := lastTo_get _ l p (by rw [H.out.1]; exact hp)
    rw [f1] at g1
    rw [f2] at g2 g4
    have F1 := Lib.hid f1
    have so := right_get HR.out hs
    have po := right_get HR.out hp
    unfold Str.ok at so po
    obtain ⟨so1, _, so2, _, _⟩ := so
    obtain ⟨po1, _, po2, _, _⟩ := po
    clear hb K4 p0 p1 p2 HS5 hs hp y0 y2 x0 x1 x2 f1 f2
    go_wp2_with fail
    go_quiet (fail)
    have e1 : (U a l - V a l o != 2 * (p.t - o)) = false := by simp; omega
    have G4 := Lib.hid g4
    clear g4
    go_wp2_with fail
    refine (split_ok a b c o _ n k l _ ((K5.out.drewN _).strs H.out) hn5 HM.out HR.out).mono ?_
    rintro e w6 ⟨rfl, hb⟩
    have K6 := Lib.hid ((K5.out.drewN _).step hb)
    obtain ⟨t0, t1, t2⟩ := K6.out.three
    clear hb K5 r0 r1 r2 z0 y1
    by_cases hat : at_ < s.f
    · go_wp2_with fail
      go_ret
      exact ⟨rfl, K6.out.1⟩
    by_cases hat2 : o ≤ at_
    · have hat' : s.f ≤ at_ := by omega
      clear hat
      go_wp2_with fail
      go_ret
      exact ⟨rfl, K6.out.1⟩
    have hat' : s.f ≤ at_ := by omega
    have hat2' : at_ < o := by omega
    have hv := G5.out at_ (by rw [F1.out]; exact hat') hat2'
    clear hat hat2
    go_wp2_with fail
    refine (split_ok a b c at_ _ n k l _ (K6.out.strs H.out) hn5 HM.out HR.out).mono ?_
    rintro e w7 ⟨rfl, hb⟩
    have K7 := Lib.hid (K6.out.step hb)
    obtain ⟨r0, r1, r2⟩ := K7.out.three
    clear hb K6 t0 t1 t2
    go_wp2_with fail
    go_ret
    exact ⟨rfl, K7.out.1⟩
end Go.Proofs.Ytlmnbdepklcfpaa
