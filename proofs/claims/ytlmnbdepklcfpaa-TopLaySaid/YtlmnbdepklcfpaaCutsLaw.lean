/- LayCuts's walk. Condition: how the stretches lie. -/
import Derived.Test.YtlmnbdepklcfpaaRefCut
namespace Go.Proofs.Ytlmnbdepklcfpaa
open Go.RowKit
set_option linter.unusedVariables false
set_option linter.unusedSimpArgs false

theorem cut_all {l : List Str} (at_ : Int) (hr : (chk l).2 = 0) (hl : l.length ≤ 100) : (chk (ahead at_ l ++ behind at_ l)).2 = 0 ∧ (chk (ahead at_ l ++ behind at_ l)).1 = (ahead at_ l ++ behind at_ l).length ∧ ∀ a, U a (ahead at_ l ++ behind at_ l) = U a l := by
  obtain ⟨h1, h2, _⟩ := cut_chain at_ l _ (chk_chain hr).1
  obtain ⟨c1, c2⟩ := cut_len at_ l
  have := chk_mk h1 (by rw [List.length_append]; omega)
  rw [this]
  refine ⟨rfl, rfl, fun a => ?_⟩
  unfold U
  rw [h2]
theorem own_nil {w : World} {B n c : Nat} {A : Option Addr} {xs : List Value} (h : w.ownsRow B 44 3 (.slice A (0 + n) c) (0 + n) ([] ++ xs)) : w.ownsRow B 44 3 (.slice A n c) n xs := by simpa using h
set_option maxRecDepth 100000 in
set_option maxHeartbeats 8000000 in
theorem cutsLaw_any (a b c : Int) (A : Option Addr) (n k : Nat) (l : List Str) (at_ : Int) (w : World) (h : Strs w w.heap.size A n l) (hn : n ≤ maxLen) :
    Calls Try.prog 4 #[layV a b c, .slice A n k, .int .i64 at_] w fun e w' => e = .returned (.bool true) ∧ Below w.heap.size w w' := by
  obtain ⟨i0, hi, hz0, hz1, hz2⟩ := info_parts info44
  have K0 := Lib.hid (Kp.new w a b c)
  have H := Lib.hid h
  clear h
  unfold layV
  go_enter Try.func4, Try.ntmps4
  go_wp2_with fail
  refine (awake_any _).mono ?_
  rintro e w1 ⟨rfl, hb⟩
  have K1 := Lib.hid (K0.out.step hb)
  clear hb K0
  by_cases h30 : 30 < n
  · have q : (30 : Int) < n := by omega
    go_wp2_with fail
    go_ret
    exact ⟨rfl, K1.out.1⟩
  have q : (n : Int) ≤ 30 := by omega
  have hn5 : n ≤ 100000 := by omega
  clear h30
  go_wp2_with fail
  refine (long_any A n k l w1 (K1.out.strs H.out) hn 2000).mono ?_
  rintro e w2 ⟨lg, rfl, hb⟩
  have K2 := Lib.hid (K1.out.step hb)
  clear hb K1
  cases lg
  case true =>
    go_wp2_with fail
    go_ret
    exact ⟨rfl, K2.out.1⟩
  go_wp2_with fail
  refine (cut_any at_ A n k l w2 (K2.out.strs H.out) hn5).mono ?_
  rintro e w3 ⟨A1, c1, D1, d1, rfl, hb, hra, hrb, _⟩
  have K3 := Lib.hid (K2.out.step hb)
  have RA := Lib.hid hra.strs
  have RB := Lib.hid hrb.strs
  clear hb K2 hra hrb
  obtain ⟨cl1, cl2⟩ := cut_len at_ l
  have hln := H.out.1
  have e1 : (ahead at_ l).length ≤ 30 := by omega
  have e2 : (behind at_ l).length ≤ 30 := by omega
  have hl30 : l.length ≤ 100 := by omega
  clear cl1 cl2 hln
  go_wp2_with fail
  refine (rcut_any at_ A n k l w3 (K3.out.strs H.out) hn5).mono ?_
  rintro e w4 ⟨A2, c2, D2, d2, rfl, hb, hra, hrb, _⟩
  have K4 := Lib.hid (K3.out.step hb)
  have RA4 := Lib.hid (RA.out.up hb)
  have RB4 := Lib.hid (RB.out.up hb)
  have SA := Lib.hid hra.strs
  have SB := Lib.hid hrb.strs
  clear hb K3 hra hrb RA RB
  go_wp2_with fail
  refine (same_any A1 A2 _ c1 c2 (ahead at_ l) w4 RA4.out SA.out (by omega)).mono ?_
  rintro e w5 ⟨rfl, hb⟩
  have K5 := Lib.hid (K4.out.step hb)
  have RA5 := Lib.hid (RA4.out.up hb)
  have RB5 := Lib.hid (RB4.out.up hb)
  have SB5 := Lib.hid (SB.out.up hb)
  clear hb K4 RA4 RB4 SA SB
  go_wp2_with fail
  refine (same_any D1 D2 _ d1 d2 (behind at_ l) w5 RB5.out SB5.out (by omega)).mono ?_
  rintro e w6 ⟨rfl, hb⟩
  have K6 := Lib.hid (K5.out.step hb)
  have RA6 := Lib.hid (RA5.out.up hb)
  have RB6 := Lib.hid (RB5.out.up hb)
  clear hb K5 RA5 RB5 SB5
  go_wp2_with fail
  refine (rcheck_any A n k l w6 (K6.out.strs H.out) hn).mono ?_
  rintro e w7 ⟨rfl, hb⟩
  have K7 := Lib.hid (K6.out.step hb)
  have RA7 := Lib.hid (RA6.out.up hb)
  have RB7 := Lib.hid (RB6.out.up hb)
  obtain ⟨p0, p1, p2⟩ := K7.out.three
  clear hb K6 RA6 RB6
  unfold chkV
  by_cases hr : (chk l).2 = 0
  case neg =>
    have q : ((chk l).2 != 0) = true := by simpa using hr
    generalize (chk l).1 = c1 at *
    generalize (chk l).2 = c2 at *
    clear hr
    go_wp2_with fail
    go_ret
    exact ⟨rfl, K7.out.1⟩
  have HR := Lib.hid hr
  have HA := Lib.hid (cut_all at_ hr hl30)
  rw [HR.out]
  generalize (chk l).1 = ck1
  clear hr
  go_wp2_with fail
  refine (rmay_any a b c w7).mono ?_
  rintro e w8 ⟨rfl, hb⟩
  have K8 := Lib.hid (K7.out.step hb)
  have RA8 := Lib.hid (RA7.out.up hb)
  have RB8 := Lib.hid (RB7.out.up hb)
  clear hb K7 RA7 RB7 p0 p1 p2
  generalize hm : mayB a b c = mb
  have HM := Lib.hid hm
  clear hm
  cases mb
  · go_wp2_with fail
    go_ret
    exact ⟨rfl, K8.out.1⟩
  generalize hxs : ahead at_ l = xs at *
  generalize hys : behind at_ l = ys at *
  have HXS := Lib.hid hxs
  have HYS := Lib.hid hys
  clear hxs hys
  go_wp2_with (at_builtin; refine wpList_append_any _ rfl (.tmp 63) (.tmp 64) 24 rfl w8.heap.size 44 i0 (.agg #[.int .i64 0, .int .i64 0, .int .i64 0]) 3 24 Try.underlying24 hi hz0 hz1 hz2 rfl (by decide) (.slice (some ⟨w8.heap.size, 0, none⟩) 0 0) 0 [] rfl (World.ownsRow_lit w8 #[] 0 (Nat.le_refl _) (Nat.zero_le _) rfl) w8.heap.size A1 xs.length c1 (flat xs) rfl (RA8.out.2.alloc (Nat.le_refl _) _) (flat_one _) (by unfold maxLen; omega) (by omega) (by simp) ?_)
  intro v1 w9 hown1 hg1 _
  obtain ⟨A3, c3, rfl, hle1⟩ := own_form hown1
  have HB9 := Lib.hid (below_own ((Below.refl w8.heap.size w8).alloc (Nat.le_refl _) _) (World.ownsRow_lit (size := 3) w8 #[] 0 (Nat.le_refl _) (Nat.zero_le _) rfl) (Nat.le_refl _) hg1)
  have O1 := Lib.hid hown1
  have RB9 := Lib.hid (RB8.out.2.below HB9.out)
  have hsz9 := HB9.out.size
  clear hown1 hg1 hle1
  go_wp2_with (at_builtin; refine wpList_append_any _ rfl (.tmp 65) (.tmp 66) 24 rfl w8.heap.size 44 i0 (.agg #[.int .i64 0, .int .i64 0, .int .i64 0]) 3 24 Try.underlying24 hi hz0 hz1 hz2 rfl (by decide) (.slice A3 xs.length c3) xs.length (flat xs) rfl (by first | exact O1.out | exact own_nil O1.out) w8.heap.size D1 ys.length d1 (flat ys) rfl RB9.out (flat_one _) (by unfold maxLen; omega) (by omega) (by omega) ?_)
  intro v2 w10 hown2 hg2 _
  obtain ⟨A4, c4, rfl, hle2⟩ := own_form hown2
  have HB10 := Lib.hid (below_own HB9.out (by first | exact O1.out | exact own_nil O1.out) (Nat.le_refl _) hg2)
  have K10 := Lib.hid (K8.out.step HB10.out)
  have HSA : Hid (Strs w10 w10.heap.size A4 (xs.length + ys.length) (xs ++ ys)) := ⟨List.length_append, by rw [flat_append]; exact (Row.of_own hown2).reads⟩
  obtain ⟨p0, p1, p2⟩ := K10.out.three
  have g1 : (U a l == U a (xs ++ ys)) = true := by rw [HA.out.2.2]; simp
  have g2 : (((chk (xs ++ ys)).1 : Int) == (xs.length : Int) + ys.length) = true := by rw [HA.out.2.1, List.length_append]; simp
  have g3 : ((chk (xs ++ ys)).2 == 0) = true := by rw [HA.out.1]; rfl
  clear hown2 hg2 hle2 hsz9 RB9 O1 HB9
  go_wp2_with fail
  refine (used_ok a b c A n k l w10 (K10.out.strs H.out) hn HM.out HR.out).mono ?_
  rintro e w11 ⟨rfl, hb⟩
  have K11 := Lib.hid (K10.out.step hb)
  have HSA11 := Lib.hid (HSA.out.up hb)
  obtain ⟨r0, r1, r2⟩ := K11.out.three
  clear hb p0 p1 p2
  go_wp2_with fail
  refine (used_ok a b c A4 _ c4 (xs ++ ys) w11 HSA11.out (by unfold maxLen; omega) HM.out HA.out.1).mono ?_
  rintro e w12 ⟨rfl, hb⟩
  have K12 := Lib.hid (K11.out.step hb)
  have HSA12 := Lib.hid (HSA11.out.up hb)
  clear hb r0 r1 r2
  go_wp2_with fail
  refine (check_any A4 _ c4 (xs ++ ys) w12 HSA12.out (by unfold maxLen; omega)).mono ?_
  rintro e w13 ⟨rfl, hb⟩
  have K13 := Lib.hid (K12.out.step hb)
  clear hb
  unfold chkV
  go_wp2_with fail
  go_ret
  exact ⟨rfl, K13.out.1⟩
end Go.Proofs.Ytlmnbdepklcfpaa
