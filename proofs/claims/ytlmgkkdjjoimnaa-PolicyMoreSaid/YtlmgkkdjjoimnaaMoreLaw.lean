/- PolicyMore's walk. Condition: how the causes lie. -/
import Derived.Test.YtlmgkkdjjoimnaaPaysLaw
import Derived.Test.YtlmgkkdjjoimnaaMorePlain
import Derived.Deep.Cut
namespace Go.Proofs.Ytlmgkkdjjoimnaa
open Go.RowKit
set_option linter.unusedVariables false
set_option linter.unusedSimpArgs false

theorem Kp.far {w v : World} {cs : Array Value} {g : Nat} (h : Kp w cs v) (hg : w.heap.size < g) (i : Nat) (u : Value) : Kp w cs (v.setCell ⟨g, i, none⟩ u) := ⟨h.1.setCell (Nat.le_of_lt hg) u, h.2.far (by show w.heap.size ≠ g; omega) u⟩
theorem blk_put {v : World} {g : Nat} {a0 a1 a2 a3 a4 a5 a6 a7 a8 : Value} (h : Blk v g 24 #[a0, a1, a2, a3, a4, a5, a6, a7, a8]) (b0 b1 b2 b3 b4 b5 b6 b7 b8 : Value) : Blk (((((((((v.setCell ⟨g, 0, none⟩ b0).setCell ⟨g, 1, none⟩ b1).setCell ⟨g, 2, none⟩ b2).setCell ⟨g, 3, none⟩ b3).setCell ⟨g, 4, none⟩ b4).setCell ⟨g, 5, none⟩ b5).setCell ⟨g, 6, none⟩ b6).setCell ⟨g, 7, none⟩ b7).setCell ⟨g, 8, none⟩ b8) g 24 #[b0, b1, b2, b3, b4, b5, b6, b7, b8] := by
  have h0 : Blk (v.setCell ⟨g, 0, none⟩ b0) g 24 #[b0, a1, a2, a3, a4, a5, a6, a7, a8] := h.set_ 0 b0
  have h1 : Blk ((v.setCell ⟨g, 0, none⟩ b0).setCell ⟨g, 1, none⟩ b1) g 24 #[b0, b1, a2, a3, a4, a5, a6, a7, a8] := h0.set_ 1 b1
  have h2 : Blk (((v.setCell ⟨g, 0, none⟩ b0).setCell ⟨g, 1, none⟩ b1).setCell ⟨g, 2, none⟩ b2) g 24 #[b0, b1, b2, a3, a4, a5, a6, a7, a8] := h1.set_ 2 b2
  have h3 : Blk ((((v.setCell ⟨g, 0, none⟩ b0).setCell ⟨g, 1, none⟩ b1).setCell ⟨g, 2, none⟩ b2).setCell ⟨g, 3, none⟩ b3) g 24 #[b0, b1, b2, b3, a4, a5, a6, a7, a8] := h2.set_ 3 b3
  have h4 : Blk (((((v.setCell ⟨g, 0, none⟩ b0).setCell ⟨g, 1, none⟩ b1).setCell ⟨g, 2, none⟩ b2).setCell ⟨g, 3, none⟩ b3).setCell ⟨g, 4, none⟩ b4) g 24 #[b0, b1, b2, b3, b4, a5, a6, a7, a8] := h3.set_ 4 b4
  have h5 : Blk ((((((v.setCell ⟨g, 0, none⟩ b0).setCell ⟨g, 1, none⟩ b1).setCell ⟨g, 2, none⟩ b2).setCell ⟨g, 3, none⟩ b3).setCell ⟨g, 4, none⟩ b4).setCell ⟨g, 5, none⟩ b5) g 24 #[b0, b1, b2, b3, b4, b5, a6, a7, a8] := h4.set_ 5 b5
  have h6 : Blk (((((((v.setCell ⟨g, 0, none⟩ b0).setCell ⟨g, 1, none⟩ b1).setCell ⟨g, 2, none⟩ b2).setCell ⟨g, 3, none⟩ b3).setCell ⟨g, 4, none⟩ b4).setCell ⟨g, 5, none⟩ b5).setCell ⟨g, 6, none⟩ b6) g 24 #[b0, b1, b2, b3, b4, b5, b6, a7, a8] := h5.set_ 6 b6
  have h7 : Blk ((((((((v.setCell ⟨g, 0, none⟩ b0).setCell ⟨g, 1, none⟩ b1).setCell ⟨g, 2, none⟩ b2).setCell ⟨g, 3, none⟩ b3).setCell ⟨g, 4, none⟩ b4).setCell ⟨g, 5, none⟩ b5).setCell ⟨g, 6, none⟩ b6).setCell ⟨g, 7, none⟩ b7) g 24 #[b0, b1, b2, b3, b4, b5, b6, b7, a8] := h6.set_ 7 b7
  have h8 : Blk (((((((((v.setCell ⟨g, 0, none⟩ b0).setCell ⟨g, 1, none⟩ b1).setCell ⟨g, 2, none⟩ b2).setCell ⟨g, 3, none⟩ b3).setCell ⟨g, 4, none⟩ b4).setCell ⟨g, 5, none⟩ b5).setCell ⟨g, 6, none⟩ b6).setCell ⟨g, 7, none⟩ b7).setCell ⟨g, 8, none⟩ b8) g 24 #[b0, b1, b2, b3, b4, b5, b6, b7, b8] := h7.set_ 8 b8
  exact h8
theorem kp_put {w v : World} {cs : Array Value} {g : Nat} (h : Kp w cs v) (hg : w.heap.size < g) (b0 b1 b2 b3 b4 b5 b6 b7 b8 : Value) : Kp w cs (((((((((v.setCell ⟨g, 0, none⟩ b0).setCell ⟨g, 1, none⟩ b1).setCell ⟨g, 2, none⟩ b2).setCell ⟨g, 3, none⟩ b3).setCell ⟨g, 4, none⟩ b4).setCell ⟨g, 5, none⟩ b5).setCell ⟨g, 6, none⟩ b6).setCell ⟨g, 7, none⟩ b7).setCell ⟨g, 8, none⟩ b8) := (((((((((h.far hg 0 b0).far hg 1 b1).far hg 2 b2).far hg 3 b3).far hg 4 b4).far hg 5 b5).far hg 6 b6).far hg 7 b7).far hg 8 b8)
set_option maxRecDepth 100000 in
set_option maxHeartbeats 8000000 in
theorem moreLaw_any (p : Pol) (hp : p.wf) (A : Option Addr) (n c : Nat) (loss more v own : Int) (w : World) (hc : Cs w w.heap.size A n p.causes) :
    Calls Try.prog 4 #[polV p A n c, .int .i64 loss, .int .i64 more, .int .i64 v, .int .i64 own] w fun e w' => e = .returned (.bool true) ∧ Below w.heap.size w w' := by
  have K := Lib.hid (Kp.new w (p.cells A n c))
  have HC := Lib.hid hc
  have HP := Lib.hid hp
  clear hc hp
  unfold polV Pol.cells at *
  go_enter Try.func4, Try.ntmps4
  go_wp2_with fail
  refine (awake_any _).mono ?_
  rintro e w1 ⟨rfl, hb⟩
  have K1 := Lib.hid (K.out.step hb)
  obtain ⟨c0, c1, c2, c3, c4, c5, c6, c7, c8⟩ := K1.out.2.nine_
  clear hb K
  go_wp2_with fail
  refine (long_any p A n c w1).mono ?_
  rintro e w2 ⟨lg, rfl, hb⟩
  have K2 := Lib.hid (K1.out.step hb)
  clear hb K1 c0 c1 c2 c3 c4 c5 c6 c7 c8
  cases lg
  case true =>
    go_wp2_with fail
    go_ret
    exact ⟨rfl, K2.out.1⟩
  obtain ⟨c0, c1, c2, c3, c4, c5, c6, c7, c8⟩ := K2.out.2.nine_
  go_wp2_with fail
  refine (rmay_any p HP.out A n c _ (K2.out.csat HC.out)).mono ?_
  rintro e w3 ⟨rfl, hb⟩
  have K3 := Lib.hid (K2.out.step hb)
  clear hb K2 c0 c1 c2 c3 c4 c5 c6 c7 c8
  obtain ⟨c0, c1, c2, c3, c4, c5, c6, c7, c8⟩ := K3.out.2.nine_
  by_cases hm : mayP p = true
  case neg =>
    have hm' := mayP_not hm
    rw [hm']
    clear hm hm'
    go_wp2_with fail
    go_ret
    exact ⟨rfl, K3.out.1⟩
  rw [hm]
  obtain ⟨_, _, _, _, _, ⟨u0, u1⟩, ⟨o0, o1⟩, _⟩ := mayP_all.1 hm
  by_cases hv : 1 ≤ v
  case neg =>
    clear hm
    go_wp2_with fail
    go_ret
    exact ⟨rfl, K3.out.1⟩
  by_cases hv2 : v ≤ 1099511627776
  case neg =>
    clear hm
    go_wp2_with fail
    go_ret
    exact ⟨rfl, K3.out.1⟩
  by_cases hl : 0 ≤ loss
  case neg =>
    clear hm
    go_wp2_with fail
    go_ret
    exact ⟨rfl, K3.out.1⟩
  by_cases hr : 0 ≤ more
  case neg =>
    clear hm
    go_wp2_with fail
    go_ret
    exact ⟨rfl, K3.out.1⟩
  by_cases hl2 : loss ≤ 549755813888
  case neg =>
    clear hm
    go_wp2_with fail
    go_ret
    exact ⟨rfl, K3.out.1⟩
  by_cases hr2 : more ≤ 549755813888
  case neg =>
    clear hm
    go_wp2_with fail
    go_ret
    exact ⟨rfl, K3.out.1⟩
  by_cases ho : 0 ≤ own
  case neg =>
    clear hm
    go_wp2_with fail
    go_ret
    exact ⟨rfl, K3.out.1⟩
  by_cases ho2 : own ≤ p.sum - p.own
  case neg =>
    clear hm
    go_wp2_with fail
    go_ret
    exact ⟨rfl, K3.out.1⟩
  obtain ⟨x1, x2⟩ := pay_ok hm hv hv2 hl (show loss ≤ 1099511627776 by omega)
  obtain ⟨y1, y2⟩ := pay_ok hm hv hv2 (show 0 ≤ loss + more by omega) (show loss + more ≤ 1099511627776 by omega)
  obtain ⟨z1, z2⟩ := pay_ok (may_with hm (show 0 ≤ p.own + own ∧ p.own + own ≤ p.sum by omega) (show 1 ≤ p.share ∧ p.share ≤ 1000 from (mayP_all.1 hm).2.2.2.2.2.2.2.1)) hv hv2 hl (show loss ≤ 1099511627776 by omega)
  obtain ⟨t1, t2⟩ := pay_ok (may_with hm (show (0 : Int) ≤ 0 ∧ 0 ≤ p.sum by omega) (show (1 : Int) ≤ 1000 ∧ (1000 : Int) ≤ 1000 by omega)) hv hv2 hl (show loss ≤ 1099511627776 by omega)
  have up := more_up (v := v) hm hv hl hr
  have down := own_down (loss := loss) (v := v) hm ho
  have HW : Hid (v ≤ p.sum → paysI (p.with2 0 1000) loss v = lossI loss v) := fun h => whole_pays h hv hl
  have HX := Lib.hid fun w hc => pays_any p HP.out A n c w hc loss v
  have HY := Lib.hid fun w hc => pays_any p HP.out A n c w hc (loss + more) v
  have HZ := Lib.hid fun w hc => pays_any (p.with2 (p.own + own) p.share) HP.out A n c w hc loss v
  have HT := Lib.hid fun w hc => pays_any (p.with2 0 1000) HP.out A n c w hc loss v
  rw [x1, x2] at HX
  rw [y1, y2] at HY
  rw [z1, z2] at HZ
  rw [t1, t2] at HT
  clear x1 x2 y1 y2 z1 z2 t1 t2 hm
  generalize paysI p loss v = P1 at *
  generalize paysI p (loss + more) v = P2 at *
  generalize paysI (p.with2 (p.own + own) p.share) loss v = P3 at *
  generalize paysI (p.with2 0 1000) loss v = P4 at *
  go_wp2_with fail
  refine (HX.out _ (K3.out.csat HC.out)).mono ?_
  rintro e w4 ⟨rfl, hb⟩
  have K4 := Lib.hid (K3.out.step hb)
  clear hb K3 c0 c1 c2 c3 c4 c5 c6 c7 c8
  obtain ⟨c0, c1, c2, c3, c4, c5, c6, c7, c8⟩ := K4.out.2.nine_
  go_wp2_with fail
  refine (HY.out _ (K4.out.csat HC.out)).mono ?_
  rintro e w5 ⟨rfl, hb⟩
  have K5 := Lib.hid (K4.out.step hb)
  clear hb K4 c0 c1 c2 c3 c4 c5 c6 c7 c8
  obtain ⟨c0, c1, c2, c3, c4, c5, c6, c7, c8⟩ := K5.out.2.nine_
  have lb5 := K5.out.2.lt
  go_wp2_with fail
  have KA : Hid (Kp w (p.cells A n c) (w5.alloc (.cells ((p.with2 (p.own + own) p.share).cells A n c) 24))) := ⟨K5.out.1.alloc (by have := K5.out.1.size; omega) _, K5.out.2.alloc _⟩
  have BA : Hid (Blk (w5.alloc (.cells ((p.with2 (p.own + own) p.share).cells A n c) 24)) w5.heap.size 24 ((p.with2 (p.own + own) p.share).cells A n c)) := Blk.new w5 24 _
  refine (HZ.out _ (KA.out.csat HC.out)).mono ?_
  rintro e w6 ⟨rfl, hb⟩
  have K6 := Lib.hid (KA.out.step hb)
  have B6 := Lib.hid (BA.out.below hb BA.out.lt)
  clear hb K5 KA BA c0 c1 c2 c3 c4 c5 c6 c7 c8
  obtain ⟨c0, c1, c2, c3, c4, c5, c6, c7, c8⟩ := K6.out.2.nine_
  obtain ⟨d0, d1, d2, d3, d4, d5, d6, d7, d8⟩ := B6.out.nine_
  have f0 := B6.out.frozen 0
  have f1 := B6.out.frozen 1
  have f2 := B6.out.frozen 2
  have f3 := B6.out.frozen 3
  have f4 := B6.out.frozen 4
  have f5 := B6.out.frozen 5
  have f6 := B6.out.frozen 6
  have f7 := B6.out.frozen 7
  have f8 := B6.out.frozen 8
  have lb6 := B6.out.lt
  go_upto_region 12 with fail
  have lb5' := lb5
  clear lb6 HX HY HZ lb5
  go_upto_region 13 with fail
  have K7 := Lib.hid (kp_put K6.out lb5' (.string p.ins) (.string p.fr) (.string p.to_) (.int .i64 p.sum) (.int .i64 p.own) (.slice A n c) (.int .i64 p.first) (.int .i64 p.last) (.int .i64 p.share))
  have B7 := Lib.hid (blk_put B6.out (.string p.ins) (.string p.fr) (.string p.to_) (.int .i64 p.sum) (.int .i64 p.own) (.slice A n c) (.int .i64 p.first) (.int .i64 p.last) (.int .i64 p.share))
  clear c0 c1 c2 c3 c4 c5 c6 c7 c8 d0 d1 d2 d3 d4 d5 d6 d7 d8 f0 f1 f2 f3 f4 f5 f6 f7 f8 K6 B6
  generalize (((((((((w6.setCell ⟨w5.heap.size, 0, none⟩ (.string p.ins)).setCell ⟨w5.heap.size, 1, none⟩ (.string p.fr)).setCell ⟨w5.heap.size, 2, none⟩ (.string p.to_)).setCell ⟨w5.heap.size, 3, none⟩ (.int .i64 p.sum)).setCell ⟨w5.heap.size, 4, none⟩ (.int .i64 p.own)).setCell ⟨w5.heap.size, 5, none⟩ (.slice A n c)).setCell ⟨w5.heap.size, 6, none⟩ (.int .i64 p.first)).setCell ⟨w5.heap.size, 7, none⟩ (.int .i64 p.last)).setCell ⟨w5.heap.size, 8, none⟩ (.int .i64 p.share)) = w7 at *
  have f4 := B7.out.frozen 4
  have f8 := B7.out.frozen 8
  obtain ⟨d0, d1, d2, d3, d4, d5, d6, d7, d8⟩ := B7.out.nine_
  go_upto_region 14 with fail
  have K8 : Hid (Kp w (p.cells A n c) ((w7.setCell ⟨w5.heap.size, 4, none⟩ (.int .i64 0)).setCell ⟨w5.heap.size, 8, none⟩ (.int .i64 1000))) := (K7.out.far lb5' 4 _).far lb5' 8 _
  have B8 : Hid (Blk ((w7.setCell ⟨w5.heap.size, 4, none⟩ (.int .i64 0)).setCell ⟨w5.heap.size, 8, none⟩ (.int .i64 1000)) w5.heap.size 24 ((p.with2 0 1000).cells A n c)) := (B7.out.set_ 4 _).set_ 8 _
  clear d0 d1 d2 d3 d4 d5 d6 d7 d8 f4 f8 K7 B7
  generalize ((w7.setCell ⟨w5.heap.size, 4, none⟩ (.int .i64 0)).setCell ⟨w5.heap.size, 8, none⟩ (.int .i64 1000)) = w8 at *
  obtain ⟨d0, d1, d2, d3, d4, d5, d6, d7, d8⟩ := B8.out.nine_
  go_wp2_with fail
  refine (HT.out _ (K8.out.csat HC.out)).mono ?_
  rintro e w9 ⟨rfl, hb⟩
  have K9 := Lib.hid (K8.out.step hb)
  clear hb K8 B8 d0 d1 d2 d3 d4 d5 d6 d7 d8
  obtain ⟨c0, c1, c2, c3, c4, c5, c6, c7, c8⟩ := K9.out.2.nine_
  rcases (show p.sum < v ∨ v ≤ p.sum by omega) with hs | hs
  · go_wp2_with fail
    go_ret
    exact ⟨rfl, K9.out.1⟩
  · have e4 := HW.out hs
    unfold lossI at e4
    rcases (show loss ≤ v ∨ v < loss by omega) with hlv | hlv
    · rw [if_pos hlv] at e4
      subst e4
      have hmin : min P4 v = P4 := by omega
      go_wp2_with fail
      go_ret
      exact ⟨rfl, K9.out.1⟩
    · rw [if_neg (by omega)] at e4
      subst e4
      have hmin : min loss P4 = P4 := by omega
      have hlv' : P4 ≤ loss := by omega
      go_wp2_with fail
      go_ret
      exact ⟨rfl, K9.out.1⟩
end Go.Proofs.Ytlmgkkdjjoimnaa
