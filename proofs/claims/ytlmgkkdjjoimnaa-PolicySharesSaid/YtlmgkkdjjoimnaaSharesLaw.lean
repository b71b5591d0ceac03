/- PolicyShares's walk. Condition: how the causes lie. -/
import Derived.Test.YtlmgkkdjjoimnaaPaysLaw
import Derived.Test.YtlmgkkdjjoimnaaMorePlain
import Derived.Deep.Cut
namespace Go.Proofs.Ytlmgkkdjjoimnaa
open Go.RowKit
set_option linter.unusedVariables false
set_option linter.unusedSimpArgs false

theorem pay_same {p : Pol} {s loss v : Int} (h0 : 1 ≤ s) (h1 : s ≤ 1000) : payB (p.with2 p.own s) loss v = payB (p.with2 p.own 1000) loss v := by
  unfold payB fineB
  rw [may_eq (t := 1000) ⟨h0, h1⟩ ⟨by omega, by omega⟩]
theorem shares_sum (p : Pol) (s loss v : Int) (h0 : 1 ≤ s) (h1 : s ≤ 999) : ∃ (B : Bool) (P0 Pa Pb : Int), payB (p.with2 p.own 1000) loss v = B ∧ payV (p.with2 p.own 1000) loss v = P0 ∧ payB (p.with2 p.own s) loss v = B ∧ payV (p.with2 p.own s) loss v = Pa ∧
    payB (p.with2 p.own (1000 - s)) loss v = B ∧ payV (p.with2 p.own (1000 - s)) loss v = Pb ∧
    ((B = false ∧ P0 = 0 ∧ Pa = 0 ∧ Pb = 0) ∨ (B = true ∧ 0 ≤ Pa ∧ Pa ≤ 1099511627776 ∧ 0 ≤ Pb ∧ Pb ≤ 1099511627776 ∧ 0 ≤ P0 ∧ P0 ≤ 1099511627776 ∧ Pa + Pb ≤ P0 ∧ P0 - 1 ≤ Pa + Pb)) := by
  refine ⟨_, _, _, _, rfl, rfl, pay_same h0 (by omega), rfl, pay_same (by omega) (by omega), rfl, ?_⟩
  have e1 := pay_same (p := p) (loss := loss) (v := v) h0 (show s ≤ 1000 by omega)
  have e2 := pay_same (p := p) (loss := loss) (v := v) (show 1 ≤ 1000 - s by omega) (show 1000 - s ≤ 1000 by omega)
  cases hB : payB (p.with2 p.own 1000) loss v
  · refine .inl ⟨rfl, ?_, ?_, ?_⟩
    · unfold payV; rw [hB]; rfl
    · unfold payV; rw [e1, hB]; rfl
    · unfold payV; rw [e2, hB]; rfl
  · have v0 : payV (p.with2 p.own 1000) loss v = paysI (p.with2 p.own 1000) loss v := by unfold payV; rw [hB]; rfl
    have v1 : payV (p.with2 p.own s) loss v = paysI (p.with2 p.own s) loss v := by unfold payV; rw [e1, hB]; rfl
    have v2 : payV (p.with2 p.own (1000 - s)) loss v = paysI (p.with2 p.own (1000 - s)) loss v := by unfold payV; rw [e2, hB]; rfl
    rw [v0, v1, v2]
    have ok : ∀ q : Pol, payB q loss v = true → 0 ≤ paysI q loss v ∧ paysI q loss v ≤ 1099511627776 := fun q h => by
      unfold payB at h
      simp only [Bool.and_eq_true] at h
      obtain ⟨a, b, c, d⟩ := pays_bd h.1 (inB_of h.2).1
      have := (inB_of h.2).2
      omega
    have a0 := ok _ hB
    have a1 := ok _ (e1.trans hB)
    have a2 := ok _ (e2.trans hB)
    have a3 := two_shares (p := p) (loss := loss) (v := v) h0 h1
    exact .inr ⟨rfl, a1.1, a1.2, a2.1, a2.2, a0.1, a0.2, a3.1, a3.2⟩
/-- the law's memory: three boxes -/
def K3 (w : World) (cs : Array Value) (g1 : Nat) (cs1 : Array Value) (g2 : Nat) (cs2 : Array Value) (v : World) : Prop := Kp w cs v ∧ Blk v g1 24 cs1 ∧ Blk v g2 24 cs2
theorem K3.step {w v v' : World} {cs cs1 cs2 : Array Value} {g1 g2 : Nat} (h : K3 w cs g1 cs1 g2 cs2 v) (hb : Below v.heap.size v v') : K3 w cs g1 cs1 g2 cs2 v' := ⟨h.1.step hb, h.2.1.below hb h.2.1.lt, h.2.2.below hb h.2.2.lt⟩
theorem K3.new {w v : World} {cs : Array Value} (h : Kp w cs v) (cs1 cs2 : Array Value) : K3 w cs v.heap.size cs1 (v.heap.size + 1) cs2 ((v.alloc (.cells cs1 24)).alloc (.cells cs2 24)).drew := by
  have h1 := h.1.size
  have b2 := Blk.new (v.alloc (.cells cs1 24)) 24 cs2
  rw [World.size_alloc] at b2
  exact ⟨⟨((h.1.alloc h1 _).alloc (by rw [World.size_alloc]; omega) _).drew, ((h.2.alloc _).alloc _).drew⟩, ((Blk.new v 24 cs1).alloc _).drew, b2.drew⟩
theorem K3.swap {w v : World} {cs cs1 cs2 : Array Value} {g1 g2 : Nat} (h : K3 w cs g1 cs1 g2 cs2 v) : K3 w cs g2 cs2 g1 cs1 v := ⟨h.1, h.2.2, h.2.1⟩
set_option maxRecDepth 100000 in
set_option maxHeartbeats 8000000 in
theorem sharesLaw_any (p : Pol) (hp : p.wf) (A : Option Addr) (n c : Nat) (s loss v : Int) (w : World) (hc : Cs w w.heap.size A n p.causes) :
    Calls Try.prog 5 #[polV p A n c, .int .i64 s, .int .i64 loss, .int .i64 v] w fun e w' => e = .returned (.bool true) ∧ Below w.heap.size w w' := by
  have K := Lib.hid (Kp.new w (p.cells A n c))
  have HC := Lib.hid hc
  have HP := Lib.hid hp
  clear hc hp
  unfold polV Pol.cells at *
  go_enter Try.func5, Try.ntmps5
  go_wp2_with fail
  refine (awake_any _).mono ?_
  rintro e w1 ⟨rfl, hb⟩
  have K1 := Lib.hid (K.out.step hb)
  obtain ⟨c0, c1, c2, c3, c4, c5, c6, c7, c8⟩ := K1.out.2.nine_
  clear hb K
  go_wp2_with fail
  refine (long_any p A n c w1).mono ?_
  rintro e w2 ⟨lg, rfl, hb⟩
  have K2 := Lib.hid (K1.out.step hb)
  clear hb K1 c0 c1 c2 c3 c4 c5 c6 c7 c8
  cases lg
  case true =>
    go_wp2_with fail
    go_ret
    exact ⟨rfl, K2.out.1⟩
  by_cases h1 : 1 ≤ s
  case neg =>
    go_wp2_with fail
    go_ret
    exact ⟨rfl, K2.out.1⟩
  by_cases h2 : s ≤ 999
  case neg =>
    go_wp2_with fail
    go_ret
    exact ⟨rfl, K2.out.1⟩
  have f8 := K2.out.2.frozen 8
  obtain ⟨c0, c1, c2, c3, c4, c5, c6, c7, c8⟩ := K2.out.2.nine_
  go_upto_region 6 with fail
  have K5 : Hid (Kp w ((p.with2 p.own 1000).cells A n c) (w2.setCell ⟨w.heap.size, 8, none⟩ (.int .i64 1000))) := ⟨K2.out.1.setCell (Nat.le_refl _) _, K2.out.2.set_ 8 _⟩
  clear c0 c1 c2 c3 c4 c5 c6 c7 c8 f8 K2
  generalize w2.setCell ⟨w.heap.size, 8, none⟩ (.int .i64 1000) = w5 at *
  obtain ⟨c0, c1, c2, c3, c4, c5, c6, c7, c8⟩ := K5.out.2.nine_
  have lb5 := K5.out.2.lt
  obtain ⟨B, P0, Pa, Pb, x1, x2, y1, y2, z1, z2, hS⟩ := shares_sum p s loss v h1 h2
  have HS := Lib.hid hS
  have HX := Lib.hid fun w hc => pays_any (p.with2 p.own 1000) HP.out A n c w hc loss v
  have HY := Lib.hid fun w hc => pays_any (p.with2 p.own s) HP.out A n c w hc loss v
  have HZ := Lib.hid fun w hc => pays_any (p.with2 p.own (1000 - s)) HP.out A n c w hc loss v
  rw [x1, x2] at HX
  rw [y1, y2] at HY
  rw [z1, z2] at HZ
  clear x1 x2 y1 y2 z1 z2 hS
  clear c0 c1 c2 c3 c4 c5 c6 c7 c8
  obtain ⟨c0, c1, c2, c3, c4, c5, c6, c7, c8⟩ := K5.out.2.nine_
  go_region
  all_goals go_wp2_with fail
  all_goals clear c0 c1 c2 c3 c4 c5 c6 c7 c8
  · have KK : Hid (K3 w ((p.with2 p.own 1000).cells A n c) w5.heap.size ((p.with2 p.own s).cells A n c) (w5.heap.size + 1) ((p.with2 p.own (1000 - s)).cells A n c) ((w5.alloc (.cells ((p.with2 p.own s).cells A n c) 24)).alloc (.cells ((p.with2 p.own (1000 - s)).cells A n c) 24)).drew) := K3.new K5.out ((p.with2 p.own s).cells A n c) ((p.with2 p.own (1000 - s)).cells A n c)
    refine (HX.out _ (KK.out.1.csat HC.out)).mono ?_
    rintro e w6 ⟨rfl, hb⟩
    have K6 := Lib.hid (KK.out.step hb)
    clear hb KK
    obtain ⟨c0, c1, c2, c3, c4, c5, c6, c7, c8⟩ := K6.out.2.1.nine_
    go_wp2_with fail
    refine (HY.out _ (K6.out.1.csat HC.out)).mono ?_
    rintro e w7 ⟨rfl, hb⟩
    have K7 := Lib.hid (K6.out.step hb)
    clear hb K6 c0 c1 c2 c3 c4 c5 c6 c7 c8
    obtain ⟨c0, c1, c2, c3, c4, c5, c6, c7, c8⟩ := K7.out.2.2.nine_
    go_wp2_with fail
    refine (HZ.out _ (K7.out.1.csat HC.out)).mono ?_
    rintro e w8 ⟨rfl, hb⟩
    have K8 := Lib.hid (K7.out.step hb)
    clear hb K7 c0 c1 c2 c3 c4 c5 c6 c7 c8
    rcases HS.out with ⟨rfl, rfl, rfl, rfl⟩ | ⟨rfl, p1, p2, p3, p4, p5, p6, p7, p8⟩
    · go_wp2_with fail
      go_ret
      exact ⟨rfl, K8.out.1.1⟩
    · go_wp2_with fail
      go_ret
      exact ⟨rfl, K8.out.1.1⟩
  · have KK : Hid (K3 w ((p.with2 p.own 1000).cells A n c) (w5.heap.size + 1) ((p.with2 p.own s).cells A n c) w5.heap.size ((p.with2 p.own (1000 - s)).cells A n c) ((w5.alloc (.cells ((p.with2 p.own (1000 - s)).cells A n c) 24)).alloc (.cells ((p.with2 p.own s).cells A n c) 24)).drew) := (K3.new K5.out ((p.with2 p.own (1000 - s)).cells A n c) ((p.with2 p.own s).cells A n c)).swap
    refine (HX.out _ (KK.out.1.csat HC.out)).mono ?_
    rintro e w6 ⟨rfl, hb⟩
    have K6 := Lib.hid (KK.out.step hb)
    clear hb KK
    obtain ⟨c0, c1, c2, c3, c4, c5, c6, c7, c8⟩ := K6.out.2.1.nine_
    go_wp2_with fail
    refine (HY.out _ (K6.out.1.csat HC.out)).mono ?_
    rintro e w7 ⟨rfl, hb⟩
    have K7 := Lib.hid (K6.out.step hb)
    clear hb K6 c0 c1 c2 c3 c4 c5 c6 c7 c8
    obtain ⟨c0, c1, c2, c3, c4, c5, c6, c7, c8⟩ := K7.out.2.2.nine_
    go_wp2_with fail
    refine (HZ.out _ (K7.out.1.csat HC.out)).mono ?_
    rintro e w8 ⟨rfl, hb⟩
    have K8 := Lib.hid (K7.out.step hb)
    clear hb K7 c0 c1 c2 c3 c4 c5 c6 c7 c8
    rcases HS.out with ⟨rfl, rfl, rfl, rfl⟩ | ⟨rfl, p1, p2, p3, p4, p5, p6, p7, p8⟩
    · go_wp2_with fail
      go_ret
      exact ⟨rfl, K8.out.1.1⟩
    · go_wp2_with fail
      go_ret
      exact ⟨rfl, K8.out.1.1⟩
end Go.Proofs.Ytlmgkkdjjoimnaa
