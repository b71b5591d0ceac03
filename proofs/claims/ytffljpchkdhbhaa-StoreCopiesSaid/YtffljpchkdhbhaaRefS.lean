/- The document's Sync. Condition: none but the store's own numbers. -/
import Derived.Test.YtffljpchkdhbhaaRef
namespace Go.Proofs.Ytffljpchkdhbhaa
open Go.RowKit
/-- a struct of four cells stored whole -/
def put4 (w : World) (g : Nat) (a b c d : Value) : World := (((w.setCell ⟨g, 0, none⟩ a).setCell ⟨g, 1, none⟩ b).setCell ⟨g, 2, none⟩ c).setCell ⟨g, 3, none⟩ d
theorem Blk.put4 {w : World} {g : Nat} {t : TypeId} {a b c d : Value} (h : Blk w g t #[a, b, c, d]) (a' b' c' d' : Value) : Blk (put4 w g a' b' c' d') g t #[a', b', c', d'] := by
  have := (((h.set_ 0 a').set_ 1 b').set_ 2 c').set_ 3 d'
  simpa [Ytffljpchkdhbhaa.put4] using this
theorem Blk.put4_far {w : World} {g k : Nat} {t : TypeId} {cs : Array Value} (h : Blk w k t cs) (hk : k ≠ g) (a' b' c' d' : Value) : Blk (Ytffljpchkdhbhaa.put4 w g a' b' c' d') k t cs := by
  unfold Ytffljpchkdhbhaa.put4
  exact (((h.far (p := ⟨g, 0, none⟩) hk _).far (p := ⟨g, 1, none⟩) hk _).far (p := ⟨g, 2, none⟩) hk _).far (p := ⟨g, 3, none⟩) hk _
theorem below_put4 {B : Nat} {a w : World} (h : Below B a w) {g : Nat} (hg : B ≤ g) (x y z u : Value) : Below B a (put4 w g x y z u) := by
  unfold put4
  exact (((h.setCell (p := ⟨g, 0, none⟩) hg _).setCell (p := ⟨g, 1, none⟩) hg _).setCell (p := ⟨g, 2, none⟩) hg _).setCell (p := ⟨g, 3, none⟩) hg _
set_option maxRecDepth 100000 in
set_option maxHeartbeats 1000000 in
theorem rsync_up (l : List ByteArray) (la fu : Int) (R : Option Addr) (c : Nat) (w : World) (hf : fu ≠ 0) (hf' : fu ≤ 9223372036854775807) : Calls Try.prog 29 #[SS.ref ⟨l, la, fu, false⟩ R c] w fun e w' => e = .returned (.tuple #[(SS.sync ⟨l, la, fu, false⟩).ref R c, .int .i64 (SS.scode ⟨l, la, fu, false⟩)]) ∧ Below w.heap.size w w' := by
  have h := s_ok (σ := ⟨l, la, fu, false⟩) rfl hf
  rw [h.1, h.2]
  clear h
  obtain ⟨fu', ht⟩ : ∃ fu', SS.tick ⟨l, la, fu, false⟩ = ⟨l, la, fu', false⟩ := by unfold SS.tick; split <;> exact ⟨_, rfl⟩
  have HC := rcall_up ⟨l, la, fu, false⟩ R c
  rw [ht] at HC ⊢
  have HF := Lib.hid (show fu ≠ 0 from hf)
  have HG := Lib.hid hf'
  clear ht hf hf'
  simp only [SS.ref, SS.cells] at HC ⊢
  go_enter Try.func29, Try.ntmps29
  go_wp2_with fail
  refine (HC _ HF.out HG.out).mono ?_
  rintro e w1 ⟨rfl, hb⟩
  obtain ⟨b1, b2, hB⟩ := boxes hb
  obtain ⟨c0, c1, c2, c3, f0, f1, f2, f3⟩ := b1.four
  obtain ⟨d0, d1, d2, d3, g0, g1, g2, g3⟩ := b2.four
  obtain ⟨W2, hW2⟩ : ∃ W2, W2 = put4 w1 w.heap.size (.slice R l.length c) (.int .i64 la) (.int .i64 fu') (.bool false) := ⟨_, rfl⟩
  have B1 := b1.put4 (.slice R l.length c) (.int .i64 la) (.int .i64 fu') (.bool false)
  have B2 := b2.put4_far (show w.heap.size + 1 ≠ w.heap.size by omega) (.slice R l.length c) (.int .i64 la) (.int .i64 fu') (.bool false)
  have HB := Lib.hid (below_put4 hB (Nat.le_refl _) (.slice R l.length c) (.int .i64 la) (.int .i64 fu') (.bool false))
  rw [← hW2] at B1 B2 HB
  unfold put4 at hW2
  have HW := Lib.hid hW2
  clear hb HC b1 b2 hB hW2
  simp only []
  iterate 20 go_step
  rw [← HW.out]
  clear HW c0 c1 c2 c3 f0 f1 f2 f3 d0 d1 d2 d3 g0 g1 g2 g3
  obtain ⟨c0, c1, c2, c3, f0, f1, f2, f3⟩ := B1.four
  obtain ⟨d0, d1, d2, d3, g0, g1, g2, g3⟩ := B2.four
  clear B1 B2
  go_wp2_with fail
  refine bodyPost_ret (v := .tuple #[.agg #[.slice R l.length c, .int .i64 l.length, .int .i64 fu', .bool false], .int .i64 0]) (by simp [results, Try.results29, go_sem, d0, d1, d2, d3]) rfl ⟨rfl, ?_⟩
  have hb := HB.out
  repeat (with_reducible refine Below.setCell ?_ (show _ ≤ _ by first | exact Nat.le_refl _ | exact Nat.le_succ _) _)
  exact hb
set_option maxRecDepth 100000 in
set_option maxHeartbeats 1000000 in
theorem rsync_zero (l : List ByteArray) (la fu : Int) (R : Option Addr) (c : Nat) (w : World) (hf : fu = 0) : Calls Try.prog 29 #[SS.ref ⟨l, la, fu, false⟩ R c] w fun e w' => e = .returned (.tuple #[(SS.sync ⟨l, la, fu, false⟩).ref R c, .int .i64 (SS.scode ⟨l, la, fu, false⟩)]) ∧ Below w.heap.size w w' := by
  subst hf
  have h := s_blown (σ := ⟨l, la, 0, false⟩) rfl rfl
  rw [h.1, h.2]
  clear h
  have HC := rcall_zero ⟨l, la, 0, false⟩ R c
  simp only [SS.ref, SS.cells, SS.fuseDown] at HC ⊢
  go_enter Try.func29, Try.ntmps29
  go_wp2_with fail
  refine (HC _ trivial).mono ?_
  rintro e w1 ⟨rfl, hb⟩
  obtain ⟨b1, b2, hB⟩ := boxes hb
  obtain ⟨c0, c1, c2, c3, f0, f1, f2, f3⟩ := b1.four
  obtain ⟨d0, d1, d2, d3, g0, g1, g2, g3⟩ := b2.four
  have HB := Lib.hid hB
  clear hb HC b1 b2 hB
  go_wp2_with fail
  refine bodyPost_ret (v := .tuple #[.agg #[.slice R l.length c, .int .i64 la, .int .i64 0, .bool true], .int .i64 14]) (by simp [results, Try.results29, go_sem, d0, d1, d2, d3]) rfl ⟨rfl, ?_⟩
  have hb := HB.out
  repeat (with_reducible refine Below.setCell ?_ (show _ ≤ _ by first | exact Nat.le_refl _ | exact Nat.le_succ _) _)
  exact hb
set_option maxRecDepth 100000 in
set_option maxHeartbeats 1000000 in
theorem rsync_down (l : List ByteArray) (la fu : Int) (R : Option Addr) (c : Nat) (w : World) : Calls Try.prog 29 #[SS.ref ⟨l, la, fu, true⟩ R c] w fun e w' => e = .returned (.tuple #[(SS.sync ⟨l, la, fu, true⟩).ref R c, .int .i64 (SS.scode ⟨l, la, fu, true⟩)]) ∧ Below w.heap.size w w' := by
  have h := s_down (σ := ⟨l, la, fu, true⟩) rfl
  rw [h.1, h.2]
  simp only [SS.ref, SS.cells]
  go_enter Try.func29, Try.ntmps29
  go_wp2
  refine bodyPost_ret (v := .tuple #[.agg #[.slice R l.length c, .int .i64 la, .int .i64 fu, .bool true], .int .i64 14]) (by simp [results, Try.results29, go_sem]) rfl ⟨rfl, ?_⟩
  repeat' (first | with_reducible exact Below.refl _ _ | with_reducible assumption | with_reducible refine Below.drew ?_ | with_reducible refine Below.alloc ?_ ?_ _ | with_reducible refine Below.setCell ?_ ?_ _ | with_reducible exact Nat.le_refl _ | with_reducible exact Nat.le_succ _ | (simp; done) | (simp; omega))
theorem rsync_any (σ : SS) (hok : σ.ok) (R : Option Addr) (c : Nat) (w : World) : Calls Try.prog 29 #[σ.ref R c] w fun e w' => e = .returned (.tuple #[σ.sync.ref R c, .int .i64 σ.scode]) ∧ Below w.heap.size w w' := by
  obtain ⟨l, la, fu, dn⟩ := σ
  cases dn
  · by_cases hf : fu = 0
    · exact rsync_zero l la fu R c w hf
    · exact rsync_up l la fu R c w hf hok.2.2.2.2
  · exact rsync_down l la fu R c w
set_option maxRecDepth 100000 in
set_option maxHeartbeats 1000000 in
theorem rcrash_any (σ : SS) (hok : σ.ok) (R : Option Addr) (c : Nat) (hc : σ.l.length ≤ c) (k : Int) (w : World) : Calls Try.prog 30 #[σ.ref R c, .int .i64 k] w fun e w' => e = .returned ((σ.crash k).ref R c) ∧ Below w.heap.size w w' := by
  obtain ⟨kp1, kp2, kp3⟩ := keep_bd hok k
  obtain ⟨o1, o2, o3, _, _⟩ := hok
  obtain ⟨l, la, fu, dn⟩ := σ
  simp only at *
  obtain ⟨m, hm⟩ : ∃ m, m = SS.keep ⟨l, la, fu, dn⟩ k := ⟨_, rfl⟩
  rw [← hm] at kp1 kp2 kp3
  have hcr : SS.crash ⟨l, la, fu, dn⟩ k = ⟨l.take m, m, -1, false⟩ := by rw [hm]; rfl
  have hlen : (l.take m).length = m := by rw [List.length_take]; omega
  rw [hcr]
  simp only [SS.ref, SS.cells, hlen]
  clear hm hcr hlen
  have W1 : IntKind.i64.wrap ((l.length : Int) - la) = (l.length : Int) - la := IntWalk.i64_in _ (by omega)
  have M0 : (0 : Int) ≤ (m : Int) := by omega
  have M1 : (m : Int) ≤ (c : Int) := by omega
  have M2 : m ≤ c := by omega
  rcases (show (k < 0) ∨ (0 ≤ k ∧ k ≤ l.length - la) ∨ (0 ≤ k ∧ l.length - la < k) by omega) with h | ⟨h, h'⟩ | ⟨h, h'⟩
  · have W2 : IntKind.i64.wrap la = (m : Int) := by rw [show la = (m : Int) by omega]; exact IntWalk.i64_in _ (by omega)
    have W3 : la = (m : Int) := by omega
    have h0 : 0 ≤ (l.length : Int) - la := by omega
    clear kp3 kp2
    go_enter Try.func30, Try.ntmps30
    go_wp2
    refine bodyPost_ret (v := .agg #[.slice R m c, .int .i64 m, .int .i64 (-1), .bool false]) (by simp [results, Try.results30, go_sem]) rfl ⟨rfl, ?_⟩
    repeat' (first | with_reducible exact Below.refl _ _ | with_reducible assumption | with_reducible refine Below.drew ?_ | with_reducible refine Below.alloc ?_ ?_ _ | with_reducible refine Below.setCell ?_ ?_ _ | with_reducible exact Nat.le_refl _ | with_reducible exact Nat.le_succ _ | (simp; done) | (simp; omega))
  · have W2 : IntKind.i64.wrap (la + k) = (m : Int) := by rw [show la + k = (m : Int) by omega]; exact IntWalk.i64_in _ (by omega)
    clear kp3 kp2
    go_enter Try.func30, Try.ntmps30
    go_wp2
    refine bodyPost_ret (v := .agg #[.slice R m c, .int .i64 m, .int .i64 (-1), .bool false]) (by simp [results, Try.results30, go_sem]) rfl ⟨rfl, ?_⟩
    repeat' (first | with_reducible exact Below.refl _ _ | with_reducible assumption | with_reducible refine Below.drew ?_ | with_reducible refine Below.alloc ?_ ?_ _ | with_reducible refine Below.setCell ?_ ?_ _ | with_reducible exact Nat.le_refl _ | with_reducible exact Nat.le_succ _ | (simp; done) | (simp; omega))
  · have W2 : IntKind.i64.wrap (la + ((l.length : Int) - la)) = (m : Int) := by rw [show la + ((l.length : Int) - la) = (m : Int) by omega]; exact IntWalk.i64_in _ (by omega)
    clear kp3 kp2
    go_enter Try.func30, Try.ntmps30
    go_wp2
    refine bodyPost_ret (v := .agg #[.slice R m c, .int .i64 m, .int .i64 (-1), .bool false]) (by simp [results, Try.results30, go_sem]) rfl ⟨rfl, ?_⟩
    repeat' (first | with_reducible exact Below.refl _ _ | with_reducible assumption | with_reducible refine Below.drew ?_ | with_reducible refine Below.alloc ?_ ?_ _ | with_reducible refine Below.setCell ?_ ?_ _ | with_reducible exact Nat.le_refl _ | with_reducible exact Nat.le_succ _ | (simp; done) | (simp; omega))
end Go.Proofs.Ytffljpchkdhbhaa
