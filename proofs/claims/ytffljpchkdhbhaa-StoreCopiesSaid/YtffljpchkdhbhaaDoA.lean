/- A call of both stores, kind by kind. Condition: how both lie, apart. -/
import Derived.Test.YtffljpchkdhbhaaDo
namespace Go.Proofs.Ytffljpchkdhbhaa
open Go.RowKit
set_option linter.unusedVariables false
set_option linter.unusedSimpArgs false

theorem Reads.less {w : World} {B n m : Nat} {R : Option Addr} {xs ys : List Value} (h : Reads w B 1 R n xs) (hm : ys.length = m) (hp : ys <+: xs) : Reads w B 1 R m ys := by
  have hx := h.1
  have hl := hp.length_le
  refine ⟨by omega, fun hm0 => ?_⟩
  obtain ⟨ad, e, hb, hc⟩ := h.2 (by omega)
  refine ⟨ad, e, hb, fun j u hu => hc j u ?_⟩
  obtain ⟨t, rfl⟩ := hp
  rw [List.getElem?_append_left (List.getElem?_eq_some_iff.1 hu).1]
  exact hu
theorem Rf.less {w : World} {g : Nat} {A R : Option Addr} {c : Nat} {σ σ' : SS} (h : Rf w g A R c σ) (hp : σ'.l <+: σ.l) : Rf w g A R c σ' :=
  ⟨h.1.less (by simp [strs]) (hp.map _), Nat.le_trans hp.length_le h.2.1, h.2.2⟩
theorem sync_pre (σ : SS) : σ.sync.l = σ.l := by
  unfold SS.sync SS.tick SS.fuseDown
  repeat' split
  all_goals rfl
set_option maxRecDepth 100000 in
set_option maxHeartbeats 2000000 in
theorem do_sync (g : Nat) (σ : SS) (hok : σ.ok) (A : Option Addr) (w : World) (B : Nat) (hSt : St w B g A σ) (R : Option Addr) (c : Nat) (hR : Rf w g A R c σ) (n : Int) (hn : n ≤ 9223372036854775807) (s : ByteArray) :
    Calls Try.prog 20 #[.pointer (some ⟨g, 0, none⟩), σ.ref R c, .agg #[.int .i64 1, .int .i64 n, .string s]] w (Did B g A R w) := by
  obtain ⟨w3, hw3⟩ : ∃ w3, w3 = ((w.alloc (.cells #[.slice R σ.l.length c, .int .i64 σ.last, .int .i64 σ.fuse, .bool σ.down] 42)).alloc (.cells #[.int .i64 1, .int .i64 n, .string s] 47)).alloc (.cells #[.slice none 0 0, .int .i64 0, .int .i64 0, .bool false] 42) := ⟨_, rfl⟩
  have HW := Lib.hid hw3
  have hSt3 := Lib.hid (hSt.below (three hw3).2.2.2.1)
  obtain ⟨u1, u2, u3, _, _⟩ := three hw3
  obtain ⟨v0, v1, v2⟩ := u2.three_
  have qc : (σ.scode == σ.scode) = true := by simp
  clear hw3 u1 u3
  have HSt := Lib.hid hSt
  have HR := Lib.hid hR
  have HN := Lib.hid hn
  clear hSt hR hn
  simp only [SS.ref, SS.cells]
  go_enter Try.func20, Try.ntmps20
  go_wp2_with fail
  rw [← HW.out]
  refine (sync_any g σ hok A w3 B hSt3.out).mono ?_
  rintro e w4 ⟨rfl, A', hSt4, hC4, hF4⟩
  obtain ⟨b1, b2, b3, hC, hF, hR4, hno, hnr, hs4⟩ := arm_facts HW.out HSt.out HR.out ⟨hSt4, hC4, hF4⟩
  obtain ⟨c0, c1, c2, c3, f0, f1, f2, f3⟩ := b1.four
  obtain ⟨o0, o1, o2⟩ := b2.three_
  have b3' := Lib.hid b3
  have HC := Lib.hid hC
  have HF := Lib.hid hF
  have HR4 := Lib.hid hR4
  have HSt4 := Lib.hid hSt4
  have HNO := Lib.hid hno
  have HNR := Lib.hid hnr
  have HS4 := Lib.hid hs4
  have HOK := Lib.hid (sync_ok hok : (σ.sync).ok)
  clear HW u2 v0 v1 v2 hC4 hF4 b1 b2 b3 hC hF hR4 hSt4 hno hnr hSt3
  go_wp2_with fail
  refine (rsync_any σ hok R c w4).mono ?_
  rintro e w5 ⟨rfl, hb5⟩
  obtain ⟨σ', hσ⟩ : ∃ σ', σ' = σ.sync := ⟨_, rfl⟩
  rw [← hσ] at HSt4 HOK ⊢
  have hl : σ'.l.length ≤ σ.l.length := by rw [hσ]; rw [sync_pre]; exact Nat.le_refl _
  have hp : σ'.l <+: σ.l := by rw [hσ]; rw [sync_pre]; exact List.prefix_refl _
  have HR5 := Lib.hid ((HR4.out.less hp).below hb5)
  have HSt5 := Lib.hid (HSt4.out.below hb5)
  have HC5 := Lib.hid (HC.out.trans (Chg.of_below hb5))
  obtain ⟨d0, d1, d2, d3, g0, g1, g2, g3⟩ := (b3'.out.below hb5 b3'.out.lt).four
  have hs5 : w.heap.size + 3 ≤ w5.heap.size := Nat.le_trans HS4.out hb5.size
  have hs6 : w.heap.size + 1 + 1 < w5.heap.size := by omega
  have hs7 : w.heap.size + 1 + 1 ≠ w5.heap.size := by omega
  clear hb5 HR4 HSt4 HC b3' hσ hl hp c0 c1 c2 c3 f0 f1 f2 f3 o0 o1 o2
  simp only [SS.ref, SS.cells]
  go_wp2_with fail
  refine bodyPost_ret (v := .tuple #[.agg #[.slice R σ'.l.length c, .int .i64 σ'.last, .int .i64 σ'.fuse, .bool σ'.down], .bool true]) (by simp [results, Try.results20, go_sem, d0, d1, d2, d3, hs6, hs7]) rfl ?_
  exact did_end HOK.out HSt5.out HC5.out HF.out HR5.out (.inl rfl) (by omega) HNO.out HNR.out (by repeat' (first | with_reducible exact Chg.refl _ _ | with_reducible refine Chg.setCell ?_ ?_ _ | with_reducible refine Chg.alloc ?_ _ | exact Or.inl rfl))
set_option maxRecDepth 100000 in
set_option maxHeartbeats 2000000 in
theorem do_crash (g : Nat) (σ : SS) (hok : σ.ok) (A : Option Addr) (w : World) (B : Nat) (hSt : St w B g A σ) (R : Option Addr) (c : Nat) (hR : Rf w g A R c σ) (n : Int) (hn : n ≤ 9223372036854775807) (s : ByteArray) :
    Calls Try.prog 20 #[.pointer (some ⟨g, 0, none⟩), σ.ref R c, .agg #[.int .i64 2, .int .i64 n, .string s]] w (Did B g A R w) := by
  obtain ⟨w3, hw3⟩ : ∃ w3, w3 = ((w.alloc (.cells #[.slice R σ.l.length c, .int .i64 σ.last, .int .i64 σ.fuse, .bool σ.down] 42)).alloc (.cells #[.int .i64 2, .int .i64 n, .string s] 47)).alloc (.cells #[.slice none 0 0, .int .i64 0, .int .i64 0, .bool false] 42) := ⟨_, rfl⟩
  have HW := Lib.hid hw3
  have hSt3 := Lib.hid (hSt.below (three hw3).2.2.2.1)
  obtain ⟨u1, u2, u3, _, _⟩ := three hw3
  obtain ⟨v0, v1, v2⟩ := u2.three_
  clear hw3 u1 u3
  have HSt := Lib.hid hSt
  have HR := Lib.hid hR
  have HN := Lib.hid hn
  clear hSt hR hn
  simp only [SS.ref, SS.cells]
  go_enter Try.func20, Try.ntmps20
  go_wp2_with fail
  rw [← HW.out]
  refine (crash_all g σ hok A w3 B hSt3.out n).mono ?_
  rintro e w4 ⟨rfl, A', hSt4, hC4, hF4⟩
  obtain ⟨b1, b2, b3, hC, hF, hR4, hno, hnr, hs4⟩ := arm_facts HW.out HSt.out HR.out ⟨hSt4, hC4, hF4⟩
  obtain ⟨c0, c1, c2, c3, f0, f1, f2, f3⟩ := b1.four
  obtain ⟨o0, o1, o2⟩ := b2.three_
  have b3' := Lib.hid b3
  have HC := Lib.hid hC
  have HF := Lib.hid hF
  have HR4 := Lib.hid hR4
  have HSt4 := Lib.hid hSt4
  have HNO := Lib.hid hno
  have HNR := Lib.hid hnr
  have HS4 := Lib.hid hs4
  have HOK := Lib.hid (crash_ok hok n : (σ.crash n).ok)
  clear HW u2 v0 v1 v2 hC4 hF4 b1 b2 b3 hC hF hR4 hSt4 hno hnr hSt3
  go_wp2_with fail
  refine (rcrash_any σ hok R c HR4.out.2.1 n w4).mono ?_
  rintro e w5 ⟨rfl, hb5⟩
  obtain ⟨σ', hσ⟩ : ∃ σ', σ' = σ.crash n := ⟨_, rfl⟩
  rw [← hσ] at HSt4 HOK ⊢
  have hl : σ'.l.length ≤ σ.l.length := by rw [hσ]; exact (List.take_prefix _ _).length_le
  have hp : σ'.l <+: σ.l := by rw [hσ]; exact List.take_prefix _ _
  have HR5 := Lib.hid ((HR4.out.less hp).below hb5)
  have HSt5 := Lib.hid (HSt4.out.below hb5)
  have HC5 := Lib.hid (HC.out.trans (Chg.of_below hb5))
  obtain ⟨d0, d1, d2, d3, g0, g1, g2, g3⟩ := (b3'.out.below hb5 b3'.out.lt).four
  have hs5 : w.heap.size + 3 ≤ w5.heap.size := Nat.le_trans HS4.out hb5.size
  have hs6 : w.heap.size + 1 + 1 < w5.heap.size := by omega
  have hs7 : w.heap.size + 1 + 1 ≠ w5.heap.size := by omega
  clear hb5 HR4 HSt4 HC b3' hσ hl hp c0 c1 c2 c3 f0 f1 f2 f3 o0 o1 o2
  simp only [SS.ref, SS.cells]
  go_wp2_with fail
  refine bodyPost_ret (v := .tuple #[.agg #[.slice R σ'.l.length c, .int .i64 σ'.last, .int .i64 σ'.fuse, .bool σ'.down], .bool true]) (by simp [results, Try.results20, go_sem, d0, d1, d2, d3, hs6, hs7]) rfl ?_
  exact did_end HOK.out HSt5.out HC5.out HF.out HR5.out (.inl rfl) (by omega) HNO.out HNR.out (by repeat' (first | with_reducible exact Chg.refl _ _ | with_reducible refine Chg.setCell ?_ ?_ _ | with_reducible refine Chg.alloc ?_ _ | exact Or.inl rfl))
set_option maxRecDepth 100000 in
set_option maxHeartbeats 2000000 in
theorem do_arm (g : Nat) (σ : SS) (hok : σ.ok) (A : Option Addr) (w : World) (B : Nat) (hSt : St w B g A σ) (R : Option Addr) (c : Nat) (hR : Rf w g A R c σ) (n : Int) (hn : n ≤ 9223372036854775807) (s : ByteArray) :
    Calls Try.prog 20 #[.pointer (some ⟨g, 0, none⟩), σ.ref R c, .agg #[.int .i64 3, .int .i64 n, .string s]] w (Did B g A R w) := by
  obtain ⟨w3, hw3⟩ : ∃ w3, w3 = ((w.alloc (.cells #[.slice R σ.l.length c, .int .i64 σ.last, .int .i64 σ.fuse, .bool σ.down] 42)).alloc (.cells #[.int .i64 3, .int .i64 n, .string s] 47)).alloc (.cells #[.slice none 0 0, .int .i64 0, .int .i64 0, .bool false] 42) := ⟨_, rfl⟩
  have HW := Lib.hid hw3
  have hSt3 := Lib.hid (hSt.below (three hw3).2.2.2.1)
  obtain ⟨u1, u2, u3, _, _⟩ := three hw3
  obtain ⟨v0, v1, v2⟩ := u2.three_
  clear hw3 u1 u3
  have HSt := Lib.hid hSt
  have HR := Lib.hid hR
  have HN := Lib.hid hn
  clear hSt hR hn
  simp only [SS.ref, SS.cells]
  go_enter Try.func20, Try.ntmps20
  go_wp2_with fail
  rw [← HW.out]
  refine (arm_any g σ A w3 B hSt3.out n).mono ?_
  rintro e w4 ⟨rfl, A', hSt4, hC4, hF4⟩
  obtain ⟨b1, b2, b3, hC, hF, hR4, hno, hnr, hs4⟩ := arm_facts HW.out HSt.out HR.out ⟨hSt4, hC4, hF4⟩
  obtain ⟨c0, c1, c2, c3, f0, f1, f2, f3⟩ := b1.four
  obtain ⟨o0, o1, o2⟩ := b2.three_
  have b3' := Lib.hid b3
  have HC := Lib.hid hC
  have HF := Lib.hid hF
  have HR4 := Lib.hid hR4
  have HSt4 := Lib.hid hSt4
  have HNO := Lib.hid hno
  have HNR := Lib.hid hnr
  have HS4 := Lib.hid hs4
  have HOK := Lib.hid (arm_ok hok n HN.out : (σ.arm n).ok)
  clear HW u2 v0 v1 v2 hC4 hF4 b1 b2 b3 hC hF hR4 hSt4 hno hnr hSt3
  go_wp2_with fail
  refine (rarm_any σ R c w4 n).mono ?_
  rintro e w5 ⟨rfl, hb5⟩
  obtain ⟨σ', hσ⟩ : ∃ σ', σ' = σ.arm n := ⟨_, rfl⟩
  rw [← hσ] at HSt4 HOK ⊢
  have hl : σ'.l.length ≤ σ.l.length := by rw [hσ]; exact Nat.le_refl _
  have hp : σ'.l <+: σ.l := by rw [hσ]; exact List.prefix_refl _
  have HR5 := Lib.hid ((HR4.out.less hp).below hb5)
  have HSt5 := Lib.hid (HSt4.out.below hb5)
  have HC5 := Lib.hid (HC.out.trans (Chg.of_below hb5))
  obtain ⟨d0, d1, d2, d3, g0, g1, g2, g3⟩ := (b3'.out.below hb5 b3'.out.lt).four
  have hs5 : w.heap.size + 3 ≤ w5.heap.size := Nat.le_trans HS4.out hb5.size
  have hs6 : w.heap.size + 1 + 1 < w5.heap.size := by omega
  have hs7 : w.heap.size + 1 + 1 ≠ w5.heap.size := by omega
  clear hb5 HR4 HSt4 HC b3' hσ hl hp c0 c1 c2 c3 f0 f1 f2 f3 o0 o1 o2
  simp only [SS.ref, SS.cells]
  go_wp2_with fail
  refine bodyPost_ret (v := .tuple #[.agg #[.slice R σ'.l.length c, .int .i64 σ'.last, .int .i64 σ'.fuse, .bool σ'.down], .bool true]) (by simp [results, Try.results20, go_sem, d0, d1, d2, d3, hs6, hs7]) rfl ?_
  exact did_end HOK.out HSt5.out HC5.out HF.out HR5.out (.inl rfl) (by omega) HNO.out HNR.out (by repeat' (first | with_reducible exact Chg.refl _ _ | with_reducible refine Chg.setCell ?_ ?_ _ | with_reducible refine Chg.alloc ?_ _ | exact Or.inl rfl))
theorem rf_new {w w4 w5 : World} {B g : Nat} {A' R R' : Option Addr} {c c' : Nat} {σ σ' : SS} (hSt4 : St w4 B g A' σ') (hR4 : Rf w4 g A' R c σ) (hb5 : Below w4.heap.size w4 w5) (hr5 : Reads w5 w5.heap.size 1 R' σ'.l.length (strs σ'.l)) (hle : σ'.l.length ≤ c')
    (hRR : R' = R ∨ ∀ k, blockOf R' k → w4.heap.size ≤ k ∧ k < w5.heap.size) (hs : w.heap.size + 3 ≤ w4.heap.size) (hnr : ¬ blockOf R (w.heap.size + 1 + 1)) :
    Rf w5 g A' R' c' σ' ∧ (R' = R ∨ ∀ k, blockOf R' k → w.heap.size ≤ k) ∧ ¬ blockOf R' (w.heap.size + 1 + 1) := by
  have hlt : ∀ k, Own g A' k → k < w4.heap.size := by
    rintro k (rfl | hk)
    · exact hSt4.lt
    · exact (hSt4.2.choose_spec.2.lt hk).2
  refine ⟨⟨hr5, hle, fun k hk => ?_⟩, hRR.imp id fun h k hk => by have := (h k hk).1; omega, fun h => ?_⟩
  · rcases hRR with rfl | h
    · exact ⟨Nat.lt_of_lt_of_le (hR4.2.2 k hk).1 hb5.size, (hR4.2.2 k hk).2⟩
    · exact ⟨(h k hk).2, fun ho => by have := hlt k ho; have := (h k hk).1; omega⟩
  · rcases hRR with rfl | h'
    · exact hnr h
    · have := (h' _ h).1; omega
set_option maxRecDepth 100000 in
set_option maxHeartbeats 2000000 in
theorem do_write (g : Nat) (σ : SS) (hok : σ.ok) (A : Option Addr) (w : World) (B : Nat) (hSt : St w B g A σ) (R : Option Addr) (c : Nat) (hR : Rf w g A R c σ) (n : Int) (hn : n ≤ 9223372036854775807) (s : ByteArray) :
    Calls Try.prog 20 #[.pointer (some ⟨g, 0, none⟩), σ.ref R c, .agg #[.int .i64 0, .int .i64 n, .string s]] w (Did B g A R w) := by
  obtain ⟨w3, hw3⟩ : ∃ w3, w3 = ((w.alloc (.cells #[.slice R σ.l.length c, .int .i64 σ.last, .int .i64 σ.fuse, .bool σ.down] 42)).alloc (.cells #[.int .i64 0, .int .i64 n, .string s] 47)).alloc (.cells #[.slice none 0 0, .int .i64 0, .int .i64 0, .bool false] 42) := ⟨_, rfl⟩
  have HW := Lib.hid hw3
  have hSt3 := Lib.hid (hSt.below (three hw3).2.2.2.1)
  obtain ⟨u1, u2, u3, _, _⟩ := three hw3
  obtain ⟨v0, v1, v2⟩ := u2.three_
  have B_le := Lib.hid (Nat.le_trans hSt.1 (Nat.le_of_lt hSt3.out.lt))
  have qc : (σ.wcode s == σ.wcode s) = true := by simp
  clear hw3 u1 u3
  have HSt := Lib.hid hSt
  have HR := Lib.hid hR
  have HN := Lib.hid hn
  clear hSt hR hn
  simp only [SS.ref, SS.cells]
  go_enter Try.func20, Try.ntmps20
  go_wp2_with fail
  rw [← HW.out]
  refine (write_any g σ hok A w3 B hSt3.out B_le.out s).mono ?_
  rintro e w4 ⟨rfl, A', hSt4, hC4, hF4⟩
  obtain ⟨b1, b2, b3, hC, hF, hR4, hno, hnr, hs4⟩ := arm_facts HW.out HSt.out HR.out ⟨hSt4, hC4, hF4⟩
  obtain ⟨c0, c1, c2, c3, f0, f1, f2, f3⟩ := b1.four
  obtain ⟨o0, o1, o2⟩ := b2.three_
  have b3' := Lib.hid b3
  have HC := Lib.hid hC
  have HF := Lib.hid hF
  have HR4 := Lib.hid hR4
  have HSt4 := Lib.hid hSt4
  have HNO := Lib.hid hno
  have HNR := Lib.hid hnr
  have HS4 := Lib.hid hs4
  have HOK := Lib.hid (write_ok hok s : (σ.write s).ok)
  clear HW u2 v0 v1 v2 hC4 hF4 b1 b2 b3 hC hF hR4 hSt4 hno hnr hSt3
  go_wp2_with fail
  refine (rwrite_any σ hok R c HR4.out.2.1 s w4 HR4.out.1).mono ?_
  rintro e w5 ⟨R', c', rfl, hb5, hr5, hle5, hRR⟩
  obtain ⟨σ', hσ⟩ : ∃ σ', σ' = σ.write s := ⟨_, rfl⟩
  rw [← hσ] at HSt4 HOK hr5 hle5 ⊢
  have HR5 : Hid (Rf w5 g A' R' c' σ' ∧ (R' = R ∨ ∀ k, blockOf R' k → w.heap.size ≤ k) ∧ ¬ blockOf R' (w.heap.size + 1 + 1)) := rf_new HSt4.out HR4.out hb5 hr5 hle5 hRR HS4.out HNR.out
  have HSt5 := Lib.hid (HSt4.out.below hb5)
  have HC5 := Lib.hid (HC.out.trans (Chg.of_below hb5))
  obtain ⟨d0, d1, d2, d3, g0, g1, g2, g3⟩ := (b3'.out.below hb5 b3'.out.lt).four
  have hs5 : w.heap.size + 3 ≤ w5.heap.size := Nat.le_trans HS4.out hb5.size
  have hs6 : w.heap.size + 1 + 1 < w5.heap.size := by omega
  have hs7 : w.heap.size + 1 + 1 ≠ w5.heap.size := by omega
  clear hb5 HR4 HSt4 HC b3' hσ hr5 hle5 hRR c0 c1 c2 c3 f0 f1 f2 f3 o0 o1 o2
  simp only [SS.ref, SS.cells]
  go_wp2_with fail
  refine bodyPost_ret (v := .tuple #[.agg #[.slice R' σ'.l.length c', .int .i64 σ'.last, .int .i64 σ'.fuse, .bool σ'.down], .bool true]) (by simp [results, Try.results20, go_sem, d0, d1, d2, d3, hs6, hs7]) rfl ?_
  exact did_end HOK.out HSt5.out HC5.out HF.out HR5.out.1 HR5.out.2.1 (by omega) HNO.out HR5.out.2.2 (by repeat' (first | with_reducible exact Chg.refl _ _ | with_reducible refine Chg.setCell ?_ ?_ _ | with_reducible refine Chg.alloc ?_ _ | exact Or.inl rfl))
end Go.Proofs.Ytffljpchkdhbhaa

