/- A call of both stores: read, none; any kind. Condition: how both lie, apart. -/
import Derived.Test.YtffljpchkdhbhaaDoA
namespace Go.Proofs.Ytffljpchkdhbhaa
open Go.RowKit
set_option linter.unusedVariables false
set_option linter.unusedSimpArgs false

set_option maxRecDepth 100000 in
set_option maxHeartbeats 2000000 in
theorem do_read (g : Nat) (σ : SS) (hok : σ.ok) (A : Option Addr) (w : World) (B : Nat) (hSt : St w B g A σ) (R : Option Addr) (c : Nat) (hR : Rf w g A R c σ) (n : Int) (s : ByteArray) :
    Calls Try.prog 20 #[.pointer (some ⟨g, 0, none⟩), σ.ref R c, .agg #[.int .i64 4, .int .i64 n, .string s]] w (Did B g A R w) := by
  obtain ⟨w3, hw3⟩ : ∃ w3, w3 = ((w.alloc (.cells #[.slice R σ.l.length c, .int .i64 σ.last, .int .i64 σ.fuse, .bool σ.down] 42)).alloc (.cells #[.int .i64 4, .int .i64 n, .string s] 47)).alloc (.cells #[.slice none 0 0, .int .i64 0, .int .i64 0, .bool false] 42) := ⟨_, rfl⟩
  have HW := Lib.hid hw3
  have hSt3 := Lib.hid (hSt.below (three hw3).2.2.2.1)
  obtain ⟨b1, b2, b3, hC, hF, hR4, hno, hnr, hs4⟩ := arm_facts hw3 hSt hR ⟨hSt.below (three hw3).2.2.2.1, Chg.refl _ _, .inl rfl⟩
  obtain ⟨c0, c1, c2, c3, f0, f1, f2, f3⟩ := b1.four
  obtain ⟨v0, v1, v2⟩ := b2.three_
  obtain ⟨x, cd, hrd⟩ := read_pair σ n
  have Rd := Lib.hid hrd
  have ss := str_same x
  have cc : (cd == cd) = true := by simp
  have b1' := Lib.hid b1
  have b3' := Lib.hid b3
  have HC := Lib.hid hC
  have HR4 := Lib.hid hR4
  have HNO := Lib.hid hno
  have HNR := Lib.hid hnr
  have HS4 := Lib.hid hs4
  clear hw3 hSt hR b1 b2 b3 hC hF hR4 hno hnr hs4 hrd
  simp only [SS.ref, SS.cells]
  go_enter Try.func20, Try.ntmps20
  go_wp2_with fail
  rw [← HW.out]
  refine (read_any g σ A w3 B hSt3.out n).mono ?_
  rintro e w4 ⟨rfl, rfl⟩
  rw [Rd.out]
  clear HW
  go_wp2_with fail
  refine (rread_any σ R c w3 HR4.out.1 n).mono ?_
  rintro e w5 ⟨rfl, hb5⟩
  rw [Rd.out]
  have HR5 := Lib.hid (HR4.out.below hb5)
  have HSt5 := Lib.hid (hSt3.out.below hb5)
  have HC5 := Lib.hid (HC.out.trans (Chg.of_below hb5))
  obtain ⟨d0, d1, d2, d3, g0, g1, g2, g3⟩ := (b3'.out.below hb5 b3'.out.lt).four
  have B15 := b1'.out.below hb5 b1'.out.lt
  clear hb5 HR4 HC b3' b1' c0 c1 c2 c3 f0 f1 f2 f3 v0 v1 v2 hSt3 Rd
  obtain ⟨c0, c1, c2, c3, f0, f1, f2, f3⟩ := B15.four
  clear B15
  go_wp2_with fail
  refine bodyPost_ret (v := .tuple #[.agg #[.slice R σ.l.length c, .int .i64 σ.last, .int .i64 σ.fuse, .bool σ.down], .bool true]) (by simp [results, Try.results20, go_sem, d0, d1, d2, d3]) rfl ?_
  exact did_end hok HSt5.out HC5.out (.inl rfl) HR5.out (.inl rfl) (by omega) HNO.out HNR.out (by repeat' (first | with_reducible exact Chg.refl _ _ | with_reducible refine Chg.setCell ?_ ?_ _ | with_reducible refine Chg.alloc ?_ _ | exact Or.inl rfl))

set_option maxRecDepth 100000 in
set_option maxHeartbeats 2000000 in
theorem do_none (g : Nat) (σ : SS) (hok : σ.ok) (A : Option Addr) (w : World) (B : Nat) (hSt : St w B g A σ) (R : Option Addr) (c : Nat) (hR : Rf w g A R c σ) (k n : Int) (s : ByteArray) (hk : k < 0 ∨ 4 < k) :
    Calls Try.prog 20 #[.pointer (some ⟨g, 0, none⟩), σ.ref R c, .agg #[.int .i64 k, .int .i64 n, .string s]] w (Did B g A R w) := by
  have k0 : (k == 0) = false := by simp; omega
  have k1 : (k == 1) = false := by simp; omega
  have k2 : (k == 2) = false := by simp; omega
  have k3 : (k == 3) = false := by simp; omega
  have k4 : (k == 4) = false := by simp; omega
  obtain ⟨w3, hw3⟩ : ∃ w3, w3 = ((w.alloc (.cells #[.slice R σ.l.length c, .int .i64 σ.last, .int .i64 σ.fuse, .bool σ.down] 42)).alloc (.cells #[.int .i64 k, .int .i64 n, .string s] 47)).alloc (.cells #[.slice R σ.l.length c, .int .i64 σ.last, .int .i64 σ.fuse, .bool σ.down] 42) := ⟨_, rfl⟩
  have h0 := three hw3
  obtain ⟨b1, b2, b3, hC, hF, hR4, hno, hnr, hs4⟩ := arm_facts hw3 hSt hR ⟨hSt.below (three hw3).2.2.2.1, Chg.refl _ _, .inl rfl⟩
  have H : Did B g A R w (.returned (.tuple #[σ.ref R c, .bool true])) w3 := did_end hok (hSt.below (three hw3).2.2.2.1) hC (.inl rfl) hR4 (.inl rfl) (by omega) hno hnr (Chg.refl _ _)
  have HH := Lib.hid H
  clear H hC hF hR4 hno hnr hs4 hSt hR hk b1 b2 b3 h0
  have HW := Lib.hid hw3
  clear hw3
  simp only [SS.ref, SS.cells] at HH ⊢
  go_enter Try.func20, Try.ntmps20
  go_wp2_with fail
  refine bodyPost_ret (v := .tuple #[.agg #[.slice R σ.l.length c, .int .i64 σ.last, .int .i64 σ.fuse, .bool σ.down], .bool true]) (by simp [results, Try.results20, go_sem]) rfl ?_
  rw [← HW.out]
  exact HH.out
theorem do_any (g : Nat) (σ : SS) (hok : σ.ok) (A : Option Addr) (w : World) (B : Nat) (hSt : St w B g A σ) (R : Option Addr) (c : Nat) (hR : Rf w g A R c σ) (o : Call) (hn : o.num ≤ 9223372036854775807) :
    Calls Try.prog 20 #[.pointer (some ⟨g, 0, none⟩), σ.ref R c, .agg #[.int .i64 o.kind, .int .i64 o.num, .string o.text]] w (Did B g A R w) := by
  obtain ⟨k, n, s⟩ := o
  simp only at hn ⊢
  rcases (show k = 0 ∨ k = 1 ∨ k = 2 ∨ k = 3 ∨ k = 4 ∨ (k < 0 ∨ 4 < k) by omega) with rfl | rfl | rfl | rfl | rfl | hk
  · exact do_write g σ hok A w B hSt R c hR n hn s
  · exact do_sync g σ hok A w B hSt R c hR n hn s
  · exact do_crash g σ hok A w B hSt R c hR n hn s
  · exact do_arm g σ hok A w B hSt R c hR n hn s
  · exact do_read g σ hok A w B hSt R c hR n s
  · exact do_none g σ hok A w B hSt R c hR k n s hk

set_option maxHeartbeats 1000000 in
/-- are there few calls: some answer -/
theorem few_any (A : Option Addr) (n c : Nat) (os : List Call) (w : World) (hO : Ops w w.heap.size A n os) : Calls Try.prog 18 #[.slice A n c] w fun e w' => ∃ b, e = .returned (.bool b) ∧ (b = true → n ≤ 61) ∧ Below w.heap.size w w' := by
  go_enter Try.func18, Try.ntmps18
  go_wp2_with fail
  go_loopw [3] (fun i v => ∃ k : Nat, k ≤ n ∧ k ≤ 61 ∧ i = .int .i64 k ∧ ∃ d, v = w.drewN d) (fun i _ => n - (intOf i).toNat)
  case atStart => exact ⟨0, by omega, by omega, rfl, 0, rfl⟩
  case round =>
    obtain ⟨k, hk, hk61, rfl, d, rfl⟩ := hrel
    by_cases hlt : k < n
    · obtain ⟨o, ho⟩ : ∃ o, os[k]? = some o := ⟨_, List.getElem?_eq_getElem (by rw [hO.1]; exact hlt)⟩
      obtain ⟨a, rfl, hb, _, x0, x1, x2⟩ := hO.2 k o ho
      have y2 : w.cell? ⟨(a.add (k * 3)).block, (a.add (k * 3)).off + 2, none⟩ = some (.string o.text) := by
        have e : (a.add (k * 3)).add 2 = ⟨(a.add (k * 3)).block, (a.add (k * 3)).off + 2, none⟩ := by unfold Addr.add; split <;> simp_all
        rw [← e, add_of_add]
        exact x2
      clear ho
      by_cases q : 60 < k
      · have q' : (60 : Int) < k := by omega
        go_wp2_with fail
        go_ret
        exact ⟨_, rfl, by simp, below_drewN' (Below.refl _ _) _⟩
      · have q' : (k : Int) ≤ 60 := by omega
        by_cases hs : 200 < o.text.size
        · have hs' : (200 : Int) < o.text.size := by omega
          go_wp2_with fail
          go_ret
          exact ⟨_, rfl, by simp, below_drewN' (Below.refl _ _) _⟩
        · have hs' : (o.text.size : Int) ≤ 200 := by omega
          go_wp2_with fail
          go_roundw
          case rel => exact ⟨k + 1, by omega, by omega, by go_num, _, rfl⟩
          case measure => simp [intOf]; omega
    · obtain rfl : k = n := by omega
      go_wp2_with fail
      go_ret
      exact ⟨_, rfl, fun _ => hk61, below_drewN' (Below.refl _ _) _⟩
end Go.Proofs.Ytffljpchkdhbhaa
