/- The law's own helpers: does a store stand as the document's does; a call of both. Condition: how both lie. -/
import Derived.Test.YtffljpchkdhbhaaRefW
import Derived.Test.YtffljpchkdhbhaaOps
namespace Go.Proofs.Ytffljpchkdhbhaa
open Go.RowKit
set_option linter.unusedVariables false

theorem read_pair (σ : SS) (i : Int) : ∃ x c, σ.read i = .tuple #[.string x, .int .i64 c] := by
  unfold SS.read
  split
  · exact ⟨_, _, rfl⟩
  · split <;> exact ⟨_, _, rfl⟩
theorem St.drewN {w : World} {B g : Nat} {A : Option Addr} {σ : SS} (h : St w B g A σ) (n : Nat) : St (w.drewN n) B g A σ := h
set_option maxRecDepth 100000 in
set_option maxHeartbeats 1000000 in
theorem alike_any (g : Nat) (σ : SS) (hl : σ.l.length ≤ 4096) (A : Option Addr) (w : World) (B : Nat) (hSt : St w B g A σ) (R : Option Addr) (c : Nat) (hr : Reads w w.heap.size 1 R σ.l.length (strs σ.l)) :
    Calls Try.prog 21 #[.pointer (some ⟨g, 0, none⟩), σ.ref R c] w fun e w' => e = .returned (.bool true) ∧ Below w.heap.size w w' := by
  obtain ⟨w1, hw1⟩ : ∃ w1, w1 = w.alloc (.cells (σ.cells R c) 42) := ⟨_, rfl⟩
  have b1 : Blk w1 w.heap.size 42 #[.slice R σ.l.length c, .int .i64 σ.last, .int .i64 σ.fuse, .bool σ.down] := by rw [hw1]; exact Blk.new _ _ _
  obtain ⟨c0, c1, c2, c3, f0, f1, f2, f3⟩ := b1.four
  have hB1 : Below w.heap.size w w1 := by rw [hw1]; exact (Below.refl _ _).alloc (Nat.le_refl _) _
  have hSt1 := hSt.below hB1
  have hr1 := (hr.below hB1).more hB1.size
  have hlt1 := b1.lt
  have ql : ((σ.l.length : Int) == (σ.l.length : Int)) = true := by simp
  have qa : (σ.last == σ.last) = true := by simp
  have qd : (σ.down == σ.down) = true := by simp
  have HB1 := Lib.hid hB1
  clear hB1 hSt hr
  unfold SS.ref
  unfold SS.cells at hw1 ⊢
  have HW := Lib.hid hw1
  clear hw1
  go_enter Try.func21, Try.ntmps21
  iterate 6 go_step
  rw [← HW.out]
  clear HW
  go_wp2_with fail
  go_quiet (first | (go_at_call 16; exact (len_any g σ A _ B (hSt1.drewN _)).mono fun e w' h => ⟨h.1, _, h.2.symm⟩) | (go_at_call 14; exact (lasting_any g σ A _ B (hSt1.drewN _)).mono fun e w' h => ⟨h.1, _, h.2.symm⟩) | (go_at_call 23; exact (down_any g σ A _ B (hSt1.drewN _)).mono fun e w' h => ⟨h.1, _, h.2.symm⟩))
  go_wp2_with fail
  generalize hwq : w1.drewN _ = wq
  have hbq := Lib.hid (show Below w1.heap.size w1 wq by rw [← hwq]; exact below_drewN' (Below.refl _ _) _)
  clear hwq
  go_loopw [5, 6, 7, 8, 9] (fun i _ _ _ _ v => ∃ k : Nat, k ≤ σ.l.length ∧ i = .int .i64 k ∧ Below w1.heap.size w1 v) (fun i _ _ _ _ _ => σ.l.length - (intOf i).toNat)
  case atStart => exact ⟨0, by omega, rfl, hbq.out⟩
  case round =>
    obtain ⟨k, hk, rfl, hv⟩ := hrel
    have k0 := (hv.cell (p := ⟨w.heap.size, 0, none⟩) hlt1).trans c0
    have k1 := (hv.cell (p := ⟨w.heap.size, 1, none⟩) hlt1).trans c1
    have k2 := (hv.cell (p := ⟨w.heap.size, 2, none⟩) hlt1).trans c2
    have k3 := (hv.cell (p := ⟨w.heap.size, 3, none⟩) hlt1).trans c3
    by_cases hlt : k < σ.l.length
    · obtain ⟨x, cd, hrd⟩ := read_pair σ k
      have Rd := Lib.hid hrd
      have ss := str_same x
      have cc : (cd == cd) = true := by simp
      clear hrd
      have hSt2 := Lib.hid (hSt1.below hv)
      have hr2 := Lib.hid ((hr1.below hv).more hv.size)
      have HV := Lib.hid hv
      clear hv
      go_wp2_with fail
      refine (read_any g σ A _ B hSt2.out k).mono ?_
      rintro e w5 ⟨rfl, rfl⟩
      rw [Rd.out]
      go_wp2_with fail
      refine (rread_any σ R c _ hr2.out k).mono ?_
      rintro e w6 ⟨rfl, hb6⟩
      rw [Rd.out]
      have HV6 := Lib.hid (below_trans HV.out hb6)
      clear hb6 k0 k1 k2 k3
      go_wp2_with fail
      go_roundw
      case rel => exact ⟨k + 1, by omega, by go_num, HV6.out⟩
      case measure => simp [intOf]; omega
    · obtain rfl : k = σ.l.length := by omega
      have HV := Lib.hid hv
      clear hv
      go_wp2_with fail
      go_ret
      exact ⟨rfl, HB1.out.trans (HV.out.mono HB1.out.size)⟩
end Go.Proofs.Ytffljpchkdhbhaa
