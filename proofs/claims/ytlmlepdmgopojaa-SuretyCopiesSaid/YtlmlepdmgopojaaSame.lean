/- The walk of same. Condition: how the surety and the reference lie; both hold the same. -/
import Derived.Test.YtlmlepdmgopojaaRefActs
import Derived.Test.YtlmlepdmgopojaaCopy
namespace Go.Proofs.Ytlmlepdmgopojaa
open Go.RowKit
set_option linter.unusedVariables false
set_option linter.unusedSimpArgs false
set_option maxRecDepth 100000 in
set_option maxHeartbeats 8000000 in
theorem same_any {w : World} {g : Nat} {s : Sur} {C : Option Addr} {c : Nat} {D : Option Addr} {d : Nat} (h : SA w g s C c D d) {D2 C2 : Option Addr} (d2 c2 : Nat) (hr : RefAt w s D2 C2) {K : Nat} (ok : s.ok K) (hK : K < 4096) (day : Int) :
    Calls Try.prog 20 #[.pointer (some ⟨g, 0, none⟩), refV s D2 d2 C2 c2, .int .i64 day] w fun e w' => e = .returned (.bool true) ∧ Below w.heap.size w w' := by
  have dl : s.dem.length < 4096 := by have := ok.dl; omega
  have B0 := Lib.hid (show Below w.heap.size w (w.alloc (.cells (s.rcells D2 d2 C2 c2) 52)) from (Below.refl _ _).alloc (Nat.le_refl _) _)
  have BB0 := Lib.hid (Blk.new w 52 (s.rcells D2 d2 C2 c2))
  have HSA := Lib.hid h
  have HR := Lib.hid hr
  have LD := Lib.hid fun v (hv : Below w.heap.size w v) => demands_any s g c d C D v (h.below hv) ok (by omega)
  have LF := Lib.hid fun v (hv : Below w.heap.size w v) (x : Int) => left_any s g c d C D v (h.below hv) ok (by omega) x
  have LR := Lib.hid fun v (hv : Below w.heap.size w v) (x : Int) => rleft_any s d2 c2 D2 C2 v (hr.up hv) ok (by omega) x
  have EF := Lib.hid fun v (hv : Below w.heap.size w v) (x : Int) => expired_any s g c d C D v (h.below hv) ok (by omega) x
  have ER := Lib.hid fun v (hv : Below w.heap.size w v) (x : Int) => rexpired_any s d2 c2 D2 C2 v (hr.up hv) ok (by omega) x
  generalize s.expired = exp_ at EF ER
  generalize s.left = left_ at LF LR
  clear h hr ok
  unfold refV at LR ER ⊢
  unfold Sur.rcells at B0 BB0 LR ER ⊢
  go_enter Try.func20, Try.ntmps20
  go_wp2_with fail
  refine (LD.out _ B0.out).mono ?_
  rintro e v2 ⟨A, c', rfl, hb2, hc2⟩
  have B2 := Lib.hid (below_trans B0.out hb2)
  have BB2 := Lib.hid (BB0.out.below hb2 BB0.out.lt)
  have HC2 := Lib.hid hc2
  have HR2 := Lib.hid (HR.out.up B2.out)
  have e8 : v2.cell? ⟨w.heap.size, 8, none⟩ = some (.slice D2 s.dem.length d2) := BB2.out.cell 8
  have dz : (drawn s.dem).length = s.dem.length := by simp [drawn]
  clear hb2 hc2 B0 BB0 LD
  go_wp2_with fail
  go_loopw [22] (fun i v => ∃ (k : Nat), k ≤ s.dem.length ∧ i = .int .i64 k ∧ Hid (Below v2.heap.size v2 v)) (fun i _ => s.dem.length - (intOf i).toNat)
  case atStart => exact ⟨0, Nat.zero_le _, rfl, Lib.hid (Below.refl _ _)⟩
  case round =>
    obtain ⟨k, hk, rfl, hb⟩ := hrel
    by_cases hlt : k < s.dem.length
    · obtain ⟨a, x, rfl, hx, hblk, c0, c1⟩ := (HC2.out.up hb.out).at_ (k := k) (by omega)
      obtain ⟨a2, y, rfl, hy, hblk2, k0, k1, k2⟩ := (HR2.out.up hb.out).rd.at_ hlt
      have hxy : x = ⟨y.day, y.amt⟩ := by
        simp [drawn, hy] at hx
        exact hx.symm
      subst hxy
      have u8 : wr.cell? ⟨w.heap.size, 8, none⟩ = some (.slice (some a2) s.dem.length d2) := (BB2.out.below hb.out BB2.out.lt).cell 8
      have lw : w.heap.size < wr.heap.size := (BB2.out.below hb.out BB2.out.lt).lt
      clear hx hy e8
      go_upto_region 7 with fail
      obtain ⟨w3, hw3⟩ : ∃ w3, w3 = wr.alloc (.cells #[.int .i64 y.day, .int .i64 y.amt] 48) := ⟨_, rfl⟩
      have hb3 := Lib.hid (show Below wr.heap.size wr w3 by rw [hw3]; exact (Below.refl _ _).alloc (Nat.le_refl _) _)
      have NB := Lib.hid (show Blk w3 wr.heap.size 48 #[.int .i64 y.day, .int .i64 y.amt] by rw [hw3]; exact Blk.new wr 48 _)
      rw [← hw3]
      have HB3 := Lib.hid (hb.out.trans (hb3.out.mono hb.out.size))
      have n0 : w3.cell? ⟨wr.heap.size, 0, none⟩ = some (.int .i64 y.day) := NB.out.cell 0
      have n1 : w3.cell? ⟨wr.heap.size, 1, none⟩ = some (.int .i64 y.amt) := NB.out.cell 1
      rw [← hb3.out.cell hblk2] at k0
      rw [← hb3.out.cell (p := ⟨(a2.add (k * 3)).block, (a2.add (k * 3)).off + 1, none⟩) hblk2] at k1
      rw [← hb3.out.cell (p := ⟨w.heap.size, 8, none⟩) lw] at u8
      clear hw3 c0 c1 k2
      refine region_Z (z := 99) (S := fun v => v.cell? ⟨wr.heap.size, 0, none⟩ = some (.int .i64 y.day) ∧ v.cell? ⟨wr.heap.size, 1, none⟩ = some (.int .i64 y.amt) ∧ v.cell? ⟨w.heap.size, 8, none⟩ = some (.slice (some a2) s.dem.length d2) ∧ v.cell? (a2.add (k * 3)) = some (.int .i64 y.day) ∧ v.cell? ⟨(a2.add (k * 3)).block, (a2.add (k * 3)).off + 1, none⟩ = some (.int .i64 y.amt)) (by kernel_rfl) ?_
      have hS0 := Lib.hid (show (fun v => v.cell? ⟨wr.heap.size, 0, none⟩ = some (.int .i64 y.day) ∧ v.cell? ⟨wr.heap.size, 1, none⟩ = some (.int .i64 y.amt) ∧ v.cell? ⟨w.heap.size, 8, none⟩ = some (.slice (some a2) s.dem.length d2) ∧ v.cell? (a2.add (k * 3)) = some (.int .i64 y.day) ∧ v.cell? ⟨(a2.add (k * 3)).block, (a2.add (k * 3)).off + 1, none⟩ = some (.int .i64 y.amt)) (w3).drew from ⟨n0, n1, u8, k0, k1⟩)
      show AnyZ _ _ _ _ _ _ 20 (List.replicate 20 false).toArray _ _
      first
        | refine AnyZ.takeD (i := 0) (some 27) (v := ?_) rfl (by rfl) (by kernel_rfl) (by kernel_rfl) (by kernel_rfl) (by kernel_rfl) (by kernel_rfl) (fun _ _ _ h => h) (by rfl) (fun v hv => ?_) hS0.out ?_
          rotate_left
          · obtain ⟨s0, s1, s2, s3, s4⟩ := hv
            go_simp
            try with_reducible rfl
        | refine AnyZ.skipD (i := 0) (some 27) rfl (by rfl) (by kernel_rfl) (by kernel_rfl) (by kernel_rfl) (by kernel_rfl) (by kernel_rfl) (fun _ _ _ h => h) (by rfl) hS0.out ?_
      try simp only [Act.put, List.setIfInBounds_toArray, List.set_cons_zero, List.set_cons_succ]
      first
        | refine AnyZ.takeD (i := 1) (some 28) (v := ?_) rfl (by rfl) (by kernel_rfl) (by kernel_rfl) (by kernel_rfl) (by kernel_rfl) (by kernel_rfl) (fun _ _ _ h => h) (by rfl) (fun v hv => ?_) hS0.out ?_
          rotate_left
          · obtain ⟨s0, s1, s2, s3, s4⟩ := hv
            go_simp
            try with_reducible rfl
        | refine AnyZ.skipD (i := 1) (some 28) rfl (by rfl) (by kernel_rfl) (by kernel_rfl) (by kernel_rfl) (by kernel_rfl) (by kernel_rfl) (fun _ _ _ h => h) (by rfl) hS0.out ?_
      try simp only [Act.put, List.setIfInBounds_toArray, List.set_cons_zero, List.set_cons_succ]
      first
        | refine AnyZ.takeD (i := 2) (some 29) (v := ?_) rfl (by rfl) (by kernel_rfl) (by kernel_rfl) (by kernel_rfl) (by kernel_rfl) (by kernel_rfl) (fun _ _ _ h => h) (by rfl) (fun v hv => ?_) hS0.out ?_
          rotate_left
          · obtain ⟨s0, s1, s2, s3, s4⟩ := hv
            go_simp
            try with_reducible rfl
        | refine AnyZ.skipD (i := 2) (some 29) rfl (by rfl) (by kernel_rfl) (by kernel_rfl) (by kernel_rfl) (by kernel_rfl) (by kernel_rfl) (fun _ _ _ h => h) (by rfl) hS0.out ?_
      try simp only [Act.put, List.setIfInBounds_toArray, List.set_cons_zero, List.set_cons_succ]
      first
        | refine AnyZ.takeD (i := 3) (some 30) (v := ?_) rfl (by rfl) (by kernel_rfl) (by kernel_rfl) (by kernel_rfl) (by kernel_rfl) (by kernel_rfl) (fun _ _ _ h => h) (by rfl) (fun v hv => ?_) hS0.out ?_
          rotate_left
          · obtain ⟨s0, s1, s2, s3, s4⟩ := hv
            go_simp
            try with_reducible rfl
        | refine AnyZ.skipD (i := 3) (some 30) rfl (by rfl) (by kernel_rfl) (by kernel_rfl) (by kernel_rfl) (by kernel_rfl) (by kernel_rfl) (fun _ _ _ h => h) (by rfl) hS0.out ?_
      try simp only [Act.put, List.setIfInBounds_toArray, List.set_cons_zero, List.set_cons_succ]
      first
        | refine AnyZ.takeD (i := 4) (some 31) (v := ?_) rfl (by rfl) (by kernel_rfl) (by kernel_rfl) (by kernel_rfl) (by kernel_rfl) (by kernel_rfl) (fun _ _ _ h => h) (by rfl) (fun v hv => ?_) hS0.out ?_
          rotate_left
          · obtain ⟨s0, s1, s2, s3, s4⟩ := hv
            go_simp
            try with_reducible rfl
        | refine AnyZ.skipD (i := 4) (some 31) rfl (by rfl) (by kernel_rfl) (by kernel_rfl) (by kernel_rfl) (by kernel_rfl) (by kernel_rfl) (fun _ _ _ h => h) (by rfl) hS0.out ?_
      try simp only [Act.put, List.setIfInBounds_toArray, List.set_cons_zero, List.set_cons_succ]
      first
        | refine AnyZ.takeD (i := 5) (some 32) (v := ?_) rfl (by rfl) (by kernel_rfl) (by kernel_rfl) (by kernel_rfl) (by kernel_rfl) (by kernel_rfl) (fun _ _ _ h => h) (by rfl) (fun v hv => ?_) hS0.out ?_
          rotate_left
          · obtain ⟨s0, s1, s2, s3, s4⟩ := hv
            go_simp
            try with_reducible rfl
        | refine AnyZ.skipD (i := 5) (some 32) rfl (by rfl) (by kernel_rfl) (by kernel_rfl) (by kernel_rfl) (by kernel_rfl) (by kernel_rfl) (fun _ _ _ h => h) (by rfl) hS0.out ?_
      try simp only [Act.put, List.setIfInBounds_toArray, List.set_cons_zero, List.set_cons_succ]
      first
        | refine AnyZ.takeD (i := 6) (some 33) (v := ?_) rfl (by rfl) (by kernel_rfl) (by kernel_rfl) (by kernel_rfl) (by kernel_rfl) (by kernel_rfl) (fun _ _ _ h => h) (by rfl) (fun v hv => ?_) hS0.out ?_
          rotate_left
          · obtain ⟨s0, s1, s2, s3, s4⟩ := hv
            go_simp
            try with_reducible rfl
        | refine AnyZ.skipD (i := 6) (some 33) rfl (by rfl) (by kernel_rfl) (by kernel_rfl) (by kernel_rfl) (by kernel_rfl) (by kernel_rfl) (fun _ _ _ h => h) (by rfl) hS0.out ?_
      try simp only [Act.put, List.setIfInBounds_toArray, List.set_cons_zero, List.set_cons_succ]
      first
        | refine AnyZ.takeD (i := 7) (some 34) (v := ?_) rfl (by rfl) (by kernel_rfl) (by kernel_rfl) (by kernel_rfl) (by kernel_rfl) (by kernel_rfl) (fun _ _ _ h => h) (by rfl) (fun v hv => ?_) hS0.out ?_
          rotate_left
          · obtain ⟨s0, s1, s2, s3, s4⟩ := hv
            go_simp
            try with_reducible rfl
        | refine AnyZ.skipD (i := 7) (some 34) rfl (by rfl) (by kernel_rfl) (by kernel_rfl) (by kernel_rfl) (by kernel_rfl) (by kernel_rfl) (fun _ _ _ h => h) (by rfl) hS0.out ?_
      try simp only [Act.put, List.setIfInBounds_toArray, List.set_cons_zero, List.set_cons_succ]
      first
        | refine AnyZ.takeD (i := 8) (some 35) (v := ?_) rfl (by rfl) (by kernel_rfl) (by kernel_rfl) (by kernel_rfl) (by kernel_rfl) (by kernel_rfl) (fun _ _ _ h => h) (by rfl) (fun v hv => ?_) hS0.out ?_
          rotate_left
          · obtain ⟨s0, s1, s2, s3, s4⟩ := hv
            go_simp
            try with_reducible rfl
        | refine AnyZ.skipD (i := 8) (some 35) rfl (by rfl) (by kernel_rfl) (by kernel_rfl) (by kernel_rfl) (by kernel_rfl) (by kernel_rfl) (fun _ _ _ h => h) (by rfl) hS0.out ?_
      try simp only [Act.put, List.setIfInBounds_toArray, List.set_cons_zero, List.set_cons_succ]
      first
        | refine AnyZ.takeD (i := 9) (some 36) (v := ?_) rfl (by rfl) (by kernel_rfl) (by kernel_rfl) (by kernel_rfl) (by kernel_rfl) (by kernel_rfl) (fun _ _ _ h => h) (by rfl) (fun v hv => ?_) hS0.out ?_
          rotate_left
          · obtain ⟨s0, s1, s2, s3, s4⟩ := hv
            go_simp
            try with_reducible rfl
        | refine AnyZ.skipD (i := 9) (some 36) rfl (by rfl) (by kernel_rfl) (by kernel_rfl) (by kernel_rfl) (by kernel_rfl) (by kernel_rfl) (fun _ _ _ h => h) (by rfl) hS0.out ?_
      try simp only [Act.put, List.setIfInBounds_toArray, List.set_cons_zero, List.set_cons_succ]
      first
        | refine AnyZ.takeD (i := 10) (some 37) (v := ?_) rfl (by rfl) (by kernel_rfl) (by kernel_rfl) (by kernel_rfl) (by kernel_rfl) (by kernel_rfl) (fun _ _ _ h => h) (by rfl) (fun v hv => ?_) hS0.out ?_
          rotate_left
          · obtain ⟨s0, s1, s2, s3, s4⟩ := hv
            go_simp
            try with_reducible rfl
        | refine AnyZ.skipD (i := 10) (some 37) rfl (by rfl) (by kernel_rfl) (by kernel_rfl) (by kernel_rfl) (by kernel_rfl) (by kernel_rfl) (fun _ _ _ h => h) (by rfl) hS0.out ?_
      try simp only [Act.put, List.setIfInBounds_toArray, List.set_cons_zero, List.set_cons_succ]
      first
        | refine AnyZ.takeD (i := 11) (some 38) (v := ?_) rfl (by rfl) (by kernel_rfl) (by kernel_rfl) (by kernel_rfl) (by kernel_rfl) (by kernel_rfl) (fun _ _ _ h => h) (by rfl) (fun v hv => ?_) hS0.out ?_
          rotate_left
          · obtain ⟨s0, s1, s2, s3, s4⟩ := hv
            go_simp
            try with_reducible rfl
        | refine AnyZ.skipD (i := 11) (some 38) rfl (by rfl) (by kernel_rfl) (by kernel_rfl) (by kernel_rfl) (by kernel_rfl) (by kernel_rfl) (fun _ _ _ h => h) (by rfl) hS0.out ?_
      try simp only [Act.put, List.setIfInBounds_toArray, List.set_cons_zero, List.set_cons_succ]
      first
        | refine AnyZ.takeD (i := 12) (some 39) (v := ?_) rfl (by rfl) (by kernel_rfl) (by kernel_rfl) (by kernel_rfl) (by kernel_rfl) (by kernel_rfl) (fun _ _ _ h => h) (by rfl) (fun v hv => ?_) hS0.out ?_
          rotate_left
          · obtain ⟨s0, s1, s2, s3, s4⟩ := hv
            go_simp
            try with_reducible rfl
        | refine AnyZ.skipD (i := 12) (some 39) rfl (by rfl) (by kernel_rfl) (by kernel_rfl) (by kernel_rfl) (by kernel_rfl) (by kernel_rfl) (fun _ _ _ h => h) (by rfl) hS0.out ?_
      try simp only [Act.put, List.setIfInBounds_toArray, List.set_cons_zero, List.set_cons_succ]
      first
        | refine AnyZ.takeD (i := 13) (some 40) (v := ?_) rfl (by rfl) (by kernel_rfl) (by kernel_rfl) (by kernel_rfl) (by kernel_rfl) (by kernel_rfl) (fun _ _ _ h => h) (by rfl) (fun v hv => ?_) hS0.out ?_
          rotate_left
          · obtain ⟨s0, s1, s2, s3, s4⟩ := hv
            go_simp
            try with_reducible rfl
        | refine AnyZ.skipD (i := 13) (some 40) rfl (by rfl) (by kernel_rfl) (by kernel_rfl) (by kernel_rfl) (by kernel_rfl) (by kernel_rfl) (fun _ _ _ h => h) (by rfl) hS0.out ?_
      try simp only [Act.put, List.setIfInBounds_toArray, List.set_cons_zero, List.set_cons_succ]
      first
        | refine AnyZ.takeD (i := 14) (some 41) (v := ?_) rfl (by rfl) (by kernel_rfl) (by kernel_rfl) (by kernel_rfl) (by kernel_rfl) (by kernel_rfl) (fun _ _ _ h => h) (by rfl) (fun v hv => ?_) hS0.out ?_
          rotate_left
          · obtain ⟨s0, s1, s2, s3, s4⟩ := hv
            go_simp
            try with_reducible rfl
        | refine AnyZ.skipD (i := 14) (some 41) rfl (by rfl) (by kernel_rfl) (by kernel_rfl) (by kernel_rfl) (by kernel_rfl) (by kernel_rfl) (fun _ _ _ h => h) (by rfl) hS0.out ?_
      try simp only [Act.put, List.setIfInBounds_toArray, List.set_cons_zero, List.set_cons_succ]
      first
        | refine AnyZ.takeD (i := 15) (some 42) (v := ?_) rfl (by rfl) (by kernel_rfl) (by kernel_rfl) (by kernel_rfl) (by kernel_rfl) (by kernel_rfl) (fun _ _ _ h => h) (by rfl) (fun v hv => ?_) hS0.out ?_
          rotate_left
          · obtain ⟨s0, s1, s2, s3, s4⟩ := hv
            go_simp
            try with_reducible rfl
        | refine AnyZ.skipD (i := 15) (some 42) rfl (by rfl) (by kernel_rfl) (by kernel_rfl) (by kernel_rfl) (by kernel_rfl) (by kernel_rfl) (fun _ _ _ h => h) (by rfl) hS0.out ?_
      try simp only [Act.put, List.setIfInBounds_toArray, List.set_cons_zero, List.set_cons_succ]
      first
        | refine AnyZ.takeD (i := 16) (some 43) (v := ?_) rfl (by rfl) (by kernel_rfl) (by kernel_rfl) (by kernel_rfl) (by kernel_rfl) (by kernel_rfl) (fun _ _ _ h => h) (by rfl) (fun v hv => ?_) hS0.out ?_
          rotate_left
          · obtain ⟨s0, s1, s2, s3, s4⟩ := hv
            go_simp
            try with_reducible rfl
        | refine AnyZ.skipD (i := 16) (some 43) rfl (by rfl) (by kernel_rfl) (by kernel_rfl) (by kernel_rfl) (by kernel_rfl) (by kernel_rfl) (fun _ _ _ h => h) (by rfl) hS0.out ?_
      try simp only [Act.put, List.setIfInBounds_toArray, List.set_cons_zero, List.set_cons_succ]
      first
        | refine AnyZ.takeD (i := 17) (some 44) (v := ?_) rfl (by rfl) (by kernel_rfl) (by kernel_rfl) (by kernel_rfl) (by kernel_rfl) (by kernel_rfl) (fun _ _ _ h => h) (by rfl) (fun v hv => ?_) hS0.out ?_
          rotate_left
          · obtain ⟨s0, s1, s2, s3, s4⟩ := hv
            go_simp
            try with_reducible rfl
        | refine AnyZ.skipD (i := 17) (some 44) rfl (by rfl) (by kernel_rfl) (by kernel_rfl) (by kernel_rfl) (by kernel_rfl) (by kernel_rfl) (fun _ _ _ h => h) (by rfl) hS0.out ?_
      try simp only [Act.put, List.setIfInBounds_toArray, List.set_cons_zero, List.set_cons_succ]
      first
        | refine AnyZ.takeD (i := 18) (some 45) (v := ?_) rfl (by rfl) (by kernel_rfl) (by kernel_rfl) (by kernel_rfl) (by kernel_rfl) (by kernel_rfl) (fun _ _ _ h => h) (by rfl) (fun v hv => ?_) hS0.out ?_
          rotate_left
          · obtain ⟨s0, s1, s2, s3, s4⟩ := hv
            go_simp
            try with_reducible rfl
        | refine AnyZ.skipD (i := 18) (some 45) rfl (by rfl) (by kernel_rfl) (by kernel_rfl) (by kernel_rfl) (by kernel_rfl) (by kernel_rfl) (fun _ _ _ h => h) (by rfl) hS0.out ?_
      try simp only [Act.put, List.setIfInBounds_toArray, List.set_cons_zero, List.set_cons_succ]
      first
        | refine AnyZ.takeD (i := 19) (some 46) (v := ?_) rfl (by rfl) (by kernel_rfl) (by kernel_rfl) (by kernel_rfl) (by kernel_rfl) (by kernel_rfl) (fun _ _ _ h => h) (by rfl) (fun v hv => ?_) hS0.out ?_
          rotate_left
          · obtain ⟨s0, s1, s2, s3, s4⟩ := hv
            go_simp
            try with_reducible rfl
        | refine AnyZ.skipD (i := 19) (some 46) rfl (by rfl) (by kernel_rfl) (by kernel_rfl) (by kernel_rfl) (by kernel_rfl) (by kernel_rfl) (fun _ _ _ h => h) (by rfl) hS0.out ?_
      try simp only [Act.put, List.setIfInBounds_toArray, List.set_cons_zero, List.set_cons_succ]
      refine AnyZ.done (by kernel_rfl) ?_ _
      go_wp2_with fail
      go_roundw
      case rel => exact ⟨k + 1, by omega, by go_num, Lib.hid HB3.out.drew⟩
      case measure => simp [intOf]; omega
    · have hge : (s.dem.length : Int) ≤ k := by omega
      have BR := Lib.hid (BB2.out.below hb.out BB2.out.lt)
      have WR := Lib.hid (B2.out.trans (hb.out.mono B2.out.size))
      have e7 : wr.cell? ⟨w.heap.size, 7, none⟩ = some (.int .i64 s.exp) := BR.out.cell 7
      clear hlt e8 HC2 HR2 HR
      go_wp2_with fail
      generalize wrap64 (s.exp + 1) = e1
      obtain ⟨w5, hw5⟩ : ∃ w5, w5 = wr.alloc (.cells #[.int .i64 day, .int .i64 0, .int .i64 9, .int .i64 s.exp, .int .i64 e1] 3) := ⟨_, rfl⟩
      have NB5 : Hid (Blk w5 wr.heap.size 3 #[.int .i64 day, .int .i64 0, .int .i64 9, .int .i64 s.exp, .int .i64 e1]) := by
        show Blk w5 _ _ _
        rw [hw5]
        exact Blk.new wr 3 _
      have hb5 : Hid (Below wr.heap.size wr w5) := by
        show Below _ _ _
        rw [hw5]
        exact (Below.refl _ _).alloc (Nat.le_refl _) _
      have B5 := Lib.hid (BR.out.below hb5.out BR.out.lt)
      have W5 := Lib.hid (WR.out.trans (hb5.out.mono WR.out.size))
      rw [← hw5]
      clear hw5 e7 BR WR hb5 BB2 B2 hb
      generalize hq : wr.heap.size = q at *
      clear hq
      go_loopw [56] (fun i v => ∃ (k : Nat), k ≤ 5 ∧ i = .int .i64 k ∧ Hid (Below w5.heap.size w5 v)) (fun i _ => 5 - (intOf i).toNat)
      case atStart => exact ⟨0, Nat.zero_le _, rfl, Lib.hid (Below.refl _ _)⟩
      case round =>
        obtain ⟨j, hj, rfl, Uwr⟩ := hrel
        have Wwr := Lib.hid (W5.out.trans (Uwr.out.mono W5.out.size))
        have Zwr := Lib.hid (B5.out.below Uwr.out B5.out.lt)
        by_cases hlt : j < 5
        · obtain ⟨x, hx⟩ : ∃ x, wr.cell? ⟨q, j, none⟩ = some (.int .i64 x) := by
            have hz := NB5.out.below Uwr.out NB5.out.lt
            rcases (show j = 0 ∨ j = 1 ∨ j = 2 ∨ j = 3 ∨ j = 4 by omega) with rfl | rfl | rfl | rfl | rfl
            · exact ⟨_, hz.cell 0⟩
            · exact ⟨_, hz.cell 1⟩
            · exact ⟨_, hz.cell 2⟩
            · exact ⟨_, hz.cell 3⟩
            · exact ⟨_, hz.cell 4⟩
          go_upto_region 13 with fail
          clear hx
          have WD := Lib.hid Wwr.out.drew
          have ZD := Lib.hid Zwr.out.drew
          have UD := Lib.hid Uwr.out.drew
          refine region_Z (z := 99) (S := fun v => v.cell? ⟨w.heap.size, 0, none⟩ = some (.string s.b.num) ∧ v.cell? ⟨w.heap.size, 1, none⟩ = some (.string s.b.gua) ∧ v.cell? ⟨w.heap.size, 2, none⟩ = some (.string s.b.for_) ∧ v.cell? ⟨w.heap.size, 3, none⟩ = some (.string s.b.to_) ∧ v.cell? ⟨w.heap.size, 4, none⟩ = some (.string s.b.cur) ∧ v.cell? ⟨w.heap.size, 5, none⟩ = some (.int .i64 s.b.amt) ∧ v.cell? ⟨w.heap.size, 6, none⟩ = some (.int .i64 s.b.exp) ∧ v.cell? ⟨w.heap.size, 7, none⟩ = some (.int .i64 s.exp) ∧ v.cell? ⟨w.heap.size, 8, none⟩ = some (.slice D2 s.dem.length d2) ∧ v.cell? ⟨w.heap.size, 9, none⟩ = some (.slice C2 s.cuts.length c2)) (by kernel_rfl) ?_
          have hS0 := Lib.hid (show (fun v => v.cell? ⟨w.heap.size, 0, none⟩ = some (.string s.b.num) ∧ v.cell? ⟨w.heap.size, 1, none⟩ = some (.string s.b.gua) ∧ v.cell? ⟨w.heap.size, 2, none⟩ = some (.string s.b.for_) ∧ v.cell? ⟨w.heap.size, 3, none⟩ = some (.string s.b.to_) ∧ v.cell? ⟨w.heap.size, 4, none⟩ = some (.string s.b.cur) ∧ v.cell? ⟨w.heap.size, 5, none⟩ = some (.int .i64 s.b.amt) ∧ v.cell? ⟨w.heap.size, 6, none⟩ = some (.int .i64 s.b.exp) ∧ v.cell? ⟨w.heap.size, 7, none⟩ = some (.int .i64 s.exp) ∧ v.cell? ⟨w.heap.size, 8, none⟩ = some (.slice D2 s.dem.length d2) ∧ v.cell? ⟨w.heap.size, 9, none⟩ = some (.slice C2 s.cuts.length c2)) (wr).drew from ⟨Zwr.out.cell 0, Zwr.out.cell 1, Zwr.out.cell 2, Zwr.out.cell 3, Zwr.out.cell 4, Zwr.out.cell 5, Zwr.out.cell 6, Zwr.out.cell 7, Zwr.out.cell 8, Zwr.out.cell 9⟩)
          show AnyZ _ _ _ _ _ _ 16 (List.replicate 16 false).toArray _ _
          first
            | refine AnyZ.takeD (i := 0) (some 60) (v := ?_) rfl (by rfl) (by kernel_rfl) (by kernel_rfl) (by kernel_rfl) (by kernel_rfl) (by kernel_rfl) (fun _ _ _ h => h) (by rfl) (fun v hv => ?_) hS0.out ?_
              rotate_left
              · obtain ⟨s0, s1, s2, s3, s4, s5, s6, s7, s8, s9⟩ := hv
                go_simp
                try with_reducible rfl
            | refine AnyZ.skipD (i := 0) (some 60) rfl (by rfl) (by kernel_rfl) (by kernel_rfl) (by kernel_rfl) (by kernel_rfl) (by kernel_rfl) (fun _ _ _ h => h) (by rfl) hS0.out ?_
          try simp only [Act.put, List.setIfInBounds_toArray, List.set_cons_zero, List.set_cons_succ]
          first
            | refine AnyZ.takeD (i := 1) (some 61) (v := ?_) rfl (by rfl) (by kernel_rfl) (by kernel_rfl) (by kernel_rfl) (by kernel_rfl) (by kernel_rfl) (fun _ _ _ h => h) (by rfl) (fun v hv => ?_) hS0.out ?_
              rotate_left
              · obtain ⟨s0, s1, s2, s3, s4, s5, s6, s7, s8, s9⟩ := hv
                go_simp
                try with_reducible rfl
            | refine AnyZ.skipD (i := 1) (some 61) rfl (by rfl) (by kernel_rfl) (by kernel_rfl) (by kernel_rfl) (by kernel_rfl) (by kernel_rfl) (fun _ _ _ h => h) (by rfl) hS0.out ?_
          try simp only [Act.put, List.setIfInBounds_toArray, List.set_cons_zero, List.set_cons_succ]
          first
            | refine AnyZ.takeD (i := 3) (some 63) (v := ?_) rfl (by rfl) (by kernel_rfl) (by kernel_rfl) (by kernel_rfl) (by kernel_rfl) (by kernel_rfl) (fun _ _ _ h => h) (by rfl) (fun v hv => ?_) hS0.out ?_
              rotate_left
              · obtain ⟨s0, s1, s2, s3, s4, s5, s6, s7, s8, s9⟩ := hv
                go_simp
                try with_reducible rfl
            | refine AnyZ.skipD (i := 3) (some 63) rfl (by rfl) (by kernel_rfl) (by kernel_rfl) (by kernel_rfl) (by kernel_rfl) (by kernel_rfl) (fun _ _ _ h => h) (by rfl) hS0.out ?_
          try simp only [Act.put, List.setIfInBounds_toArray, List.set_cons_zero, List.set_cons_succ]
          first
            | refine AnyZ.takeD (i := 4) (some 64) (v := ?_) rfl (by rfl) (by kernel_rfl) (by kernel_rfl) (by kernel_rfl) (by kernel_rfl) (by kernel_rfl) (fun _ _ _ h => h) (by rfl) (fun v hv => ?_) hS0.out ?_
              rotate_left
              · obtain ⟨s0, s1, s2, s3, s4, s5, s6, s7, s8, s9⟩ := hv
                go_simp
                try with_reducible rfl
            | refine AnyZ.skipD (i := 4) (some 64) rfl (by rfl) (by kernel_rfl) (by kernel_rfl) (by kernel_rfl) (by kernel_rfl) (by kernel_rfl) (fun _ _ _ h => h) (by rfl) hS0.out ?_
          try simp only [Act.put, List.setIfInBounds_toArray, List.set_cons_zero, List.set_cons_succ]
          refine AnyZ.one (i := 2) (by kernel_rfl) rfl (by rfl) fun K2 hK2 => ?_
          go_simp
          refine (LF.out _ WD.out _).mono ?_
          rintro e v12 ⟨rfl, hb2⟩
          have Wv12 := Lib.hid (below_trans WD.out hb2)
          have Zv12 := Lib.hid (ZD.out.below hb2 ZD.out.lt)
          have Uv12 := Lib.hid (UD.out.trans (hb2.mono UD.out.size))
          clear hb2
          try go_wp2_with fail
          have hS2 := Lib.hid (show (fun v => v.cell? ⟨w.heap.size, 0, none⟩ = some (.string s.b.num) ∧ v.cell? ⟨w.heap.size, 1, none⟩ = some (.string s.b.gua) ∧ v.cell? ⟨w.heap.size, 2, none⟩ = some (.string s.b.for_) ∧ v.cell? ⟨w.heap.size, 3, none⟩ = some (.string s.b.to_) ∧ v.cell? ⟨w.heap.size, 4, none⟩ = some (.string s.b.cur) ∧ v.cell? ⟨w.heap.size, 5, none⟩ = some (.int .i64 s.b.amt) ∧ v.cell? ⟨w.heap.size, 6, none⟩ = some (.int .i64 s.b.exp) ∧ v.cell? ⟨w.heap.size, 7, none⟩ = some (.int .i64 s.exp) ∧ v.cell? ⟨w.heap.size, 8, none⟩ = some (.slice D2 s.dem.length d2) ∧ v.cell? ⟨w.heap.size, 9, none⟩ = some (.slice C2 s.cuts.length c2)) v12 from ⟨Zv12.out.cell 0, Zv12.out.cell 1, Zv12.out.cell 2, Zv12.out.cell 3, Zv12.out.cell 4, Zv12.out.cell 5, Zv12.out.cell 6, Zv12.out.cell 7, Zv12.out.cell 8, Zv12.out.cell 9⟩)
          refine hK2.out _ _ (.inr hS2.out) fun _ => ?_
          try simp only [Act.put, List.setIfInBounds_toArray, List.set_cons_zero, List.set_cons_succ]
          refine AnyZ.one (i := 5) (by kernel_rfl) rfl (by rfl) fun K5 hK5 => ?_
          go_simp
          refine (LR.out _ Wv12.out _).mono ?_
          rintro e v15 ⟨rfl, hb5⟩
          have Wv15 := Lib.hid (below_trans Wv12.out hb5)
          have Zv15 := Lib.hid (Zv12.out.below hb5 Zv12.out.lt)
          have Uv15 := Lib.hid (Uv12.out.trans (hb5.mono Uv12.out.size))
          clear hb5
          try go_wp2_with fail
          have hS5 := Lib.hid (show (fun v => v.cell? ⟨w.heap.size, 0, none⟩ = some (.string s.b.num) ∧ v.cell? ⟨w.heap.size, 1, none⟩ = some (.string s.b.gua) ∧ v.cell? ⟨w.heap.size, 2, none⟩ = some (.string s.b.for_) ∧ v.cell? ⟨w.heap.size, 3, none⟩ = some (.string s.b.to_) ∧ v.cell? ⟨w.heap.size, 4, none⟩ = some (.string s.b.cur) ∧ v.cell? ⟨w.heap.size, 5, none⟩ = some (.int .i64 s.b.amt) ∧ v.cell? ⟨w.heap.size, 6, none⟩ = some (.int .i64 s.b.exp) ∧ v.cell? ⟨w.heap.size, 7, none⟩ = some (.int .i64 s.exp) ∧ v.cell? ⟨w.heap.size, 8, none⟩ = some (.slice D2 s.dem.length d2) ∧ v.cell? ⟨w.heap.size, 9, none⟩ = some (.slice C2 s.cuts.length c2)) v15 from ⟨Zv15.out.cell 0, Zv15.out.cell 1, Zv15.out.cell 2, Zv15.out.cell 3, Zv15.out.cell 4, Zv15.out.cell 5, Zv15.out.cell 6, Zv15.out.cell 7, Zv15.out.cell 8, Zv15.out.cell 9⟩)
          refine hK5.out _ _ (.inr hS5.out) fun _ => ?_
          try simp only [Act.put, List.setIfInBounds_toArray, List.set_cons_zero, List.set_cons_succ]
          first
            | refine AnyZ.takeD (i := 6) (some 66) (v := ?_) rfl (by rfl) (by kernel_rfl) (by kernel_rfl) (by kernel_rfl) (by kernel_rfl) (by kernel_rfl) (fun _ _ _ h => h) (by rfl) (fun v hv => ?_) hS5.out ?_
              rotate_left
              · obtain ⟨s0, s1, s2, s3, s4, s5, s6, s7, s8, s9⟩ := hv
                go_simp
                try with_reducible rfl
            | refine AnyZ.skipD (i := 6) (some 66) rfl (by rfl) (by kernel_rfl) (by kernel_rfl) (by kernel_rfl) (by kernel_rfl) (by kernel_rfl) (fun _ _ _ h => h) (by rfl) hS5.out ?_
          try simp only [Act.put, List.setIfInBounds_toArray, List.set_cons_zero, List.set_cons_succ]
          first
            | refine AnyZ.takeD (i := 7) (some 67) (v := ?_) rfl (by rfl) (by kernel_rfl) (by kernel_rfl) (by kernel_rfl) (by kernel_rfl) (by kernel_rfl) (fun _ _ _ h => h) (by rfl) (fun v hv => ?_) hS5.out ?_
              rotate_left
              · obtain ⟨s0, s1, s2, s3, s4, s5, s6, s7, s8, s9⟩ := hv
                go_simp
                try with_reducible rfl
            | refine AnyZ.skipD (i := 7) (some 67) rfl (by rfl) (by kernel_rfl) (by kernel_rfl) (by kernel_rfl) (by kernel_rfl) (by kernel_rfl) (fun _ _ _ h => h) (by rfl) hS5.out ?_
          try simp only [Act.put, List.setIfInBounds_toArray, List.set_cons_zero, List.set_cons_succ]
          first
            | refine AnyZ.takeD (i := 8) (some 68) (v := ?_) rfl (by rfl) (by kernel_rfl) (by kernel_rfl) (by kernel_rfl) (by kernel_rfl) (by kernel_rfl) (fun _ _ _ h => h) (by rfl) (fun v hv => ?_) hS5.out ?_
              rotate_left
              · obtain ⟨s0, s1, s2, s3, s4, s5, s6, s7, s8, s9⟩ := hv
                go_simp
                try with_reducible rfl
            | refine AnyZ.skipD (i := 8) (some 68) rfl (by rfl) (by kernel_rfl) (by kernel_rfl) (by kernel_rfl) (by kernel_rfl) (by kernel_rfl) (fun _ _ _ h => h) (by rfl) hS5.out ?_
          try simp only [Act.put, List.setIfInBounds_toArray, List.set_cons_zero, List.set_cons_succ]
          first
            | refine AnyZ.takeD (i := 9) (some 69) (v := ?_) rfl (by rfl) (by kernel_rfl) (by kernel_rfl) (by kernel_rfl) (by kernel_rfl) (by kernel_rfl) (fun _ _ _ h => h) (by rfl) (fun v hv => ?_) hS5.out ?_
              rotate_left
              · obtain ⟨s0, s1, s2, s3, s4, s5, s6, s7, s8, s9⟩ := hv
                go_simp
                try with_reducible rfl
            | refine AnyZ.skipD (i := 9) (some 69) rfl (by rfl) (by kernel_rfl) (by kernel_rfl) (by kernel_rfl) (by kernel_rfl) (by kernel_rfl) (fun _ _ _ h => h) (by rfl) hS5.out ?_
          try simp only [Act.put, List.setIfInBounds_toArray, List.set_cons_zero, List.set_cons_succ]
          first
            | refine AnyZ.takeD (i := 11) (some 71) (v := ?_) rfl (by rfl) (by kernel_rfl) (by kernel_rfl) (by kernel_rfl) (by kernel_rfl) (by kernel_rfl) (fun _ _ _ h => h) (by rfl) (fun v hv => ?_) hS5.out ?_
              rotate_left
              · obtain ⟨s0, s1, s2, s3, s4, s5, s6, s7, s8, s9⟩ := hv
                go_simp
                try with_reducible rfl
            | refine AnyZ.skipD (i := 11) (some 71) rfl (by rfl) (by kernel_rfl) (by kernel_rfl) (by kernel_rfl) (by kernel_rfl) (by kernel_rfl) (fun _ _ _ h => h) (by rfl) hS5.out ?_
          try simp only [Act.put, List.setIfInBounds_toArray, List.set_cons_zero, List.set_cons_succ]
          first
            | refine AnyZ.takeD (i := 12) (some 72) (v := ?_) rfl (by rfl) (by kernel_rfl) (by kernel_rfl) (by kernel_rfl) (by kernel_rfl) (by kernel_rfl) (fun _ _ _ h => h) (by rfl) (fun v hv => ?_) hS5.out ?_
              rotate_left
              · obtain ⟨s0, s1, s2, s3, s4, s5, s6, s7, s8, s9⟩ := hv
                go_simp
                try with_reducible rfl
            | refine AnyZ.skipD (i := 12) (some 72) rfl (by rfl) (by kernel_rfl) (by kernel_rfl) (by kernel_rfl) (by kernel_rfl) (by kernel_rfl) (fun _ _ _ h => h) (by rfl) hS5.out ?_
          try simp only [Act.put, List.setIfInBounds_toArray, List.set_cons_zero, List.set_cons_succ]
          refine AnyZ.one (i := 10) (by kernel_rfl) rfl (by rfl) fun K10 hK10 => ?_
          go_simp
          refine (EF.out _ Wv15.out _).mono ?_
          rintro e v20 ⟨rfl, hb10⟩
          have Wv20 := Lib.hid (below_trans Wv15.out hb10)
          have Zv20 := Lib.hid (Zv15.out.below hb10 Zv15.out.lt)
          have Uv20 := Lib.hid (Uv15.out.trans (hb10.mono Uv15.out.size))
          clear hb10
          try go_wp2_with fail
          have hS10 := Lib.hid (show (fun v => v.cell? ⟨w.heap.size, 0, none⟩ = some (.string s.b.num) ∧ v.cell? ⟨w.heap.size, 1, none⟩ = some (.string s.b.gua) ∧ v.cell? ⟨w.heap.size, 2, none⟩ = some (.string s.b.for_) ∧ v.cell? ⟨w.heap.size, 3, none⟩ = some (.string s.b.to_) ∧ v.cell? ⟨w.heap.size, 4, none⟩ = some (.string s.b.cur) ∧ v.cell? ⟨w.heap.size, 5, none⟩ = some (.int .i64 s.b.amt) ∧ v.cell? ⟨w.heap.size, 6, none⟩ = some (.int .i64 s.b.exp) ∧ v.cell? ⟨w.heap.size, 7, none⟩ = some (.int .i64 s.exp) ∧ v.cell? ⟨w.heap.size, 8, none⟩ = some (.slice D2 s.dem.length d2) ∧ v.cell? ⟨w.heap.size, 9, none⟩ = some (.slice C2 s.cuts.length c2)) v20 from ⟨Zv20.out.cell 0, Zv20.out.cell 1, Zv20.out.cell 2, Zv20.out.cell 3, Zv20.out.cell 4, Zv20.out.cell 5, Zv20.out.cell 6, Zv20.out.cell 7, Zv20.out.cell 8, Zv20.out.cell 9⟩)
          refine hK10.out _ _ (.inr hS10.out) fun _ => ?_
          try simp only [Act.put, List.setIfInBounds_toArray, List.set_cons_zero, List.set_cons_succ]
          refine AnyZ.one (i := 13) (by kernel_rfl) rfl (by rfl) fun K13 hK13 => ?_
          go_simp
          refine (ER.out _ Wv20.out _).mono ?_
          rintro e v23 ⟨rfl, hb13⟩
          have Wv23 := Lib.hid (below_trans Wv20.out hb13)
          have Zv23 := Lib.hid (Zv20.out.below hb13 Zv20.out.lt)
          have Uv23 := Lib.hid (Uv20.out.trans (hb13.mono Uv20.out.size))
          clear hb13
          try go_wp2_with fail
          have hS13 := Lib.hid (show (fun v => v.cell? ⟨w.heap.size, 0, none⟩ = some (.string s.b.num) ∧ v.cell? ⟨w.heap.size, 1, none⟩ = some (.string s.b.gua) ∧ v.cell? ⟨w.heap.size, 2, none⟩ = some (.string s.b.for_) ∧ v.cell? ⟨w.heap.size, 3, none⟩ = some (.string s.b.to_) ∧ v.cell? ⟨w.heap.size, 4, none⟩ = some (.string s.b.cur) ∧ v.cell? ⟨w.heap.size, 5, none⟩ = some (.int .i64 s.b.amt) ∧ v.cell? ⟨w.heap.size, 6, none⟩ = some (.int .i64 s.b.exp) ∧ v.cell? ⟨w.heap.size, 7, none⟩ = some (.int .i64 s.exp) ∧ v.cell? ⟨w.heap.size, 8, none⟩ = some (.slice D2 s.dem.length d2) ∧ v.cell? ⟨w.heap.size, 9, none⟩ = some (.slice C2 s.cuts.length c2)) v23 from ⟨Zv23.out.cell 0, Zv23.out.cell 1, Zv23.out.cell 2, Zv23.out.cell 3, Zv23.out.cell 4, Zv23.out.cell 5, Zv23.out.cell 6, Zv23.out.cell 7, Zv23.out.cell 8, Zv23.out.cell 9⟩)
          refine hK13.out _ _ (.inr hS13.out) fun _ => ?_
          try simp only [Act.put, List.setIfInBounds_toArray, List.set_cons_zero, List.set_cons_succ]
          first
            | refine AnyZ.takeD (i := 14) (some 74) (v := ?_) rfl (by rfl) (by kernel_rfl) (by kernel_rfl) (by kernel_rfl) (by kernel_rfl) (by kernel_rfl) (fun _ _ _ h => h) (by rfl) (fun v hv => ?_) hS13.out ?_
              rotate_left
              · obtain ⟨s0, s1, s2, s3, s4, s5, s6, s7, s8, s9⟩ := hv
                go_simp
                try with_reducible rfl
            | refine AnyZ.skipD (i := 14) (some 74) rfl (by rfl) (by kernel_rfl) (by kernel_rfl) (by kernel_rfl) (by kernel_rfl) (by kernel_rfl) (fun _ _ _ h => h) (by rfl) hS13.out ?_
          try simp only [Act.put, List.setIfInBounds_toArray, List.set_cons_zero, List.set_cons_succ]
          first
            | refine AnyZ.takeD (i := 15) (some 75) (v := ?_) rfl (by rfl) (by kernel_rfl) (by kernel_rfl) (by kernel_rfl) (by kernel_rfl) (by kernel_rfl) (fun _ _ _ h => h) (by rfl) (fun v hv => ?_) hS13.out ?_
              rotate_left
              · obtain ⟨s0, s1, s2, s3, s4, s5, s6, s7, s8, s9⟩ := hv
                go_simp
                try with_reducible rfl
            | refine AnyZ.skipD (i := 15) (some 75) rfl (by rfl) (by kernel_rfl) (by kernel_rfl) (by kernel_rfl) (by kernel_rfl) (by kernel_rfl) (fun _ _ _ h => h) (by rfl) hS13.out ?_
          try simp only [Act.put, List.setIfInBounds_toArray, List.set_cons_zero, List.set_cons_succ]
          refine AnyZ.done (by kernel_rfl) ?_ _
          go_wp2_with fail
          go_roundw
          case rel => exact ⟨_, _, .int .i64 ((j : Int) + 1), ⟨j + 1, by omega, by simp⟩, rfl, rfl, rfl⟩
          case measure => simp [intOf]; omega
        · have hge : (5 : Int) ≤ j := by omega
          have hge' : 5 ≤ j := by omega
          clear hlt
          go_wp2_with fail
          go_ret
          exact ⟨rfl, Wwr.out⟩
end Go.Proofs.Ytlmlepdmgopojaa
