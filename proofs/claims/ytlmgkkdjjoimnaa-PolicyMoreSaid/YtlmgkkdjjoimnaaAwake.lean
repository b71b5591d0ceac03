/- The chapter's example: Pays at it. No condition. -/
import Derived.Test.YtlmgkkdjjoimnaaRefMay
import Derived.Test.YtlmgkkdjjoimnaaShelf
namespace Go.Proofs.Ytlmgkkdjjoimnaa
open Go.RowKit
set_option linter.unusedVariables false
set_option linter.unusedSimpArgs false

set_option maxRecDepth 100000 in
set_option maxHeartbeats 1000000 in
theorem div_ex (w : World) : Calls Try.prog 43 #[.int .u64 0, .int .u64 300000, .int .u64 1000] w fun e w' => e = .returned (.tuple #[.int .u64 300, .int .u64 0]) ∧ Below w.heap.size w w' := by
  go_enter Try.func43, Try.ntmps43
  go_wp2
  go_quiet (fail)
  go_wp2
  go_ret2
  exact ⟨rfl, below_drewN' (Below.refl _ _) _⟩
set_option maxHeartbeats 1000000 in
theorem smay_ex (w : World) : Calls Try.prog 41 #[.agg #[.int .i64 600, .int .i64 1000]] w fun e w' => e = .returned (.bool true) ∧ Below w.heap.size w w' := by
  go_enter Try.func41, Try.ntmps41
  go_wp2
  go_ret
  exact ⟨rfl, (Below.refl _ _).alloc (Nat.le_refl _) _⟩
theorem mul_ex (w : World) : Calls Try.prog 42 #[.int .u64 500, .int .u64 600] w fun e w' => e = .returned (.tuple #[.int .u64 0, .int .u64 300000]) ∧ w = w' :=
  (Try.bits_Mul64 500 600 (by omega) (by omega) w).mono fun e w' h => ⟨h.1, h.2.symm⟩
theorem Blk.two_ {w : World} {g : Nat} {t : TypeId} {a b : Value} (h : Blk w g t #[a, b]) : w.cell? ⟨g, 0, none⟩ = some a ∧ w.cell? ⟨g, 1, none⟩ = some b := ⟨h.cell 0, h.cell 1⟩
set_option maxHeartbeats 2000000 in
theorem of_ex (w : World) : Calls Try.prog 26 #[.int .i64 500, .agg #[.int .i64 600, .int .i64 1000]] w fun e w' => e = .returned (.tuple #[.int .i64 300, .bool true]) ∧ Below w.heap.size w w' := by
  have bx := Blk.new w 60 #[.int .i64 600, .int .i64 1000]
  have HB := Lib.hid (show Below w.heap.size w (w.alloc (.cells #[.int .i64 600, .int .i64 1000] 60)) from (Below.refl _ _).alloc (Nat.le_refl _) _)
  have BX := Lib.hid bx
  clear bx
  go_enter Try.func26, Try.ntmps26
  go_wp2_with fail
  refine (smay_ex _).mono ?_
  rintro e w1 ⟨rfl, hb⟩
  have HB1 := Lib.hid (below_trans HB.out hb)
  have BX1 := Lib.hid (BX.out.below hb BX.out.lt)
  obtain ⟨c0, c1⟩ := BX1.out.two_
  clear hb
  go_wp2_with fail
  refine (mul_ex _).mono ?_
  rintro e w2 ⟨rfl, rfl⟩
  go_wp2_with fail
  refine (div_ex _).mono ?_
  rintro e w3 ⟨rfl, hb⟩
  have HB3 := Lib.hid (below_trans HB1.out hb)
  clear hb
  go_wp2_with fail
  go_ret2
  exact ⟨rfl, HB3.out⟩
def exP : Pol := ⟨⟨#[110]⟩, ⟨#[97]⟩, ⟨#[98]⟩, 600, 50, [], 0, 0, 1000⟩
theorem ex_may : mayP exP = true := by decide
theorem ex_wf : exP.wf := ⟨by decide, by decide, by decide⟩
/-- the law's memory, and its box with the policy -/
def Kp (w : World) (cs : Array Value) (v : World) : Prop := Below w.heap.size w v ∧ Blk v w.heap.size 24 cs
section
variable {w v v' : World} {cs : Array Value}
theorem Kp.step (h : Kp w cs v) (hb : Below v.heap.size v v') : Kp w cs v' := ⟨below_trans h.1 hb, h.2.below hb h.2.lt⟩
theorem Kp.drew (h : Kp w cs v) : Kp w cs v.drew := ⟨h.1.drew, h.2⟩
theorem Kp.drewN (h : Kp w cs v) (n : Nat) : Kp w cs (v.drewN n) := ⟨below_drewN' h.1 n, h.2⟩
theorem Kp.new (w : World) (cs : Array Value) : Kp w cs (w.alloc (.cells cs 24)) := ⟨(Below.refl _ _).alloc (Nat.le_refl _) _, Blk.new w 24 _⟩
theorem Kp.csat {A : Option Addr} {n : Nat} {l : List Int} (h : Kp w cs v) (hc : Cs w w.heap.size A n l) : Cs v v.heap.size A n l := hc.up h.1
end
set_option maxRecDepth 100000 in
set_option maxHeartbeats 2000000 in
theorem insured_ex (w : World) : Calls Try.prog 11 #[polV exP none 0 0, .int .i64 1000] w fun e w' => e = .returned (.tuple #[.int .i64 600, .bool true]) ∧ Below w.heap.size w w' := by
  have K0 := Lib.hid (Kp.new w (exP.cells none 0 0))
  have hc : Cs w w.heap.size none 0 exP.causes := ⟨rfl, Nat.zero_le _, Reads.none_⟩
  have HC := Lib.hid hc
  clear hc
  unfold polV
  unfold Pol.cells exP at K0 ⊢
  go_enter Try.func11, Try.ntmps11
  go_wp2_with fail
  refine (may_any exP ex_wf none 0 0 _ (K0.out.csat HC.out)).mono ?_
  rintro e w1 ⟨rfl, hb⟩
  rw [ex_may]
  have K1 := Lib.hid (K0.out.step hb)
  obtain ⟨c0, c1, c2, c3, c4, c5, c6, c7, c8⟩ := K1.out.2.nine_
  clear hb
  go_wp2_with fail
  refine (within_any 1000 1 1099511627776 w1).mono ?_
  rintro e w2 ⟨rfl, rfl⟩
  rw [show inB 1000 1 1099511627776 = true by decide]
  go_wp2_with fail
  go_ret2
  exact ⟨rfl, K1.out.1⟩
set_option maxRecDepth 100000 in
set_option maxHeartbeats 2000000 in
theorem pays_ex (w : World) : Calls Try.prog 12 #[polV exP none 0 0, .int .i64 500, .int .i64 1000] w fun e w' => e = .returned (.tuple #[.int .i64 250, .bool true]) ∧ Below w.heap.size w w' := by
  have K0 := Lib.hid (Kp.new w (exP.cells none 0 0))
  unfold polV
  unfold Pol.cells exP at K0 ⊢
  go_enter Try.func12, Try.ntmps12
  go_wp2_with fail
  refine (insured_ex _).mono ?_
  rintro e w1 ⟨rfl, hb⟩
  have K1 := Lib.hid (K0.out.step hb)
  obtain ⟨c0, c1, c2, c3, c4, c5, c6, c7, c8⟩ := K1.out.2.nine_
  clear hb
  go_wp2_with fail
  refine (within_any 500 0 1099511627776 w1).mono ?_
  rintro e w2 ⟨rfl, rfl⟩
  rw [show inB 500 0 1099511627776 = true by decide]
  go_wp2_with fail
  refine (of_ex _).mono ?_
  rintro e w3 ⟨rfl, hb⟩
  have K3 := Lib.hid (K1.out.step hb)
  clear c0 c1 c2 c3 c4 c5 c6 c7 c8
  obtain ⟨c0, c1, c2, c3, c4, c5, c6, c7, c8⟩ := K3.out.2.nine_
  clear hb
  go_wp2_with fail
  go_ret2
  exact ⟨rfl, K3.out.1⟩
set_option maxHeartbeats 1000000 in
theorem awake_any (w : World) : Calls Try.prog 9 #[] w fun e w' => e = .returned (.bool true) ∧ Below w.heap.size w w' := by
  go_enter Try.func9, Try.ntmps9
  go_wp2_with fail
  refine (pays_ex _).mono ?_
  rintro e w1 ⟨rfl, hb⟩
  go_wp2_with fail
  go_ret
  exact ⟨rfl, hb⟩
end Go.Proofs.Ytlmgkkdjjoimnaa
