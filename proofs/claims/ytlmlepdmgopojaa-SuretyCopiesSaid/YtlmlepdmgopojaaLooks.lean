/- The walks of the acts' function literals. Condition: where the surety lies, and the variables that they capture. -/
import Derived.Test.YtlmlepdmgopojaaFirst
namespace Go.Proofs.Ytlmlepdmgopojaa
open Go.RowKit
set_option linter.unusedVariables false
set_option linter.unusedSimpArgs false
section
variable (s : Sur) (g c d : Nat) (C D : Option Addr) (w : World) (h : SA w g s C c D d) {K : Nat} (ok : s.ok K) (hK : K ≤ 4096)
include h
set_option maxRecDepth 100000 in
set_option maxHeartbeats 2000000 in
theorem dem1_any (p q : Nat) (by_ : ByteArray) (hp : w.cell? ⟨p, 0, none⟩ = some (.string by_)) (hq : w.cell? ⟨q, 0, none⟩ = some (.pointer (some ⟨g, 0, none⟩))) :
    Calls Try.prog 32 #[.pointer (some ⟨p, 0, none⟩), .pointer (some ⟨q, 0, none⟩)] w fun e w' => e = .returned (.bool (eqS by_ s.b.to_)) ∧ Below w.heap.size w w' := by
  have t := h.cellT
  clear h
  unfold eqS
  go_enter Try.func32, Try.ntmps32
  go_wp2
  go_quiet (fail)
  go_wp2
  go_ret
  exact ⟨rfl, below_drewN' (Below.refl _ _) _⟩
set_option maxRecDepth 100000 in
set_option maxHeartbeats 2000000 in
theorem dem3_any (p q : Nat) (day : Int) (hp : w.cell? ⟨p, 0, none⟩ = some (.int .i64 day)) (hq : w.cell? ⟨q, 0, none⟩ = some (.pointer (some ⟨g, 0, none⟩))) :
    Calls Try.prog 34 #[.pointer (some ⟨p, 0, none⟩), .pointer (some ⟨q, 0, none⟩)] w fun e w' => e = .returned (.bool (decide (day ≤ s.exp))) ∧ Below w.heap.size w w' := by
  have t := h.cellE
  clear h
  go_enter Try.func34, Try.ntmps34
  go_wp2
  go_quiet (fail)
  go_wp2
  go_ret
  exact ⟨rfl, below_drewN' (Below.refl _ _) _⟩
set_option maxRecDepth 100000 in
set_option maxHeartbeats 2000000 in
theorem dem5_any (p : Nat) (hp : w.cell? ⟨p, 0, none⟩ = some (.pointer (some ⟨g, 0, none⟩))) (hl : s.dem.length < 4096) :
    Calls Try.prog 36 #[.pointer (some ⟨p, 0, none⟩)] w fun e w' => e = .returned (.bool true) ∧ Below w.heap.size w w' := by
  have t := h.cellD
  have hl' : (s.dem.length : Int) < 4096 := by omega
  clear h
  go_enter Try.func36, Try.ntmps36
  go_wp2
  go_ret
  exact ⟨rfl, Below.refl _ _⟩
set_option maxRecDepth 100000 in
set_option maxHeartbeats 2000000 in
theorem rd3_any (p : Nat) (hp : w.cell? ⟨p, 0, none⟩ = some (.pointer (some ⟨g, 0, none⟩))) (hl : s.cuts.length < 4096) :
    Calls Try.prog 52 #[.pointer (some ⟨p, 0, none⟩)] w fun e w' => e = .returned (.bool true) ∧ Below w.heap.size w w' := by
  have t := h.cellC
  have hl' : (s.cuts.length : Int) < 4096 := by omega
  clear h
  go_enter Try.func52, Try.ntmps52
  go_wp2
  go_ret
  exact ⟨rfl, Below.refl _ _⟩
include ok hK
set_option maxRecDepth 100000 in
set_option maxHeartbeats 2000000 in
theorem dem4_any (p q r : Nat) (sum day : Int) (hp : w.cell? ⟨p, 0, none⟩ = some (.int .i64 sum)) (hq : w.cell? ⟨q, 0, none⟩ = some (.pointer (some ⟨g, 0, none⟩))) (hr : w.cell? ⟨r, 0, none⟩ = some (.int .i64 day)) :
    Calls Try.prog 35 #[.pointer (some ⟨p, 0, none⟩), .pointer (some ⟨q, 0, none⟩), .pointer (some ⟨r, 0, none⟩)] w fun e w' => e = .returned (.bool (decide (sum ≤ s.left day))) ∧ Below w.heap.size w w' := by
  have LE := Lib.hid fun (v : World) (hv : Below w.heap.size w v) => left_any s g c d C D v (h.below hv) ok hK day
  have lp := lt_of_cell hp
  have lq := lt_of_cell hq
  have lr := lt_of_cell hr
  generalize s.left day = x at *
  have B0 : Hid (Below w.heap.size w w.drew) := (Below.refl _ _).drew
  clear h ok
  go_enter Try.func35, Try.ntmps35
  go_wp2_with fail
  go_region_held3 (fun v => v.cell? ⟨p, 0, none⟩ = some (.int .i64 sum) ∧ v.cell? ⟨q, 0, none⟩ = some (.pointer (some ⟨g, 0, none⟩)) ∧ v.cell? ⟨r, 0, none⟩ = some (.int .i64 day)) (go_keep) (first | (go_at_call 12; refine (LE.out _ B0.out).mono ?_; rintro e v12 ⟨rfl, hb12⟩; have B12 : Hid (Below w.heap.size w v12) := below_trans B0.out hb12; have p12 : v12.cell? ⟨p, 0, none⟩ = some (.int .i64 sum) := (B12.out.cell (p := ⟨p, 0, none⟩) lp).trans hp; have q12 : v12.cell? ⟨q, 0, none⟩ = some (.pointer (some ⟨g, 0, none⟩)) := (B12.out.cell (p := ⟨q, 0, none⟩) lq).trans hq; have r12 : v12.cell? ⟨r, 0, none⟩ = some (.int .i64 day) := (B12.out.cell (p := ⟨r, 0, none⟩) lr).trans hr; clear hb12))
  all_goals go_wp2_with fail
  all_goals
    go_ret
    exact ⟨rfl, B12.out⟩
set_option maxRecDepth 100000 in
set_option maxHeartbeats 2000000 in
theorem rd2_any (p q : Nat) (sum : Int) (hp : w.cell? ⟨p, 0, none⟩ = some (.pointer (some ⟨g, 0, none⟩))) (hq : w.cell? ⟨q, 0, none⟩ = some (.int .i64 sum)) (h1 : 1 ≤ sum) (h2 : sum ≤ 1099511627776) :
    Calls Try.prog 51 #[.pointer (some ⟨p, 0, none⟩), .pointer (some ⟨q, 0, none⟩)] w fun e w' => e = .returned (.bool (decide (cutTo 1048576 s.cuts + sum ≤ s.b.amt))) ∧ Below w.heap.size w w' := by
  have CU := Lib.hid fun (v : World) (hv : Below w.heap.size w v) => cut_any s g c d C D v (h.below hv) ok hK 1048576
  obtain ⟨_, b2⟩ := left_bnd ok hK 1048576
  have t := h.cellA
  have lt := h.box.lt
  have lp := lt_of_cell hp
  have lq := lt_of_cell hq
  generalize cutTo 1048576 s.cuts = m at *
  generalize s.b.amt = amt at *
  have W1 : IntKind.i64.wrap (m + sum) = m + sum := IntWalk.i64_in _ (by omega)
  have B0 : Hid (Below w.heap.size w w.drew) := (Below.refl _ _).drew
  clear h ok
  go_enter Try.func51, Try.ntmps51
  go_wp2_with fail
  go_region_held3 (fun v => v.cell? ⟨p, 0, none⟩ = some (.pointer (some ⟨g, 0, none⟩)) ∧ v.cell? ⟨q, 0, none⟩ = some (.int .i64 sum) ∧ v.cell? ⟨g, 5, none⟩ = some (.int .i64 amt)) (go_keep) (first | (go_at_call 28; refine (CU.out _ B0.out).mono ?_; rintro e v28 ⟨rfl, hb28⟩; have B28 : Hid (Below w.heap.size w v28) := below_trans B0.out hb28; have r28 : v28.cell? ⟨p, 0, none⟩ = some (.pointer (some ⟨g, 0, none⟩)) := (B28.out.cell (p := ⟨p, 0, none⟩) lp).trans hp; have q28 : v28.cell? ⟨q, 0, none⟩ = some (.int .i64 sum) := (B28.out.cell (p := ⟨q, 0, none⟩) lq).trans hq; have g28 : v28.cell? ⟨g, 5, none⟩ = some (.int .i64 amt) := (B28.out.cell (p := ⟨g, 5, none⟩) lt).trans t; clear hb28))
  all_goals go_wp2_with fail
  all_goals
    go_ret
    exact ⟨rfl, B28.out⟩
end
set_option maxRecDepth 100000 in
set_option maxHeartbeats 2000000 in
theorem right_dem (f : Nat) (sum day : Int) (w : World) (p q : Nat) (hp : w.cell? ⟨p, 0, none⟩ = some (.int .i64 sum)) (hq : w.cell? ⟨q, 0, none⟩ = some (.int .i64 day)) :
    Calls Try.prog 33 #[.pointer (some ⟨p, 0, none⟩), .pointer (some ⟨q, 0, none⟩)] w fun e w' => e = .returned (.bool (right sum day)) ∧ Below w.heap.size w w' := by
  unfold right
  by_cases h1 : 1 ≤ sum ∧ sum ≤ 1099511627776
  · have H1 := Lib.hid (decide_eq_true h1)
    rw [H1.out, Bool.true_and]
    clear h1
    go_enter Try.func33, Try.ntmps33
    go_wp2_with fail
    refine (amount_any _ _).mono ?_
    rintro e w' ⟨rfl, rfl⟩
    rw [H1.out]
    go_wp2_with fail
    refine (day_any _ _).mono ?_
    rintro e w' ⟨rfl, rfl⟩
    go_wp2_with fail
    go_ret
    exact ⟨ret_bool (by simp), Below.refl _ _⟩
  · have H1 := Lib.hid (decide_eq_false h1)
    rw [H1.out, Bool.false_and]
    clear h1
    go_enter Try.func33, Try.ntmps33
    go_wp2_with fail
    refine (amount_any _ _).mono ?_
    rintro e w' ⟨rfl, rfl⟩
    rw [H1.out]
    go_wp2_with fail
    go_ret
    exact ⟨rfl, Below.refl _ _⟩
set_option maxRecDepth 100000 in
set_option maxHeartbeats 2000000 in
theorem right_rd (f : Nat) (sum day : Int) (w : World) (p q : Nat) (hp : w.cell? ⟨p, 0, none⟩ = some (.int .i64 sum)) (hq : w.cell? ⟨q, 0, none⟩ = some (.int .i64 day)) :
    Calls Try.prog 50 #[.pointer (some ⟨p, 0, none⟩), .pointer (some ⟨q, 0, none⟩)] w fun e w' => e = .returned (.bool (right sum day)) ∧ Below w.heap.size w w' := by
  unfold right
  by_cases h1 : 1 ≤ sum ∧ sum ≤ 1099511627776
  · have H1 := Lib.hid (decide_eq_true h1)
    rw [H1.out, Bool.true_and]
    clear h1
    go_enter Try.func50, Try.ntmps50
    go_wp2_with fail
    refine (amount_any _ _).mono ?_
    rintro e w' ⟨rfl, rfl⟩
    rw [H1.out]
    go_wp2_with fail
    refine (day_any _ _).mono ?_
    rintro e w' ⟨rfl, rfl⟩
    go_wp2_with fail
    go_ret
    exact ⟨ret_bool (by simp), Below.refl _ _⟩
  · have H1 := Lib.hid (decide_eq_false h1)
    rw [H1.out, Bool.false_and]
    clear h1
    go_enter Try.func50, Try.ntmps50
    go_wp2_with fail
    refine (amount_any _ _).mono ?_
    rintro e w' ⟨rfl, rfl⟩
    rw [H1.out]
    go_wp2_with fail
    go_ret
    exact ⟨rfl, Below.refl _ _⟩
section
variable (s : Sur) (g c d : Nat) (C D : Option Addr) (w : World) (h : SA w g s C c D d) {K : Nat} (ok : s.ok K) (hK : K ≤ 4096)
include h
set_option maxRecDepth 100000 in
set_option maxHeartbeats 2000000 in
theorem op1_any (p q : Nat) (n : Int) (hp : w.cell? ⟨p, 0, none⟩ = some (.int .i64 n)) (hq : w.cell? ⟨q, 0, none⟩ = some (.pointer (some ⟨g, 0, none⟩))) :
    Calls Try.prog 60 #[.pointer (some ⟨p, 0, none⟩), .pointer (some ⟨q, 0, none⟩)] w fun e w' => e = .returned (.bool (decide (0 ≤ n ∧ n < s.dem.length))) ∧ Below w.heap.size w w' := by
  have t := h.cellD
  clear h
  by_cases h0 : 0 ≤ n
  · have hd : decide (0 ≤ n) = true := by simpa using h0
    rw [show decide (0 ≤ n ∧ n < s.dem.length) = decide (n < s.dem.length) by simp [h0]]
    go_enter Try.func60, Try.ntmps60
    go_wp2
    go_quiet (fail)
    go_wp2
    go_ret
    exact ⟨rfl, below_drewN' (Below.refl _ _) _⟩
  · have hd : decide (0 ≤ n) = false := by simpa using h0
    rw [show decide (0 ≤ n ∧ n < s.dem.length) = false by simp [h0]]
    have h0' : n < 0 := by omega
    clear h0
    go_enter Try.func60, Try.ntmps60
    go_wp2
    go_quiet (fail)
    go_wp2
    go_ret
    exact ⟨rfl, below_drewN' (Below.refl _ _) _⟩
set_option maxRecDepth 100000 in
set_option maxHeartbeats 2000000 in
theorem op2_any (p q k : Nat) (x : Dem) (hp : w.cell? ⟨p, 0, none⟩ = some (.pointer (some ⟨g, 0, none⟩))) (hq : w.cell? ⟨q, 0, none⟩ = some (.int .i64 k)) (hx : s.dem[k]? = some x) :
    Calls Try.prog 61 #[.pointer (some ⟨p, 0, none⟩), .pointer (some ⟨q, 0, none⟩)] w fun e w' => e = .returned (.bool (x.st == 0)) ∧ Below w.heap.size w w' := by
  have t := h.cellD
  have hl : k < s.dem.length := (List.getElem?_eq_some_iff.1 hx).1
  obtain ⟨a, y, rfl, hy, hblk, c0, c1, c2⟩ := h.dem.at_ hl
  obtain rfl := Option.some.inj (hx.symm.trans hy)
  clear h hx hy c0 c1
  generalize s.dem.length = len at *
  go_enter Try.func61, Try.ntmps61
  go_wp2
  go_quiet (fail)
  go_wp2
  go_ret
  exact ⟨rfl, below_drewN' (Below.refl _ _) _⟩
set_option maxRecDepth 100000 in
set_option maxHeartbeats 2000000 in
theorem ext2_any (p q : Nat) (to_ : Int) (hp : w.cell? ⟨p, 0, none⟩ = some (.int .i64 to_)) (hq : w.cell? ⟨q, 0, none⟩ = some (.pointer (some ⟨g, 0, none⟩))) :
    Calls Try.prog 39 #[.pointer (some ⟨p, 0, none⟩), .pointer (some ⟨q, 0, none⟩)] w fun e w' => e = .returned (.bool (decide (s.exp < to_ ∧ 0 ≤ to_ ∧ to_ ≤ 1048576))) ∧ Below w.heap.size w w' := by
  have t := h.cellE
  clear h
  generalize s.exp = ex at *
  have DA := Lib.hid fun v => day_any to_ v
  by_cases h0 : ex < to_
  · have hd : decide (ex < to_) = true := by simpa using h0
    rw [show decide (ex < to_ ∧ 0 ≤ to_ ∧ to_ ≤ 1048576) = decide (0 ≤ to_ ∧ to_ ≤ 1048576) by simp [h0]]
    generalize decide (0 ≤ to_ ∧ to_ ≤ 1048576) = b at *
    go_enter Try.func39, Try.ntmps39
    go_wp2
    go_quiet ((go_at_call 27; exact (DA.out _).mono fun e w' h => ⟨h.1, _, h.2.symm⟩))
    go_wp2
    go_ret
    exact ⟨rfl, below_drewN' (Below.refl _ _) _⟩
  · have hd : decide (ex < to_) = false := by simpa using h0
    rw [show decide (ex < to_ ∧ 0 ≤ to_ ∧ to_ ≤ 1048576) = false by simp [h0]]
    have h0' : to_ ≤ ex := by omega
    clear h0
    go_enter Try.func39, Try.ntmps39
    go_wp2
    go_quiet (fail)
    go_wp2
    go_ret
    exact ⟨rfl, below_drewN' (Below.refl _ _) _⟩
end
end Go.Proofs.Ytlmlepdmgopojaa
