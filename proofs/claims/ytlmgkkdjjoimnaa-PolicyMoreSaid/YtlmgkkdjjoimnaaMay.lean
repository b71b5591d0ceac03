/- The walks of the two Mays. Condition: how the causes lie. -/
import Derived.Test.YtlmgkkdjjoimnaaNames
namespace Go.Proofs.Ytlmgkkdjjoimnaa
open Go.RowKit
set_option linter.unusedVariables false
set_option linter.unusedSimpArgs false

/-- a policy, plainly -/
structure Pol where
  ins : ByteArray
  fr : ByteArray
  to_ : ByteArray
  sum : Int
  own : Int
  causes : List Int
  first : Int
  last : Int
  share : Int
def Pol.cells (p : Pol) (A : Option Addr) (n c : Nat) : Array Value := #[.string p.ins, .string p.fr, .string p.to_, .int .i64 p.sum, .int .i64 p.own, .slice A n c, .int .i64 p.first, .int .i64 p.last, .int .i64 p.share]
def Pol.wf (p : Pol) : Prop := p.ins.size ≤ maxLen ∧ p.fr.size ≤ maxLen ∧ p.to_.size ≤ maxLen
/-- the causes lie there, ahead of block B -/
def Cs (w : World) (B : Nat) (A : Option Addr) (n : Nat) (l : List Int) : Prop := l.length = n ∧ n ≤ maxLen ∧ Reads w B 1 A n (l.map (Value.int .i64))
theorem Cs.below {w w' : World} {B n : Nat} {A : Option Addr} {l : List Int} (h : Cs w B A n l) (hb : Below B w w') : Cs w' B A n l := ⟨h.1, h.2.1, h.2.2.below hb⟩
theorem Cs.up {w w' : World} {n : Nat} {A : Option Addr} {l : List Int} (h : Cs w w.heap.size A n l) (hb : Below w.heap.size w w') : Cs w' w'.heap.size A n l := ⟨h.1, h.2.1, (h.2.2.below hb).more hb.size⟩
theorem Cs.at_ {w : World} {B n k : Nat} {A : Option Addr} {l : List Int} (h : Cs w B A n l) (hk : k < n) : ∃ (a : Addr) (x : Int), A = some a ∧ l[k]? = some x ∧ (a.add k).block < B ∧ w.cell? (a.add k) = some (.int .i64 x) := by
  obtain ⟨a, u, rfl, hb, hu, hc⟩ := h.2.2.at_ hk
  simp only [List.getElem?_map, Option.map_eq_some_iff] at hu
  obtain ⟨x, hx, rfl⟩ := hu
  exact ⟨a, x, rfl, hx, by rw [block_of_add]; exact hb, hc⟩
def inB (n lo hi : Int) : Bool := decide (lo ≤ n ∧ n ≤ hi)
theorem inB_yes {n lo hi : Int} (h : lo ≤ n ∧ n ≤ hi) : inB n lo hi = true := by unfold inB; simpa using h
theorem inB_no {n lo hi : Int} (h : ¬ (lo ≤ n ∧ n ≤ hi)) : inB n lo hi = false := by unfold inB; simpa using h
theorem inB_of {n lo hi : Int} (h : inB n lo hi = true) : lo ≤ n ∧ n ≤ hi := by unfold inB at h; simpa using h
def causeB (l : List Int) (k : Nat) : Bool :=
  match l[k]? with
  | none => true
  | some x => inB x 0 1048576 && match (if k = 0 then none else l[k - 1]?) with
    | none => true
    | some y => decide (y < x)
def causesB (l : List Int) : Bool := (List.range l.length).all (causeB l)
def CausesTo (l : List Int) (k : Nat) : Prop := ∀ j, j < k → causeB l j = true
theorem causes_yes {l : List Int} (h : CausesTo l l.length) : causesB l = true := by
  unfold causesB
  rw [List.all_eq_true]
  intro j hj
  exact h j (by simpa using hj)
theorem causes_no {l : List Int} {k : Nat} (hk : k < l.length) (h : causeB l k = false) : causesB l = false := by
  unfold causesB
  rw [List.all_eq_false]
  exact ⟨k, by simpa using hk, by simp [h]⟩
theorem CausesTo.next {l : List Int} {k : Nat} (h : CausesTo l k) (hb : causeB l k = true) : CausesTo l (k + 1) := fun j hj => by
  rcases Nat.lt_or_ge j k with h' | h'
  · exact h j h'
  · obtain rfl : j = k := by omega
    exact hb
theorem causeB_out {l : List Int} {k : Nat} {x : Int} (hx : l[k]? = some x) (h : inB x 0 1048576 = false) : causeB l k = false := by unfold causeB; rw [hx]; simp [h]
theorem causeB_first {l : List Int} {k : Nat} {x : Int} (hx : l[k]? = some x) (h : inB x 0 1048576 = true) (h0 : k = 0) : causeB l k = true := by unfold causeB; rw [hx]; simp [h, h0]
theorem causeB_next {l : List Int} {k : Nat} {x y : Int} (hx : l[k]? = some x) (h : inB x 0 1048576 = true) (h0 : 0 < k) (hy : l[k - 1]? = some y) : causeB l k = decide (y < x) := by
  unfold causeB
  rw [hx]
  simp only [h, Bool.true_and]
  rw [if_neg (by omega), hy]
def mayP (p : Pol) : Bool := nameB p.ins && nameB p.fr && nameB p.to_ && decide (p.causes.length ≤ 64) && causesB p.causes && inB p.sum 1 1099511627776 && inB p.own 0 p.sum && inB p.share 1 1000 && inB p.first 0 1048576 && inB p.last 0 1048576 && decide (p.first ≤ p.last)
theorem mayP_all {p : Pol} : mayP p = true ↔ nameB p.ins = true ∧ nameB p.fr = true ∧ nameB p.to_ = true ∧ p.causes.length ≤ 64 ∧ causesB p.causes = true ∧ (1 ≤ p.sum ∧ p.sum ≤ 1099511627776) ∧ (0 ≤ p.own ∧ p.own ≤ p.sum) ∧ (1 ≤ p.share ∧ p.share ≤ 1000) ∧ (0 ≤ p.first ∧ p.first ≤ 1048576) ∧ (0 ≤ p.last ∧ p.last ≤ 1048576) ∧ p.first ≤ p.last := by
  unfold mayP inB
  simp only [Bool.and_eq_true, decide_eq_true_eq, and_assoc]
theorem mayP_not {p : Pol} (h : ¬ mayP p = true) : mayP p = false := by simpa using h
theorem within_any (n lo hi : Int) (w : World) : Calls Try.prog 25 #[.int .i64 n, .int .i64 lo, .int .i64 hi] w fun e w' => e = .returned (.bool (inB n lo hi)) ∧ w = w' := by
  by_cases h0 : lo ≤ n
  · by_cases h1 : n ≤ hi
    · rw [inB_yes ⟨h0, h1⟩]
      go_enter Try.func25, Try.ntmps25
      go_wp2
      go_ret
      exact ⟨rfl, rfl⟩
    · rw [inB_no (by omega)]
      have h1' : hi < n := by omega
      go_enter Try.func25, Try.ntmps25
      go_wp2
      go_ret
      exact ⟨rfl, rfl⟩
  · rw [inB_no (by omega)]
    have h0' : n < lo := by omega
    go_enter Try.func25, Try.ntmps25
    go_wp2
    go_ret
    exact ⟨rfl, rfl⟩
theorem rin_any (n lo hi : Int) (w : World) : Calls Try.prog 28 #[.int .i64 n, .int .i64 lo, .int .i64 hi] w fun e w' => e = .returned (.bool (inB n lo hi)) ∧ w = w' := by
  by_cases h0 : lo ≤ n
  · by_cases h1 : n ≤ hi
    · rw [inB_yes ⟨h0, h1⟩]
      go_enter Try.func28, Try.ntmps28
      go_wp2
      go_ret
      exact ⟨rfl, rfl⟩
    · rw [inB_no (by omega)]
      have h1' : hi < n := by omega
      go_enter Try.func28, Try.ntmps28
      go_wp2
      go_ret
      exact ⟨rfl, rfl⟩
  · rw [inB_no (by omega)]
    have h0' : n < lo := by omega
    go_enter Try.func28, Try.ntmps28
    go_wp2
    go_ret
    exact ⟨rfl, rfl⟩
theorem day_any (n : Int) (w : World) : Calls Try.prog 31 #[.int .i64 n] w fun e w' => e = .returned (.bool (inB n 0 1048576)) ∧ w = w' := by
  go_enter Try.func31, Try.ntmps31
  go_wp2_with fail
  refine (within_any n 0 1048576 w).mono ?_
  rintro e w' ⟨rfl, rfl⟩
  go_wp2
  go_ret
  exact ⟨rfl, rfl⟩
theorem Blk.nine_ {w : World} {g : Nat} {t : TypeId} {a b c d e f x y z : Value} (h : Blk w g t #[a, b, c, d, e, f, x, y, z]) :
    w.cell? ⟨g, 0, none⟩ = some a ∧ w.cell? ⟨g, 1, none⟩ = some b ∧ w.cell? ⟨g, 2, none⟩ = some c ∧ w.cell? ⟨g, 3, none⟩ = some d ∧ w.cell? ⟨g, 4, none⟩ = some e ∧ w.cell? ⟨g, 5, none⟩ = some f ∧ w.cell? ⟨g, 6, none⟩ = some x ∧ w.cell? ⟨g, 7, none⟩ = some y ∧ w.cell? ⟨g, 8, none⟩ = some z :=
  ⟨h.cell 0, h.cell 1, h.cell 2, h.cell 3, h.cell 4, h.cell 5, h.cell 6, h.cell 7, h.cell 8⟩
def polV (p : Pol) (A : Option Addr) (n c : Nat) : Value := .agg (p.cells A n c)

section
variable (p : Pol) (hp : p.wf) (A : Option Addr) (n c : Nat) (w : World) (hc : Cs w w.heap.size A n p.causes)
include hp hc
set_option maxRecDepth 100000 in
set_option maxHeartbeats 8000000 in
theorem may_any : Calls Try.prog 17 #[polV p A n c] w fun e w' => e = .returned (.bool (mayP p)) ∧ Below w.heap.size w w' := by
  obtain ⟨w1, hw1⟩ : ∃ w1, w1 = w.alloc (.cells (p.cells A n c) 24) := ⟨_, rfl⟩
  have hb : Below w.heap.size w w1 := by rw [hw1]; exact (Below.refl _ _).alloc (Nat.le_refl _) _
  have bx : Blk w1 w.heap.size 24 (p.cells A n c) := by rw [hw1]; exact Blk.new _ _ _
  unfold Pol.cells at bx
  obtain ⟨c0, c1, c2, c3, c4, c5, c6, c7, c8⟩ := bx.nine_
  have lb := bx.lt
  have h1 := hc.below hb
  have hm := hc.2.1
  unfold maxLen at hm
  have HM := Lib.hid (mayP_all (p := p))
  have HP := Lib.hid hp
  have HB := Lib.hid hb
  have HL := Lib.hid hc.1
  unfold Pol.cells at hw1
  have HW := Lib.hid hw1
  clear hw1 hb bx hc hp
  unfold polV Pol.cells
  go_enter Try.func17, Try.ntmps17
  go_wp2_with fail
  rw [← HW.out]
  clear HW

  refine (name_any p.ins w1 HP.out.1).mono ?_
  rintro e w' ⟨rfl, rfl⟩
  generalize hb0 : nameB p.ins = b0
  have HB0 := Lib.hid hb0
  clear hb0
  cases b0
  case false =>
    go_wp2_with fail
    go_ret
    exact ⟨ret_bool (mayP_not fun h => by have := (HM.out.1 h).1; rw [HB0.out] at this; cases this), HB.out⟩
  go_wp2_with fail
  refine (name_any p.fr w1 HP.out.2.1).mono ?_
  rintro e w' ⟨rfl, rfl⟩
  generalize hb1 : nameB p.fr = b1
  have HB1 := Lib.hid hb1
  clear hb1
  cases b1
  case false =>
    go_wp2_with fail
    go_ret
    exact ⟨ret_bool (mayP_not fun h => by have := (HM.out.1 h).2.1; rw [HB1.out] at this; cases this), HB.out⟩
  go_wp2_with fail
  refine (name_any p.to_ w1 HP.out.2.2).mono ?_
  rintro e w' ⟨rfl, rfl⟩
  generalize hb2 : nameB p.to_ = b2
  have HB2 := Lib.hid hb2
  clear hb2
  cases b2
  case false =>
    go_wp2_with fail
    go_ret
    exact ⟨ret_bool (mayP_not fun h => by have := (HM.out.1 h).2.2.1; rw [HB2.out] at this; cases this), HB.out⟩
  by_cases h64 : 64 < n
  · have q : (64 : Int) < n := by omega
    go_wp2_with fail
    go_ret
    exact ⟨ret_bool (mayP_not fun h => by have := (HM.out.1 h).2.2.2.1; have := HL.out; omega), HB.out⟩
  have q : (n : Int) ≤ 64 := by omega
  clear h64
  go_wp2_with fail
  go_loopw [3, 4, 30] (fun _ _ i v => ∃ k : Nat, k ≤ n ∧ i = .int .i64 k ∧ Hid (CausesTo p.causes k) ∧ w1 = v) (fun _ _ i _ => n - (intOf i).toNat)
  case atStart => exact ⟨0, by omega, rfl, fun j h => by omega, rfl⟩
  case round =>
    obtain ⟨k, hk, rfl, ha, rfl⟩ := hrel
    by_cases hlt : k < n
    · obtain ⟨a, x, hA, hx, hab, x0⟩ := h1.at_ hlt
      subst hA
      have HX := Lib.hid hx
      clear hx
      generalize hbx : inB x 0 1048576 = bx
      have HBX := Lib.hid hbx
      clear hbx
      have HKL : Hid (k < p.causes.length) := by show k < p.causes.length; rw [HL.out]; exact hlt
      cases bx
      · go_wp2_with fail
        refine (within_any x 0 1048576 w1).mono ?_
        rintro e w' ⟨rfl, rfl⟩
        rw [HBX.out]
        go_wp2_with fail
        go_ret
        exact ⟨ret_bool (mayP_not fun h => by have := (HM.out.1 h).2.2.2.2.1; rw [causes_no HKL.out (causeB_out HX.out HBX.out)] at this; cases this), HB.out⟩
      · by_cases k0 : k = 0
        · have HC := Lib.hid (causeB_first HX.out HBX.out k0)
          have k0i : (k : Int) ≤ 0 := by omega
          have k0d : decide (0 < k) = false := by simp; omega
          have k0e : decide ((0 : Int) < (k : Int)) = false := by simp; omega
          clear k0
          go_wp2_with fail
          refine (within_any x 0 1048576 w1).mono ?_
          rintro e w' ⟨rfl, rfl⟩
          rw [HBX.out]
          go_wp2_with fail
          go_roundw
          case rel => exact ⟨k + 1, by omega, by go_num, ha.out.next HC.out, trivial⟩
          case measure => simp [intOf]; omega
        · have k0' : 0 < k := by omega
          have k0i : (0 : Int) < k := by omega
          obtain ⟨a', y, hA, hy, hab', y0⟩ := h1.at_ (show k - 1 < n by omega)
          cases hA
          have HC := Lib.hid (causeB_next HX.out HBX.out k0' hy)
          have W1 : IntKind.i64.wrap ((k : Int) - 1) = ((k - 1 : Nat) : Int) := by rw [show (k : Int) - 1 = ((k - 1 : Nat) : Int) by omega]; exact IntWalk.i64_in _ (by omega)
          have hle : k - 1 < n := by omega
          clear hy k0
          by_cases hxy : y < x
          · have HC2 : Hid (causeB p.causes k = true) := by show causeB p.causes k = true; rw [HC.out]; simpa using hxy
            clear HC
            go_wp2_with fail
            refine (within_any x 0 1048576 w1).mono ?_
            rintro e w' ⟨rfl, rfl⟩
            rw [HBX.out]
            go_wp2_with fail
            go_roundw
            case rel => exact ⟨k + 1, by omega, by go_num, ha.out.next HC2.out, trivial⟩
            case measure => simp [intOf]; omega
          · have HC2 : Hid (causeB p.causes k = false) := by show causeB p.causes k = false; rw [HC.out]; simpa using hxy
            have hxy' : x ≤ y := by omega
            clear HC hxy
            go_wp2_with fail
            refine (within_any x 0 1048576 w1).mono ?_
            rintro e w' ⟨rfl, rfl⟩
            rw [HBX.out]
            go_wp2_with fail
            go_ret
            exact ⟨ret_bool (mayP_not fun h => by have := (HM.out.1 h).2.2.2.2.1; rw [causes_no HKL.out HC2.out] at this; cases this), HB.out⟩
    · obtain rfl : k = n := by omega
      have HCA : Hid (causesB p.causes = true) := causes_yes (by rw [HL.out]; exact ha.out)

      go_wp2_with fail
      refine (within_any p.sum 1 1099511627776 w1).mono ?_
      rintro e w' ⟨rfl, rfl⟩
      generalize ht0 : inB p.sum 1 1099511627776 = t0
      have HT0 := Lib.hid ht0
      clear ht0
      cases t0
      case false =>
        go_wp2_with fail
        go_ret
        exact ⟨ret_bool (mayP_not fun h => by have := inB_yes (HM.out.1 h).2.2.2.2.2.1; rw [HT0.out] at this; cases this), HB.out⟩
      go_wp2_with fail
      refine (within_any p.own 0 p.sum w1).mono ?_
      rintro e w' ⟨rfl, rfl⟩
      generalize ht1 : inB p.own 0 p.sum = t1
      have HT1 := Lib.hid ht1
      clear ht1
      cases t1
      case false =>
        go_wp2_with fail
        go_ret
        exact ⟨ret_bool (mayP_not fun h => by have := inB_yes (HM.out.1 h).2.2.2.2.2.2.1; rw [HT1.out] at this; cases this), HB.out⟩
      go_wp2_with fail
      refine (within_any p.share 1 1000 w1).mono ?_
      rintro e w' ⟨rfl, rfl⟩
      generalize ht2 : inB p.share 1 1000 = t2
      have HT2 := Lib.hid ht2
      clear ht2
      cases t2
      case false =>
        go_wp2_with fail
        go_ret
        exact ⟨ret_bool (mayP_not fun h => by have := inB_yes (HM.out.1 h).2.2.2.2.2.2.2.1; rw [HT2.out] at this; cases this), HB.out⟩
      go_wp2_with fail
      refine (day_any p.first w1).mono ?_
      rintro e w' ⟨rfl, rfl⟩
      generalize ht3 : inB p.first 0 1048576 = t3
      have HT3 := Lib.hid ht3
      clear ht3
      cases t3
      case false =>
        go_wp2_with fail
        go_ret
        exact ⟨ret_bool (mayP_not fun h => by have := inB_yes (HM.out.1 h).2.2.2.2.2.2.2.2.1; rw [HT3.out] at this; cases this), HB.out⟩
      go_wp2_with fail
      refine (day_any p.last w1).mono ?_
      rintro e w' ⟨rfl, rfl⟩
      generalize ht4 : inB p.last 0 1048576 = t4
      have HT4 := Lib.hid ht4
      clear ht4
      cases t4
      case false =>
        go_wp2_with fail
        go_ret
        exact ⟨ret_bool (mayP_not fun h => by have := inB_yes (HM.out.1 h).2.2.2.2.2.2.2.2.2.1; rw [HT4.out] at this; cases this), HB.out⟩
      by_cases hfl : p.first ≤ p.last
      · have HF := Lib.hid (HM.out.2 ⟨HB0.out, HB1.out, HB2.out, by have := HL.out; omega, HCA.out, inB_of HT0.out, inB_of HT1.out, inB_of HT2.out, inB_of HT3.out, inB_of HT4.out, hfl⟩)
        go_wp2_with fail
        go_ret
        exact ⟨ret_bool HF.out, HB.out⟩
      · have hfl' : p.last < p.first := by omega
        go_wp2_with fail
        go_ret
        exact ⟨ret_bool ((mayP_not fun h => by have := (HM.out.1 h).2.2.2.2.2.2.2.2.2.2; omega).trans (decide_eq_false (by omega)).symm), HB.out⟩

end
end Go.Proofs.Ytlmgkkdjjoimnaa
