/- The walk of the document's Used. Condition: right stretches; how they lie. -/
import Derived.Test.YtlmnbdepklcfpaaUsed
namespace Go.Proofs.Ytlmnbdepklcfpaa
open Go.RowKit
set_option linter.unusedVariables false
set_option linter.unusedSimpArgs false

def V (a : Int) (l : List Str) (at_ : Int) : Int := fold (2 * a) 0 (hoursTo at_ l)
theorem hoursTo_len (at_ : Int) : ∀ l : List Str, (hoursTo at_ l).length ≤ (hours l).length
  | [] => by simp [hoursTo, hours]
  | s :: l => by
    have e1 : hoursTo at_ (s :: l) = List.replicate (min s.t at_ - s.f).toNat s.h ++ hoursTo at_ l := by simp [hoursTo]
    have e2 : hours (s :: l) = hrs s ++ hours l := by simp [hours]
    have := hoursTo_len at_ l
    rw [e1, e2, List.length_append, List.length_append, hrs, List.length_replicate, List.length_replicate]
    omega
theorem hoursTo_mem {at_ : Int} {l : List Str} {x : Int} (h : x ∈ hoursTo at_ l) : ∃ s ∈ l, x = s.h := by
  simp only [hoursTo, List.mem_flatMap] at h
  obtain ⟨s, hs, hx⟩ := h
  exact ⟨s, hs, (List.mem_replicate.1 hx).2⟩
theorem fold_rep_succ (F n h : Int) (j : Nat) : fold F n (List.replicate (j + 1) h) = step F (fold F n (List.replicate j h)) h := by
  rw [List.replicate_succ', fold_append]
  rfl
theorem hoursTo_next {at_ : Int} {l : List Str} {k : Nat} {s : Str} (h : l[k]? = some s) : hoursTo at_ (l.take (k + 1)) = hoursTo at_ (l.take k) ++ List.replicate (min s.t at_ - s.f).toNat s.h := by
  rw [List.take_add_one, h]
  simp [hoursTo]
theorem hours_next {l : List Str} {k : Nat} {s : Str} (h : l[k]? = some s) : hours (l.take (k + 1)) = hours (l.take k) ++ hrs s := by
  rw [List.take_add_one, h]
  simp [hours]
theorem hours_take_len (l : List Str) (k : Nat) : (hours (l.take k)).length ≤ (hours l).length := by
  have := hours_append (l.take k) (l.drop k)
  rw [List.take_append_drop] at this
  rw [this, List.length_append]
  omega
/-- the bound of what is used so far -/
theorem part_bd {F at_ : Int} {l : List Str} {k : Nat} {s : Str} (hr : (chk l).2 = 0) (hs : l[k]? = some s) {j : Nat} (hj : (j : Int) ≤ s.t - s.f) :
    0 ≤ fold F (fold F 0 (hoursTo at_ (l.take k))) (List.replicate j s.h) ∧ fold F (fold F 0 (hoursTo at_ (l.take k))) (List.replicate j s.h) ≤ 2097152 := by
  have hok := chain_get l _ (chk_chain hr).1
  have hall : ∀ x ∈ hoursTo at_ (l.take k) ++ List.replicate j s.h, 0 ≤ x ∧ x ≤ 2 := by
    intro x hx
    rcases List.mem_append.1 hx with hx | hx
    · obtain ⟨s', hs', rfl⟩ := hoursTo_mem hx
      obtain ⟨i, hi⟩ := List.mem_iff_getElem?.1 (List.mem_of_mem_take hs')
      have := hok.1 i s' hi
      unfold Str.ok at this
      omega
    · have := hok.1 k s hs
      unfold Str.ok at this
      have := (List.mem_replicate.1 hx).2
      omega
  rw [← fold_append]
  have g1 := fold_le F _ 0 fun x hx => (hall x hx).1
  have g2 := fold_bd F _ 0 fun x hx => (hall x hx).2
  have l1 := hoursTo_len at_ (l.take k)
  have l2 := hours_take_len l (k + 1)
  have l3 := (right_hours hr).2
  rw [hours_next hs, List.length_append, hrs, List.length_replicate] at l2
  rw [List.length_append, List.length_replicate] at g2
  refine ⟨g1, ?_⟩
  omega
set_option maxRecDepth 100000 in
set_option maxHeartbeats 4000000 in
theorem rused_any (a b c : Int) (A : Option Addr) (n k : Nat) (l : List Str) (at_ : Int) (w : World) (h : Strs w w.heap.size A n l) (hn : n ≤ maxLen) (hm : mayB a b c = true) (hr : (chk l).2 = 0) :
    Calls Try.prog 16 #[layV a b c, .slice A n k, .int .i64 at_] w fun e w' => e = .returned (.int .i64 (V a l at_)) ∧ Below w.heap.size w w' := by
  have hmm := hn
  unfold maxLen at hmm
  obtain ⟨w1, hw1⟩ : ∃ w1, w1 = w.alloc (.cells #[.int .i64 a, .int .i64 b, .int .i64 c] 23) := ⟨_, rfl⟩
  have hb : Below w.heap.size w w1 := by rw [hw1]; exact (Below.refl _ _).alloc (Nat.le_refl _) _
  have hbk : Blk w1 w.heap.size 23 #[.int .i64 a, .int .i64 b, .int .i64 c] := by rw [hw1]; exact Blk.new _ _ _
  obtain ⟨q0, q1, q2, _, _, _⟩ := hbk.three_
  have hb1 := hbk.lt
  have h1 := h.below hb
  obtain ⟨a0, a1, _, _, _, _⟩ := mayB_yes hm
  have HW := Lib.hid hw1
  have HB := Lib.hid hb
  have HR := Lib.hid hr
  clear hw1 hb hbk hm hr h
  unfold layV
  go_enter Try.func16, Try.ntmps16
  go_wp2_with fail
  rw [← HW.out]
  clear HW
  go_loopw [7, 8, 9] (fun x i _ v => ∃ k : Nat, k ≤ n ∧ i = .int .i64 k ∧ x = .int .i64 (V a (l.take k) at_) ∧ v = w1) (fun _ i _ _ => n - (intOf i).toNat)
  case atStart => exact ⟨0, by omega, rfl, rfl, rfl⟩
  case round =>
    obtain ⟨i, hi, rfl, rfl, rfl⟩ := hrel
    by_cases hlt : i < n
    · obtain ⟨ad, s, hA, hs, hab, x0, x1, x2⟩ := h1.at_ hlt
      subst hA
      obtain ⟨f, t, z⟩ := s
      have hok := right_get HR.out hs
      obtain ⟨o1, o2, o3, o4, o5⟩ := hok
      simp only at x0 x1 x2 o1 o2 o3 o4 o5
      have HS := Lib.hid hs
      clear hs
      go_wp2_with fail
      go_loopw [7, 9] (fun x y v => ∃ j : Nat, j ≤ (min t at_ - f).toNat ∧ y = .int .i64 (f + j) ∧ x = .int .i64 (fold (2 * a) (V a (l.take i) at_) (List.replicate j z)) ∧ v = wr) (fun _ y _ => (1048576 - intOf y).toNat)
      case atStart => exact ⟨0, by omega, by simp, by simp [fold], rfl⟩
      case round =>
        obtain ⟨j, hj, rfl, rfl, rfl⟩ := hrel
        have hjt : (j : Int) ≤ t - f := by omega
        obtain ⟨g1, g2⟩ := part_bd (F := 2 * a) (at_ := at_) HR.out HS.out (j := j) hjt
        change 0 ≤ fold (2 * a) (V a (l.take i) at_) (List.replicate j z) at g1
        change fold (2 * a) (V a (l.take i) at_) (List.replicate j z) ≤ 2097152 at g2
        by_cases hj2 : j < (min t at_ - f).toNat
        · have k1 : f + (j : Int) < t := by omega
          have k2 : f + (j : Int) < at_ := by omega
          have hsc := fold_rep_succ (2 * a) (V a (l.take i) at_) z j
          by_cases hov : 2 * a ≤ fold (2 * a) (V a (l.take i) at_) (List.replicate j z)
          · have hst : fold (2 * a) (V a (l.take i) at_) (List.replicate (j + 1) z) = fold (2 * a) (V a (l.take i) at_) (List.replicate j z) + 2 := by rw [hsc]; unfold step; rw [if_pos hov]
            have HST := Lib.hid hst
            clear hst hsc
            go_wp2_with fail
            go_roundw
            case rel => exact ⟨j + 1, by omega, by go_num, by rw [HST.out], trivial⟩
            case measure => simp [intOf]; omega
          · have hst : fold (2 * a) (V a (l.take i) at_) (List.replicate (j + 1) z) = fold (2 * a) (V a (l.take i) at_) (List.replicate j z) + z := by rw [hsc]; unfold step; rw [if_neg hov]
            have HST := Lib.hid hst
            have hov' : fold (2 * a) (V a (l.take i) at_) (List.replicate j z) < 2 * a := by omega
            clear hst hsc hov
            go_wp2_with fail
            go_roundw
            case rel => exact ⟨j + 1, by omega, by go_num, by rw [HST.out], trivial⟩
            case measure => simp [intOf]; omega
        · have hjm : j = (min t at_ - f).toNat := by omega
          have hnx : V a (l.take (i + 1)) at_ = fold (2 * a) (V a (l.take i) at_) (List.replicate j z) := by
            unfold V
            rw [hoursTo_next HS.out, fold_append, hjm]
          have HNX := Lib.hid hnx
          clear hnx
          by_cases k1 : f + (j : Int) < t
          · have k2 : at_ ≤ f + (j : Int) := by omega
            clear hjm hj2
            go_wp2_with fail
            go_roundw
            case rel => exact ⟨i + 1, by omega, by go_num, by rw [HNX.out], trivial⟩
            case measure => simp [intOf]; omega
          · have k2 : t ≤ f + (j : Int) := by omega
            clear hjm hj2 k1
            go_wp2_with fail
            go_roundw
            case rel => exact ⟨i + 1, by omega, by go_num, by rw [HNX.out], trivial⟩
            case measure => simp [intOf]; omega
    · obtain rfl : i = n := by omega
      have hl := h1.1
      have HL : Hid (V a (l.take i) at_ = V a l at_) := by show _ = _; rw [List.take_of_length_le (by omega)]
      go_wp2_with fail
      go_ret
      exact ⟨by first | rfl | (show Ending.returned (.int .i64 _) = _; rw [HL.out]), HB.out⟩
end Go.Proofs.Ytlmnbdepklcfpaa
