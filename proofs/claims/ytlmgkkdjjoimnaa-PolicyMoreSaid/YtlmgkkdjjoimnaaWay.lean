/- The walks of onWay and of the document's Way. Condition: how the hands lie. -/
import Derived.Test.YtlmgkkdjjoimnaaHands
namespace Go.Proofs.Ytlmgkkdjjoimnaa
open Go.RowKit
set_option linter.unusedVariables false
set_option linter.unusedSimpArgs false

def wayB (p : Pol) (l : List Hand) (day : Int) : Bool :=
  match first l p.fr with
  | none => false
  | some b => match l[b]? with
    | none => false
    | some hb => if day < hb.day then false else match first (l.drop (b + 1)) p.to_ with
      | none => true
      | some e => match (l.drop (b + 1))[e]? with
        | none => true
        | some he => decide (day ≤ he.day)
section
variable {p : Pol} {l : List Hand} {day : Int} {b e : Nat} {hb he : Hand}
theorem way1 (h : first l p.fr = none) : wayB p l day = false := by unfold wayB; rw [h]
theorem way2 (h : first l p.fr = some b) (h2 : l[b]? = some hb) (h3 : day < hb.day) : wayB p l day = false := by unfold wayB; simp only [h, h2]; rw [if_pos h3]
theorem way3 (h : first l p.fr = some b) (h2 : l[b]? = some hb) (h3 : ¬ day < hb.day) (h4 : first (l.drop (b + 1)) p.to_ = none) : wayB p l day = true := by unfold wayB; simp only [h, h2]; rw [if_neg h3, h4]
theorem way4 (h : first l p.fr = some b) (h2 : l[b]? = some hb) (h3 : ¬ day < hb.day) (h4 : first (l.drop (b + 1)) p.to_ = some e) (h5 : (l.drop (b + 1))[e]? = some he) : wayB p l day = decide (day ≤ he.day) := by
  unfold wayB
  simp only [h, h2]
  rw [if_neg h3, h4]
  simp only [h5]
end
theorem first_get {l : List Hand} {s : ByteArray} {k : Nat} (h : first l s = some k) : ∃ x, l[k]? = some x ∧ k < l.length := by
  unfold first at h
  rw [List.findIdx?_eq_some_iff_getElem] at h
  obtain ⟨hlt, _⟩ := h
  exact ⟨_, List.getElem?_eq_getElem hlt, hlt⟩
theorem hs_zero (w : World) (B : Nat) (A : Option Addr) {n : Nat} (hn : n = 0) : Hs w B A n [] := by
  subst hn
  exact ⟨rfl, Nat.zero_le _, by simp [flat], fun h => absurd h (by omega)⟩
section
variable (p : Pol) (A : Option Addr) (n c : Nat) (D : Option Addr) (m d : Nat) (l : List Hand) (day : Int) (w : World) (hh : Hs w w.heap.size D m l) (hmd : m ≤ d)
include hh hmd
set_option maxRecDepth 100000 in
set_option maxHeartbeats 8000000 in
theorem onway_any : Calls Try.prog 33 #[polV p A n c, .slice D m d, .int .i64 day] w fun e w' => e = .returned (.bool (wayB p l day)) ∧ Below w.heap.size w w' := by
  have K0 := Lib.hid (Kp.new w (p.cells A n c))
  have hm := hh.2.1
  unfold maxLen at hm
  have HH := Lib.hid hh
  clear hh
  unfold polV Pol.cells at *
  go_enter Try.func33, Try.ntmps33
  go_wp2_with fail
  refine (at_any p.fr _).mono ?_
  rintro e w1 ⟨rfl, hbl, hb⟩
  simp only [World.size_alloc] at hbl
  have K1 := Lib.hid (K0.out.step hb)
  have HBL := Lib.hid hbl
  clear hb hbl
  go_wp2_with fail
  refine (index_any D m d l _ p.fr w1 (HH.out.up K1.out.1) HBL.out).mono ?_
  rintro e w2 ⟨rfl, hb⟩
  have K2 := Lib.hid (K1.out.step hb)
  clear hb K1 HBL
  have HH2 := Lib.hid (HH.out.up K2.out.1)
  obtain ⟨c0, c1, c2, c3, c4, c5, c6, c7, c8⟩ := K2.out.2.nine_
  rcases hf : first l p.fr with _ | b
  · have HW := Lib.hid (way1 (day := day) hf)
    clear hf
    unfold idxI
    go_wp2_with fail
    go_ret
    exact ⟨ret_bool HW.out, K2.out.1⟩
  · have HF := Lib.hid hf
    obtain ⟨hbd, hg, hlt⟩ := first_get hf
    rw [HH.out.1] at hlt
    clear hf
    obtain ⟨a, x, hA, hx, hab, x0, x1, x2, x3, x4⟩ := HH2.out.at_ hlt
    subst hA
    obtain rfl := Option.some.inj (hg.symm.trans hx)
    have HG := Lib.hid hg
    clear hx hg
    unfold idxI
    simp only
    by_cases hd : day < hbd.day
    · have HW := Lib.hid (way2 HF.out HG.out hd)
      go_wp2_with fail
      go_ret
      exact ⟨ret_bool HW.out, K2.out.1⟩
    · have hd' : hbd.day ≤ day := by omega
      have HD := Lib.hid hd
      clear hd
      have W1 : IntKind.i64.wrap ((b : Int) + 1) = (b : Int) + 1 := IntWalk.i64_in _ (by omega)
      have hb1 : b + 1 ≤ m := by omega
      have hb1i : (b : Int) + 1 ≤ m := by omega
      have hb2i : (b : Int) + 1 ≤ d := by omega
      have HT := Lib.hid (HH2.out.tail hb1 hmd)
      rcases hf2 : first (l.drop (b + 1)) p.to_ with _ | e
      · have HW := Lib.hid (way3 HF.out HG.out HD.out hf2)
        have HF2 := Lib.hid hf2
        clear hf2
        by_cases hcap : d = b + 1
        · have hmb : m = b + 1 := by omega
          have HC := Lib.hid hcap
          have HMB := Lib.hid hmb
          subst hmb
          subst hcap
          have hnil : Hid (l.drop (b + 1) = []) := by show l.drop (b + 1) = []; apply List.drop_eq_nil_of_le; rw [HH.out.1]; exact Nat.le_refl _
          go_wp2_with fail
          refine (at_any p.to_ w2).mono ?_
          rintro e w3 ⟨rfl, hbl, hb⟩
          have K3 := Lib.hid (K2.out.step hb)
          have HBL := Lib.hid hbl
          clear hb hbl
          go_wp2_with fail
          refine (index_any _ _ _ [] _ p.to_ w3 (hs_zero _ _ _ (by omega)) HBL.out).mono ?_
          rintro e w4 ⟨rfl, hb⟩
          have K4 := Lib.hid (K3.out.step hb)
          have f0 : first [] p.to_ = none := rfl
          rw [f0]
          clear hb f0
          unfold idxI
          go_wp2_with fail
          go_ret
          exact ⟨ret_bool HW.out, K4.out.1⟩
        · have HT' : Hid (Hs w2 w2.heap.size (some (a.add ((b + 1) * 5))) (m - (b + 1)) (l.drop (b + 1))) := by have := HT.out; rw [if_neg hcap] at this; exact this
          have hcap' : b + 1 < d := by omega
          have hci : (b : Int) + 1 < d := by omega
          clear HT
          go_wp2_with fail
          refine (at_any p.to_ w2).mono ?_
          rintro e w3 ⟨rfl, hbl, hb⟩
          have K3 := Lib.hid (K2.out.step hb)
          have HT3 := Lib.hid (HT'.out.up hb)
          have HBL := Lib.hid hbl
          clear hb hbl
          go_wp2_with fail
          refine (index_any _ _ _ (l.drop (b + 1)) _ p.to_ w3 HT3.out HBL.out).mono ?_
          rintro e w4 ⟨rfl, hb⟩
          have K4 := Lib.hid (K3.out.step hb)
          rw [HF2.out]
          clear hb
          unfold idxI
          go_wp2_with fail
          go_ret
          exact ⟨ret_bool HW.out, K4.out.1⟩
      · have HF2 := Lib.hid hf2
        obtain ⟨he, hg2, hlt2⟩ := first_get hf2
        have HG2 := Lib.hid hg2
        have hlt2' : e < m - (b + 1) := by rw [List.length_drop, HH.out.1] at hlt2; exact hlt2
        have hcap : ¬ d = b + 1 := by omega
        have HT' : Hid (Hs w2 w2.heap.size (some (a.add ((b + 1) * 5))) (m - (b + 1)) (l.drop (b + 1))) := by have := HT.out; rw [if_neg hcap] at this; exact this
        have hcap' : b + 1 < d := by omega
        have hci : (b : Int) + 1 < d := by omega
        clear hf2 hg2 hlt2 HT hcap
        have HW := Lib.hid (way4 HF.out HG.out HD.out HF2.out HG2.out)
        go_wp2_with fail
        refine (at_any p.to_ w2).mono ?_
        rintro e0 w3 ⟨rfl, hbl, hb⟩
        have K3 := Lib.hid (K2.out.step hb)
        have HT3 := Lib.hid (HT'.out.up hb)
        have HBL := Lib.hid hbl
        clear hb hbl
        go_wp2_with fail
        refine (index_any _ _ _ (l.drop (b + 1)) _ p.to_ w3 HT3.out HBL.out).mono ?_
        rintro e0 w4 ⟨rfl, hb⟩
        have K4 := Lib.hid (K3.out.step hb)
        have HT4 := HT3.out.up hb
        rw [HF2.out]
        obtain ⟨a4, y, hA, hy, hab4, y0, y1, y2, y3, y4⟩ := HT4.at_ hlt2'
        cases hA
        obtain rfl := Option.some.inj (HG2.out.symm.trans hy)
        clear hb hy HT4
        unfold idxI
        simp only
        have hq : ((e : Int)) < ((m - (b + 1) : Nat) : Int) := by omega
        by_cases hle : day ≤ he.day
        · go_wp2_with fail
          go_ret
          exact ⟨ret_bool (HW.out.trans (decide_eq_true hle)), K4.out.1⟩
        · have hle' : he.day < day := by omega
          have HLE := Lib.hid (decide_eq_false hle)
          clear hle
          go_wp2_with fail
          go_ret
          exact ⟨ret_bool (HW.out.trans (by rw [decide_eq_false (show ¬ ((e : Nat) : Int) < 0 by omega)]; rfl)), K4.out.1⟩
omit hmd in
set_option maxRecDepth 100000 in
set_option maxHeartbeats 8000000 in
theorem rway_any : Calls Try.prog 34 #[polV p A n c, .slice D m d, .int .i64 day] w fun e w' => e = .returned (.bool (wayB p l day)) ∧ Below w.heap.size w w' := by
  obtain ⟨w1, hw1⟩ : ∃ w1, w1 = w.alloc (.cells (p.cells A n c) 24) := ⟨_, rfl⟩
  have K1 := Lib.hid (show Kp w (p.cells A n c) w1 by rw [hw1]; exact Kp.new w _)
  have hm := hh.2.1
  unfold maxLen at hm
  have HH := Lib.hid (hh.below K1.out.1)
  clear hh
  unfold Pol.cells at hw1 K1
  have HW1 := Lib.hid hw1
  clear hw1
  obtain ⟨c0, c1, c2, c3, c4, c5, c6, c7, c8⟩ := K1.out.2.nine_
  have l1 := K1.out.2.lt
  unfold polV Pol.cells
  go_enter Try.func34, Try.ntmps34
  go_wp2_with fail
  rw [← HW1.out]
  clear HW1
  go_loopw [7, 8] (fun b i v => ∃ k : Nat, k ≤ m ∧ i = .int .i64 k ∧ (∃ dd, v = w1.drewN dd) ∧ ((b = .int .i64 (-1) ∧ Hid (NoneTo l p.fr k)) ∨ ∃ (j : Nat) (hb : Hand), b = .int .i64 j ∧ j < k ∧ Hid (first l p.fr = some j) ∧ Hid (l[j]? = some hb) ∧ Hid (¬ day < hb.day) ∧ Hid (NoneTo (l.drop (j + 1)) p.to_ (k - (j + 1))))) (fun _ i _ => m - (intOf i).toNat)
  case atStart => exact ⟨0, by omega, rfl, ⟨0, rfl⟩, .inl ⟨rfl, fun j h hj => by omega⟩⟩
  case round =>
    obtain ⟨k, hk, rfl, ⟨dd, rfl⟩, hst⟩ := hrel
    by_cases hlt : k < m
    · obtain ⟨a, x, hA, hx, hab, x0, x1, x2, x3, x4⟩ := HH.out.at_ hlt
      subst hA
      have HX := Lib.hid hx
      clear hx
      rcases hst with ⟨rfl, hn⟩ | ⟨j, hb, rfl, hjk, hF, hG, hD, hN⟩
      · by_cases hp1 : x.place = p.fr
        · have HF := Lib.hid (first_some HX.out hp1 hn.out)
          have q : (x.place.toList == p.fr.toList) = true := by rw [hp1]; exact str_same _
          clear hp1
          by_cases hd : day < x.day
          · have HW := Lib.hid (way2 HF.out HX.out hd)
            go_wp2_with fail
            go_quiet (fail)
            go_wp2_with fail
            go_ret
            exact ⟨ret_bool HW.out, below_drewN' K1.out.1 _⟩
          · have HD := Lib.hid hd
            have hd' : x.day ≤ day := by omega
            clear hd
            have HNN : Hid (NoneTo (l.drop (k + 1)) p.to_ (k + 1 - (k + 1))) := fun j h hj => by omega
            go_wp2_with fail
            go_quiet (fail)
            go_wp2_with fail
            go_roundw
            case rel => exact ⟨k + 1, by omega, by go_num, ⟨_, rfl⟩, .inr ⟨k, x, rfl, by omega, HF, HX, Int.not_lt.2 HD.out, HNN⟩⟩
            case measure => simp [intOf]; omega
        · have HN := Lib.hid (hn.out.next HX.out hp1)
          have q := str_ne hp1
          clear hp1
          go_wp2_with fail
          go_quiet (fail)
          go_wp2_with fail
          go_quiet (fail)
          go_wp2_with fail
          go_roundw
          case rel => exact ⟨k + 1, by omega, by go_num, ⟨_, rfl⟩, .inl ⟨rfl, HN⟩⟩
          case measure => simp [intOf]; omega
      · have hj0 : (0 : Int) ≤ (j : Int) := by omega
        have jd : decide ((j : Int) < 0) = false := decide_eq_false (by omega)
        have HX2 : Hid ((l.drop (j + 1))[k - (j + 1)]? = some x) := by show (l.drop (j + 1))[k - (j + 1)]? = some x; rw [List.getElem?_drop, show j + 1 + (k - (j + 1)) = k by omega]; exact HX.out
        by_cases hp1 : x.place = p.to_
        · have HF2 := Lib.hid (first_some HX2.out hp1 hN.out)
          have HW := Lib.hid (way4 hF.out hG.out hD.out HF2.out HX2.out)
          have q : (x.place.toList == p.to_.toList) = true := by rw [hp1]; exact str_same _
          clear hp1
          by_cases hd : day ≤ x.day
          · go_wp2_with fail
            go_quiet (fail)
            go_wp2_with fail
            go_quiet (fail)
            go_wp2_with fail
            go_ret
            exact ⟨ret_bool (HW.out.trans (decide_eq_true hd)), below_drewN' K1.out.1 _⟩
          · have hd' : x.day < day := by omega
            have HD2 := Lib.hid (decide_eq_false hd)
            clear hd
            go_wp2_with fail
            go_quiet (fail)
            go_wp2_with fail
            go_quiet (fail)
            go_wp2_with fail
            go_ret
            exact ⟨ret_bool (by first | exact HW.out | exact HW.out.trans HD2.out), below_drewN' K1.out.1 _⟩
        · have HN := Lib.hid (hN.out.next HX2.out hp1)
          rw [show k - (j + 1) + 1 = k + 1 - (j + 1) by omega] at HN
          have q := str_ne hp1
          clear hp1
          go_wp2_with fail
          go_quiet (fail)
          go_wp2_with fail
          go_quiet (fail)
          go_wp2_with fail
          go_roundw
          case rel => exact ⟨k + 1, by omega, by go_num, ⟨_, rfl⟩, .inr ⟨j, hb, rfl, by omega, hF, hG, Int.not_lt.2 hD.out, HN⟩⟩
          case measure => simp [intOf]; omega
    · obtain rfl : k = m := by omega
      rcases hst with ⟨rfl, hn⟩ | ⟨j, hb, rfl, hjk, hF, hG, hD, hN⟩
      · have HW := Lib.hid (way1 (day := day) (first_none (by rw [HH.out.1]; exact hn.out)))
        go_wp2_with fail
        go_ret
        exact ⟨ret_bool HW.out, below_drewN' K1.out.1 _⟩
      · have HW := Lib.hid (way3 hF.out hG.out hD.out (first_none (by rw [List.length_drop, HH.out.1]; exact hN.out)))
        have hj0 : (0 : Int) ≤ (j : Int) := by omega
        go_wp2_with fail
        go_ret
        exact ⟨ret_bool HW.out, below_drewN' K1.out.1 _⟩
end
end Go.Proofs.Ytlmgkkdjjoimnaa
