/- SuretyExtends' walk. Condition: where the acts lie; the sizes of the bond's texts. -/
import Derived.Test.YtlmlepdmgopojaaMaysLaw
import Derived.Test.YtlmlepdmgopojaaBndView
namespace Go.Proofs.Ytlmlepdmgopojaa
open Go.RowKit
set_option linter.unusedVariables false
set_option linter.unusedSimpArgs false
theorem demand_b (s : Sur) (by_ : ByteArray) (sum day : Int) : (s.demand by_ sum day).1.b = s.b := by
  unfold Sur.demand
  split
  · rfl
  split
  · rfl
  split
  · rfl
  split <;> rfl
theorem extend_b (s : Sur) (n day : Int) : (s.extend n day).1.b = s.b := by
  unfold Sur.extend
  split
  · rfl
  split <;> rfl
theorem pay_b (s : Sur) (n : Int) : (s.pay n).1.b = s.b := by unfold Sur.pay; split <;> rfl
theorem reduce_b (s : Sur) (sum day : Int) : (s.reduce sum day).1.b = s.b := by
  unfold Sur.reduce
  split
  · rfl
  split <;> rfl
theorem act_b (s : Sur) (a : Act') : (s.act a).1.b = s.b := by
  unfold Sur.act
  split
  · exact demand_b _ _ _ _
  split
  · exact extend_b _ _ _
  split
  · exact pay_b _ _
  · exact reduce_b _ _ _
theorem acts_b (s : Sur) (l : List Act') : (s.acts l).b = s.b := by
  induction l generalizing s with
  | nil => rfl
  | cons a l ih => simp only [Sur.acts, ih, act_b]
theorem demand_no {s : Sur} {by_ : ByteArray} {sum day : Int} (h : (s.demand by_ sum day).2.2 ≠ 0) : (s.demand by_ sum day).1 = s := by
  unfold Sur.demand at h ⊢
  split
  · rfl
  split
  · rfl
  split
  · rfl
  split
  · rfl
  · rename_i h1 h2 h3 h4
    rw [if_neg h1, if_neg h2, if_neg h3, if_neg h4] at h
    exact absurd rfl h
theorem demand_yes {s : Sur} {by_ : ByteArray} {sum day : Int} (h : (s.demand by_ sum day).2.2 = 0) :
    s.demand by_ sum day = (({ s with dem := s.dem ++ [(⟨day, sum, 0⟩ : Dem)] } : Sur), (s.dem.length : Int), (0 : Int)) ∧ 1 ≤ sum ∧ sum ≤ s.left day := by
  unfold Sur.demand at h ⊢
  split at h
  · cases h
  split at h
  · cases h
  split at h
  · cases h
  split at h
  · cases h
  · rename_i h1 h2 h3 h4
    rw [if_neg h1, if_neg h2, if_neg h3, if_neg h4]
    have hr := right_iff.1 (by simpa using h2)
    exact ⟨rfl, hr.1.1, by omega⟩
theorem left_more {s : Sur} {sum day : Int} (h1 : 1 ≤ sum) (h2 : sum ≤ s.left day) : ({ s with dem := s.dem ++ [(⟨day, sum, 0⟩ : Dem)] } : Sur).left day = s.left day - sum := by
  unfold Sur.left at *
  simp only [asked_append]
  simp [asked]
  omega
theorem extend_no {s : Sur} {n day : Int} (h : (s.extend n day).2 ≠ 0) : (s.extend n day).1 = s := by
  unfold Sur.extend at h ⊢
  split
  · rfl
  split
  · rfl
  · rename_i h1 h2
    rw [if_neg h1, if_neg h2] at h
    exact absurd rfl h
/-- extended: the last demand is withdrawn -/
theorem extend_last {s : Sur} {sum day until_ : Int} (h : (({ s with dem := s.dem ++ [(⟨day, sum, 0⟩ : Dem)] } : Sur).extend s.dem.length until_).2 = 0) :
    (({ s with dem := s.dem ++ [(⟨day, sum, 0⟩ : Dem)] } : Sur).extend s.dem.length until_).1 = { s with exp := until_, dem := s.dem ++ [(⟨day, sum, 2⟩ : Dem)] } := by
  unfold Sur.extend at h ⊢
  split at h
  · rename_i h0
    exact absurd h h0
  split at h
  · cases h
  · rename_i h1 h2
    rw [if_neg h1, if_neg h2]
    have hx : (s.dem ++ [(⟨day, sum, 0⟩ : Dem)])[s.dem.length]? = some ⟨day, sum, 0⟩ := by simp
    show ({ s with exp := until_, dem := setSt (s.dem ++ [(⟨day, sum, 0⟩ : Dem)]) ((s.dem.length : Int).toNat) 2 } : Sur) = _
    rw [Int.toNat_natCast, setSt_some 2 hx]
    simp
theorem open_last (s : Sur) (sum day until_ : Int) : ({ s with exp := until_, dem := s.dem ++ [(⟨day, sum, 2⟩ : Dem)] } : Sur).open_ s.dem.length = 9 := by
  have hx : ({ s with exp := until_, dem := s.dem ++ [(⟨day, sum, 2⟩ : Dem)] } : Sur).dem[s.dem.length]? = some ⟨day, sum, 2⟩ := by simp
  rw [open_in hx]
  simp
theorem left_last (s : Sur) (sum day until_ : Int) : ({ s with exp := until_, dem := s.dem ++ [(⟨day, sum, 2⟩ : Dem)] } : Sur).left day = s.left day := by
  unfold Sur.left
  simp only [asked_append]
  simp [asked]
theorem pay_9 {s : Sur} {n : Int} (h : s.open_ n = 9) : s.pay n = (s, 0, 9) := by unfold Sur.pay; rw [h, if_pos (by decide)]
theorem extend_9 {s : Sur} {n day : Int} (h : s.open_ n = 9) : s.extend n day = (s, 9) := by unfold Sur.extend; rw [h, if_pos (by decide)]
theorem expired_last (s : Sur) (until_ : Int) (l : List Dem) : ({ s with exp := until_, dem := l } : Sur).expired until_ = false := by unfold Sur.expired; simp
set_option maxRecDepth 100000 in
set_option maxHeartbeats 8000000 in
theorem extendsLaw_any (b : Bnd) (hb : b.wf) (A : Option Addr) (n c : Nat) (l : List Act') (sum day until_ : Int) (w : World) (h : Acts w w.heap.size A n l) (hn : n ≤ maxLen) :
    Calls Try.prog 4 #[bndV b, .slice A n c, .int .i64 sum, .int .i64 day, .int .i64 until_] w fun e w' => e = .returned (.bool true) ∧ Below w.heap.size w w' := by
  unfold maxLen at hn
  have K0 := Lib.hid (Kb.new w b)
  have NM := Lib.hid fun v => new_m b hb v
  have HA := Lib.hid h
  have hl := h.1
  clear h
  unfold bndV at NM ⊢
  unfold Bnd.cells at NM ⊢
  by_cases h40 : 40 < n
  · have q : (40 : Int) < n := by omega
    clear hl h40
    go_enter Try.func4, Try.ntmps4
    go_wp2_with fail
    refine (awake_any _).mono ?_
    rintro e w1 ⟨rfl, hb1⟩
    have K1 := Lib.hid ((show Kb w b _ from K0.out).step hb1)
    clear hb1 K0
    go_wp2_with fail
    refine (awake_any _).mono ?_
    rintro e w2 ⟨rfl, hb2⟩
    have K2 := Lib.hid (K1.out.step hb2)
    clear hb2 K1
    go_wp2_with fail
    go_ret
    exact ⟨rfl, K2.out.1⟩
  have q : (n : Int) ≤ 40 := by omega
  have hn40 : n ≤ 40 := by omega
  have HL := Lib.hid hl
  clear h40 hl
  go_enter Try.func4, Try.ntmps4
  go_wp2_with fail
  refine (awake_any _).mono ?_
  rintro e w1 ⟨rfl, hb1⟩
  have K1 := Lib.hid ((show Kb w b _ from K0.out).step hb1)
  obtain ⟨p0, p1, p2, p3, p4, p5, p6⟩ := K1.out.seven
  clear hb1 K0
  go_wp2_with fail
  refine (NM.out _).mono ?_
  rintro e w2 (⟨hm, g, rfl, hmine⟩ | ⟨hm, rfl, hb3⟩)
  rotate_left
  · have K2 := Lib.hid (K1.out.step hb3)
    clear hm hb3
    go_wp2_with fail
    go_ret
    exact ⟨rfl, K2.out.1⟩
  have OK := Lib.hid (sur0_ok hm)
  have M2 := Lib.hid hmine
  clear hm hmine p0 p1 p2 p3 p4 p5 p6
  go_wp2_with fail
  go_loopw [40] (fun i v => ∃ k : Nat, k ≤ n ∧ i = .int .i64 k ∧ Hid (Mine w1 v g ((sur0 b).acts (l.take k)))) (fun i _ => n - (intOf i).toNat)
  case atStart => exact ⟨0, Nat.zero_le _, rfl, M2⟩
  case round =>
    obtain ⟨k, hk, rfl, hm⟩ := hrel
    have KV := Lib.hid (K1.out.mine hm.out)
    have OKk := Lib.hid (OK.out.acts (l.take k))
    have hlk : 0 + (l.take k).length < 4096 := by simp; omega
    by_cases hlt : k < n
    · obtain ⟨a, x, rfl, hx, hwf, hblk, c0, c1, c2, c3, c4⟩ := (HA.out.up KV.out.1).at_ hlt
      have HE := Lib.hid (acts_take (sur0 b) l k x hx)
      have DO := Lib.hid fun (v : World) (m : Mine w1 v g ((sur0 b).acts (l.take k))) => do_m m OKk.out hlk x hwf
      unfold actV Act'.cells at DO
      clear hx hwf hlk
      go_wp2_with fail
      refine (DO.out _ (hm.out.below ((Below.refl _ _).alloc (Nat.le_refl _) _))).mono ?_
      rintro e w3 ⟨rfl, hm3⟩
      rw [← HE.out] at hm3
      have M3 := Lib.hid hm3
      clear hm3 DO
      go_wp2_with fail
      go_roundw
      case rel => exact ⟨k + 1, by omega, by go_num, M3⟩
      case measure => simp [intOf]; omega
    · have hge : (n : Int) ≤ k := by omega
      have e : l.take k = l := List.take_of_length_le (by have := HL.out; omega)
      rw [e] at hm OKk hlk
      have hbto : ((sur0 b).acts l).b = b := acts_b _ _
      have HBT := Lib.hid hbto
      obtain ⟨s, hs⟩ : ∃ s, s = (sur0 b).acts l := ⟨_, rfl⟩
      rw [← hs] at hm OKk HBT
      have hlk1 : 0 + l.length + 1 < 4096 := by have := HL.out; omega
      generalize 0 + l.length = K at *
      obtain ⟨p0, p1, p2, p3, p4, p5, p6⟩ := KV.out.seven
      clear hlt e hbto hs
      go_wp2_with fail
      refine (left_m hm.out OKk.out hlk day).mono ?_
      rintro e w3 ⟨rfl, hm3⟩
      have M3 := Lib.hid hm3
      have K3 := Lib.hid (K1.out.mine hm3)
      clear p0 p1 p2 p3 p4 p5 p6 hm3 KV
      obtain ⟨p0, p1, p2, p3, p4, p5, p6⟩ := K3.out.seven
      go_wp2_with fail
      refine (demand_m M3.out OKk.out hlk b.to_ sum day).mono ?_
      rintro e w4 ⟨rfl, hm4⟩
      have K4 := Lib.hid (K1.out.mine hm4)
      by_cases hz : (s.demand b.to_ sum day).2.2 = 0
      rotate_left
      · rw [demand_no hz] at hm4
        have M4 := Lib.hid hm4
        generalize (s.demand b.to_ sum day).2.2 = z at *
        have hz' : (z != 0) = true := by simpa using hz
        clear hm4 hz p0 p1 p2 p3 p4 p5 p6
        go_wp2_with fail
        refine (left_m M4.out OKk.out hlk day).mono ?_
        rintro e w5 ⟨rfl, hm5⟩
        have K5 := Lib.hid (K1.out.mine hm5)
        clear hm5
        go_wp2_with fail
        go_ret
        exact ⟨by simp, K5.out.1⟩
      · obtain ⟨e1, s1, s2⟩ := demand_yes hz
        have OK4 := Lib.hid (OKk.out.demand b.to_ sum day)
        have ok := OKk.out
        have lb := left_bnd ok (by omega) day
        have amt := ok.amt
        have lbd : 0 ≤ s.left day ∧ s.left day ≤ 1099511627776 := by unfold Sur.left; omega
        have W1 : IntKind.i64.wrap (s.left day - sum) = s.left day - sum := IntWalk.i64_in _ (by omega)
        rw [e1] at hm4 OK4 ⊢
        simp only at hm4 OK4 ⊢
        have M4 := Lib.hid hm4
        have LM := Lib.hid (left_more s1 s2)
        have EN := Lib.hid fun h => extend_no (s := { s with dem := s.dem ++ [(⟨day, sum, 0⟩ : Dem)] }) (n := s.dem.length) (day := until_) h
        have EL := Lib.hid fun h => extend_last (s := s) (sum := sum) (day := day) (until_ := until_) h
        clear hm4 hz e1 ok amt lb p0 p1 p2 p3 p4 p5 p6
        go_wp2_with fail
        refine (left_m M4.out OK4.out hlk1 day).mono ?_
        rintro e w5 ⟨rfl, hm5⟩
        rw [LM.out]
        have M5 := Lib.hid hm5
        clear hm5 M4
        go_wp2_with fail
        refine (extend_m M5.out OK4.out hlk1 s.dem.length until_).mono ?_
        rintro e w6 ⟨rfl, hm6⟩
        have OK6 := Lib.hid (OK4.out.extend s.dem.length until_)
        by_cases hy : (({ s with dem := s.dem ++ [(⟨day, sum, 0⟩ : Dem)] } : Sur).extend s.dem.length until_).2 = 0
        rotate_left
        · rw [EN.out hy] at hm6
          have M6 := Lib.hid hm6
          generalize (({ s with dem := s.dem ++ [(⟨day, sum, 0⟩ : Dem)] } : Sur).extend s.dem.length until_).2 = z at *
          have hy' : (z != 0) = true := by simpa using hy
          clear hm6 hy OK6 EN EL
          go_wp2_with fail
          refine (left_m M6.out OK4.out hlk1 day).mono ?_
          rintro e w7 ⟨rfl, hm7⟩
          rw [LM.out]
          have K7 := Lib.hid (K1.out.mine hm7)
          clear hm7
          go_wp2_with fail
          go_ret
          exact ⟨by simp, K7.out.1⟩
        · rw [EL.out hy] at hm6 OK6
          rw [hy]
          have M6 := Lib.hid hm6
          have OL := Lib.hid (open_last s sum day until_)
          have LL := Lib.hid (left_last s sum day until_)
          have XL := Lib.hid (expired_last s until_ (s.dem ++ [(⟨day, sum, 2⟩ : Dem)]))
          clear hm6 hy EN EL
          go_wp2_with fail
          refine (pay_m M6.out OK6.out hlk1 s.dem.length).mono ?_
          rintro e w7 ⟨rfl, hm7⟩
          rw [pay_9 OL.out] at hm7 ⊢
          have M7 := Lib.hid hm7
          clear hm7
          go_wp2_with fail
          refine (extend_m M7.out OK6.out hlk1 s.dem.length 1048576).mono ?_
          rintro e w8 ⟨rfl, hm8⟩
          rw [extend_9 OL.out] at hm8 ⊢
          have M8 := Lib.hid hm8
          clear hm8
          go_wp2_with fail
          refine (left_m M8.out OK6.out hlk1 day).mono ?_
          rintro e w9 ⟨rfl, hm9⟩
          rw [LL.out]
          have M9 := Lib.hid hm9
          have e9 : (s.left day == s.left day) = true := by simp
          clear hm9
          go_wp2_with fail
          refine (expired_m M9.out OK6.out hlk1 until_).mono ?_
          rintro e w10 ⟨rfl, hm10⟩
          rw [XL.out]
          have K10 := Lib.hid (K1.out.mine hm10)
          clear hm10
          go_wp2_with fail
          go_ret
          exact ⟨rfl, K10.out.1⟩
end Go.Proofs.Ytlmlepdmgopojaa
