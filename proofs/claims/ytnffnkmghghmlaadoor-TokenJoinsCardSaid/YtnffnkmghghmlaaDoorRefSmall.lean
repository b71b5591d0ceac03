/- The walks of the document's small functions: digits, above, in, Words. Conditions: the texts' sizes; where the list lies. -/
import Derived.Test.YtnffnkmghghmlaaDoorToks
import Derived.Test.YtnffnkmghghmlaaDoorAbove
namespace Go.Proofs.YtnffnkmghghmlaaDoor
open Go.RowKit
set_option linter.unusedVariables false
set_option linter.unusedSimpArgs false
set_option maxRecDepth 100000 in
set_option maxHeartbeats 1000000 in
theorem digits_any (s : ByteArray) (w : World) (hs : s.size ≤ maxLen) : Calls Tryd.prog 40 #[.string s] w fun e w' => e = .returned (.bool (decide (spanN digI (bs s) = s.size))) ∧ w = w' := by
  unfold maxLen at hs
  go_enter Tryd.func40, Tryd.ntmps40
  go_wp2_with fail
  go_loopw [3] (fun i v => ∃ k : Nat, k ≤ s.size ∧ i = .int .i64 k ∧ Hid (FrontTo digI s k) ∧ w = v) (fun i _ => s.size - (intOf i).toNat)
  case atStart => exact ⟨0, Nat.zero_le _, rfl, fun i c h _ => by omega, rfl⟩
  case round =>
    obtain ⟨k, hk, rfl, ha, rfl⟩ := hrel
    by_cases hlt : k < s.size
    · have no : digI (s[k].toNat : Int) = false → Hid (decide (spanN digI (bs s) = s.size) = false) := fun hb => by
        show _ = false
        have : spanN digI (bs s) = k := spanN_eq _ _ (by rw [bs_len]; exact hk) ha.out fun c hc => by
          rw [bs_get hlt] at hc
          cases hc
          exact hb
        exact decide_eq_false (by omega)
      have NO := Lib.hid no
      have NX := Lib.hid (ha.out.next hlt)
      clear no
      by_cases h1 : (s[k].toNat : Int) < 48
      · have HN := NO.out (by simp [digI]; omega)
        go_wp2_with fail
        go_ret
        exact ⟨ret_bool HN.out, rfl⟩
      · have h1' : 48 ≤ (s[k].toNat : Int) := by omega
        by_cases h2 : 57 < (s[k].toNat : Int)
        · have HN := NO.out (by simp [digI]; omega)
          go_wp2_with fail
          go_ret
          exact ⟨ret_bool HN.out, rfl⟩
        · have h2' : (s[k].toNat : Int) ≤ 57 := by omega
          have HN := Lib.hid (NX.out (by simp [digI]; omega))
          clear h1 h2
          go_wp2_with fail
          go_roundw
          case rel => exact ⟨k + 1, by omega, by go_num, HN, trivial⟩
          case measure => simp [intOf]; omega
    · obtain rfl : k = s.size := by omega
      have HN : Hid (decide (spanN digI (bs s) = s.size) = true) := by
        show _ = true
        exact decide_eq_true (spanN_eq _ _ (by rw [bs_len]; exact hk) ha.out fun c hc => by
          rw [← bs_len] at hc
          simp at hc)
      go_wp2_with fail
      go_ret
      exact ⟨ret_bool HN.out, rfl⟩
theorem less_turn : ∀ a b : Bs, (!Op.bytesLess a b && !(a == b)) = Op.bytesLess b a
  | [], [] => rfl
  | [], b :: y => rfl
  | a :: x, [] => rfl
  | a :: x, b :: y => by
    have ih := less_turn x y
    simp only [Op.bytesLess]
    rw [← ih]
    rcases Nat.lt_trichotomy a.toNat b.toNat with h | h | h
    · have e1 : decide (a < b) = true := by simpa [UInt8.lt_iff_toNat_lt] using h
      have e2 : decide (b < a) = false := by simpa [UInt8.lt_iff_toNat_lt] using Nat.le_of_lt h
      have e3 : (b == a) = false := by simp; rintro rfl; omega
      rw [e1, e2, e3]
      rfl
    · obtain rfl : a = b := UInt8.toNat_inj.1 h
      have e1 : decide (a < a) = false := by simp
      rw [e1]
      simp
    · have e1 : decide (a < b) = false := by simpa [UInt8.lt_iff_toNat_lt] using Nat.le_of_lt h
      have e2 : decide (b < a) = true := by simpa [UInt8.lt_iff_toNat_lt] using h
      have e3 : (a == b) = false := by simp; rintro rfl; omega
      rw [e1, e2, e3]
      simp
      exact .inl fun e => by rw [e] at h; omega
theorem above_any (s : ByteArray) (w : World) (hs : s.size ≤ maxLen) : Calls Tryd.prog 41 #[.string s] w fun e w' => e = .returned (.bool (aboveL (bs s))) ∧ w = w' := by
  have e0 : s.toList = bs s := ByteArray.toList_eq s
  by_cases h1 : 13 < s.size
  · have HN : Hid (aboveL (bs s) = true) := by show _ = true; unfold aboveL; rw [bs_len, decide_eq_true (p := 13 < s.size) h1]; rfl
    have h1' : (13 : Int) < s.size := by omega
    clear e0
    go_enter Tryd.func41, Tryd.ntmps41
    go_wp2_with fail
    go_ret
    exact ⟨ret_bool HN.out, rfl⟩
  · have h1' : (s.size : Int) ≤ 13 := by omega
    by_cases h2 : s.size = 13
    · have HN : Hid (aboveL (bs s) = Op.bytesLess most (bs s)) := by show _ = _; unfold aboveL; rw [bs_len, decide_eq_false (p := 13 < s.size) h1, decide_eq_true (p := s.size = 13) h2]; rfl
      have h2' : ((s.size : Int) == 13) = true := by rw [h2]; rfl
      have E0 := Lib.hid e0
      clear e0 h2
      go_enter Tryd.func41, Tryd.ntmps41
      go_wp2_with fail
      go_ret
      refine ⟨ret_bool ?_, rfl⟩
      rw [HN.out, E0.out, decide_eq_false (by omega), Bool.false_or]
      exact (less_turn _ _).symm
    · have HN : Hid (aboveL (bs s) = false) := by show _ = _; unfold aboveL; rw [bs_len, decide_eq_false (p := 13 < s.size) h1, decide_eq_false (p := s.size = 13) h2]; rfl
      have h2' : ((s.size : Int) == 13) = false := by simp; omega
      clear e0 h2
      go_enter Tryd.func41, Tryd.ntmps41
      go_wp2_with fail
      go_ret
      exact ⟨ret_bool (HN.out.trans (decide_eq_false (by omega)).symm), rfl⟩
/-- so many texts lie there -/
def StrR (w : World) (A : Option Addr) (L : List Bs) : Prop := Reads w w.heap.size 1 A L.length (L.map fun x => .string (str x))
theorem StrR.up {w w' : World} {A : Option Addr} {L : List Bs} (h : StrR w A L) (hb : Below w.heap.size w w') : StrR w' A L := (h.below hb).more hb.size
set_option maxRecDepth 100000 in
set_option maxHeartbeats 1000000 in
theorem in_any (L : List Bs) (A : Option Addr) (c : Nat) (s : ByteArray) (w : World) (hr : StrR w A L) (hL : L.length ≤ maxLen) : Calls Tryd.prog 42 #[.slice A L.length c, .string s] w fun e w' => e = .returned (.bool (L.contains (bs s))) ∧ w = w' := by
  unfold maxLen at hL
  have E0 := Lib.hid (show s.toList = bs s from ByteArray.toList_eq s)
  go_enter Tryd.func42, Tryd.ntmps42
  go_wp2_with fail
  go_loopw [5] (fun i v => ∃ k : Nat, k ≤ L.length ∧ i = .int .i64 k ∧ Hid (∀ j x, j < k → L[j]? = some x → x ≠ bs s) ∧ w = v) (fun i _ => L.length - (intOf i).toNat)
  case atStart => exact ⟨0, Nat.zero_le _, rfl, fun j x h => by omega, rfl⟩
  case round =>
    obtain ⟨k, hk, rfl, ha, rfl⟩ := hrel
    by_cases hlt : k < L.length
    · obtain ⟨a, u, rfl, hab, hu, hcell⟩ := hr.at_ hlt
      simp only [List.getElem?_map, Option.map_eq_some_iff] at hu
      obtain ⟨x, hx, rfl⟩ := hu
      have HX := Lib.hid hx
      have HR := Lib.hid hr
      clear hx hr
      by_cases he : x = bs s
      · have e1 : ((str x).toList == s.toList) = true := by rw [toList_str, E0.out, he]; simp
        have HN : Hid (L.contains (bs s) = true) := by
          show _ = true
          rw [← he, List.contains_eq_mem]
          exact decide_eq_true (List.mem_of_getElem? HX.out)
        clear he
        go_wp2_with fail
        go_ret
        exact ⟨ret_bool HN.out, rfl⟩
      · have e1 : ((str x).toList == s.toList) = false := by rw [toList_str, E0.out]; simpa using he
        have HN : Hid (∀ j x, j < k + 1 → L[j]? = some x → x ≠ bs s) := by
          intro j y hj hy
          rcases Nat.lt_or_ge j k with h | h
          · exact ha.out j y h hy
          · obtain rfl : j = k := by omega
            have := HX.out
            rw [hy] at this
            cases this
            exact he
        clear he
        go_wp2_with fail
        go_roundw
        case rel => exact ⟨k + 1, by omega, by go_num, HN, trivial⟩
        case measure => simp [intOf]; omega
    · have hge : (L.length : Int) ≤ k := by omega
      have HN : Hid (L.contains (bs s) = false) := by
        show _ = false
        rw [List.contains_eq_mem]
        refine decide_eq_false fun h => ?_
        obtain ⟨j, hj⟩ := List.mem_iff_getElem?.1 h
        exact ha.out j _ (by have := (List.getElem?_eq_some_iff.1 hj).1; omega) hj rfl
      clear hlt
      go_wp2_with fail
      go_ret
      exact ⟨ret_bool HN.out, rfl⟩
set_option maxRecDepth 100000 in
set_option maxHeartbeats 1000000 in
theorem rwords_any (w : World) : Calls Tryd.prog 16 #[] w fun e w' => ∃ A c, e = .returned (.slice A 35 c) ∧ StrR w' A tbl ∧ Below w.heap.size w w' := by
  go_enter Tryd.func16, Tryd.ntmps16
  go_wp2_with fail
  go_ret
  refine ⟨_, _, rfl, ?_, (Below.refl _ _).alloc (Nat.le_refl _) _⟩
  have := lit_readsN w (tbl.map fun x => Value.string (str x)).toArray 9 w.heap.size 1 35 _ rfl rfl rfl
  exact this.more (by simp)
end Go.Proofs.YtnffnkmghghmlaaDoor
