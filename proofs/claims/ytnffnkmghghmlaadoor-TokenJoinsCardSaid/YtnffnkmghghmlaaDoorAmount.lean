/- The walk of amount. Condition: digits alone. -/
import Derived.Test.YtnffnkmghghmlaaDoorSpan
namespace Go.Proofs.YtnffnkmghghmlaaDoor
open Go.RowKit
set_option linter.unusedVariables false
set_option linter.unusedSimpArgs false
theorem dig_at {s : ByteArray} (hd : spanN digI (bs s) = s.size) {k : Nat} (hk : k < s.size) : 48 ≤ s[k].toNat ∧ s[k].toNat ≤ 57 := by
  have := spanN_get (p := digI) (bs s) k s[k] (by omega) (bs_get hk)
  simp [on, digI] at this
  omega
theorem bs_head {s : ByteArray} (h : 0 < s.size) : (bs s).head? = some s[0] := by rw [List.head?_eq_getElem?]; exact bs_get h
theorem u8_eq {c : UInt8} {n : Nat} {d : UInt8} (hd : d.toNat = n) : c = d ↔ (c.toNat : Int) = n := by
  constructor
  · rintro rfl
    omega
  · intro h
    exact UInt8.toNat_inj.1 (by omega)
set_option maxRecDepth 100000 in
set_option maxHeartbeats 1000000 in
theorem amount_any (s : ByteArray) (w : World) (hs : s.size ≤ maxLen) (hd : spanN digI (bs s) = s.size) : Calls Tryd.prog 47 #[.string s] w fun e w' => e = .returned (.int .i64 (amtC (bs s))) ∧ w = w' := by
  unfold maxLen at hs
  have HD := Lib.hid hd
  have HA := Lib.hid (show amtC (bs s) = if 1 < (bs s).length ∧ (bs s).head? = some 48 then 2 else if 1099511627776 < valOf (bs s) then 3 else 0 from rfl)
  generalize amtC (bs s) = am at HA ⊢
  clear hd
  by_cases h1 : 1 < s.size ∧ (s[0]?.getD 0).toNat = 48
  · obtain ⟨h1, h2⟩ := h1
    have h0 : (s[0]?.getD 0) = s[0] := by rw [getElem?_pos s 0 (by omega)]; rfl
    rw [h0] at h2
    have HR : Hid (am = 2) := by
      show am = 2
      rw [HA.out, if_pos ⟨by rw [bs_len]; exact h1, by rw [bs_head (by omega)]; congr 1; exact (u8_eq (n := 48) rfl).2 (by omega)⟩]
    have q1 : (1 : Int) < s.size := by omega
    have q2 : ((s[0].toNat : Int) == 48) = true := by rw [h2]; rfl
    clear h0 h2
    go_enter Tryd.func47, Tryd.ntmps47
    go_wp2_with fail
    go_ret
    exact ⟨ret_int HR.out, rfl⟩
  · have HR : am = if 1099511627776 < valOf (bs s) then 3 else 0 := by
      rw [HA.out, if_neg]
      rintro ⟨g1, g2⟩
      rw [bs_len] at g1
      rw [bs_head (by omega)] at g2
      refine h1 ⟨g1, ?_⟩
      rw [getElem?_pos s 0 (by omega)]
      simp only [Option.some.injEq] at g2
      simp [g2]
    have HP : Hid (1099511627776 < valOf (bs s) → am = 3) := fun h => by rw [HR, if_pos h]
    have HQ : Hid (¬ 1099511627776 < valOf (bs s) → am = 0) := fun h => by rw [HR, if_neg h]
    by_cases hz : 1 < s.size
    · have q1 : (1 : Int) < s.size := by omega
      have q2 : ((s[0].toNat : Int) == 48) = false := by
        have : s[0].toNat ≠ 48 := fun e => h1 ⟨hz, by rw [getElem?_pos s 0 (by omega)]; simpa using e⟩
        simp; omega
      clear h1 HR HA
      go_enter Tryd.func47, Tryd.ntmps47
      go_wp2_with fail
      go_loopw [3, 4] (fun n i v => ∃ k : Nat, k ≤ s.size ∧ n = .int .i64 (valOf ((bs s).take k)) ∧ i = .int .i64 k ∧ valOf ((bs s).take k) ≤ 1099511627776 ∧ w = v) (fun _ i _ => s.size - (intOf i).toNat)
      case atStart => exact ⟨0, Nat.zero_le _, by simp [valOf], rfl, by simp [valOf], rfl⟩
      case round =>
        obtain ⟨k, hk, rfl, rfl, hv, rfl⟩ := hrel
        by_cases hlt : k < s.size
        · obtain ⟨d1, d2⟩ := dig_at HD.out hlt
          have HV := Lib.hid (valOf_next (bs_get hlt))
          have HT := Lib.hid (valOf_take (bs s) (k + 1))
          generalize valOf ((bs s).take k) = n at *
          have W1 : IntKind.i64.wrap ((n : Int) * 10) = (n : Int) * 10 := IntWalk.i64_in _ (by omega)
          have W2 : IntKind.u8.wrap ((s[k].toNat : Int) - 48) = (s[k].toNat : Int) - 48 := IntWalk.u8_in _ (by omega)
          have W3 : IntKind.i64.wrap ((s[k].toNat : Int) - 48) = (s[k].toNat : Int) - 48 := IntWalk.i64_in _ (by omega)
          have W4 : IntKind.i64.wrap ((n : Int) * 10 + ((s[k].toNat : Int) - 48)) = (n : Int) * 10 + ((s[k].toNat : Int) - 48) := IntWalk.i64_in _ (by omega)
          by_cases hm : 1099511627776 < (n : Int) * 10 + ((s[k].toNat : Int) - 48)
          · have HZ : Hid (am = 3) := HP.out (by have := HV.out; have := HT.out; omega)
            go_wp2_with fail
            go_ret
            exact ⟨ret_int HZ.out, rfl⟩
          · have hm' : (n : Int) * 10 + ((s[k].toNat : Int) - 48) ≤ 1099511627776 := by omega
            clear hm
            go_wp2_with fail
            go_roundw
            case rel =>
              refine ⟨k + 1, by omega, ?_, by go_num, ?_, trivial⟩
              · rw [HV.out]
                congr 1
                omega
              · rw [HV.out]
                omega
            case measure => simp [intOf]; omega
        · obtain rfl : k = s.size := by omega
          have hf : Hid (am = 0) := by
            refine HQ.out ?_
            rw [List.take_of_length_le (by rw [bs_len]; exact Nat.le_refl _)] at hv
            omega
          clear hv
          go_wp2_with fail
          go_ret
          exact ⟨ret_int hf.out, rfl⟩
    · have q1 : (s.size : Int) ≤ 1 := by omega
      clear h1 HR HA
      go_enter Tryd.func47, Tryd.ntmps47
      go_wp2_with fail
      go_loopw [3, 4] (fun n i v => ∃ k : Nat, k ≤ s.size ∧ n = .int .i64 (valOf ((bs s).take k)) ∧ i = .int .i64 k ∧ valOf ((bs s).take k) ≤ 1099511627776 ∧ w = v) (fun _ i _ => s.size - (intOf i).toNat)
      case atStart => exact ⟨0, Nat.zero_le _, by simp [valOf], rfl, by simp [valOf], rfl⟩
      case round =>
        obtain ⟨k, hk, rfl, rfl, hv, rfl⟩ := hrel
        by_cases hlt : k < s.size
        · obtain ⟨d1, d2⟩ := dig_at HD.out hlt
          have HV := Lib.hid (valOf_next (bs_get hlt))
          have HT := Lib.hid (valOf_take (bs s) (k + 1))
          generalize valOf ((bs s).take k) = n at *
          have W1 : IntKind.i64.wrap ((n : Int) * 10) = (n : Int) * 10 := IntWalk.i64_in _ (by omega)
          have W2 : IntKind.u8.wrap ((s[k].toNat : Int) - 48) = (s[k].toNat : Int) - 48 := IntWalk.u8_in _ (by omega)
          have W3 : IntKind.i64.wrap ((s[k].toNat : Int) - 48) = (s[k].toNat : Int) - 48 := IntWalk.i64_in _ (by omega)
          have W4 : IntKind.i64.wrap ((n : Int) * 10 + ((s[k].toNat : Int) - 48)) = (n : Int) * 10 + ((s[k].toNat : Int) - 48) := IntWalk.i64_in _ (by omega)
          by_cases hm : 1099511627776 < (n : Int) * 10 + ((s[k].toNat : Int) - 48)
          · have HZ : Hid (am = 3) := HP.out (by have := HV.out; have := HT.out; omega)
            go_wp2_with fail
            go_ret
            exact ⟨ret_int HZ.out, rfl⟩
          · have hm' : (n : Int) * 10 + ((s[k].toNat : Int) - 48) ≤ 1099511627776 := by omega
            clear hm
            go_wp2_with fail
            go_roundw
            case rel =>
              refine ⟨k + 1, by omega, ?_, by go_num, ?_, trivial⟩
              · rw [HV.out]
                congr 1
                omega
              · rw [HV.out]
                omega
            case measure => simp [intOf]; omega
        · obtain rfl : k = s.size := by omega
          have hf : Hid (am = 0) := by
            refine HQ.out ?_
            rw [List.take_of_length_le (by rw [bs_len]; exact Nat.le_refl _)] at hv
            omega
          clear hv
          go_wp2_with fail
          go_ret
          exact ⟨ret_int hf.out, rfl⟩
end Go.Proofs.YtnffnkmghghmlaaDoor
