/- The walks of span and of amount. Condition: what the function value does; the text's size. -/
import Derived.Test.YtnffnkmghghmlaaDoorSmall
import Derived.Shelf.Abstract
namespace Go.Proofs.YtnffnkmghghmlaaDoor
open Go.RowKit
set_option linter.unusedVariables false
set_option linter.unusedSimpArgs false
/-- a text's bytes -/
def bs (s : ByteArray) : Bs := s.data.toList
theorem bs_len (s : ByteArray) : (bs s).length = s.size := by simp [bs]
theorem bs_get {s : ByteArray} {k : Nat} (h : k < s.size) : (bs s)[k]? = some s[k] := by
  unfold bs
  rw [Array.getElem?_toList, Array.getElem?_eq_getElem (by simpa using h)]
  rfl
theorem bs_inj {s t : ByteArray} (h : bs s = bs t) : s = t := by
  unfold bs at h
  cases s; cases t
  simp at h
  rw [h]
def FrontTo (p : Int → Bool) (s : ByteArray) (k : Nat) : Prop := ∀ i c, i < k → (bs s)[i]? = some c → on p c = true
theorem FrontTo.next {p : Int → Bool} {s : ByteArray} {k : Nat} (h : FrontTo p s k) (hk : k < s.size) (hp : p (s[k].toNat : Int) = true) : FrontTo p s (k + 1) := by
  intro i c hi hc
  rcases Nat.lt_or_ge i k with h' | h'
  · exact h i c h' hc
  · obtain rfl : i = k := by omega
    rw [bs_get hk] at hc
    cases hc
    exact hp
set_option maxRecDepth 100000 in
set_option maxHeartbeats 1000000 in
theorem span_any (p : Int → Bool) (kk : Nat) (hE : Enters Tryd.prog kk) (hC : ∀ (c : Int) (w : World), Calls Tryd.prog kk #[.int .u8 c] w fun e w' => e = .returned (.bool (p c)) ∧ w = w') (s : ByteArray) (w : World) (hs : s.size ≤ maxLen) :
    Calls Tryd.prog 23 #[.string s, .func (.func kk) #[] #[]] w fun e w' => e = .returned (.int .i64 (spanN p (bs s) : Nat)) ∧ w = w' := by
  unfold maxLen at hs
  have HC := Lib.hid hC
  unfold Enters at hE
  clear hC
  go_enter Tryd.func23, Tryd.ntmps23
  go_wp2_with fail
  go_loopw [5] (fun i v => ∃ k : Nat, k ≤ s.size ∧ i = .int .i64 k ∧ Hid (FrontTo p s k) ∧ w = v) (fun i _ => s.size - (intOf i).toNat)
  case atStart => exact ⟨0, Nat.zero_le _, rfl, fun i c h _ => by omega, rfl⟩
  case round =>
    obtain ⟨k, hk, rfl, ha, rfl⟩ := hrel
    by_cases hlt : k < s.size
    · cases hb : p (s[k].toNat : Int)
      · have HB := Lib.hid hb
        have HN : Hid (spanN p (bs s) = k) := by
          show spanN p (bs s) = k
          refine spanN_eq _ _ (by rw [bs_len]; exact hk) ha.out fun c hc => ?_
          rw [bs_get hlt] at hc
          cases hc
          exact HB.out
        clear hb
        go_wp2_with fail
        refine (HC.out _ w).mono ?_
        rintro e w' ⟨rfl, rfl⟩
        rw [HB.out]
        go_wp2_with fail
        go_ret
        exact ⟨by rw [HN.out]; rfl, rfl⟩
      · have HB := Lib.hid hb
        clear hb
        go_wp2_with fail
        refine (HC.out _ w).mono ?_
        rintro e w' ⟨rfl, rfl⟩
        rw [HB.out]
        go_wp2_with fail
        go_roundw
        case rel => exact ⟨k + 1, by omega, by go_num, ha.out.next hlt HB.out, trivial⟩
        case measure => simp [intOf]; omega
    · obtain rfl : k = s.size := by omega
      have HN : Hid (spanN p (bs s) = s.size) := by
        show spanN p (bs s) = s.size
        exact spanN_eq _ _ (by rw [bs_len]; exact hk) ha.out fun c hc => by
          rw [← bs_len] at hc
          simp at hc
      go_wp2_with fail
      go_ret
      exact ⟨by rw [HN.out]; rfl, rfl⟩
/-- the value of the first bytes -/
theorem valOf_le (l r : Bs) : valOf l ≤ valOf (l ++ r) := by
  unfold valOf
  rw [List.foldl_append]
  generalize l.foldl (fun n c => n * 10 + (c.toNat - 48)) 0 = n
  induction r generalizing n with
  | nil => exact Nat.le_refl _
  | cons c r ih => exact Nat.le_trans (by simp only [List.foldl_cons]; omega) (ih _)
theorem valOf_take (l : Bs) (k : Nat) : valOf (l.take k) ≤ valOf l := by
  have := valOf_le (l.take k) (l.drop k)
  rwa [List.take_append_drop] at this
theorem valOf_next {l : Bs} {k : Nat} {c : UInt8} (h : l[k]? = some c) : valOf (l.take (k + 1)) = valOf (l.take k) * 10 + (c.toNat - 48) := by
  rw [List.take_add_one, h]
  unfold valOf
  rw [List.foldl_append]
  rfl
end Go.Proofs.YtnffnkmghghmlaaDoor
