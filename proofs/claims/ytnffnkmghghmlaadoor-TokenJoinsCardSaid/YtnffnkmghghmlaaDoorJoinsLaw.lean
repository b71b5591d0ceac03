/- TokenJoins' walk. Conditions: where the words, the kinds and the tokens lie. -/
import Derived.Test.YtnffnkmghghmlaaDoorTokView
import Derived.Test.YtnffnkmghghmlaaDoorAwake
namespace Go.Proofs.YtnffnkmghghmlaaDoor
open Go.RowKit
set_option linter.unusedVariables false
set_option linter.unusedSimpArgs false
def kindS (k : Int) : ByteArray := if k < 0 ∨ 5 < k then str [] else str (kindsL[k.toNat]?.getD [])
theorem kinds_at {k : Nat} (h : k < 6) : kindsL[k]? = some (kindsL[k]?.getD []) := by
  rw [List.getElem?_eq_getElem (by exact h), Option.getD_some]
set_option maxRecDepth 100000 in
theorem kname_any (k : Int) (w : World) {b o c : Nat} (K : Kin w b o c) : Calls Tryd.prog 21 #[.int .i64 k] w fun e w' => e = .returned (.string (kindS k)) ∧ w = w' := by
  have hk := K.hk
  have lk := K.lk
  by_cases h0 : k < 0
  · have HS : Hid (kindS k = ⟨#[]⟩) := by show _ = _; unfold kindS; rw [if_pos (.inl h0)]; rfl
    clear K
    go_enter Tryd.func21, Tryd.ntmps21
    go_wp2_with fail
    go_ret
    exact ⟨ret_str HS.out, rfl⟩
  · by_cases h5 : 5 < k
    · have HS : Hid (kindS k = ⟨#[]⟩) := by show _ = _; unfold kindS; rw [if_pos (.inr h5)]; rfl
      have h0' : 0 ≤ k := by omega
      have h6 : 6 ≤ k := by omega
      clear K
      go_enter Tryd.func21, Tryd.ntmps21
      go_wp2_with fail
      go_ret
      exact ⟨ret_str HS.out, rfl⟩
    · obtain ⟨j, rfl⟩ : ∃ j : Nat, k = j := ⟨k.toNat, by omega⟩
      have hj : j < 6 := by omega
      have cell := K.ck j _ (kinds_at hj)
      have HS : Hid (kindS (j : Int) = str (kindsL[j]?.getD [])) := by show _ = _; unfold kindS; rw [if_neg (by omega)]; rfl
      have h0' : (0 : Int) ≤ j := by omega
      have h6 : (j : Int) < 6 := by omega
      generalize str (kindsL[j]?.getD []) = t at *
      clear K h0 h5
      go_enter Tryd.func21, Tryd.ntmps21
      go_wp2_with fail
      go_ret
      exact ⟨ret_str HS.out, rfl⟩
set_option maxRecDepth 100000 in
theorem kref_any (k : Int) (w : World) : Calls Tryd.prog 22 #[.int .i64 k] w fun e w' => e = .returned (.string (kindS k)) ∧ Below w.heap.size w w' := by
  by_cases h0 : k < 0
  · have HS : Hid (kindS k = ⟨#[]⟩) := by show _ = _; unfold kindS; rw [if_pos (.inl h0)]; rfl
    go_enter Tryd.func22, Tryd.ntmps22
    go_wp2_with fail
    go_ret
    exact ⟨ret_str HS.out, (Below.refl _ _).alloc (Nat.le_refl _) _⟩
  · by_cases h5 : 5 < k
    · have HS : Hid (kindS k = ⟨#[]⟩) := by show _ = _; unfold kindS; rw [if_pos (.inr h5)]; rfl
      have h0' : 0 ≤ k := by omega
      go_enter Tryd.func22, Tryd.ntmps22
      go_wp2_with fail
      go_ret
      exact ⟨ret_str HS.out, (Below.refl _ _).alloc (Nat.le_refl _) _⟩
    · have h0' : 0 ≤ k := by omega
      have h5' : k ≤ 5 := by omega
      rcases (by omega : k = 0 ∨ k = 1 ∨ k = 2 ∨ k = 3 ∨ k = 4 ∨ k = 5) with rfl | rfl | rfl | rfl | rfl | rfl
      all_goals
        go_enter Tryd.func22, Tryd.ntmps22
        go_wp2_with fail
        go_ret
        exact ⟨rfl, (Below.refl _ _).alloc (Nat.le_refl _) _⟩
set_option maxRecDepth 100000 in
set_option maxHeartbeats 4000000 in
theorem joinsLaw_any (A : Option Addr) (n c1 : Nat) (l : List Ta) (k : Int) (w : World) {b o c b1 o1 cc : Nat} (T : Tab w b o c) (K : Kin w b1 o1 cc) (h : Args w A n l ∧ n ≤ maxLen) : Calls Tryd.prog 9 #[.slice A n c1, .int .i64 k] w fun e w' => e = .returned (.bool true) ∧ Below w.heap.size w w' := by
  obtain ⟨⟨rfl, hr, hx⟩, hn⟩ := h
  have HT := Lib.hid T
  have HK := Lib.hid K
  have HR := Lib.hid hr
  have AW := Lib.hid (awake_any w T)
  have FW := Lib.hid fun w (h : TaR w A l) => few_any l A c1 w h hn hx
  have JA := Lib.hid fun (h1 : l.length ≤ 61) (h2 : ∀ x ∈ l, x.text.length ≤ 100) w (T : Tab w b o c) (h : TaR w A l) => joinA_any l A c1 w T h (by omega) fun x hx => by have := h2 x hx; omega
  have RA := Lib.hid fun (h1 : l.length ≤ 61) (h2 : ∀ x ∈ l, x.text.length ≤ 100) w (h : TaR w A l) => rjoinA_any l A c1 w h (by omega) fun x hx => by have := h2 x hx; omega
  clear T K hr hx
  go_enter Tryd.func9, Tryd.ntmps9
  go_wp2_with fail
  refine AW.out.mono ?_
  rintro e w1 ⟨rfl, hb1⟩
  have B1 := Lib.hid hb1
  clear hb1
  go_wp2_with fail
  refine (FW.out w1 (HR.out.up B1.out)).mono ?_
  rintro e w' ⟨⟨r, rfl, hfew⟩, rfl⟩
  cases r
  · clear hfew
    go_wp2_with fail
    go_ret
    exact ⟨rfl, B1.out⟩
  · obtain ⟨f1, f2⟩ := hfew rfl
    have J := Lib.hid (JA.out f1 f2)
    have R := Lib.hid (RA.out f1 f2)
    clear hfew f1 f2 JA RA
    generalize joinP (l.map kta) = P at *
    go_wp2_with fail
    refine (J.out w1 (HT.out.below B1.out) (HR.out.up B1.out)).mono ?_
    rintro e w2 ⟨rfl, hb2⟩
    have B2 := Lib.hid (below_trans B1.out hb2)
    clear hb2
    go_wp2_with fail
    refine (R.out w2 (HR.out.up B2.out)).mono ?_
    rintro e w3 ⟨rfl, hb3⟩
    have B3 := Lib.hid (below_trans B2.out hb3)
    clear hb3
    go_wp2_with fail
    refine (kname_any k w3 (HK.out.below B3.out)).mono ?_
    rintro e w' ⟨rfl, rfl⟩
    go_wp2_with fail
    refine (kref_any k w3).mono ?_
    rintro e w4 ⟨rfl, hb4⟩
    have B4 := Lib.hid (below_trans B3.out hb4)
    clear hb4
    go_wp2_with fail
    go_ret
    exact ⟨rfl, B4.out⟩
end Go.Proofs.YtnffnkmghghmlaaDoor
