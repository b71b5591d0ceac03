/- TermPapers's walk: whatever the number, the law's text returns true and changes nothing that was there. Condition: the table ('Tab'). -/
import Derived.Test.YtkjebkdecakceaaDoorNeeds
import Derived.Lib.Hide
namespace Go.Proofs.YtkjebkdecakceaaDoor
open Go.RowKit

theorem val_bool {a b : Bool} (h : b = a) : Value.bool a = Value.bool b := by rw [h]
def got (v : Int) (t k : Nat) : Bool := ((tPapers t).take k).contains v
theorem got_step (v : Int) (t k : Nat) (x : Int) (h : (tPapers t)[k]? = some x) : got v t (k + 1) = (got v t k || (x == v)) := by
  unfold got
  have hk := (List.getElem?_eq_some_iff.1 h).1
  rw [List.take_succ_eq_append_getElem hk, (List.getElem?_eq_some_iff.1 h).2, List.contains_append]
  rw [List.contains_cons, List.contains_nil, Bool.or_false, Bool.beq_comm]
theorem got_all (t : Nat) (ht : t < 8) : got 2 t (tPapers t).length = decide (2 < tCost t) ∧ got 3 t (tPapers t).length = ((t : Int) == 4) := by
  have : ∀ t : Fin 8, got 2 t (tPapers t).length = decide (2 < tCost t) ∧ got 3 t (tPapers t).length = (((t : Nat) : Int) == 4) := by decide
  exact this ⟨t, ht⟩
theorem papers_rise (t k : Nat) (x y : Int) (h : (tPapers t)[k]? = some x) (h' : (tPapers t)[k + 1]? = some y) : x < y := by
  have H : ∀ t : Fin 8, ∀ k : Fin 4, ∀ x ∈ (tPapers t)[k.1]?, ∀ y ∈ (tPapers t)[k.1 + 1]?, x < y := by decide
  have hk := (List.getElem?_eq_some_iff.1 h).1
  have := (papers_len t).1
  by_cases ht : t < 8
  · exact H ⟨t, ht⟩ ⟨k, by omega⟩ x h y h'
  · have e : tPapers t = tPapers 7 := by
      match t, ht with
      | t + 8, _ => rfl
    rw [e] at h h'
    exact H ⟨7, by omega⟩ ⟨k, by omega⟩ x h y h'
theorem papers_first (t : Nat) : (tPapers t)[0]? = some 0 ∧ (tPapers t)[1]? = some 1 := by unfold tPapers; split <;> exact ⟨rfl, rfl⟩

theorem reads_at {w : World} {B n k : Nat} {A : Option Addr} {zs : List Int} {z : Int} (h : Reads w B 1 A n (ints zs)) (hz : zs[k]? = some z) : ∃ a, A = some a ∧ w.cell? (a.add k) = some (.int .i64 z) ∧ a.block < B := by
  have hk : k < n := by
    have h1 := h.1
    have := (List.getElem?_eq_some_iff.1 hz).1
    simp [ints] at h1
    omega
  obtain ⟨a, u, e, hblk, hu, hc⟩ := h.at_ hk
  simp only [ints, List.getElem?_map, hz, Option.map_some, Option.some.injEq] at hu
  subst hu
  exact ⟨a, e, hc, hblk⟩

set_option maxHeartbeats 800000 in
theorem papers_in (t : Nat) (ht : t < 8) {w : World} {PA : Nat → Addr} {cp : Nat → Nat} (T : Tab w PA cp) :
    Calls Tryd.prog 6 #[.int .i64 t] w fun e w' => e = .returned (.bool true) ∧ Below w.heap.size w w' := by
  have hB := Below.refl w.heap.size w
  have hl := papers_len t
  go_enter Tryd.func6, Tryd.ntmps6
  go_wp2_with (first | (go_at_call 9; refine (awake_any T _ (by assumption)).mono ?_; rintro e w' ⟨rfl, hb⟩) | (go_at_call 14; refine (needs_in t ht _ (tb T _ (by assumption))).mono ?_; rintro e wA ⟨A1, c1, rfl, hr1, hb⟩; have hbb := below_trans (by assumption) hb; clear hb) | (go_at_call 10; refine (is_yes _ _ (by omega) (by omega)).mono ?_; rintro e w' ⟨rfl, rfl⟩))
  go_loopw [4, 5, 6] (fun l s i wr => ∃ k : Nat, k ≤ (tPapers t).length ∧ i = .int .i64 k ∧ l = .bool (got 2 t k) ∧ s = .bool (got 3 t k) ∧ ∃ d, wr = wA.drewN d) (fun _ _ i _ => (tPapers t).length - (intOf i).toNat)
  case atStart => exact ⟨0, by omega, rfl, rfl, rfl, 0, rfl⟩
  case round =>
    obtain ⟨k, hk, rfl, rfl, rfl, d, rfl⟩ := hrel
    by_cases hlt : k < (tPapers t).length
    · obtain ⟨x, hx⟩ : ∃ x, (tPapers t)[k]? = some x := ⟨_, List.getElem?_eq_getElem hlt⟩
      obtain ⟨a, rfl, hc, _⟩ := reads_at hr1 hx
      have S2 := Lib.hid (got_step 2 t k x hx)
      have S3 := Lib.hid (got_step 3 t k x hx)
      by_cases hk0 : k = 0
      · subst hk0
        have g2 : got 2 t 0 = false := rfl
        have g3 : got 3 t 0 = false := rfl
        have hc0 : wA.cell? a = some (.int .i64 x) := by simpa [Addr.add] using hc
        clear hx hc
        go_wp2_with fail
        go_quiet (fail)
        go_wp2
        go_roundw
        case rel => exact ⟨0 + 1, by omega, rfl, val_bool (by rw [S2.out, g2]; rfl), val_bool (by rw [S3.out, g3]; rfl), _, rfl⟩
        case measure => simp [intOf]; omega
      · obtain ⟨y, hy⟩ : ∃ y, (tPapers t)[k - 1]? = some y := ⟨_, List.getElem?_eq_getElem (by omega)⟩
        have hyx := papers_rise t (k - 1) y x hy (by rw [show k - 1 + 1 = k by omega]; exact hx)
        obtain ⟨a', e', hc', _⟩ := reads_at hr1 hy
        obtain rfl := Option.some.inj e'
        have hk1 : (0 : Int) < (k : Int) := by omega
        have hk2 : 0 < k := by omega
        have W1 : IntKind.i64.wrap ((k : Int) - 1) = (k : Int) - 1 := IntWalk.i64_in _ (by omega)
        have W2 : (1 : Int) ≤ (k : Int) := by omega
        have W3 : ((k : Int) - 1).toNat = k - 1 := by omega
        have W4 : (k : Int) - 1 < ((tPapers t).length : Int) := by omega
        have W5 : ¬ x ≤ y := by omega
        clear hx hy hk0
        cases g2 : got 2 t k <;> cases g3 : got 3 t k <;>
        · go_wp2_with fail
          go_quiet (fail)
          go_wp2
          go_roundw
          case rel => exact ⟨k + 1, by omega, by go_num, val_bool (by rw [S2.out, g2]; rfl), val_bool (by rw [S3.out, g3]; rfl), _, rfl⟩
          case measure => simp [intOf]; omega
    · obtain rfl : k = (tPapers t).length := by omega
      have G := got_all t ht
      have f0 := (papers_first t).1
      have f1 := (papers_first t).2
      obtain ⟨a, rfl, hc, hbk⟩ := reads_at hr1 f0
      obtain ⟨a', e', hc', _⟩ := reads_at hr1 f1
      obtain rfl := Option.some.inj e'
      have hc0 : wA.cell? a = some (.int .i64 0) := by simpa [Addr.add] using hc
      have l2 : (2 : Int) ≤ ((tPapers t).length : Int) := by omega
      have q1 : (got 2 t (tPapers t).length == decide (2 < tCost t)) = true := by rw [G.1]; simp
      have q2 : (got 3 t (tPapers t).length == ((t : Int) == 4)) = true := by rw [G.2]; simp
      clear f0 f1 hc e' G
      go_wp2_with (go_at_call 13; refine (passes_in t ht _ (tb T _ (below_drewN' hbb _))).mono ?_; rintro e w' ⟨rfl, hb2⟩; have hbb2 := below_trans (below_drewN' hbb _) hb2; have k0 : w'.cell? a = some (.int .i64 0) := (hb2.cell hbk).trans hc0; have k1 : w'.cell? ⟨a.block, a.off + 1, none⟩ = some (.int .i64 1) := (hb2.cell (p := a.add 1) (by rw [block_of_add]; exact hbk)).trans hc')
      go_wp2
      go_ret
      exact ⟨rfl, hbb2⟩

set_option maxHeartbeats 800000 in
theorem papers_out (t : Int) (h : t < 0 ∨ 8 ≤ t) {w : World} {PA : Nat → Addr} {cp : Nat → Nat} (T : Tab w PA cp) :
    Calls Tryd.prog 6 #[.int .i64 t] w fun e w' => e = .returned (.bool true) ∧ Below w.heap.size w w' := by
  have hB := Below.refl w.heap.size w
  go_enter Tryd.func6, Tryd.ntmps6
  go_wp2_with (first | (go_at_call 9; refine (awake_any T _ (by assumption)).mono ?_; rintro e w' ⟨rfl, hb⟩) | (go_at_call 14; refine (needs_out t h _).mono ?_; rintro e wA ⟨rfl, hb⟩; have hbb := below_trans (by assumption) hb; clear hb) | (go_at_call 10; refine (is_no _ _ (by omega)).mono ?_; rintro e w' ⟨rfl, rfl⟩))
  go_ret
  exact ⟨rfl, by assumption⟩
theorem papers_any (t : Int) {w : World} {PA : Nat → Addr} {cp : Nat → Nat} (T : Tab w PA cp) :
    Calls Tryd.prog 6 #[.int .i64 t] w fun e w' => e = .returned (.bool true) ∧ Below w.heap.size w w' := by
  by_cases h : t < 0 ∨ 8 ≤ t
  · exact papers_out t h T
  · obtain ⟨t', rfl⟩ := Int.eq_ofNat_of_zero_le (show 0 ≤ t by omega)
    exact papers_in t' (by omega) T
end Go.Proofs.YtkjebkdecakceaaDoor
