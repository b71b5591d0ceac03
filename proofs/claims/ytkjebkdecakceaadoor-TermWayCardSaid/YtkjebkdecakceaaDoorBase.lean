/- The walks of package term over a table that holds what its initialiser lays: what term.of, Passes, side, Pays, Risk and the laws' own example return. Conditions: the table's cells ('Tab'). -/
import Derived.Test.YtkjebkdecakceaaDoorLib
namespace Go.Proofs.YtkjebkdecakceaaDoor
open Go.RowKit

def tName : Nat → ByteArray
  | 0 => ⟨#[97, 116, 45, 119, 111, 114, 107, 115]⟩
  | 1 => ⟨#[116, 111, 45, 99, 97, 114, 114, 105, 101, 114]⟩
  | 2 => ⟨#[111, 110, 45, 98, 111, 97, 114, 100]⟩
  | 3 => ⟨#[102, 114, 101, 105, 103, 104, 116, 45, 112, 97, 105, 100]⟩
  | 4 => ⟨#[105, 110, 115, 117, 114, 101, 100]⟩
  | 5 => ⟨#[108, 97, 110, 100, 101, 100]⟩
  | 6 => ⟨#[99, 108, 101, 97, 114, 101, 100]⟩
  | _ => ⟨#[97, 116, 45, 100, 111, 111, 114]⟩
def tCost : Nat → Int
  | 0 => 1 | 1 => 2 | 2 => 3 | 3 => 5 | 4 => 5 | 5 => 5 | 6 => 6 | _ => 7
def tRisk : Nat → Int
  | 0 => 1 | 1 => 2 | 2 => 3 | 3 => 2 | 4 => 3 | 5 => 5 | 6 => 6 | _ => 7
def tPapers : Nat → List Int
  | 0 => [0, 1] | 1 => [0, 1] | 2 => [0, 1, 2] | 3 => [0, 1, 2] | 4 => [0, 1, 2, 3] | 5 => [0, 1, 2] | 6 => [0, 1, 2, 4] | _ => [0, 1, 2, 4]

structure Tab (w : World) (PA : Nat → Addr) (cp : Nat → Nat) : Prop where
  nm : ∀ t, t < 8 → w.cell? ⟨0, t * 4, none⟩ = some (.string (tName t))
  co : ∀ t, t < 8 → w.cell? ⟨0, t * 4 + 1, none⟩ = some (.int .i64 (tCost t))
  ri : ∀ t, t < 8 → w.cell? ⟨0, t * 4 + 2, none⟩ = some (.int .i64 (tRisk t))
  pa : ∀ t, t < 8 → w.cell? ⟨0, t * 4 + 3, none⟩ = some (.slice (some (PA t)) (tPapers t).length (cp t))
  cap : ∀ t, t < 8 → (tPapers t).length ≤ cp t
  pc : ∀ t, t < 8 → ∀ j v, (tPapers t)[j]? = some v → w.cell? ((PA t).add j) = some (.int .i64 v)
  pb : ∀ t, t < 8 → (PA t).block < w.heap.size
  sz : 0 < w.heap.size


theorem Tab.below {w w' : World} {PA cp} (h : Tab w PA cp) (hb : Below w.heap.size w w') : Tab w' PA cp where
  nm t ht := (hb.cell (p := ⟨0, t * 4, none⟩) h.sz).trans (h.nm t ht)
  co t ht := (hb.cell (p := ⟨0, t * 4 + 1, none⟩) h.sz).trans (h.co t ht)
  ri t ht := (hb.cell (p := ⟨0, t * 4 + 2, none⟩) h.sz).trans (h.ri t ht)
  pa t ht := (hb.cell (p := ⟨0, t * 4 + 3, none⟩) h.sz).trans (h.pa t ht)
  cap := h.cap
  pc t ht j v hv := (hb.cell (by rw [block_of_add]; exact h.pb t ht)).trans (h.pc t ht j v hv)
  pb t ht := Nat.lt_of_lt_of_le (h.pb t ht) hb.size
  sz := Nat.lt_of_lt_of_le h.sz hb.size

def isT (t : Int) : Bool := decide (0 ≤ t ∧ t ≤ 7)

set_option maxHeartbeats 400000 in
theorem of_out (t : Int) (w : World) (h : t < 0 ∨ 8 ≤ t):
    Calls Tryd.prog 27 #[.int .i64 t] w fun e w' => e = .returned (.tuple #[.agg #[.string ⟨#[]⟩, .int .i64 0, .int .i64 0, .slice none 0 0], .bool false]) ∧ Below w.heap.size w w' := by
  rcases h with h | h <;>
  · go_enter Tryd.func27, Tryd.ntmps27
    go_wp2
    refine bodyPost_ret (v := .tuple #[.agg #[.string ⟨#[]⟩, .int .i64 0, .int .i64 0, .slice none 0 0], .bool false]) (by simp [results, Tryd.results27, go_sem]) rfl ⟨rfl, ?_⟩
    exact ((Below.refl _ _).alloc (Nat.le_refl _) _)

set_option maxHeartbeats 400000 in
theorem of_in (t : Nat) (ht : t < 8) (w : World) {PA cp} (T : Tab w PA cp) :
    Calls Tryd.prog 27 #[.int .i64 t] w fun e w' => e = .returned (.tuple #[.agg #[.string (tName t), .int .i64 (tCost t), .int .i64 (tRisk t), .slice (some (PA t)) (tPapers t).length (cp t)], .bool true]) ∧ Below w.heap.size w w' := by
  have h0 := T.nm t ht
  have h1 := T.co t ht
  have h2 := T.ri t ht
  have h3 := T.pa t ht
  have hs := T.sz
  go_enter Tryd.func27, Tryd.ntmps27
  go_wp2
  refine bodyPost_ret (v := .tuple #[.agg #[.string (tName t), .int .i64 (tCost t), .int .i64 (tRisk t), .slice (some (PA t)) (tPapers t).length (cp t)], .bool true]) (by simp [results, Tryd.results27, go_sem]) rfl ⟨rfl, ?_⟩
  exact ((Below.refl _ _).alloc (Nat.le_refl _) _)

def sellerB : ByteArray := ⟨#[115, 101, 108, 108, 101, 114]⟩
def buyerB : ByteArray := ⟨#[98, 117, 121, 101, 114]⟩

set_option maxHeartbeats 400000 in
theorem is_yes (n : Int) (w : World) (h : 0 ≤ n) (h2 : n ≤ 7) :
    Calls Tryd.prog 10 #[.int .i64 n] w fun e w' => e = .returned (.bool true) ∧ w = w' := by
  go_enter Tryd.func10, Tryd.ntmps10
  go_wp2
  go_ret
  exact ⟨rfl, rfl⟩
set_option maxHeartbeats 400000 in
theorem is_no (n : Int) (w : World) (h : n < 0 ∨ 7 < n) :
    Calls Tryd.prog 10 #[.int .i64 n] w fun e w' => e = .returned (.bool false) ∧ w = w' := by
  rcases h with h | h
  · go_enter Tryd.func10, Tryd.ntmps10
    go_wp2
    go_ret
    exact ⟨rfl, rfl⟩
  · have h0 : (0 : Int) ≤ n := by omega
    have hd : decide (n ≤ 7) = false := by simp; omega
    go_enter Tryd.func10, Tryd.ntmps10
    go_wp2
    go_ret
    exact ⟨rfl, rfl⟩

set_option maxHeartbeats 400000 in
theorem passes_in (t : Nat) (ht : t < 8) (w : World) {PA cp} (T : Tab w PA cp) :
    Calls Tryd.prog 13 #[.int .i64 t] w fun e w' => e = .returned (.tuple #[.int .i64 (tCost t), .int .i64 (tRisk t)]) ∧ Below w.heap.size w w' := by
  go_enter Tryd.func13, Tryd.ntmps13
  go_wp2_with (go_at_call 27; refine (of_in t ht w T).mono ?_; rintro e w' ⟨rfl, hb⟩)
  go_quiet (fail)
  go_wp2
  go_ret2
  exact ⟨rfl, below_drewN' (hb.alloc hb.size _) _⟩
set_option maxHeartbeats 400000 in
theorem passes_out (t : Int) (h : t < 0 ∨ 8 ≤ t) (w : World) :
    Calls Tryd.prog 13 #[.int .i64 t] w fun e w' => e = .returned (.tuple #[.int .i64 0, .int .i64 0]) ∧ Below w.heap.size w w' := by
  go_enter Tryd.func13, Tryd.ntmps13
  go_wp2_with (go_at_call 27; refine (of_out t w h).mono ?_; rintro e w' ⟨rfl, hb⟩)
  go_quiet (fail)
  go_wp2
  go_ret2
  exact ⟨rfl, below_drewN' (hb.alloc hb.size _) _⟩

set_option maxHeartbeats 400000 in
theorem side_none (t s f : Int) (w : World) (h : t < 0 ∨ 8 ≤ t) :
    Calls Tryd.prog 26 #[.int .i64 t, .int .i64 s, .int .i64 f] w fun e w' => e = .returned (.string ⟨#[]⟩) ∧ Below w.heap.size w w' := by
  go_enter Tryd.func26, Tryd.ntmps26
  go_wp2_with (go_at_call 27; refine (of_out t w h).mono ?_; rintro e w' ⟨rfl, hb⟩)
  go_wp2
  go_ret
  exact ⟨rfl, (hb.alloc hb.size _)⟩
set_option maxHeartbeats 400000 in
theorem side_off (t : Nat) (ht : t < 8) (s f : Int) (w : World) {PA cp} (T : Tab w PA cp) (h : s < 0 ∨ 7 < s) :
    Calls Tryd.prog 26 #[.int .i64 t, .int .i64 s, .int .i64 f] w fun e w' => e = .returned (.string ⟨#[]⟩) ∧ Below w.heap.size w w' := by
  rcases h with h | h
  · go_enter Tryd.func26, Tryd.ntmps26
    go_wp2_with (go_at_call 27; refine (of_in t ht w T).mono ?_; rintro e w' ⟨rfl, hb⟩)
    go_wp2
    go_ret
    exact ⟨rfl, (hb.alloc hb.size _)⟩
  · have h0 : ¬ s < 0 := by omega
    go_enter Tryd.func26, Tryd.ntmps26
    go_wp2_with (go_at_call 27; refine (of_in t ht w T).mono ?_; rintro e w' ⟨rfl, hb⟩)
    go_wp2
    go_ret
    exact ⟨rfl, (hb.alloc hb.size _)⟩
set_option maxHeartbeats 400000 in
theorem side_buyer (t : Nat) (ht : t < 8) (s f : Int) (w : World) {PA cp} (T : Tab w PA cp) (h0 : 0 ≤ s) (h7 : s ≤ 7) (h : f ≤ s) :
    Calls Tryd.prog 26 #[.int .i64 t, .int .i64 s, .int .i64 f] w fun e w' => e = .returned (.string buyerB) ∧ Below w.heap.size w w' := by
  go_enter Tryd.func26, Tryd.ntmps26
  go_wp2_with (go_at_call 27; refine (of_in t ht w T).mono ?_; rintro e w' ⟨rfl, hb⟩)
  go_wp2
  go_ret
  exact ⟨rfl, (hb.alloc hb.size _)⟩
set_option maxHeartbeats 400000 in
theorem side_seller (t : Nat) (ht : t < 8) (s f : Int) (w : World) {PA cp} (T : Tab w PA cp) (h0 : 0 ≤ s) (h7 : s ≤ 7) (h : s < f) :
    Calls Tryd.prog 26 #[.int .i64 t, .int .i64 s, .int .i64 f] w fun e w' => e = .returned (.string sellerB) ∧ Below w.heap.size w w' := by
  go_enter Tryd.func26, Tryd.ntmps26
  go_wp2_with (go_at_call 27; refine (of_in t ht w T).mono ?_; rintro e w' ⟨rfl, hb⟩)
  go_wp2
  go_ret
  exact ⟨rfl, (hb.alloc hb.size _)⟩

/-- who it is: the seller ahead of the stage from which on it is the buyer -/
def sd (s c : Int) : ByteArray := if s < c then sellerB else buyerB
theorem sd_lt {s c : Int} (h : s < c) : sd s c = sellerB := if_pos h
theorem sd_ge {s c : Int} (h : c ≤ s) : sd s c = buyerB := if_neg (by omega)
theorem sd_cases (s c : Int) : (s < c ∧ sd s c = sellerB) ∨ (c ≤ s ∧ sd s c = buyerB) := by
  by_cases h : s < c
  · exact .inl ⟨h, sd_lt h⟩
  · exact .inr ⟨by omega, sd_ge (by omega)⟩
theorem sb1 : (sellerB.toList == [115, 101, 108, 108, 101, 114]) = true := by decide +kernel
theorem sb2 : (sellerB.toList == [98, 117, 121, 101, 114]) = false := by decide +kernel
theorem sb3 : (buyerB.toList == [115, 101, 108, 108, 101, 114]) = false := by decide +kernel
theorem sb4 : (buyerB.toList == [98, 117, 121, 101, 114]) = true := by decide +kernel
theorem cost_bd (t : Nat) : 1 ≤ tCost t ∧ tCost t ≤ 7 := by unfold tCost; split <;> decide
theorem risk_bd (t : Nat) : 1 ≤ tRisk t ∧ tRisk t ≤ tCost t := by
  match t with
  | 0 | 1 | 2 | 3 | 4 | 5 | 6 => decide
  | _ + 7 => simp [tRisk, tCost]
theorem cost_le (t u : Nat) (h : t ≤ u) (hu : u < 8) : tCost t ≤ tCost u := by
  have : ∀ t : Fin 8, ∀ u : Fin 8, t ≤ u → tCost t ≤ tCost u := by decide
  exact this ⟨t, by omega⟩ ⟨u, hu⟩ h

section
variable {W : World} {PA : Nat → Addr} {cp : Nat → Nat} (T : Tab W PA cp) (w : World) (hW : Below W.heap.size W w)
include T hW
theorem tb : Tab w PA cp := T.below hW
set_option maxHeartbeats 400000 in
theorem pays_any (t : Nat) (ht : t < 8) (s : Int) (h0 : 0 ≤ s) (h7 : s ≤ 7) :
    Calls Tryd.prog 11 #[.int .i64 t, .int .i64 s] w fun e w' => e = .returned (.string (sd s (tCost t))) ∧ Below W.heap.size W w' := by
  have T1 := tb T w hW
  by_cases h : s < tCost t
  · rw [sd_lt h]
    go_enter Tryd.func11, Tryd.ntmps11
    go_wp2_with (first | (go_at_call 13; refine (passes_in t ht w T1).mono ?_; rintro e w' ⟨rfl, hb⟩) | (go_at_call 26; refine (side_seller t ht s _ w' (T1.below hb) h0 h7 h).mono ?_; rintro e w2 ⟨rfl, hb2⟩))
    go_ret
    exact ⟨rfl, (hW.trans (hb.mono hW.size)).trans (hb2.mono (hW.trans (hb.mono hW.size)).size)⟩
  · rw [sd_ge (by omega)]
    have h : tCost t ≤ s := by omega
    go_enter Tryd.func11, Tryd.ntmps11
    go_wp2_with (first | (go_at_call 13; refine (passes_in t ht w T1).mono ?_; rintro e w' ⟨rfl, hb⟩) | (go_at_call 26; refine (side_buyer t ht s _ w' (T1.below hb) h0 h7 h).mono ?_; rintro e w2 ⟨rfl, hb2⟩))
    go_ret
    exact ⟨rfl, (hW.trans (hb.mono hW.size)).trans (hb2.mono (hW.trans (hb.mono hW.size)).size)⟩
set_option maxHeartbeats 400000 in
theorem risk_any (t : Nat) (ht : t < 8) (s : Int) (h0 : 0 ≤ s) (h7 : s ≤ 7) :
    Calls Tryd.prog 12 #[.int .i64 t, .int .i64 s] w fun e w' => e = .returned (.string (sd s (tRisk t))) ∧ Below W.heap.size W w' := by
  have T1 := tb T w hW
  by_cases h : s < tRisk t
  · rw [sd_lt h]
    go_enter Tryd.func12, Tryd.ntmps12
    go_wp2_with (first | (go_at_call 13; refine (passes_in t ht w T1).mono ?_; rintro e w' ⟨rfl, hb⟩) | (go_at_call 26; refine (side_seller t ht s _ w' (T1.below hb) h0 h7 h).mono ?_; rintro e w2 ⟨rfl, hb2⟩))
    go_ret
    exact ⟨rfl, (hW.trans (hb.mono hW.size)).trans (hb2.mono (hW.trans (hb.mono hW.size)).size)⟩
  · rw [sd_ge (by omega)]
    have h : tRisk t ≤ s := by omega
    go_enter Tryd.func12, Tryd.ntmps12
    go_wp2_with (first | (go_at_call 13; refine (passes_in t ht w T1).mono ?_; rintro e w' ⟨rfl, hb⟩) | (go_at_call 26; refine (side_buyer t ht s _ w' (T1.below hb) h0 h7 h).mono ?_; rintro e w2 ⟨rfl, hb2⟩))
    go_ret
    exact ⟨rfl, (hW.trans (hb.mono hW.size)).trans (hb2.mono (hW.trans (hb.mono hW.size)).size)⟩
set_option maxHeartbeats 400000 in
theorem awake_any : Calls Tryd.prog 9 #[] w fun e w' => e = .returned (.bool true) ∧ Below W.heap.size W w' := by
  have e1 : sd 4 (tCost 4) = sellerB := by decide
  have e2 : sd 2 (tRisk 4) = sellerB := by decide
  have e3 : sd 3 (tRisk 4) = buyerB := by decide
  have s1 := sb1
  have s4 := sb4
  go_enter Tryd.func9, Tryd.ntmps9
  go_wp2_with fail
  refine (pays_any T w hW 4 (by omega) 4 (by omega) (by omega)).mono ?_
  rintro e w1 ⟨rfl, hb⟩
  go_wp2_with fail
  refine (risk_any T w1 hb 4 (by omega) 2 (by omega) (by omega)).mono ?_
  rintro e w2 ⟨rfl, hb2⟩
  go_wp2_with fail
  refine (risk_any T w2 hb2 4 (by omega) 3 (by omega) (by omega)).mono ?_
  rintro e w3 ⟨rfl, hb3⟩
  go_wp2
  go_ret
  exact ⟨rfl, hb3⟩
end

end Go.Proofs.YtkjebkdecakceaaDoor
