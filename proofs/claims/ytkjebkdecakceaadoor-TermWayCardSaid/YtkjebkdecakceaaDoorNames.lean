/- TermNames's walk: whatever the number and the text, the law's text returns true and changes nothing that was there. Conditions: the table ('Tab'), its block whole, the stages' names ('Stg'). -/
import Derived.Test.YtkjebkdecakceaaDoorPapers
import Derived.Laws.Rows
namespace Go.Proofs.YtkjebkdecakceaaDoor
open Go.RowKit

def tabRow (PA : Nat → Addr) (cp : Nat → Nat) : Array Value :=
  ((List.range 8).flatMap fun t => [.string (tName t), .int .i64 (tCost t), .int .i64 (tRisk t), .slice (some (PA t)) (tPapers t).length (cp t)]).toArray
theorem index_row (PA : Nat → Addr) (cp : Nat → Nat) (k : Nat) (hk : k < 8) (w : World) :
    (Instr.index 52 (.agg (tabRow PA cp)) (.int .i64 (k : Int))).run Tryd.prog w = .ok (.agg #[.string (tName k), .int .i64 (tCost k), .int .i64 (tRisk k), .slice (some (PA k)) (tPapers k).length (cp k)]) w := by
  rcases (by omega : k = 0 ∨ k = 1 ∨ k = 2 ∨ k = 3 ∨ k = 4 ∨ k = 5 ∨ k = 6 ∨ k = 7) with rfl | rfl | rfl | rfl | rfl | rfl | rfl | rfl
  all_goals kernel_rfl
theorem row_size (PA : Nat → Addr) (cp : Nat → Nat) : (Tryd.prog.info? 52).map (·.size) = some (tabRow PA cp).size := by kernel_rfl


theorem tName_apart (i j : Nat) (hi : i < 8) (hj : j < i) : tName j ≠ tName i := by
  have H : ∀ i j : Fin 8, j < i → tName j ≠ tName i := by decide +kernel
  exact H ⟨i, hi⟩ ⟨j, by omega⟩ hj
section
variable {w : World} {PA : Nat → Addr} {cp : Nat → Nat} (hrow : ∃ ty fr, w.heap[0]? = some (.cells (tabRow PA cp) ty fr))
include hrow
set_option maxHeartbeats 400000 in
theorem parse_no (s : ByteArray) (hs : ∀ k, k < 8 → tName k ≠ s) :
    Calls Tryd.prog 19 #[.string s] w fun e w' => e = .returned (.tuple #[.int .i64 0, .bool false]) ∧ Below w.heap.size w w' := by
  obtain ⟨ty, fr, hrow⟩ := hrow
  go_enter Tryd.func19, Tryd.ntmps19
  go_wp2_with (refine wpList_load_row rfl 52 _ rfl 0 rfl ty _ fr _ hrow Tryd.underlying52 rfl (row_size PA cp) ?_)
  go_loopw [4, 5, 7] (fun t4 t5 i wr => ∃ k : Nat, k ≤ 8 ∧ i = .int .i64 k ∧ Below w.heap.size w wr) (fun _ _ i _ => 8 - (intOf i).toNat)
  case atStart => exact ⟨0, by omega, rfl, Below.refl _ _⟩
  case round =>
    obtain ⟨k, hk, rfl, hb⟩ := hrel
    by_cases hlt : k < 8
    · have ik := index_row PA cp k hlt
      have hne := str_ne (hs k hlt)
      go_wp2
      go_roundw
      case rel => exact ⟨k + 1, by omega, by go_num, hb.alloc hb.size _⟩
      case measure => simp [intOf]; omega
    · go_wp2
      go_ret2
      exact ⟨rfl, hb⟩
set_option maxHeartbeats 400000 in
theorem parse_yes (i : Nat) (hi : i < 8) :
    Calls Tryd.prog 19 #[.string (tName i)] w fun e w' => e = .returned (.tuple #[.int .i64 i, .bool true]) ∧ Below w.heap.size w w' := by
  obtain ⟨ty, fr, hrow⟩ := hrow
  go_enter Tryd.func19, Tryd.ntmps19
  go_wp2_with (refine wpList_load_row rfl 52 _ rfl 0 rfl ty _ fr _ hrow Tryd.underlying52 rfl (row_size PA cp) ?_)
  go_loopw [4, 5, 7] (fun t4 t5 i0 wr => ∃ k : Nat, k ≤ i ∧ i0 = .int .i64 k ∧ Below w.heap.size w wr) (fun _ _ i _ => 8 - (intOf i).toNat)
  case atStart => exact ⟨0, by omega, rfl, Below.refl _ _⟩
  case round =>
    obtain ⟨k, hk, rfl, hb⟩ := hrel
    have ik := index_row PA cp k (by omega)
    by_cases hlt : k < i
    · have hne := str_ne (tName_apart i k hi hlt)
      go_wp2
      go_roundw
      case rel => exact ⟨k + 1, by omega, by go_num, hb.alloc hb.size _⟩
      case measure => simp [intOf]; omega
    · obtain rfl : k = i := by omega
      have he := str_same (tName k)
      go_wp2
      go_ret2
      exact ⟨rfl, hb.alloc hb.size _⟩
end

def strs (l : List ByteArray) : List Value := l.map Value.string
theorem strs_at {w : World} {B n k : Nat} {A : Option Addr} {l : List ByteArray} (h : Reads w B 1 A n (strs l)) (hk : k < n) : ∃ a s, A = some a ∧ l[k]? = some s ∧ w.cell? (a.add k) = some (.string s) ∧ a.block < B := by
  obtain ⟨a, u, e, hb, hu, hc⟩ := h.at_ hk
  simp only [strs, List.getElem?_map, Option.map_eq_some_iff] at hu
  obtain ⟨s, hs, rfl⟩ := hu
  exact ⟨a, s, e, hs, hc, hb⟩
section
variable (A : Option Addr) (n c : Nat) (l : List ByteArray) (w : World) (h : Reads w w.heap.size 1 A n (strs l)) (hn : n ≤ 1000) (s : ByteArray)
include h hn
set_option maxHeartbeats 400000 in
theorem find_no (hs : ∀ x ∈ l, x ≠ s) : Calls Tryd.prog 21 #[.slice A n c, .string s] w fun e w' => e = .returned (.int .i64 (-1)) ∧ w = w' := by
  go_enter Tryd.func21, Tryd.ntmps21
  go_wp2
  go_loop [5] (fun i => ∃ k : Nat, k ≤ n ∧ i = .int .i64 k) (fun i => n - (intOf i).toNat)
  case atStart => exact ⟨0, by omega, rfl⟩
  case round =>
    obtain ⟨k, hk, rfl⟩ := hrel
    by_cases hlt : k < n
    · obtain ⟨a, x, rfl, hx, hc, _⟩ := strs_at h hlt
      have hne := str_ne (hs x (List.mem_of_getElem? hx))
      clear hx
      go_wp2
      go_round
      case rel => exact ⟨k + 1, by omega, by go_num⟩
      case measure => simp [intOf]; omega
    · go_wp2
      go_ret
      exact ⟨rfl, rfl⟩
set_option maxHeartbeats 400000 in
theorem find_yes (i : Nat) (hi : i < n) (hi' : l[i]? = some s) (hs : ∀ j x, j < i → l[j]? = some x → x ≠ s) : Calls Tryd.prog 21 #[.slice A n c, .string s] w fun e w' => e = .returned (.int .i64 i) ∧ w = w' := by
  go_enter Tryd.func21, Tryd.ntmps21
  go_wp2
  go_loop [5] (fun i0 => ∃ k : Nat, k ≤ i ∧ i0 = .int .i64 k) (fun i => n - (intOf i).toNat)
  case atStart => exact ⟨0, by omega, rfl⟩
  case round =>
    obtain ⟨k, hk, rfl⟩ := hrel
    obtain ⟨a, x, rfl, hx, hc, _⟩ := strs_at h (show k < n by omega)
    by_cases hlt : k < i
    · have hne := str_ne (hs k x hlt hx)
      clear hx hi'
      go_wp2
      go_round
      case rel => exact ⟨k + 1, by omega, by go_num⟩
      case measure => simp [intOf]; omega
    · obtain rfl : k = i := by omega
      obtain rfl := Option.some.inj (hx.symm.trans hi')
      have he := str_same x
      clear hx hi' hs
      go_wp2
      go_ret
      exact ⟨rfl, rfl⟩
set_option maxHeartbeats 400000 in
theorem index_no (hs : ∀ x ∈ l, x ≠ s) : Calls Tryd.prog 29 #[.slice A n c, .string s] w fun e w' => e = .returned (.int .i64 (-1)) ∧ w = w' := by
  go_enter Tryd.func29, Tryd.ntmps29
  go_wp2
  go_loop [5, 8] (fun _ i => ∃ k : Nat, k ≤ n ∧ i = .int .i64 k) (fun _ i => n - (intOf i).toNat)
  case atStart => exact ⟨0, by omega, rfl⟩
  case round =>
    obtain ⟨k, hk, rfl⟩ := hrel
    by_cases hlt : k < n
    · obtain ⟨a, x, rfl, hx, hc, _⟩ := strs_at h hlt
      have hne := str_ne (Ne.symm (hs x (List.mem_of_getElem? hx)))
      clear hx
      go_wp2
      go_round
      case rel => exact ⟨k + 1, by omega, by go_num⟩
      case measure => simp [intOf]; omega
    · go_wp2
      go_ret
      exact ⟨rfl, rfl⟩
set_option maxHeartbeats 400000 in
theorem index_yes (i : Nat) (hi : i < n) (hi' : l[i]? = some s) (hs : ∀ j x, j < i → l[j]? = some x → x ≠ s) : Calls Tryd.prog 29 #[.slice A n c, .string s] w fun e w' => e = .returned (.int .i64 i) ∧ w = w' := by
  go_enter Tryd.func29, Tryd.ntmps29
  go_wp2
  go_loop [5, 8] (fun _ i0 => ∃ k : Nat, k ≤ i ∧ i0 = .int .i64 k) (fun _ i => n - (intOf i).toNat)
  case atStart => exact ⟨0, by omega, rfl⟩
  case round =>
    obtain ⟨k, hk, rfl⟩ := hrel
    obtain ⟨a, x, rfl, hx, hc, _⟩ := strs_at h (show k < n by omega)
    by_cases hlt : k < i
    · have hne := str_ne (Ne.symm (hs k x hlt hx))
      clear hx hi'
      go_wp2
      go_round
      case rel => exact ⟨k + 1, by omega, by go_num⟩
      case measure => simp [intOf]; omega
    · obtain rfl : k = i := by omega
      obtain rfl := Option.some.inj (hx.symm.trans hi')
      have he := str_same x
      clear hx hi' hs
      go_wp2
      go_ret
      exact ⟨rfl, rfl⟩
end

def sName : Nat → ByteArray
  | 0 => ⟨#[102, 97, 99, 116, 111, 114, 121]⟩
  | 1 => ⟨#[104, 97, 110, 100, 101, 100]⟩
  | 2 => ⟨#[98, 111, 97, 114, 100, 101, 100]⟩
  | 3 => ⟨#[115, 97, 105, 108, 105, 110, 103]⟩
  | 4 => ⟨#[113, 117, 97, 121]⟩
  | 5 => ⟨#[99, 117, 115, 116, 111, 109, 115]⟩
  | 6 => ⟨#[114, 111, 97, 100]⟩
  | _ => ⟨#[100, 111, 111, 114]⟩
def nameL : List ByteArray := (List.range 8).map tName
def stL : List ByteArray := (List.range 8).map sName
theorem nameL_at (k : Nat) (x : ByteArray) (h : nameL[k]? = some x) : k < 8 ∧ x = tName k := by
  unfold nameL at h
  rw [List.getElem?_map] at h
  by_cases hk : k < 8
  · rw [List.getElem?_range hk] at h
    exact ⟨hk, by simpa using h.symm⟩
  · rw [List.getElem?_eq_none (by simp; omega)] at h
    simp at h
theorem nameL_get (k : Nat) (hk : k < 8) : nameL[k]? = some (tName k) := by
  unfold nameL
  rw [List.getElem?_map, List.getElem?_range hk]
  rfl
theorem stL_at (k : Nat) (x : ByteArray) (h : stL[k]? = some x) : k < 8 ∧ x = sName k := by
  unfold stL at h
  rw [List.getElem?_map] at h
  by_cases hk : k < 8
  · rw [List.getElem?_range hk] at h
    exact ⟨hk, by simpa using h.symm⟩
  · rw [List.getElem?_eq_none (by simp; omega)] at h
    simp at h
theorem stL_get (k : Nat) (hk : k < 8) : stL[k]? = some (sName k) := by
  unfold stL
  rw [List.getElem?_map, List.getElem?_range hk]
  rfl
theorem sName_apart (i j : Nat) (hi : i < 8) (hj : j < i) : sName j ≠ sName i := by
  have H : ∀ i j : Fin 8, j < i → sName j ≠ sName i := by decide +kernel
  exact H ⟨i, hi⟩ ⟨j, by omega⟩ hj

def StrsRes (W : World) (l : List ByteArray) (e : Ending) (w' : World) : Prop := ∃ A c, e = .returned (.slice A 8 c) ∧ Reads w' w'.heap.size 1 A 8 (strs l) ∧ Below W.heap.size W w'
set_option maxHeartbeats 400000 in
theorem names_call (w : World) : Calls Tryd.prog 22 #[] w (StrsRes w nameL) := by
  go_enter Tryd.func22, Tryd.ntmps22
  go_wp2
  go_ret
  exact ⟨_, _, rfl, (lit_reads w _ 9 _ (strs nameL) rfl (by rfl)).more (by simp), (Below.refl _ _).alloc (Nat.le_refl _) _⟩
set_option maxHeartbeats 400000 in
theorem stages_call (w : World) : Calls Tryd.prog 23 #[] w (StrsRes w stL) := by
  go_enter Tryd.func23, Tryd.ntmps23
  go_wp2
  go_ret
  exact ⟨_, _, rfl, (lit_reads w _ 9 _ (strs stL) rfl (by rfl)).more (by simp), (Below.refl _ _).alloc (Nat.le_refl _) _⟩

set_option maxHeartbeats 400000 in
theorem stage_no (w : World) (hS : Reads w w.heap.size 1 (some ⟨1, 0, none⟩) 8 (strs stL)) (s : ByteArray) (hs : ∀ x ∈ stL, x ≠ s) :
    Calls Tryd.prog 20 #[.string s] w fun e w' => e = .returned (.tuple #[.int .i64 0, .bool false]) ∧ w = w' := by
  go_enter Tryd.func20, Tryd.ntmps20
  go_wp2_with (go_at_call 29; refine (index_no _ _ _ stL _ hS (by omega) s hs).mono ?_; rintro e w' ⟨rfl, rfl⟩)
  go_ret2
  exact ⟨rfl, rfl⟩
set_option maxHeartbeats 400000 in
theorem stage_yes (w : World) (hS : Reads w w.heap.size 1 (some ⟨1, 0, none⟩) 8 (strs stL)) (i : Nat) (hi : i < 8) :
    Calls Tryd.prog 20 #[.string (sName i)] w fun e w' => e = .returned (.tuple #[.int .i64 i, .bool true]) ∧ w = w' := by
  have q : max (i : Int) 0 = i := by omega
  go_enter Tryd.func20, Tryd.ntmps20
  go_wp2_with (go_at_call 29; refine (index_yes _ _ _ stL _ hS (by omega) _ i hi (stL_get i hi) (fun j x hj hx => by rw [(stL_at j x hx).2]; exact sName_apart i j hi hj)).mono ?_; rintro e w' ⟨rfl, rfl⟩)
  go_ret2
  exact ⟨rfl, rfl⟩

set_option maxHeartbeats 400000 in
theorem name_in (t : Nat) (ht : t < 8) (w : World) {PA cp} (T : Tab w PA cp) :
    Calls Tryd.prog 24 #[.int .i64 t] w fun e w' => e = .returned (.string (tName t)) ∧ Below w.heap.size w w' := by
  go_enter Tryd.func24, Tryd.ntmps24
  go_wp2_with (go_at_call 27; refine (of_in t ht w T).mono ?_; rintro e w' ⟨rfl, hb⟩)
  go_ret
  exact ⟨rfl, hb.alloc hb.size _⟩
set_option maxHeartbeats 400000 in
theorem name_out (t : Int) (h : t < 0 ∨ 8 ≤ t) (w : World) :
    Calls Tryd.prog 24 #[.int .i64 t] w fun e w' => e = .returned (.string ⟨#[]⟩) ∧ Below w.heap.size w w' := by
  go_enter Tryd.func24, Tryd.ntmps24
  go_wp2_with (go_at_call 27; refine (of_out t w h).mono ?_; rintro e w' ⟨rfl, hb⟩)
  go_ret
  exact ⟨rfl, hb.alloc hb.size _⟩
end Go.Proofs.YtkjebkdecakceaaDoor
