/- The walks of first and unless, over function values. Condition: what each function value does. -/
import Derived.Test.YtlmlepdmgopojaaSmall
import Derived.Shelf.Abstract
namespace Go.Proofs.Ytlmlepdmgopojaa
open Go.RowKit
set_option linter.unusedVariables false
set_option linter.unusedSimpArgs false
/-- a function value that tells a code in any memory that the world w grows to -/
structure Look where
  k : Nat
  cap : Array Value
  code : Int
def Look.val (x : Look) : Value := .func (.func x.k) #[] x.cap
def Look.ok (w : World) (x : Look) : Prop := Enters Try.prog x.k ∧ ∀ v, Below w.heap.size w v → Calls Try.prog x.k x.cap v fun e v' => e = .returned (.int .i64 x.code) ∧ Below v.heap.size v v'
def firstC : List Look → Int
  | [] => 0
  | x :: l => if x.code = 0 then firstC l else x.code
theorem firstC_at {l : List Look} : ∀ {k : Nat} {x : Look}, l[k]? = some x → (∀ j, j < k → ∀ y, l[j]? = some y → y.code = 0) → x.code ≠ 0 → firstC l = x.code := by
  induction l with
  | nil => intro k x h; simp at h
  | cons a l ih =>
    intro k x h hz hn
    cases k with
    | zero => simp at h; subst h; unfold firstC; rw [if_neg hn]
    | succ k =>
      have h0 := hz 0 (by omega) a rfl
      unfold firstC
      rw [if_pos h0]
      exact ih (by simpa using h) (fun j hj y hy => hz (j + 1) (by omega) y (by simpa using hy)) hn
theorem firstC_none {l : List Look} : (∀ x ∈ l, x.code = 0) → firstC l = 0 := by
  induction l with
  | nil => intro _; rfl
  | cons a l ih =>
    intro h
    unfold firstC
    rw [if_pos (h a (by simp))]
    exact ih fun x hx => h x (by simp [hx])
set_option maxRecDepth 100000 in
set_option maxHeartbeats 4000000 in
theorem first_any (L : List Look) (A : Option Addr) (c : Nat) (w : World) (hr : Reads w w.heap.size 1 A L.length (L.map Look.val)) (hn : L.length ≤ maxLen)
    (hk : ∀ (i : Nat) (x : Look), L[i]? = some x → (∀ j, j < i → ∀ y : Look, L[j]? = some y → y.code = 0) → Look.ok w x) :
    Calls Try.prog 30 #[.slice A L.length c] w fun e w' => e = .returned (.int .i64 (firstC L)) ∧ Below w.heap.size w w' := by
  unfold maxLen at hn
  have HK := Lib.hid hk
  clear hk
  go_enter Try.func30, Try.ntmps30
  go_wp2_with fail
  go_loopw [8] (fun i v => ∃ k : Nat, k ≤ L.length ∧ i = .int .i64 k ∧ Hid (∀ j, j < k → ∀ y : Look, L[j]? = some y → y.code = 0) ∧ Hid (Below w.heap.size w v)) (fun i _ => L.length - (intOf i).toNat)
  case atStart => exact ⟨0, Nat.zero_le _, rfl, fun j hj => by omega, Lib.hid (Below.refl _ _)⟩
  case round =>
    obtain ⟨k, hk, rfl, hz, hb⟩ := hrel
    by_cases hlt : k < L.length
    · obtain ⟨a, u, rfl, hab, hu, hcell⟩ := (hr.below hb.out).at_ hlt
      simp only [List.getElem?_map, Option.map_eq_some_iff] at hu
      obtain ⟨x, hx, rfl⟩ := hu
      obtain ⟨hE, hC⟩ := HK.out k x hx hz.out
      have HX := Lib.hid hx
      have HR := Lib.hid hr
      have HC := Lib.hid (hC wr hb.out)
      obtain ⟨kk, cap, code⟩ := x
      unfold Look.val at hcell
      simp only at hcell hE HC
      unfold Enters at hE
      clear hx hr hC
      by_cases h0 : code = 0
      · subst h0
        go_wp2_with fail
        refine HC.out.mono ?_
        rintro e w1 ⟨rfl, hb1⟩
        have HB1 := Lib.hid (below_trans hb.out hb1)
        clear hb1
        go_wp2_with fail
        go_roundw
        case rel =>
          refine ⟨k + 1, by omega, by go_num, ?_, HB1⟩
          intro j hj y hy
          rcases Nat.lt_or_ge j k with h | h
          · exact hz.out j h y hy
          · obtain rfl : j = k := by omega
            have := HX.out
            rw [hy] at this
            cases this
            rfl
        case measure => simp [intOf]; omega
      · have h0' : (code != 0) = true := by simpa using h0
        have HN := Lib.hid (firstC_at HX.out hz.out h0)
        clear h0
        go_wp2_with fail
        refine HC.out.mono ?_
        rintro e w1 ⟨rfl, hb1⟩
        have HB1 := Lib.hid (below_trans hb.out hb1)
        clear hb1
        go_wp2_with fail
        go_ret
        exact ⟨ret_int HN.out.symm, HB1.out⟩
    · have hge : (L.length : Int) ≤ k := by omega
      have hge' : L.length ≤ k := by omega
      have HN := Lib.hid (firstC_none (l := L) fun x hx => by
        obtain ⟨j, hj⟩ := List.mem_iff_getElem?.1 hx
        exact hz.out j (by have := (List.getElem?_eq_some_iff.1 hj).1; omega) x hj)
      clear hlt
      go_wp2_with fail
      go_ret
      exact ⟨ret_int HN.out.symm, hb.out⟩
/-- unless makes a function value of two boxes -/
theorem unless_any (e0 : Int) (kk : Nat) (cap : Array Value) (w : World) : Calls Try.prog 31 #[.int .i64 e0, .func (.func kk) #[] cap] w fun e w' =>
    e = .returned (.func (.func 59) #[] #[.pointer (some ⟨w.heap.size + 1, 0, none⟩), .pointer (some ⟨w.heap.size, 0, none⟩)]) ∧ w' = (w.alloc (.cells #[.int .i64 e0] 29)).alloc (.cells #[.func (.func kk) #[] cap] 26) := by
  go_enter Try.func31, Try.ntmps31
  go_wp2_with fail
  go_ret
  exact ⟨by simp, rfl⟩
set_option maxRecDepth 100000 in
set_option maxHeartbeats 2000000 in
/-- the function value that unless makes -/
theorem unl_any (g h kk : Nat) (cap : Array Value) (e0 : Int) (b : Bool) (w : World) (hg : w.cell? ⟨g, 0, none⟩ = some (.func (.func kk) #[] cap)) (hh : w.cell? ⟨h, 0, none⟩ = some (.int .i64 e0)) (hE : Enters Try.prog kk)
    (hC : Calls Try.prog kk cap w fun e w' => e = .returned (.bool b) ∧ Below w.heap.size w w') :
    Calls Try.prog 59 #[.pointer (some ⟨g, 0, none⟩), .pointer (some ⟨h, 0, none⟩)] w fun e w' => e = .returned (.int .i64 (if b then 0 else e0)) ∧ Below w.heap.size w w' := by
  have HC := Lib.hid hC
  have lh := lt_of_cell hh
  unfold Enters at hE
  clear hC
  go_enter Try.func59, Try.ntmps59
  go_wp2_with fail
  refine HC.out.mono ?_
  rintro e w1 ⟨rfl, hb1⟩
  have HB1 := Lib.hid hb1
  have hh' := (hb1.cell (p := ⟨h, 0, none⟩) lh).trans hh
  clear hb1
  cases b
  · go_wp2_with fail
    go_ret
    exact ⟨rfl, HB1.out⟩
  · go_wp2_with fail
    go_ret
    exact ⟨rfl, HB1.out⟩
end Go.Proofs.Ytlmlepdmgopojaa
