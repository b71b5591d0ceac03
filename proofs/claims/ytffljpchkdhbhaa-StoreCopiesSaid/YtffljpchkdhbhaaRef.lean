/- The document's store: what each of its functions makes of a state that is passed by value. Condition: how its slice lies. -/
import Derived.Test.YtffljpchkdhbhaaUp
import Derived.BigRegion
namespace Go.Proofs.Ytffljpchkdhbhaa
open Go.RowKit

/-- behind what was there, whatever was laid -/
def SS.ref (σ : SS) (R : Option Addr) (c : Nat) : Value := .agg (σ.cells R c)
/-- two boxes laid ahead of a call, behind it -/
theorem boxes {w w1 : World} {t : TypeId} {x y : Array Value} (hb : Below ((w.alloc (.cells x t)).alloc (.cells y t)).heap.size ((w.alloc (.cells x t)).alloc (.cells y t)) w1) :
    Blk w1 w.heap.size t x ∧ Blk w1 (w.heap.size + 1) t y ∧ Below w.heap.size w w1 := by
  have h2 : Blk ((w.alloc (.cells x t)).alloc (.cells y t)) (w.heap.size + 1) t y := by
    have := Blk.new (w.alloc (.cells x t)) t y
    simpa using this
  have hs : ((w.alloc (.cells x t)).alloc (.cells y t)).heap.size = w.heap.size + 1 + 1 := by simp
  exact ⟨((Blk.new w t x).alloc _).below hb (by omega), h2.below hb (by omega), (((Below.refl _ _).alloc (Nat.le_refl _) _).alloc (by simp) _).trans (hb.mono (by omega))⟩
theorem Blk.four {w : World} {g : Nat} {t : TypeId} {a b c d : Value} (h : Blk w g t #[a, b, c, d]) :
    w.cell? ⟨g, 0, none⟩ = some a ∧ w.cell? ⟨g, 1, none⟩ = some b ∧ w.cell? ⟨g, 2, none⟩ = some c ∧ w.cell? ⟨g, 3, none⟩ = some d ∧ w.frozen? ⟨g, 0, none⟩ = false ∧ w.frozen? ⟨g, 1, none⟩ = false ∧ w.frozen? ⟨g, 2, none⟩ = false ∧ w.frozen? ⟨g, 3, none⟩ = false :=
  ⟨h.cell 0, h.cell 1, h.cell 2, h.cell 3, h.frozen 0, h.frozen 1, h.frozen 2, h.frozen 3⟩
section
variable (σ : SS) (R : Option Addr) (c : Nat) (w : World)
theorem rcall_zero (hf : σ.fuse = 0) : Calls Try.prog 34 #[σ.ref R c] w fun e w' => e = .returned (.tuple #[σ.fuseDown.ref R c, .bool false]) ∧ Below w.heap.size w w' := by
  obtain ⟨l, la, fu, dn⟩ := σ
  simp only at hf
  subst hf
  unfold SS.ref SS.cells SS.fuseDown
  simp only
  go_enter Try.func34, Try.ntmps34
  go_wp2
  refine bodyPost_ret (v := .tuple #[.agg #[.slice R l.length c, .int .i64 la, .int .i64 0, .bool true], .bool false]) (by simp [results, Try.results34, go_sem]) rfl ⟨rfl, ?_⟩
  repeat' (first | with_reducible exact Below.refl _ _ | with_reducible assumption | with_reducible refine Below.drew ?_ | with_reducible refine Below.alloc ?_ ?_ _ | with_reducible refine Below.setCell ?_ ?_ _ | with_reducible exact Nat.le_refl _ | with_reducible exact Nat.le_succ _ | (simp; done) | (simp; omega))
theorem rcall_pos (hf : 0 < σ.fuse) (hf' : σ.fuse ≤ 9223372036854775807) : Calls Try.prog 34 #[σ.ref R c] w fun e w' => e = .returned (.tuple #[σ.tick.ref R c, .bool true]) ∧ Below w.heap.size w w' := by
  unfold SS.tick
  rw [if_pos hf]
  obtain ⟨l, la, fu, dn⟩ := σ
  simp only at hf hf'
  unfold SS.ref SS.cells
  simp only
  have q : (fu == 0) = false := by simp; omega
  have W1 : IntKind.i64.wrap (fu - 1) = fu - 1 := IntWalk.i64_in _ (by omega)
  go_enter Try.func34, Try.ntmps34
  go_wp2
  refine bodyPost_ret (v := .tuple #[.agg #[.slice R l.length c, .int .i64 la, .int .i64 (fu - 1), .bool dn], .bool true]) (by simp [results, Try.results34, go_sem]) rfl ⟨rfl, ?_⟩
  repeat' (first | with_reducible exact Below.refl _ _ | with_reducible assumption | with_reducible refine Below.drew ?_ | with_reducible refine Below.alloc ?_ ?_ _ | with_reducible refine Below.setCell ?_ ?_ _ | with_reducible exact Nat.le_refl _ | with_reducible exact Nat.le_succ _ | (simp; done) | (simp; omega))
theorem rcall_neg (hf : σ.fuse < 0) : Calls Try.prog 34 #[σ.ref R c] w fun e w' => e = .returned (.tuple #[σ.tick.ref R c, .bool true]) ∧ Below w.heap.size w w' := by
  unfold SS.tick
  rw [if_neg (by omega)]
  obtain ⟨l, la, fu, dn⟩ := σ
  simp only at hf
  unfold SS.ref SS.cells
  simp only
  have q : (fu == 0) = false := by simp; omega
  have q2 : ¬ 0 < fu := by omega
  go_enter Try.func34, Try.ntmps34
  go_wp2
  refine bodyPost_ret (v := .tuple #[.agg #[.slice R l.length c, .int .i64 la, .int .i64 fu, .bool dn], .bool true]) (by simp [results, Try.results34, go_sem]) rfl ⟨rfl, ?_⟩
  repeat' (first | with_reducible exact Below.refl _ _ | with_reducible assumption | with_reducible refine Below.drew ?_ | with_reducible refine Below.alloc ?_ ?_ _ | with_reducible refine Below.setCell ?_ ?_ _ | with_reducible exact Nat.le_refl _ | with_reducible exact Nat.le_succ _ | (simp; done) | (simp; omega))
theorem rcall_up (hf : σ.fuse ≠ 0) (hf' : σ.fuse ≤ 9223372036854775807) : Calls Try.prog 34 #[σ.ref R c] w fun e w' => e = .returned (.tuple #[σ.tick.ref R c, .bool true]) ∧ Below w.heap.size w w' := by
  by_cases h : 0 < σ.fuse
  · exact rcall_pos σ R c w h hf'
  · exact rcall_neg σ R c w (by omega)
theorem rarm_any (n : Int) : Calls Try.prog 31 #[σ.ref R c, .int .i64 n] w fun e w' => e = .returned ((σ.arm n).ref R c) ∧ Below w.heap.size w w' := by
  obtain ⟨l, la, fu, dn⟩ := σ
  simp only [SS.ref, SS.cells, SS.arm]
  by_cases hn : n < 0
  · rw [show max n (-1) = -1 by omega]
    go_enter Try.func31, Try.ntmps31
    go_wp2
    refine bodyPost_ret (v := .agg #[.slice R l.length c, .int .i64 la, .int .i64 (-1), .bool dn]) (by simp [results, Try.results31, go_sem]) rfl ⟨rfl, ?_⟩
    repeat' (first | with_reducible exact Below.refl _ _ | with_reducible assumption | with_reducible refine Below.drew ?_ | with_reducible refine Below.alloc ?_ ?_ _ | with_reducible refine Below.setCell ?_ ?_ _ | with_reducible exact Nat.le_refl _ | with_reducible exact Nat.le_succ _ | (simp; done) | (simp; omega))
  · rw [show max n (-1) = n by omega]
    go_enter Try.func31, Try.ntmps31
    go_wp2
    refine bodyPost_ret (v := .agg #[.slice R l.length c, .int .i64 la, .int .i64 n, .bool dn]) (by simp [results, Try.results31, go_sem]) rfl ⟨rfl, ?_⟩
    repeat' (first | with_reducible exact Below.refl _ _ | with_reducible assumption | with_reducible refine Below.drew ?_ | with_reducible refine Below.alloc ?_ ?_ _ | with_reducible refine Below.setCell ?_ ?_ _ | with_reducible exact Nat.le_refl _ | with_reducible exact Nat.le_succ _ | (simp; done) | (simp; omega))
theorem rnew_any : Calls Try.prog 19 #[] w fun e w' => e = .returned (SS.new.ref none 0) ∧ Below w.heap.size w w' := by
  go_enter Try.func19, Try.ntmps19
  go_wp2
  refine bodyPost_ret (v := .agg #[.slice none 0 0, .int .i64 0, .int .i64 (-1), .bool false]) (by simp [results, Try.results19, go_sem]) rfl ⟨rfl, ?_⟩
  repeat' (first | with_reducible exact Below.refl _ _ | with_reducible assumption | with_reducible refine Below.drew ?_ | with_reducible refine Below.alloc ?_ ?_ _ | with_reducible refine Below.setCell ?_ ?_ _ | with_reducible exact Nat.le_refl _ | with_reducible exact Nat.le_succ _ | (simp; done) | (simp; omega))
theorem rread_any (hr : Reads w w.heap.size 1 R σ.l.length (strs σ.l)) (i : Int) : Calls Try.prog 32 #[σ.ref R c, .int .i64 i] w fun e w' => e = .returned (σ.read i) ∧ Below w.heap.size w w' := by
  obtain ⟨l, la, fu, dn⟩ := σ
  simp only [SS.ref, SS.cells, SS.read] at hr ⊢
  cases dn
  · rw [if_neg (by simp)]
    by_cases h : i < 0 ∨ (l.length : Int) ≤ i
    · rw [if_pos h]
      by_cases h1 : i < 0
      · clear hr h
        go_enter Try.func32, Try.ntmps32
        go_wp2
        go_ret2
        exact ⟨rfl, by repeat' (first | with_reducible exact Below.refl _ _ | with_reducible assumption | with_reducible refine Below.drew ?_ | with_reducible refine Below.alloc ?_ ?_ _ | with_reducible refine Below.setCell ?_ ?_ _ | with_reducible exact Nat.le_refl _ | with_reducible exact Nat.le_succ _ | (simp; done) | (simp; omega))⟩
      · have h2 : (l.length : Int) ≤ i := by omega
        have h3 : 0 ≤ i := by omega
        clear hr h
        go_enter Try.func32, Try.ntmps32
        go_wp2
        go_ret2
        exact ⟨rfl, by repeat' (first | with_reducible exact Below.refl _ _ | with_reducible assumption | with_reducible refine Below.drew ?_ | with_reducible refine Below.alloc ?_ ?_ _ | with_reducible refine Below.setCell ?_ ?_ _ | with_reducible exact Nat.le_refl _ | with_reducible exact Nat.le_succ _ | (simp; done) | (simp; omega))⟩
    · rw [if_neg h]
      obtain ⟨k, rfl⟩ := Int.eq_ofNat_of_zero_le (show 0 ≤ i by omega)
      have hk : k < l.length := by omega
      have hk' : (k : Int) < l.length := by omega
      obtain ⟨a, u, rfl, hbk, hu, hc⟩ := hr.at_ hk
      simp only [strs, List.getElem?_map, Option.map_eq_some_iff] at hu
      obtain ⟨s, hs', rfl⟩ := hu
      have hc' : (w.alloc (.cells #[.slice (some a) l.length c, .int .i64 la, .int .i64 fu, .bool false] 42)).cell? (a.add k) = some (.string s) := (World.cell?_alloc_lt w _ _ (by rw [block_of_add]; exact hbk)).trans hc
      rw [List.getD_eq_getElem?_getD, Int.toNat_natCast, hs']
      clear hr h hs' hc
      go_enter Try.func32, Try.ntmps32
      go_wp2
      go_ret2
      exact ⟨rfl, by repeat' (first | with_reducible exact Below.refl _ _ | with_reducible assumption | with_reducible refine Below.drew ?_ | with_reducible refine Below.alloc ?_ ?_ _ | with_reducible refine Below.setCell ?_ ?_ _ | with_reducible exact Nat.le_refl _ | with_reducible exact Nat.le_succ _ | (simp; done) | (simp; omega))⟩
  · rw [if_pos rfl]
    clear hr
    go_enter Try.func32, Try.ntmps32
    go_wp2
    go_ret2
    exact ⟨rfl, by repeat' (first | with_reducible exact Below.refl _ _ | with_reducible assumption | with_reducible refine Below.drew ?_ | with_reducible refine Below.alloc ?_ ?_ _ | with_reducible refine Below.setCell ?_ ?_ _ | with_reducible exact Nat.le_refl _ | with_reducible exact Nat.le_succ _ | (simp; done) | (simp; omega))⟩
end
end Go.Proofs.Ytffljpchkdhbhaa
