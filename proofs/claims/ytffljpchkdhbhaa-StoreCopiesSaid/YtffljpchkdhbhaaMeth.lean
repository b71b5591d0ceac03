/- The methods of a store: each one's contract in plain words. Condition: how the store lies ('St'), that it is one ('ok'). -/
import Derived.Test.YtffljpchkdhbhaaCall
namespace Go.Proofs.Ytffljpchkdhbhaa
open Go.RowKit

def SS.new : SS := ⟨[], 0, -1, false⟩
def SS.fuseDown (σ : SS) : SS := { σ with down := true }
def SS.write (σ : SS) (s : ByteArray) : SS := if σ.down then σ else if 4096 < s.size then σ else if σ.l.length = 4096 then σ else if σ.fuse = 0 then σ.fuseDown else { σ.tick with l := σ.l ++ [s] }
def SS.wcode (σ : SS) (s : ByteArray) : Int := if σ.down then 14 else if 4096 < s.size then 1 else if σ.l.length = 4096 then 7 else if σ.fuse = 0 then 14 else 0
def SS.sync (σ : SS) : SS := if σ.down then σ else if σ.fuse = 0 then σ.fuseDown else { σ.tick with last := σ.l.length }
def SS.scode (σ : SS) : Int := if σ.down then 14 else if σ.fuse = 0 then 14 else 0
def SS.keep (σ : SS) (k : Int) : Nat := (σ.last + min (max k 0) (σ.l.length - σ.last)).toNat
def SS.crash (σ : SS) (k : Int) : SS := ⟨σ.l.take (σ.keep k), σ.keep k, -1, false⟩
def SS.arm (σ : SS) (n : Int) : SS := { σ with fuse := max n (-1) }

theorem new_ok : SS.new.ok := by unfold SS.ok SS.new; simp
theorem tick_ok {σ : SS} (h : σ.ok) : σ.tick.ok := by
  unfold SS.tick
  unfold SS.ok at h ⊢
  split
  · exact ⟨h.1, h.2.1, h.2.2.1, by simp only; omega, by simp only; omega⟩
  · exact h
theorem tick_last (σ : SS) : σ.tick.last = σ.last := by unfold SS.tick; split <;> rfl
theorem tick_down (σ : SS) : σ.tick.down = σ.down := by unfold SS.tick; split <;> rfl
theorem write_ok {σ : SS} (h : σ.ok) (s : ByteArray) : (σ.write s).ok := by
  unfold SS.write
  split
  · exact h
  · split
    · exact h
    · split
      · exact h
      · split
        · exact h
        · rename_i h4 _
          obtain ⟨t1, t2, t3, t4, t5⟩ := tick_ok h
          have e := tick_last σ
          have := h.2.2.1
          have := h.2.1
          refine ⟨t1, ?_, ?_, t4, t5⟩
          · simp only [List.length_append, List.length_singleton]
            omega
          · simp only [List.length_append, List.length_singleton]
            omega
theorem sync_ok {σ : SS} (h : σ.ok) : σ.sync.ok := by
  unfold SS.sync
  split
  · exact h
  · split
    · exact h
    · obtain ⟨t1, t2, t3, t4, t5⟩ := tick_ok h
      have e := tick_l σ
      exact ⟨by simp only; omega, by simp only; rw [e]; omega, t3, t4, t5⟩
theorem keep_bd {σ : SS} (h : σ.ok) (k : Int) : σ.keep k ≤ σ.l.length ∧ σ.last ≤ σ.keep k ∧ (σ.keep k : Int) = σ.last + min (max k 0) (σ.l.length - σ.last) := by
  obtain ⟨h1, h2, h3, _, _⟩ := h
  unfold SS.keep
  refine ⟨by omega, by omega, by omega⟩
theorem crash_ok {σ : SS} (h : σ.ok) (k : Int) : (σ.crash k).ok := by
  have := keep_bd h k
  have h3 := h.2.2.1
  unfold SS.crash SS.ok
  simp only [List.length_take]
  refine ⟨by omega, by omega, by omega, by omega, by omega⟩
theorem arm_ok {σ : SS} (h : σ.ok) (n : Int) (hn : n ≤ 9223372036854775807) : (σ.arm n).ok := by
  obtain ⟨h1, h2, h3, _, _⟩ := h
  exact ⟨h1, h2, h3, by simp only [SS.arm]; omega, by simp only [SS.arm]; omega⟩

theorem stay {g : Nat} {σ : SS} {A : Option Addr} {w w' : World} {B : Nat} (hSt : St w B g A σ) (hb : Below w.heap.size w w') : Wrote B g A σ w w' := ⟨A, hSt.below hb, Chg.of_below hb, .inl rfl⟩
section
variable (g : Nat) (σ : SS) (hok : σ.ok) (A : Option Addr) (w : World) (B : Nat) (hSt : St w B g A σ) (hB : B ≤ w.heap.size)
include hok hSt hB
set_option maxHeartbeats 1000000 in
theorem write_any (s : ByteArray) : Calls Try.prog 12 #[.pointer (some ⟨g, 0, none⟩), .string s] w (Done (.int .i64 (σ.wcode s)) B g A (σ.write s) w) := by
  have hb1 : Below w.heap.size w (w.alloc (.cells #[.pointer (some ⟨g, 0, none⟩)] 25)) := (Below.refl _ _).alloc (Nat.le_refl _) _
  have hb2 : Below w.heap.size w ((w.alloc (.cells #[.pointer (some ⟨g, 0, none⟩)] 25)).alloc (.cells #[.string s] 9)) := hb1.alloc (by simp) _
  have hSt2 := hSt.below hb2
  have hx1 : Blk ((w.alloc (.cells #[.pointer (some ⟨g, 0, none⟩)] 25)).alloc (.cells #[.string s] 9)) w.heap.size 25 #[.pointer (some ⟨g, 0, none⟩)] := (Blk.new w 25 _).alloc _
  have hx2 : Blk ((w.alloc (.cells #[.pointer (some ⟨g, 0, none⟩)] 25)).alloc (.cells #[.string s] 9)) (w.heap.size + 1) 9 #[.string s] := by
    have := Blk.new (w.alloc (.cells #[.pointer (some ⟨g, 0, none⟩)] 25)) 9 #[.string s]
    simpa using this
  have hB2 : B ≤ ((w.alloc (.cells #[.pointer (some ⟨g, 0, none⟩)] 25)).alloc (.cells #[.string s] 9)).heap.size := Nat.le_trans hB hb2.size
  have hst := stay hSt hb2
  obtain ⟨hBg, c, hg, hrow⟩ := hSt
  have hbA : ¬ blockOf A (w.heap.size + 1) := fun h => by have := (hrow.lt h).2; omega
  have lg := hg.lt
  have c0 : w.cell? ⟨g, 0, none⟩ = some (.slice A σ.l.length c) := hg.cell 0
  have c3 : w.cell? ⟨g, 3, none⟩ = some (.bool σ.down) := hg.cell 3
  unfold SS.write SS.wcode
  by_cases h1 : σ.down = true
  · rw [if_pos h1, if_pos h1]
    rw [h1] at c3
    go_enter Try.func12, Try.ntmps12
    go_wp2
    go_ret
    exact ⟨rfl, hst⟩
  · rw [if_neg h1, if_neg h1]
    simp only [Bool.not_eq_true] at h1
    rw [h1] at c3
    by_cases h2 : 4096 < s.size
    · rw [if_pos h2, if_pos h2]
      have q : (4096 : Int) < (s.size : Int) := by omega
      go_enter Try.func12, Try.ntmps12
      go_wp2
      go_ret
      exact ⟨rfl, hst⟩
    · rw [if_neg h2, if_neg h2]
      have q : ¬ (4096 : Int) < (s.size : Int) := by omega
      by_cases h3 : σ.l.length = 4096
      · rw [if_pos h3, if_pos h3]
        have q3 : ((σ.l.length : Int) == 4096) = true := by simp; omega
        have hst' := Lib.hid hst
        clear hst h3
        go_enter Try.func12, Try.ntmps12
        go_wp2
        go_ret
        exact ⟨rfl, hst'.out⟩
      · rw [if_neg h3, if_neg h3]
        have q3 : ((σ.l.length : Int) == 4096) = false := by simp; omega
        by_cases h4 : σ.fuse = 0
        · rw [if_pos h4, if_pos h4]
          have cc := call_down (.func (.func 26) #[] #[.pointer (some ⟨w.heap.size, 0, none⟩), .pointer (some ⟨w.heap.size + 1, 0, none⟩)]) g σ h4 A _ B hSt2
          have CC := Lib.hid cc
          clear cc h4 hst
          go_enter Try.func12, Try.ntmps12
          go_wp2_with fail
          refine CC.out.mono ?_
          rintro e w2 ⟨rfl, hwr⟩
          go_wp2
          go_ret
          exact ⟨rfl, Wrote.trans (Chg.of_below hb2) (.inl rfl) hwr⟩
        · rw [if_neg h4, if_neg h4]
          have CC := Lib.hid (call_write w.heap.size (w.heap.size + 1) g s σ hok h4 A _ hx1 hx2 B hSt2 hB2 hbA)
          clear h4 hst
          go_enter Try.func12, Try.ntmps12
          go_wp2_with fail
          refine CC.out.mono ?_
          rintro e w2 ⟨rfl, hwr⟩
          go_wp2
          go_ret
          exact ⟨rfl, Wrote.trans (Chg.of_below hb2) (.inl rfl) hwr⟩
end
section
variable (g : Nat) (σ : SS) (hok : σ.ok) (A : Option Addr) (w : World) (B : Nat) (hSt : St w B g A σ)
include hok hSt
set_option maxHeartbeats 1000000 in
theorem sync_any : Calls Try.prog 13 #[.pointer (some ⟨g, 0, none⟩)] w (Done (.int .i64 σ.scode) B g A σ.sync w) := by
  have hb1 : Below w.heap.size w (w.alloc (.cells #[.pointer (some ⟨g, 0, none⟩)] 25)) := (Below.refl _ _).alloc (Nat.le_refl _) _
  have hSt2 := hSt.below hb1
  have hx1 : Blk (w.alloc (.cells #[.pointer (some ⟨g, 0, none⟩)] 25)) w.heap.size 25 #[.pointer (some ⟨g, 0, none⟩)] := Blk.new w 25 _
  have hst := stay hSt hb1
  obtain ⟨hBg, c, hg, hrow⟩ := hSt
  have lg := hg.lt
  have c3 : w.cell? ⟨g, 3, none⟩ = some (.bool σ.down) := hg.cell 3
  unfold SS.sync SS.scode
  by_cases h1 : σ.down = true
  · rw [if_pos h1, if_pos h1]
    rw [h1] at c3
    go_enter Try.func13, Try.ntmps13
    go_wp2
    go_ret
    exact ⟨rfl, hst⟩
  · rw [if_neg h1, if_neg h1]
    simp only [Bool.not_eq_true] at h1
    rw [h1] at c3
    by_cases h4 : σ.fuse = 0
    · rw [if_pos h4, if_pos h4]
      have CC := Lib.hid (call_down (.func (.func 27) #[] #[.pointer (some ⟨w.heap.size, 0, none⟩)]) g σ h4 A _ B hSt2)
      clear h4 hst
      go_enter Try.func13, Try.ntmps13
      go_wp2_with fail
      refine CC.out.mono ?_
      rintro e w2 ⟨rfl, hwr⟩
      go_wp2
      go_ret
      exact ⟨rfl, Wrote.trans (Chg.of_below hb1) (.inl rfl) hwr⟩
    · rw [if_neg h4, if_neg h4]
      have CC := Lib.hid (call_sync w.heap.size g σ hok h4 A _ hx1 B hSt2)
      clear h4 hst
      go_enter Try.func13, Try.ntmps13
      go_wp2_with fail
      refine CC.out.mono ?_
      rintro e w2 ⟨rfl, hwr⟩
      go_wp2
      go_ret
      exact ⟨rfl, Wrote.trans (Chg.of_below hb1) (.inl rfl) hwr⟩
end
section
variable (g : Nat) (σ : SS) (A : Option Addr) (w : World) (B : Nat) (hSt : St w B g A σ)
include hSt
set_option maxHeartbeats 400000 in
theorem lasting_any : Calls Try.prog 14 #[.pointer (some ⟨g, 0, none⟩)] w fun e w' => e = .returned (.int .i64 σ.last) ∧ w = w' := by
  obtain ⟨hBg, c, hg, hrow⟩ := hSt
  have c1 : w.cell? ⟨g, 1, none⟩ = some (.int .i64 σ.last) := hg.cell 1
  go_enter Try.func14, Try.ntmps14
  go_wp2
  go_ret
  exact ⟨rfl, rfl⟩
set_option maxHeartbeats 400000 in
theorem len_any : Calls Try.prog 16 #[.pointer (some ⟨g, 0, none⟩)] w fun e w' => e = .returned (.int .i64 σ.l.length) ∧ w = w' := by
  obtain ⟨hBg, c, hg, hrow⟩ := hSt
  have c0 : w.cell? ⟨g, 0, none⟩ = some (.slice A σ.l.length c) := hg.cell 0
  go_enter Try.func16, Try.ntmps16
  go_wp2
  go_ret
  exact ⟨rfl, rfl⟩
set_option maxHeartbeats 400000 in
theorem down_any : Calls Try.prog 23 #[.pointer (some ⟨g, 0, none⟩)] w fun e w' => e = .returned (.bool σ.down) ∧ w = w' := by
  obtain ⟨hBg, c, hg, hrow⟩ := hSt
  have c3 : w.cell? ⟨g, 3, none⟩ = some (.bool σ.down) := hg.cell 3
  go_enter Try.func23, Try.ntmps23
  go_wp2
  go_ret
  exact ⟨rfl, rfl⟩
set_option maxHeartbeats 400000 in
theorem arm_any (n : Int) : Calls Try.prog 22 #[.pointer (some ⟨g, 0, none⟩), .int .i64 n] w (Done (.tuple #[]) B g A (σ.arm n) w) := by
  obtain ⟨hBg, c, hg, hrow⟩ := hSt
  have c2 : w.cell? ⟨g, 2, none⟩ = some (.int .i64 σ.fuse) := hg.cell 2
  have f2 : w.frozen? ⟨g, 2, none⟩ = false := hg.frozen 2
  have e : ∀ m, m = max n (-1) → (σ.cells A c).setIfInBounds 2 (.int .i64 m) = (σ.arm n).cells A c := fun m h => by subst h; rfl
  have E := Lib.hid e
  clear e
  by_cases h : n < -1
  · go_enter Try.func22, Try.ntmps22
    go_wp2
    go_end0
    exact ⟨rfl, set_end hBg hg hrow (Below.refl _ _) 2 _ rfl (E.out _ (by omega))⟩
  · go_enter Try.func22, Try.ntmps22
    go_wp2
    go_end0
    exact ⟨rfl, set_end hBg hg hrow (Below.refl _ _) 2 _ rfl (E.out _ (by omega))⟩
/-- what Read tells -/
def SS.read (σ : SS) (i : Int) : Value := if σ.down then .tuple #[.string ⟨#[]⟩, .int .i64 14] else if i < 0 ∨ (σ.l.length : Int) ≤ i then .tuple #[.string ⟨#[]⟩, .int .i64 3] else .tuple #[.string (σ.l.getD i.toNat ⟨#[]⟩), .int .i64 0]
set_option maxHeartbeats 800000 in
theorem read_any (i : Int) : Calls Try.prog 17 #[.pointer (some ⟨g, 0, none⟩), .int .i64 i] w fun e w' => e = .returned (σ.read i) ∧ w = w' := by
  obtain ⟨hBg, c, hg, hrow⟩ := hSt
  have c0 : w.cell? ⟨g, 0, none⟩ = some (.slice A σ.l.length c) := hg.cell 0
  have c3 : w.cell? ⟨g, 3, none⟩ = some (.bool σ.down) := hg.cell 3
  have hrd := hrow.reads
  unfold SS.read
  by_cases h1 : σ.down = true
  · rw [if_pos h1]
    rw [h1] at c3
    go_enter Try.func17, Try.ntmps17
    go_wp2
    go_ret2
    exact ⟨rfl, rfl⟩
  · rw [if_neg h1]
    simp only [Bool.not_eq_true] at h1
    rw [h1] at c3
    by_cases h2 : i < 0
    · rw [if_pos (.inl h2)]
      go_enter Try.func17, Try.ntmps17
      go_wp2
      go_ret2
      exact ⟨rfl, rfl⟩
    · by_cases h3 : (σ.l.length : Int) ≤ i
      · rw [if_pos (.inr h3)]
        go_enter Try.func17, Try.ntmps17
        go_wp2
        go_ret2
        exact ⟨rfl, rfl⟩
      · rw [if_neg (by omega)]
        obtain ⟨k, rfl⟩ := Int.eq_ofNat_of_zero_le (show 0 ≤ i by omega)
        have hk : k < σ.l.length := by omega
        obtain ⟨a, u, rfl, _, hu, hc⟩ := hrd.at_ hk
        have hs : u = .string (σ.l.getD k ⟨#[]⟩) := by
          simp only [strs, List.getElem?_map, Option.map_eq_some_iff] at hu
          obtain ⟨s, hs, rfl⟩ := hu
          rw [List.getD_eq_getElem?_getD, hs]
          rfl
        subst hs
        rw [Int.toNat_natCast]
        clear hu h2 hrd
        go_enter Try.func17, Try.ntmps17
        go_wp2
        go_ret2
        exact ⟨rfl, rfl⟩
end
set_option maxHeartbeats 400000 in
theorem new_any (w : World) (B : Nat) (hB : B ≤ w.heap.size) : Calls Try.prog 11 #[] w fun e w' => e = .returned (.pointer (some ⟨w.heap.size, 0, none⟩)) ∧ St w' B w.heap.size none SS.new ∧ Below w.heap.size w w' ∧ w'.heap.size = w.heap.size + 1 := by
  go_enter Try.func11, Try.ntmps11
  go_wp2
  go_ret
  exact ⟨rfl, ⟨hB, 0, Blk.new w 55 _, Row.nil _ _ _ _⟩, (Below.refl _ _).alloc (Nat.le_refl _) _, by simp⟩
end Go.Proofs.Ytffljpchkdhbhaa
