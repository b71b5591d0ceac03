/- The walks of an act by the program, and of Expired. Condition: where the surety lies. -/
import Derived.Test.YtlmlepdmgopojaaExtend
namespace Go.Proofs.Ytlmlepdmgopojaa
open Go.RowKit
set_option linter.unusedVariables false
set_option linter.unusedSimpArgs false
def Act'.cells (a : Act') : List Value := [.int .u8 a.kind, .string a.by_, .int .i64 a.sum, .int .i64 a.day, .int .i64 a.n]
def actV (a : Act') : Value := .agg a.cells.toArray
def Act'.wf (a : Act') : Prop := 0 ≤ a.kind ∧ a.kind < 256
/-- what an act by the program leaves -/
def Did (O : Nat → Prop) (w : World) (g : Nat) (s : Sur) (a : Act') (e : Ending) (w' : World) : Prop :=
  e = .returned (.tuple #[.int .i64 (s.act a).2.1, .int .i64 (s.act a).2.2]) ∧ ∃ O', At O' w' g (s.act a).1 ∧ Chg O w w' ∧ ∀ k, O' k → O k ∨ w.heap.size ≤ k
theorem act_0 {s : Sur} {a : Act'} (h : a.kind % 4 = 0) : s.act a = s.demand a.by_ a.sum a.day := by unfold Sur.act; rw [if_pos h]
theorem act_1 {s : Sur} {a : Act'} (h : a.kind % 4 = 1) : s.act a = ((s.extend a.n a.day).1, 0, (s.extend a.n a.day).2) := by unfold Sur.act; rw [if_neg (by omega), if_pos h]
theorem act_2 {s : Sur} {a : Act'} (h : a.kind % 4 = 2) : s.act a = s.pay a.n := by unfold Sur.act; rw [if_neg (by omega), if_neg (by omega), if_pos h]
theorem act_3 {s : Sur} {a : Act'} (h : a.kind % 4 = 3) : s.act a = ((s.reduce a.sum a.day).1, 0, (s.reduce a.sum a.day).2) := by unfold Sur.act; rw [if_neg (by omega), if_neg (by omega), if_neg (by omega)]
set_option maxRecDepth 100000 in
set_option maxHeartbeats 4000000 in
theorem do_any (s : Sur) (g : Nat) (w : World) (O : Nat → Prop) (h : At O w g s) {K : Nat} (ok : s.ok K) (hK : K < 4096) (a : Act') (wf : a.wf) :
    Calls Try.prog 13 #[.pointer (some ⟨g, 0, none⟩), actV a] w (Did O w g s a) := by
  have HB := Lib.hid (show Below w.heap.size w (w.alloc (.cells #[.int .u8 a.kind, .string a.by_, .int .i64 a.sum, .int .i64 a.day, .int .i64 a.n] 37)) from (Below.refl _ _).alloc (Nat.le_refl _) _)
  have h1 := h.below HB.out
  have hsz : (w.alloc (.cells #[.int .u8 a.kind, .string a.by_, .int .i64 a.sum, .int .i64 a.day, .int .i64 a.n] 37)).heap.size = w.heap.size + 1 := by simp
  have fin : ∀ (e : Ending) (w' : World) (O' : Nat → Prop) (s' : Sur), At O' w' g s' → Chg O (w.alloc (.cells #[.int .u8 a.kind, .string a.by_, .int .i64 a.sum, .int .i64 a.day, .int .i64 a.n] 37)) w' → (∀ k, O' k → O k ∨ w.heap.size + 1 ≤ k) →
      ∃ O', At O' w' g s' ∧ Chg O w w' ∧ ∀ k, O' k → O k ∨ w.heap.size ≤ k := fun e w' O' s' q1 q2 q3 => ⟨O', q1, (Chg.of_below HB.out).trans q2, fun k hk => (q3 k hk).imp id fun h => by omega⟩
  have HF := Lib.hid fin
  have w0 := wf.1
  have w1 := wf.2
  have et : a.kind.tmod 4 = a.kind % 4 := Int.tmod_eq_emod_of_nonneg w0
  unfold Did
  rcases (show a.kind % 4 = 0 ∨ a.kind % 4 = 1 ∨ a.kind % 4 = 2 ∨ a.kind % 4 = 3 by omega) with hm | hm | hm | hm
  · rw [act_0 hm]
    have HC := Lib.hid (demand_any s g _ O h1 ok hK a.by_ a.sum a.day)
    rw [hm] at et
    generalize s.demand a.by_ a.sum a.day = r at *
    obtain ⟨kind, by_, sum, day, n⟩ := a
    unfold actV Act'.cells
    simp only at *
    rw [hsz] at HC
    clear h h1 ok wf fin hm hsz
    go_enter Try.func13, Try.ntmps13
    go_wp2_with fail
    refine HC.out.mono ?_
    rintro e w2 ⟨rfl, O', q1, q2, q3⟩
    have HQ := Lib.hid (HF.out (.returned (.int .i64 0)) w2 O' _ q1 q2 q3)
    clear q1 q2 q3 HC
    go_wp2_with fail
    go_ret2
    exact ⟨rfl, HQ.out⟩
  · rw [act_1 hm]
    have HC := Lib.hid (extend_any s g _ O h1 ok (by omega) a.n a.day)
    have hO : ∀ k, O k → O k ∨ w.heap.size + 1 ≤ k := fun k hk => .inl hk
    rw [hm] at et
    generalize s.extend a.n a.day = r at *
    obtain ⟨kind, by_, sum, day, n⟩ := a
    unfold actV Act'.cells
    simp only at *
    have HO := Lib.hid hO
    clear h h1 ok wf fin hm hsz hO
    go_enter Try.func13, Try.ntmps13
    go_wp2_with fail
    refine HC.out.mono ?_
    rintro e w2 ⟨rfl, q1, q2⟩
    have HQ := Lib.hid (HF.out (.returned (.int .i64 0)) w2 O _ q1 q2 HO.out)
    clear q1 q2 HC
    go_wp2_with fail
    go_ret2
    exact ⟨rfl, HQ.out⟩
  · rw [act_2 hm]
    have HC := Lib.hid (pay_any s g _ O h1 ok (by omega) a.n)
    have hO : ∀ k, O k → O k ∨ w.heap.size + 1 ≤ k := fun k hk => .inl hk
    rw [hm] at et
    generalize s.pay a.n = r at *
    obtain ⟨kind, by_, sum, day, n⟩ := a
    unfold actV Act'.cells
    simp only at *
    have HO := Lib.hid hO
    clear h h1 ok wf fin hm hsz hO
    go_enter Try.func13, Try.ntmps13
    go_wp2_with fail
    refine HC.out.mono ?_
    rintro e w2 ⟨rfl, q1, q2⟩
    have HQ := Lib.hid (HF.out (.returned (.int .i64 0)) w2 O _ q1 q2 HO.out)
    clear q1 q2 HC
    go_wp2_with fail
    go_ret2
    exact ⟨rfl, HQ.out⟩
  · rw [act_3 hm]
    have HC := Lib.hid (reduce_any s g _ O h1 ok hK a.sum a.day)
    rw [hm] at et
    generalize s.reduce a.sum a.day = r at *
    obtain ⟨kind, by_, sum, day, n⟩ := a
    unfold actV Act'.cells
    simp only at *
    rw [hsz] at HC
    clear h h1 ok wf fin hm hsz
    go_enter Try.func13, Try.ntmps13
    go_wp2_with fail
    refine HC.out.mono ?_
    rintro e w2 ⟨rfl, O', q1, q2, q3⟩
    have HQ := Lib.hid (HF.out (.returned (.int .i64 0)) w2 O' _ q1 q2 q3)
    clear q1 q2 q3 HC
    go_wp2_with fail
    go_ret2
    exact ⟨rfl, HQ.out⟩
theorem isop_any (d : Dem) (w : World) : Calls Try.prog 41 #[.agg #[.int .i64 d.day, .int .i64 d.amt, .int .i64 d.st]] w fun e w' => e = .returned (.bool (d.st == 0)) ∧ Below w.heap.size w w' := by
  go_enter Try.func41, Try.ntmps41
  go_wp2
  go_ret
  exact ⟨rfl, (Below.refl _ _).alloc (Nat.le_refl _) _⟩
set_option maxRecDepth 100000 in
set_option maxHeartbeats 4000000 in
theorem index_any (l : List Dem) (A : Option Addr) (c : Nat) (w : World) (hd : DemR w A l) (hl : l.length ≤ 4096) :
    Calls Try.prog 62 #[.slice A l.length c, .func (.func 41) #[] #[]] w fun e w' => (∃ z : Int, e = .returned (.int .i64 z) ∧ ((0 ≤ z ∧ (l.all fun d => decide (d.st ≠ 0)) = false) ∨ (z = -1 ∧ (l.all fun d => decide (d.st ≠ 0)) = true))) ∧ Below w.heap.size w w' := by
  go_enter Try.func62, Try.ntmps62
  go_wp2_with fail
  go_loopw [8] (fun i v => ∃ k : Nat, k ≤ l.length ∧ i = .int .i64 k ∧ Hid (∀ x ∈ l.take k, x.st ≠ 0) ∧ Hid (Below w.heap.size w v)) (fun i _ => l.length - (intOf i).toNat)
  case atStart => exact ⟨0, Nat.zero_le _, rfl, fun x hx => by simp at hx, Lib.hid (Below.refl _ _)⟩
  case round =>
    obtain ⟨k, hk, rfl, hz, hb⟩ := hrel
    by_cases hlt : k < l.length
    · obtain ⟨a, x, rfl, hx, hblk, c0, c1, c2⟩ := (hd.up hb.out).at_ hlt
      have HX := Lib.hid hx
      have HD := Lib.hid hd
      have IO := Lib.hid (isop_any x wr)
      clear hx hd
      by_cases h0 : x.st = 0
      · have HN : Hid ((l.all fun d => decide (d.st ≠ 0)) = false) := by
          show _ = false
          rw [List.all_eq_false]
          exact ⟨x, List.mem_of_getElem? HX.out, by simp [h0]⟩
        have e : (x.st == 0) = true := by simpa using h0
        rw [e] at IO
        clear h0 e
        go_wp2_with fail
        refine IO.out.mono ?_
        rintro e w1 ⟨rfl, hb1⟩
        have HB1 := Lib.hid (below_trans hb.out hb1)
        clear hb1
        go_wp2_with fail
        go_ret
        exact ⟨⟨k, rfl, .inl ⟨by omega, HN.out⟩⟩, HB1.out⟩
      · have H0 := Lib.hid h0
        have e : (x.st == 0) = false := by simpa using h0
        rw [e] at IO
        clear h0 e
        go_wp2_with fail
        refine IO.out.mono ?_
        rintro e w1 ⟨rfl, hb1⟩
        have HB1 := Lib.hid (below_trans hb.out hb1)
        clear hb1
        go_wp2_with fail
        go_roundw
        case rel =>
          refine ⟨k + 1, by omega, by go_num, ?_, HB1⟩
          intro y hy
          rw [List.take_add_one, HX.out] at hy
          simp only [Option.toList_some, List.mem_append, List.mem_singleton] at hy
          rcases hy with hy | rfl
          · exact hz.out y hy
          · exact H0.out
        case measure => simp [intOf]; omega
    · have hge : (l.length : Int) ≤ k := by omega
      have hge' : l.length ≤ k := by omega
      rw [List.take_of_length_le (by omega)] at hz
      have HN : Hid ((l.all fun d => decide (d.st ≠ 0)) = true) := by
        show _ = true
        rw [List.all_eq_true]
        exact fun x hx => by simpa using hz.out x hx
      clear hlt hz
      go_wp2_with fail
      go_ret
      exact ⟨⟨-1, rfl, .inr ⟨rfl, HN.out⟩⟩, hb.out⟩
set_option maxRecDepth 100000 in
set_option maxHeartbeats 4000000 in
theorem contains_any (l : List Dem) (A : Option Addr) (c : Nat) (w : World) (hd : DemR w A l) (hl : l.length ≤ 4096) :
    Calls Try.prog 40 #[.slice A l.length c, .func (.func 41) #[] #[]] w fun e w' => e = .returned (.bool (!(l.all fun d => decide (d.st ≠ 0)))) ∧ Below w.heap.size w w' := by
  have IX := Lib.hid (index_any l A c w hd hl)
  generalize (l.all fun d => decide (d.st ≠ 0)) = b at *
  clear hd
  go_enter Try.func40, Try.ntmps40
  go_wp2_with fail
  refine IX.out.mono ?_
  rintro e w1 ⟨⟨z, rfl, hz⟩, hb⟩
  have HB := Lib.hid hb
  clear hb
  rcases hz with ⟨h0, h1⟩ | ⟨h0, h1⟩
  · subst h1
    go_wp2_with fail
    go_ret
    exact ⟨rfl, HB.out⟩
  · subst h0 h1
    go_wp2_with fail
    go_ret
    exact ⟨rfl, HB.out⟩
set_option maxRecDepth 100000 in
set_option maxHeartbeats 4000000 in
theorem expired_any (s : Sur) (g c d : Nat) (C D : Option Addr) (w : World) (h : SA w g s C c D d) {K : Nat} (ok : s.ok K) (hK : K ≤ 4096) (day : Int) :
    Calls Try.prog 17 #[.pointer (some ⟨g, 0, none⟩), .int .i64 day] w fun e w' => e = .returned (.bool (s.expired day)) ∧ Below w.heap.size w w' := by
  have t := h.cellE
  have q := h.cellD
  have lg := h.box.lt
  have CN := Lib.hid (contains_any s.dem D d w h.dem (by have := ok.dl; omega))
  unfold Sur.expired
  generalize (s.dem.all fun d => decide (d.st ≠ 0)) = b at *
  clear h ok
  by_cases h0 : s.exp < day
  · rw [decide_eq_true h0, Bool.true_and]
    go_enter Try.func17, Try.ntmps17
    go_wp2_with fail
    refine CN.out.mono ?_
    rintro e w1 ⟨rfl, hb⟩
    have HB := Lib.hid hb
    clear hb
    cases b
    · go_wp2_with fail
      go_ret
      exact ⟨rfl, HB.out⟩
    · go_wp2_with fail
      go_ret
      exact ⟨rfl, HB.out⟩
  · rw [decide_eq_false h0, Bool.false_and]
    have h0' : day ≤ s.exp := by omega
    clear h0
    go_enter Try.func17, Try.ntmps17
    go_wp2_with fail
    go_ret
    exact ⟨rfl, Below.refl _ _⟩
end Go.Proofs.Ytlmlepdmgopojaa
