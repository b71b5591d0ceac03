/- The document's Write. Condition: how the store's slice lies. -/
import Derived.Test.YtffljpchkdhbhaaRefS
namespace Go.Proofs.Ytffljpchkdhbhaa
open Go.RowKit
set_option linter.unusedVariables false

/-- what a call of the document's store leaves: the next state, its slice the same or a new one -/
def RDone (R : Option Addr) (c : Nat) (σ' : SS) (code : Value) (w : World) (e : Ending) (w' : World) : Prop :=
  ∃ R' c', e = .returned (.tuple #[σ'.ref R' c', code]) ∧ Below w.heap.size w w' ∧ Reads w' w'.heap.size 1 R' σ'.l.length (strs σ'.l) ∧ σ'.l.length ≤ c' ∧ (R' = R ∨ ∀ k, blockOf R' k → w.heap.size ≤ k ∧ k < w'.heap.size)
theorem RDone.same {R : Option Addr} {c : Nat} {σ : SS} {code : Value} {w w' : World} (hb : Below w.heap.size w w') (hr : Reads w w.heap.size 1 R σ.l.length (strs σ.l)) (hc : σ.l.length ≤ c) : RDone R c σ code w (.returned (.tuple #[σ.ref R c, code])) w' :=
  ⟨R, c, rfl, hb, (hr.below hb).more hb.size, hc, .inl rfl⟩
theorem blockOf_own {A : Option Addr} {n c k : Nat} (h : (Value.slice A n c).ownBlock ≠ some k) : ¬ blockOf A k := by
  rintro ⟨a, rfl, rfl⟩
  exact h rfl
theorem rwrite_end {l : List ByteArray} {la fu : Int} {R A : Option Addr} {c d : Nat} {w w4 : World} {s : ByteArray} (hb : Below w.heap.size w w4) (ho : w4.ownsRow w.heap.size 9 1 (.slice A (l.length + 1) d) (l.length + 1) (strs l ++ strs [s])) (hd : l.length + 1 ≤ d)
    (h1 : (Value.slice A (l.length + 1) d).ownBlock ≠ some w.heap.size) (h2 : (Value.slice A (l.length + 1) d).ownBlock ≠ some (w.heap.size + 1)) (a b e x y : Value) :
    RDone R c ⟨l ++ [s], la, fu, false⟩ (.int .i64 0) w (.returned (.tuple #[.agg #[.slice A (l.length + 1) d, .int .i64 la, .int .i64 fu, .bool false], .int .i64 0]))
      (((((w4.setCell ⟨w.heap.size, 0, none⟩ a).setCell ⟨w.heap.size + 1, 0, none⟩ b).setCell ⟨w.heap.size + 1, 1, none⟩ e).setCell ⟨w.heap.size + 1, 2, none⟩ x).setCell ⟨w.heap.size + 1, 3, none⟩ y) := by
  have r := Row.of_own ho
  have n1 := blockOf_own h1
  have n2 := blockOf_own h2
  have hl : (l ++ [s]).length = l.length + 1 := by simp
  have hs : strs (l ++ [s]) = strs l ++ strs [s] := by simp [strs]
  have r5 := ((((r.setCell (p := ⟨w.heap.size, 0, none⟩) n1 a).setCell (p := ⟨w.heap.size + 1, 0, none⟩) n2 b).setCell (p := ⟨w.heap.size + 1, 1, none⟩) n2 e).setCell (p := ⟨w.heap.size + 1, 2, none⟩) n2 x).setCell (p := ⟨w.heap.size + 1, 3, none⟩) n2 y
  refine ⟨A, d, by simp only [SS.ref, SS.cells, hl], ?_, ?_, by simp only [hl]; exact hd, .inr fun k hk => ⟨(r.lt hk).1, (r5.lt hk).2⟩⟩
  · exact ((((hb.setCell (p := ⟨w.heap.size, 0, none⟩) (Nat.le_refl _) a).setCell (p := ⟨w.heap.size + 1, 0, none⟩) (Nat.le_succ _) b).setCell (p := ⟨w.heap.size + 1, 1, none⟩) (Nat.le_succ _) e).setCell (p := ⟨w.heap.size + 1, 2, none⟩) (Nat.le_succ _) x).setCell (p := ⟨w.heap.size + 1, 3, none⟩) (Nat.le_succ _) y
  · simp only [hl, hs]
    exact r5.reads
section
variable (l : List ByteArray) (la fu : Int) (R : Option Addr) (c : Nat) (w : World) (s : ByteArray)
set_option linter.unusedVariables false
set_option maxRecDepth 100000 in
theorem rwrite_down : Calls Try.prog 28 #[SS.ref ⟨l, la, fu, true⟩ R c, .string s] w fun e w' => e = .returned (.tuple #[SS.ref ⟨l, la, fu, true⟩ R c, .int .i64 14]) ∧ Below w.heap.size w w' := by
  simp only [SS.ref, SS.cells]
  go_enter Try.func28, Try.ntmps28
  go_wp2
  refine bodyPost_ret (v := .tuple #[.agg #[.slice R l.length c, .int .i64 la, .int .i64 fu, .bool true], .int .i64 14]) (by simp [results, Try.results28, go_sem]) rfl ⟨rfl, ?_⟩
  repeat' (first | with_reducible exact Below.refl _ _ | with_reducible assumption | with_reducible refine Below.drew ?_ | with_reducible refine Below.alloc ?_ ?_ _ | with_reducible refine Below.setCell ?_ ?_ _ | with_reducible exact Nat.le_refl _ | with_reducible exact Nat.le_succ _ | (simp; done) | (simp; omega))
set_option maxRecDepth 100000 in
theorem rwrite_big (hs : 4096 < s.size) : Calls Try.prog 28 #[SS.ref ⟨l, la, fu, false⟩ R c, .string s] w fun e w' => e = .returned (.tuple #[SS.ref ⟨l, la, fu, false⟩ R c, .int .i64 1]) ∧ Below w.heap.size w w' := by
  have q : (4096 : Int) < s.size := by omega
  simp only [SS.ref, SS.cells]
  go_enter Try.func28, Try.ntmps28
  go_wp2
  refine bodyPost_ret (v := .tuple #[.agg #[.slice R l.length c, .int .i64 la, .int .i64 fu, .bool false], .int .i64 1]) (by simp [results, Try.results28, go_sem]) rfl ⟨rfl, ?_⟩
  repeat' (first | with_reducible exact Below.refl _ _ | with_reducible assumption | with_reducible refine Below.drew ?_ | with_reducible refine Below.alloc ?_ ?_ _ | with_reducible refine Below.setCell ?_ ?_ _ | with_reducible exact Nat.le_refl _ | with_reducible exact Nat.le_succ _ | (simp; done) | (simp; omega))
set_option maxRecDepth 100000 in
theorem rwrite_full (hs : s.size ≤ 4096) (hl : l.length = 4096) : Calls Try.prog 28 #[SS.ref ⟨l, la, fu, false⟩ R c, .string s] w fun e w' => e = .returned (.tuple #[SS.ref ⟨l, la, fu, false⟩ R c, .int .i64 7]) ∧ Below w.heap.size w w' := by
  have q : (s.size : Int) ≤ 4096 := by omega
  simp only [SS.ref, SS.cells, hl]
  clear hl hs
  go_enter Try.func28, Try.ntmps28
  go_wp2
  refine bodyPost_ret (v := .tuple #[.agg #[.slice R 4096 c, .int .i64 la, .int .i64 fu, .bool false], .int .i64 7]) (by simp [results, Try.results28, go_sem]) rfl ⟨rfl, ?_⟩
  repeat' (first | with_reducible exact Below.refl _ _ | with_reducible assumption | with_reducible refine Below.drew ?_ | with_reducible refine Below.alloc ?_ ?_ _ | with_reducible refine Below.setCell ?_ ?_ _ | with_reducible exact Nat.le_refl _ | with_reducible exact Nat.le_succ _ | (simp; done) | (simp; omega))
set_option maxRecDepth 100000 in
set_option maxHeartbeats 1000000 in
theorem rwrite_zero (hs : s.size ≤ 4096) (hl : l.length < 4096) : Calls Try.prog 28 #[SS.ref ⟨l, la, 0, false⟩ R c, .string s] w fun e w' => e = .returned (.tuple #[SS.ref ⟨l, la, 0, true⟩ R c, .int .i64 14]) ∧ Below w.heap.size w w' := by
  have q : (s.size : Int) ≤ 4096 := by omega
  have q2 : (l.length : Int) < 4096 := by omega
  have HC := rcall_zero ⟨l, la, 0, false⟩ R c
  simp only [SS.ref, SS.cells, SS.fuseDown] at HC ⊢
  go_enter Try.func28, Try.ntmps28
  go_wp2_with fail
  refine (HC _ trivial).mono ?_
  rintro e w1 ⟨rfl, hb⟩
  obtain ⟨b1, b2, hB⟩ := boxes hb
  obtain ⟨c0, c1, c2, c3, f0, f1, f2, f3⟩ := b1.four
  obtain ⟨d0, d1, d2, d3, g0, g1, g2, g3⟩ := b2.four
  have HB := Lib.hid hB
  clear hb HC b1 b2 hB
  go_wp2_with fail
  refine bodyPost_ret (v := .tuple #[.agg #[.slice R l.length c, .int .i64 la, .int .i64 0, .bool true], .int .i64 14]) (by simp [results, Try.results28, go_sem, d0, d1, d2, d3]) rfl ⟨rfl, ?_⟩
  have := HB.out
  repeat' (first | with_reducible exact Below.refl _ _ | with_reducible assumption | with_reducible refine Below.drew ?_ | with_reducible refine Below.alloc ?_ ?_ _ | with_reducible refine Below.setCell ?_ ?_ _ | with_reducible exact Nat.le_refl _ | with_reducible exact Nat.le_succ _ | (simp; done) | (simp; omega))
set_option maxRecDepth 100000 in
set_option maxHeartbeats 2000000 in
theorem rwrite_up (hs : s.size ≤ 4096) (hl : l.length < 4096) (hf : fu ≠ 0) (hf' : fu ≤ 9223372036854775807) (hr : Reads w w.heap.size 1 R l.length (strs l)) :
    Calls Try.prog 28 #[SS.ref ⟨l, la, fu, false⟩ R c, .string s] w (RDone R c { (SS.tick ⟨l, la, fu, false⟩) with l := l ++ [s] } (.int .i64 0) w) := by
  obtain ⟨i0, hi, hz0, hz1, hz2⟩ := info_parts info9
  have q : (s.size : Int) ≤ 4096 := by omega
  have q2 : (l.length : Int) < 4096 := by omega
  obtain ⟨fu', ht⟩ : ∃ fu', SS.tick ⟨l, la, fu, false⟩ = ⟨l, la, fu', false⟩ := by unfold SS.tick; split <;> exact ⟨_, rfl⟩
  have HC := rcall_up ⟨l, la, fu, false⟩ R c
  rw [ht] at HC ⊢
  have HF := Lib.hid (show fu ≠ 0 from hf)
  have HG := Lib.hid hf'
  clear ht hf hf'
  simp only [SS.ref, SS.cells] at HC ⊢
  go_enter Try.func28, Try.ntmps28
  go_wp2_with fail
  refine (HC _ HF.out HG.out).mono ?_
  rintro e w1 ⟨rfl, hb⟩
  obtain ⟨b1, b2, hB⟩ := boxes hb
  obtain ⟨c0, c1, c2, c3, f0, f1, f2, f3⟩ := b1.four
  obtain ⟨d0, d1, d2, d3, g0, g1, g2, g3⟩ := b2.four
  obtain ⟨W2, hW2⟩ : ∃ W2, W2 = put4 w1 w.heap.size (.slice R l.length c) (.int .i64 la) (.int .i64 fu') (.bool false) := ⟨_, rfl⟩
  have B1 := b1.put4 (.slice R l.length c) (.int .i64 la) (.int .i64 fu') (.bool false)
  have B2 := b2.put4_far (show w.heap.size + 1 ≠ w.heap.size by omega) (.slice R l.length c) (.int .i64 la) (.int .i64 fu') (.bool false)
  have HB := Lib.hid (below_put4 hB (Nat.le_refl _) (.slice R l.length c) (.int .i64 la) (.int .i64 fu') (.bool false))
  rw [← hW2] at B1 B2 HB
  unfold put4 at hW2
  have HW := Lib.hid hW2
  clear hb HC b1 b2 hB hW2
  simp only []
  iterate 20 go_step
  rw [← HW.out]
  clear HW c0 c1 c2 c3 f0 f1 f2 f3 d0 d1 d2 d3 g0 g1 g2 g3
  obtain ⟨c0, c1, c2, c3, f0, f1, f2, f3⟩ := B1.four
  have hsz := HB.out.size
  have hl2 := B2.lt
  have hr2 := Lib.hid (hr.below HB.out)
  clear hr
  have k0 : (W2.alloc (.cells #[] 9)).cell? ⟨w.heap.size, 0, none⟩ = some (.slice R l.length c) := (World.cell?_alloc_lt W2 _ _ (by show w.heap.size < _; omega)).trans c0
  have hneA : (some w.heap.size : Option Nat) ≠ (Value.slice (some ⟨W2.heap.size, 0, none⟩) 0 0).ownBlock := by simp [Value.ownBlock]; omega
  have hneB : (some (w.heap.size + 1) : Option Nat) ≠ (Value.slice (some ⟨W2.heap.size, 0, none⟩) 0 0).ownBlock := by simp [Value.ownBlock]; omega
  have HNA := Lib.hid hneA
  have HNB := Lib.hid hneB
  clear hneA hneB
  go_wp2_with (at_builtin; refine wpList_append_any _ rfl (.tmp 27) (.tmp 29) 22 rfl w.heap.size 9 i0 (.string ⟨#[]⟩) 1 16 Try.underlying22 hi hz0 hz1 hz2 rfl (by decide) (.slice (some ⟨W2.heap.size, 0, none⟩) 0 0) 0 [] rfl (World.ownsRow_lit W2 #[] 0 hsz (Nat.zero_le _) rfl) w.heap.size R l.length c (strs l) rfl (hr2.out.alloc hsz _) (strs_one _) (by unfold maxLen; omega) (by omega) (by simp; omega) ?_)
  intro v1 w3 hown1 hg1 _
  obtain ⟨A1, c1', rfl, hle1⟩ := own_form hown1
  have HB3 := Lib.hid (below_own (HB.out.alloc hsz _) (World.ownsRow_lit (size := 1) W2 #[] 0 hsz (Nat.zero_le _) rfl) (Nat.le_refl _) hg1)
  have B13 := (B1.alloc (.cells #[] 9)).grown hg1 HNA.out
  have B23 := (B2.alloc (.cells #[] 9)).grown hg1 HNB.out
  have O1 := Lib.hid hown1
  have hsz3 := HB3.out.size
  clear hg1 hown1 c0 c1 c2 c3 f0 f1 f2 f3 k0 HNA HNB B1 B2 hr2 HB hsz hl2
  have X1 := own_blk_ne O1.out B13 (by decide)
  have X2 := own_blk_ne O1.out B23 (by decide)
  have HX1 := Lib.hid X1
  have HX2 := Lib.hid X2
  clear X1 X2
  go_wp2_with (at_builtin; refine wpList_append_any _ rfl (.tmp 30) (.tmp 32) 22 rfl w.heap.size 9 i0 (.string ⟨#[]⟩) 1 16 Try.underlying22 hi hz0 hz1 hz2 rfl (by decide) (.slice A1 l.length c1') l.length (strs l) rfl (O1.out.alloc _) _ _ 1 1 (strs [s]) rfl (lit_one w3 _ 9 _ (by simp)) (strs_one _) (by unfold maxLen; omega) (by omega) (by simp; omega) ?_)
  intro v2 w4 hown2 hg2 _
  obtain ⟨A2, c2', rfl, hle2⟩ := own_form hown2
  have HB4 := Lib.hid (below_own (HB3.out.alloc hsz3 _) (O1.out.alloc _) (Nat.le_refl _) hg2)
  have B14 := (B13.alloc (.cells #[.string s] 9)).grown hg2 (Ne.symm HX1.out)
  have B24 := (B23.alloc (.cells #[.string s] 9)).grown hg2 (Ne.symm HX2.out)
  have O2 := Lib.hid hown2
  have HY1 := Lib.hid (own_blk_ne hown2 B14 (by decide))
  have HY2 := Lib.hid (own_blk_ne hown2 B24 (by decide))
  clear hg2 hown2 HX1 HX2 O1 B13 B23 HB3 hle1 hsz3
  obtain ⟨c0, c1, c2, c3, f0, f1, f2, f3⟩ := B14.four
  obtain ⟨d0, d1, d2, d3, g0, g1, g2, g3⟩ := B24.four
  clear B14 B24
  go_wp2_with fail
  refine bodyPost_ret (v := .tuple #[.agg #[.slice A2 (l.length + 1) c2', .int .i64 la, .int .i64 fu', .bool false], .int .i64 0]) (by simp [results, Try.results28, go_sem, d0, d1, d2, d3]) rfl ?_
  exact rwrite_end HB4.out O2.out hle2 HY1.out HY2.out _ _ _ _ _
end
theorem rwrite_any (σ : SS) (hok : σ.ok) (R : Option Addr) (c : Nat) (hc : σ.l.length ≤ c) (s : ByteArray) (w : World) (hr : Reads w w.heap.size 1 R σ.l.length (strs σ.l)) :
    Calls Try.prog 28 #[σ.ref R c, .string s] w (RDone R c (σ.write s) (.int .i64 (σ.wcode s)) w) := by
  obtain ⟨l, la, fu, dn⟩ := σ
  have hl := hok.2.2.1
  simp only at hl hr hc
  cases dn
  · by_cases h1 : 4096 < s.size
    · have h := w_big (σ := ⟨l, la, fu, false⟩) (s := s) rfl h1
      rw [h.1, h.2]
      exact (rwrite_big l la fu R c w s h1).mono fun _ _ ⟨he, hb⟩ => he ▸ RDone.same hb hr hc
    · by_cases h2 : l.length = 4096
      · have h := w_full (σ := ⟨l, la, fu, false⟩) (s := s) rfl (by omega) h2
        rw [h.1, h.2]
        exact (rwrite_full l la fu R c w s (by omega) h2).mono fun _ _ ⟨he, hb⟩ => he ▸ RDone.same hb hr hc
      · by_cases h3 : fu = 0
        · subst h3
          have h := w_blown (σ := ⟨l, la, 0, false⟩) (s := s) rfl (by omega) h2 rfl
          rw [h.1, h.2]
          exact (rwrite_zero l la R c w s (by omega) (by omega)).mono fun _ _ ⟨he, hb⟩ => he ▸ RDone.same (σ := ⟨l, la, 0, true⟩) hb hr hc
        · have h := w_ok (σ := ⟨l, la, fu, false⟩) (s := s) rfl (by omega) h2 h3
          rw [h.1, h.2]
          exact rwrite_up l la fu R c w s (by omega) (by omega) h3 hok.2.2.2.2 hr
  · have h := w_down (σ := ⟨l, la, fu, true⟩) (s := s) rfl
    rw [h.1, h.2]
    exact (rwrite_down l la fu R c w s).mono fun _ _ ⟨he, hb⟩ => he ▸ RDone.same hb hr hc
end Go.Proofs.Ytffljpchkdhbhaa
