/- The reference's Extend. Condition: how its two slices lie. -/
import Derived.Test.YtlmlepdmgopojaaRefAsk
namespace Go.Proofs.Ytlmlepdmgopojaa
open Go.RowKit
set_option linter.unusedVariables false
set_option linter.unusedSimpArgs false
set_option maxRecDepth 100000 in
set_option maxHeartbeats 8000000 in
theorem rextend_any (s : Sur) (d c : Nat) (D C : Option Addr) (w : World) (h : RefAt w s D C) {K : Nat} (ok : s.ok K) (hK : K ≤ 4096) (n day : Int) :
    Calls Try.prog 43 #[refV s D d C c, .int .i64 n, .int .i64 day] w fun e w' => ∃ D' d', e = .returned (.tuple #[refV (s.extend n day).1 D' d' C c, .int .i64 (s.extend n day).2]) ∧ RNew w w' s (s.extend n day).1 D C D' C := by
  have HB := Lib.hid (show Below w.heap.size w ((w.alloc (.cells (s.rcells D d C c) 52)).alloc (.cells zero10 52)) from ((Below.refl _ _).alloc (Nat.le_refl _) _).alloc (by simp) _)
  have HR := Lib.hid h
  have OP := Lib.hid fun v (hv : Below w.heap.size w v) => ropen_any s d c D C v (h.up hv) ok hK n
  have BA0 := Lib.hid (show Blk ((w.alloc (.cells (s.rcells D d C c) 52)).alloc (.cells zero10 52)) w.heap.size 52 (s.rcells D d C c) from (Blk.new w 52 _).alloc _)
  have BB0 := Lib.hid (show Blk ((w.alloc (.cells (s.rcells D d C c) 52)).alloc (.cells zero10 52)) (w.heap.size + 1) 52 zero10 by have := Blk.new (w.alloc (.cells (s.rcells D d C c) 52)) 52 zero10; simpa using this)
  have HDl := Lib.hid h.rd.old
  have HCl := Lib.hid h.rc.old
  have dl : s.dem.length ≤ 4096 := by have := ok.dl; omega
  have ex0 := ok.exp
  by_cases h1 : s.open_ n = 0
  rotate_left
  · have e1 : s.extend n day = (s, s.open_ n) := by unfold Sur.extend; rw [if_pos h1]
    rw [e1]
    have h1' : (s.open_ n != 0) = true := by simpa using h1
    generalize s.open_ n = z at *
    clear h h1 e1 ok
    unfold refV at OP ⊢
    unfold Sur.rcells at OP BA0 HB BB0 ⊢
    unfold zero10 at HB BA0 BB0
    go_enter Try.func43, Try.ntmps43
    go_wp2_with fail
    refine (OP.out _ HB.out).mono ?_
    rintro e w2 ⟨rfl, hb2⟩
    have B2 := Lib.hid (below_trans HB.out hb2)
    have BA2 := Lib.hid (BA0.out.below hb2 BA0.out.lt)
    have BB2 := Lib.hid (BB0.out.below hb2 BB0.out.lt)
    obtain ⟨q0, q1, q2, q3, q4, q5, q6, q7, q8, q9⟩ := ten_ (s := s) BA2.out
    obtain ⟨z0, z1, z2, z3, z4, z5, z6, z7, z8, z9⟩ := zten_ BB2.out
    obtain ⟨f0, f1, f2, f3, f4, f5, f6, f7, f8, f9⟩ := froz10 BB2.out
    have lA := BA2.out.lt
    have lB := BB2.out.lt
    clear hb2 OP BA0 BB0 HB
    go_wp2_with fail
    obtain ⟨w5, hw5⟩ : ∃ w5, w5 = putAll w2 (w.heap.size + 1) 0 [.string s.b.num, .string s.b.gua, .string s.b.for_, .string s.b.to_, .string s.b.cur, .int .i64 s.b.amt, .int .i64 s.b.exp, .int .i64 s.exp, .slice D s.dem.length d, .slice C s.cuts.length c] := ⟨_, rfl⟩
    have BBo : Hid (Blk w5 (w.heap.size + 1) 52 #[.string s.b.num, .string s.b.gua, .string s.b.for_, .string s.b.to_, .string s.b.cur, .int .i64 s.b.amt, .int .i64 s.b.exp, .int .i64 s.exp, .slice D s.dem.length d, .slice C s.cuts.length c]) := by
      show Blk w5 _ _ _
      rw [hw5]
      exact putAll_all BB2.out rfl
    have CHo := Lib.hid (show Chg (fun j => j = w.heap.size + 1) w2 w5 by rw [hw5]; exact putAll_chg (S := fun j => j = w.heap.size + 1) rfl _ _ _)
    simp only [putAll, Nat.zero_add, Nat.reduceAdd] at hw5
    rw [← hw5]
    have FIN : RNew w w5 s s D C D C := ⟨(HR.out.up B2.out).chg0 (w := w) CHo.out (fun h0 j hj e => by have := HDl.out h0 j hj; omega) (fun h0 j hj e => by have := HCl.out h0 j hj; omega), B2.out.trans (CHo.out.below B2.out.size fun j hj => by omega), .inl ⟨rfl, rfl⟩, .inl ⟨rfl, rfl⟩⟩
    have HF := Lib.hid FIN
    have BBo' := BBo.out
    have d0 := BBo'.cell 0
    have d1 := BBo'.cell 1
    have d2 := BBo'.cell 2
    have d3 := BBo'.cell 3
    have d4 := BBo'.cell 4
    have d5 := BBo'.cell 5
    have d6 := BBo'.cell 6
    have d7 := BBo'.cell 7
    have d8 := BBo'.cell 8
    have d9 := BBo'.cell 9
    simp only [List.getElem?_toArray, List.getElem?_cons_zero, List.getElem?_cons_succ] at d0 d1 d2 d3 d4 d5 d6 d7 d8 d9
    refine bodyPost_ret (v := .tuple #[.agg #[.string s.b.num, .string s.b.gua, .string s.b.for_, .string s.b.to_, .string s.b.cur, .int .i64 s.b.amt, .int .i64 s.b.exp, .int .i64 s.exp, .slice D s.dem.length d, .slice C s.cuts.length c], .int .i64 z]) (by simp [results, Try.results43, go_sem, d0, d1, d2, d3, d4, d5, d6, d7, d8, d9]) rfl ?_
    exact ⟨D, d, rfl, HF.out⟩
  · obtain ⟨g1, g2, x, hx, hx0⟩ := open_some h1
    obtain ⟨k, rfl⟩ := Int.eq_ofNat_of_zero_le g1
    rw [Int.toNat_natCast] at hx
    rw [h1] at OP
    by_cases h2 : s.exp < day ∧ 0 ≤ day ∧ day ≤ 1048576
    rotate_left
    · have e1 : s.extend k day = (s, 3) := by unfold Sur.extend; rw [if_neg (by simp [h1]), if_pos h2]
      rw [e1]
      have h2' : day ≤ s.exp ∨ (s.exp < day ∧ 1048576 < day) := by omega
      clear h h1 e1 ok g1 g2 hx hx0 h2
      unfold refV at OP ⊢
      unfold Sur.rcells at OP BA0 HB BB0 ⊢
      unfold zero10 at HB BA0 BB0
      rcases h2' with h2 | ⟨h2, h3⟩
      all_goals
        go_enter Try.func43, Try.ntmps43
        go_wp2_with fail
        refine (OP.out _ HB.out).mono ?_
        rintro e w2 ⟨rfl, hb2⟩
        have B2 := Lib.hid (below_trans HB.out hb2)
        have BA2 := Lib.hid (BA0.out.below hb2 BA0.out.lt)
        have BB2 := Lib.hid (BB0.out.below hb2 BB0.out.lt)
        obtain ⟨q0, q1, q2, q3, q4, q5, q6, q7, q8, q9⟩ := ten_ (s := s) BA2.out
        obtain ⟨z0, z1, z2, z3, z4, z5, z6, z7, z8, z9⟩ := zten_ BB2.out
        obtain ⟨f0, f1, f2, f3, f4, f5, f6, f7, f8, f9⟩ := froz10 BB2.out
        have lA := BA2.out.lt
        have lB := BB2.out.lt
        clear hb2 OP BA0 BB0 HB
        go_wp2_with fail
        obtain ⟨w5, hw5⟩ : ∃ w5, w5 = putAll w2 (w.heap.size + 1) 0 [.string s.b.num, .string s.b.gua, .string s.b.for_, .string s.b.to_, .string s.b.cur, .int .i64 s.b.amt, .int .i64 s.b.exp, .int .i64 s.exp, .slice D s.dem.length d, .slice C s.cuts.length c] := ⟨_, rfl⟩
        have BBo : Hid (Blk w5 (w.heap.size + 1) 52 #[.string s.b.num, .string s.b.gua, .string s.b.for_, .string s.b.to_, .string s.b.cur, .int .i64 s.b.amt, .int .i64 s.b.exp, .int .i64 s.exp, .slice D s.dem.length d, .slice C s.cuts.length c]) := by
          show Blk w5 _ _ _
          rw [hw5]
          exact putAll_all BB2.out rfl
        have CHo := Lib.hid (show Chg (fun j => j = w.heap.size + 1) w2 w5 by rw [hw5]; exact putAll_chg (S := fun j => j = w.heap.size + 1) rfl _ _ _)
        simp only [putAll, Nat.zero_add, Nat.reduceAdd] at hw5
        rw [← hw5]
        have FIN : RNew w w5 s s D C D C := ⟨(HR.out.up B2.out).chg0 (w := w) CHo.out (fun h0 j hj e => by have := HDl.out h0 j hj; omega) (fun h0 j hj e => by have := HCl.out h0 j hj; omega), B2.out.trans (CHo.out.below B2.out.size fun j hj => by omega), .inl ⟨rfl, rfl⟩, .inl ⟨rfl, rfl⟩⟩
        have HF := Lib.hid FIN
        have BBo' := BBo.out
        have d0 := BBo'.cell 0
        have d1 := BBo'.cell 1
        have d2 := BBo'.cell 2
        have d3 := BBo'.cell 3
        have d4 := BBo'.cell 4
        have d5 := BBo'.cell 5
        have d6 := BBo'.cell 6
        have d7 := BBo'.cell 7
        have d8 := BBo'.cell 8
        have d9 := BBo'.cell 9
        simp only [List.getElem?_toArray, List.getElem?_cons_zero, List.getElem?_cons_succ] at d0 d1 d2 d3 d4 d5 d6 d7 d8 d9
        refine bodyPost_ret (v := .tuple #[.agg #[.string s.b.num, .string s.b.gua, .string s.b.for_, .string s.b.to_, .string s.b.cur, .int .i64 s.b.amt, .int .i64 s.b.exp, .int .i64 s.exp, .slice D s.dem.length d, .slice C s.cuts.length c], .int .i64 3]) (by simp [results, Try.results43, go_sem, d0, d1, d2, d3, d4, d5, d6, d7, d8, d9]) rfl ?_
        exact ⟨D, d, rfl, HF.out⟩
    · have e1 : s.extend k day = (({ s with exp := day, dem := setSt s.dem k 2 } : Sur), (0 : Int)) := by unfold Sur.extend; rw [if_neg (by simp [h1]), if_neg (by simp [h2])]; simp
      rw [e1]
      obtain ⟨h2, h3, h4⟩ := h2
      have HX := Lib.hid hx
      have ST := Lib.hid fun (v : World) (hv : RefAt v { s with exp := day } D C) => rstand_any { s with exp := day } d c D C v hv dl k x hx 2
      clear h h1 e1 ok g1 g2 hx hx0
      unfold refV at OP ST ⊢
      unfold Sur.rcells at OP BA0 HB BB0 ST ⊢
      simp only [setSt_len] at ST ⊢
      unfold zero10 at HB BA0 BB0
      go_enter Try.func43, Try.ntmps43
      go_wp2_with fail
      refine (OP.out _ HB.out).mono ?_
      rintro e w2 ⟨rfl, hb2⟩
      have B2 := Lib.hid (below_trans HB.out hb2)
      have BA2 := Lib.hid (BA0.out.below hb2 BA0.out.lt)
      have BB2 := Lib.hid (BB0.out.below hb2 BB0.out.lt)
      obtain ⟨q0, q1, q2, q3, q4, q5, q6, q7, q8, q9⟩ := ten_ (s := s) BA2.out
      have f7 := BA2.out.frozen 7
      have lA := BA2.out.lt
      have lB := BB2.out.lt
      clear hb2 OP BA0 BB0 HB
      go_upto_region 7 with fail
      obtain ⟨w3, hw3⟩ : ∃ w3, w3 = w2.setCell ⟨w.heap.size, 7, none⟩ (.int .i64 day) := ⟨_, rfl⟩
      have BA3 : Hid (Blk w3 w.heap.size 52 #[.string s.b.num, .string s.b.gua, .string s.b.for_, .string s.b.to_, .string s.b.cur, .int .i64 s.b.amt, .int .i64 s.b.exp, .int .i64 day, .slice D s.dem.length d, .slice C s.cuts.length c]) := by
        show Blk w3 _ _ _
        rw [hw3]
        exact BA2.out.set_ 7 _
      have BB3 := Lib.hid (show Blk w3 _ _ _ by rw [hw3]; exact BB2.out.far (p := ⟨w.heap.size, 7, none⟩) (by show w.heap.size + 1 ≠ w.heap.size; omega) (.int .i64 day))
      have CH3 := Lib.hid (show Chg (fun j => j = w.heap.size) w2 w3 by rw [hw3]; exact setCell_chg (O := fun j => j = w.heap.size) (p := ⟨w.heap.size, 7, none⟩) rfl _)
      have B3 := Lib.hid (B2.out.trans (CH3.out.below B2.out.size fun j hj => by omega))
      have R3 : Hid (RefAt w3 { s with exp := day } D C) := by
        have := (HR.out.up B2.out).chg0 (w := w) CH3.out (fun h0 j hj e => by have := HDl.out h0 j hj; omega) (fun h0 j hj e => by have := HCl.out h0 j hj; omega)
        exact ⟨this.rd, this.rc⟩
      rw [← hw3]
      clear hw3 q0 q1 q2 q3 q4 q5 q6 q7 q8 q9 f7 lA lB BA2 BB2
      obtain ⟨q0, q1, q2, q3, q4, q5, q6, q7, q8, q9⟩ := ten_ (s := { s with exp := day }) BA3.out
      have lA := BA3.out.lt
      have lB := BB3.out.lt
      go_wp2_with fail
      refine (ST.out _ R3.out).mono ?_
      rintro e w4 ⟨D', d', rfl, hn⟩
      have N4 := Lib.hid hn
      have BB4 := Lib.hid (BB3.out.below hn.fr BB3.out.lt)
      have B4 := Lib.hid (below_trans B3.out hn.fr)
      have HS4 := Lib.hid (show w.heap.size + 1 < w3.heap.size from lB)
      obtain ⟨z0, z1, z2, z3, z4, z5, z6, z7, z8, z9⟩ := zten_ BB4.out
      obtain ⟨f0, f1, f2, f3, f4, f5, f6, f7, f8, f9⟩ := froz10 BB4.out
      clear lB lA q0 q1 q2 q3 q4 q5 q6 q7 q8 q9 hn
      have lB := BB4.out.lt
      go_wp2_with fail
      obtain ⟨w5, hw5⟩ : ∃ w5, w5 = putAll w4 (w.heap.size + 1) 0 [.string s.b.num, .string s.b.gua, .string s.b.for_, .string s.b.to_, .string s.b.cur, .int .i64 s.b.amt, .int .i64 s.b.exp, .int .i64 day, .slice D' s.dem.length d', .slice C s.cuts.length c] := ⟨_, rfl⟩
      have BBo : Hid (Blk w5 (w.heap.size + 1) 52 #[.string s.b.num, .string s.b.gua, .string s.b.for_, .string s.b.to_, .string s.b.cur, .int .i64 s.b.amt, .int .i64 s.b.exp, .int .i64 day, .slice D' s.dem.length d', .slice C s.cuts.length c]) := by
        show Blk w5 _ _ _
        rw [hw5]
        exact putAll_all BB4.out rfl
      have CHo := Lib.hid (show Chg (fun j => j = w.heap.size + 1) w4 w5 by rw [hw5]; exact putAll_chg (S := fun j => j = w.heap.size + 1) rfl _ _ _)
      simp only [putAll, Nat.zero_add, Nat.reduceAdd] at hw5
      rw [← hw5]
      have FIN : RNew w w5 s { s with exp := day, dem := setSt s.dem k 2 } D C D' C := by
        refine ⟨N4.out.at_.chg0 (w := w) CHo.out (fun h0 j hj e => ?_) (fun h0 j hj e => ?_), B4.out.trans (CHo.out.below B4.out.size fun j hj => by omega), ?_, .inl ⟨rfl, rfl⟩⟩
        · have h9 : (setSt s.dem k 2).length = s.dem.length := setSt_len _ _ _
          rcases N4.out.fd with ⟨rfl, _⟩ | hf
          · have := HDl.out (by show 0 < s.dem.length; have : 0 < (setSt s.dem k 2).length := h0; omega) j hj
            omega
          · have := hf j hj
            have := HS4.out
            omega
        · have := HCl.out h0 j hj
          omega
        · rcases N4.out.fd with h9 | hf
          · exact .inl h9
          · exact .inr fun j hj => Nat.le_trans B3.out.size (hf j hj)
      have HF := Lib.hid FIN
      have BBo' := BBo.out
      have d0 := BBo'.cell 0
      have d1 := BBo'.cell 1
      have d2 := BBo'.cell 2
      have d3 := BBo'.cell 3
      have d4 := BBo'.cell 4
      have d5 := BBo'.cell 5
      have d6 := BBo'.cell 6
      have d7 := BBo'.cell 7
      have d8 := BBo'.cell 8
      have d9 := BBo'.cell 9
      simp only [List.getElem?_toArray, List.getElem?_cons_zero, List.getElem?_cons_succ] at d0 d1 d2 d3 d4 d5 d6 d7 d8 d9
      refine bodyPost_ret (v := .tuple #[.agg #[.string s.b.num, .string s.b.gua, .string s.b.for_, .string s.b.to_, .string s.b.cur, .int .i64 s.b.amt, .int .i64 s.b.exp, .int .i64 day, .slice D' s.dem.length d', .slice C s.cuts.length c], .int .i64 0]) (by simp [results, Try.results43, go_sem, d0, d1, d2, d3, d4, d5, d6, d7, d8, d9]) rfl ?_
      exact ⟨D', d', rfl, HF.out⟩
end Go.Proofs.Ytlmlepdmgopojaa
