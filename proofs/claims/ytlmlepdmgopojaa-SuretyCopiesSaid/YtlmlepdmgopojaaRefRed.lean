/- The reference's Reduce. Condition: how its two slices lie. -/
import Derived.Test.YtlmlepdmgopojaaRefAsk
namespace Go.Proofs.Ytlmlepdmgopojaa
open Go.RowKit
set_option linter.unusedVariables false
set_option linter.unusedSimpArgs false
set_option maxRecDepth 100000 in
set_option maxHeartbeats 8000000 in
theorem rreduce_any (s : Sur) (d c : Nat) (D C : Option Addr) (w : World) (h : RefAt w s D C) {K : Nat} (ok : s.ok K) (hK : K < 4096) (sum day : Int) :
    Calls Try.prog 45 #[refV s D d C c, .int .i64 sum, .int .i64 day] w fun e w' => ∃ C' c', e = .returned (.tuple #[refV (s.reduce sum day).1 D d C' c', .int .i64 (s.reduce sum day).2]) ∧ RNew w w' s (s.reduce sum day).1 D C D C' := by
  have HB := Lib.hid (show Below w.heap.size w ((w.alloc (.cells (s.rcells D d C c) 52)).alloc (.cells zero10 52)) from ((Below.refl _ _).alloc (Nat.le_refl _) _).alloc (by simp) _)
  have HBr := Lib.hid (show Below w.heap.size w ((w.alloc (.cells (s.rcells D d C c) 52)).alloc (.cells (s.rcells D d C c) 52)) from ((Below.refl _ _).alloc (Nat.le_refl _) _).alloc (by simp) _)
  have HR := Lib.hid h
  have early : ∀ z : Int, s.reduce sum day = (s, z) → Hid (∃ C' c', Ending.returned (.tuple #[refV s D d C c, .int .i64 z]) = .returned (.tuple #[refV (s.reduce sum day).1 D d C' c', .int .i64 (s.reduce sum day).2]) ∧ RNew w ((w.alloc (.cells (s.rcells D d C c) 52)).alloc (.cells (s.rcells D d C c) 52)) s (s.reduce sum day).1 D C D C') := fun z hz => by
    show ∃ C' c', _
    rw [hz]
    exact ⟨C, c, rfl, ⟨h.up HBr.out, HBr.out, .inl ⟨rfl, rfl⟩, .inl ⟨rfl, rfl⟩⟩⟩
  have RR := Lib.hid fun v => rright_any sum day v
  cases h2 : right sum day
  · have FIN := early 3 (by unfold Sur.reduce; rw [if_pos h2])
    rw [h2] at RR
    clear early h h2
    unfold refV at FIN ⊢
    unfold Sur.rcells zero10 at *
    go_enter Try.func45, Try.ntmps45
    go_wp2_with fail
    refine (RR.out _).mono ?_
    rintro e w' ⟨rfl, rfl⟩
    go_wp2_with fail
    refine bodyPost_ret (v := .tuple #[.agg #[.string s.b.num, .string s.b.gua, .string s.b.for_, .string s.b.to_, .string s.b.cur, .int .i64 s.b.amt, .int .i64 s.b.exp, .int .i64 s.exp, .slice D s.dem.length d, .slice C s.cuts.length c], .int .i64 3]) (by simp [results, Try.results45, go_sem]) rfl ?_
    exact FIN.out
  rw [h2] at RR
  have hr := right_iff.1 h2
  have BA0 := Lib.hid (show Blk ((w.alloc (.cells (s.rcells D d C c) 52)).alloc (.cells zero10 52)) w.heap.size 52 (s.rcells D d C c) from (Blk.new w 52 _).alloc _)
  have BB0 := Lib.hid (show Blk ((w.alloc (.cells (s.rcells D d C c) 52)).alloc (.cells zero10 52)) (w.heap.size + 1) 52 zero10 by have := Blk.new (w.alloc (.cells (s.rcells D d C c) 52)) 52 zero10; simpa using this)
  have HDl := Lib.hid h.rd.old
  have HCl := Lib.hid h.rc.old
  have cl : s.cuts.length < 4096 := by have := ok.cl; omega
  have OK := Lib.hid ok.cok
  have amt := ok.amt
  have HC1 := Lib.hid (h.rc.up HB.out)
  have lt : (1 ≤ sum ∧ sum ≤ 1099511627776) := hr.1
  have DF : Hid ((s.reduce sum day).2 = 0 ∨ (s.reduce sum day).2 ≠ 0) := Decidable.em _
  have E10 : Hid (s.b.amt < cutTo 1048576 s.cuts + sum → s.reduce sum day = (s, 10)) := fun hh => by unfold Sur.reduce; rw [if_neg (by simp [h2]), if_pos hh]
  have E0 : Hid (¬ s.b.amt < cutTo 1048576 s.cuts + sum → s.reduce sum day = (({ s with cuts := s.cuts ++ [(⟨day, sum⟩ : Cut)] } : Sur), (0 : Int))) := fun hh => by unfold Sur.reduce; rw [if_neg (by simp [h2]), if_neg hh]
  have EA := Lib.hid early
  obtain ⟨i0, hi, hz0, hz1, hz2⟩ := info_parts info48
  have HI := Lib.hid hi
  have Z0 := Lib.hid hz0
  have Z1 := Lib.hid hz1
  have Z2 := Lib.hid hz2
  clear early h h2 hr ok hi hz0 hz1 hz2
  unfold refV at EA ⊢
  unfold Sur.rcells at *
  unfold zero10 at *
  go_enter Try.func45, Try.ntmps45
  go_wp2_with fail
  refine (RR.out _).mono ?_
  rintro e w' ⟨rfl, rfl⟩
  go_wp2_with fail
  go_loopw [8, 9] (fun al i v => ∃ (k : Nat) (m : Int), k ≤ s.cuts.length ∧ al = .int .i64 (sum + m) ∧ i = .int .i64 k ∧ Hid (m = cutTo 1048576 (s.cuts.take k)) ∧ ((w.alloc (.cells #[.string s.b.num, .string s.b.gua, .string s.b.for_, .string s.b.to_, .string s.b.cur, .int .i64 s.b.amt, .int .i64 s.b.exp, .int .i64 s.exp, .slice D s.dem.length d, .slice C s.cuts.length c] 52)).alloc (.cells #[.string ⟨#[]⟩, .string ⟨#[]⟩, .string ⟨#[]⟩, .string ⟨#[]⟩, .string ⟨#[]⟩, .int .i64 0, .int .i64 0, .int .i64 0, .slice none 0 0, .slice none 0 0] 52)) = v) (fun _ i _ => s.cuts.length - (intOf i).toNat)
  case atStart => exact ⟨0, 0, Nat.zero_le _, by rw [Int.add_zero], rfl, Lib.hid rfl, rfl⟩
  case round =>
    obtain ⟨k, m, hk, rfl, rfl, hm, rfl⟩ := hrel
    have bm : 0 ≤ m ∧ m ≤ 4503599627370496 := by rw [hm.out]; exact cutTo_bnd OK.out (by omega) 1048576 k
    by_cases hlt : k < s.cuts.length
    · obtain ⟨a, x, rfl, hx, hblk, c0, c1⟩ := HC1.out.at_ hlt
      have bx := OK.out x (List.mem_of_getElem? hx)
      have HE := Lib.hid (cutTo_take 1048576 hx)
      have hday := Lib.hid bx.2.2
      have bxa := bx.1
      have WX : IntKind.i64.wrap (sum + m + x.amt) = sum + (m + x.amt) := by rw [Int.add_assoc]; exact IntWalk.i64_in _ (by omega)
      have HWX := Lib.hid (show sum + m + x.amt = sum + (m + x.amt) by omega)
      clear hx bx
      go_wp2_with fail
      go_roundw
      case rel => exact ⟨k + 1, m + x.amt, by omega, by first | rfl | rw [HWX.out], by go_num, Lib.hid (by rw [HE.out, ← hm.out, if_pos hday.out]), trivial⟩
      case measure => simp [intOf]; omega
    · have hge : (s.cuts.length : Int) ≤ k := by omega
      have hge' : s.cuts.length ≤ k := by omega
      rw [List.take_of_length_le (by omega)] at hm
      clear hlt
      by_cases h4 : s.b.amt < sum + m
      · have e1 := E10.out (by have := hm.out; omega)
        have FIN := Lib.hid (EA.out 10 e1)
        clear e1
        go_wp2_with fail
        refine bodyPost_ret (v := .tuple #[.agg #[.string s.b.num, .string s.b.gua, .string s.b.for_, .string s.b.to_, .string s.b.cur, .int .i64 s.b.amt, .int .i64 s.b.exp, .int .i64 s.exp, .slice D s.dem.length d, .slice C s.cuts.length c], .int .i64 10]) (by simp [results, Try.results45, go_sem]) rfl ?_
        exact FIN.out.out
      · have e1 := E0.out (by have := hm.out; omega)
        have h4' : sum + m ≤ s.b.amt := by omega
        obtain ⟨w2, hw2⟩ : ∃ w2, w2 = ((w.alloc (.cells #[.string s.b.num, .string s.b.gua, .string s.b.for_, .string s.b.to_, .string s.b.cur, .int .i64 s.b.amt, .int .i64 s.b.exp, .int .i64 s.exp, .slice D s.dem.length d, .slice C s.cuts.length c] 52)).alloc (.cells #[.string ⟨#[]⟩, .string ⟨#[]⟩, .string ⟨#[]⟩, .string ⟨#[]⟩, .string ⟨#[]⟩, .int .i64 0, .int .i64 0, .int .i64 0, .slice none 0 0, .slice none 0 0] 52)) := ⟨_, rfl⟩
        rw [← hw2] at HB BA0 BB0 HC1
        have HW2 := Lib.hid hw2
        obtain ⟨w3, hw3⟩ : ∃ w3, w3 = w2.alloc (.cells #[] 48) := ⟨_, rfl⟩
        have o3 : Hid (w3.ownsRow w2.heap.size 48 2 (.slice (some ⟨w2.heap.size, 0, none⟩) 0 0) 0 []) := by
          show w3.ownsRow _ _ _ _ _ _
          rw [hw3]
          exact World.ownsRow_lit (base := w2.heap.size) (e := 48) (size := 2) w2 #[] 0 (Nat.le_refl _) (Nat.zero_le _) (by simp)
        have b3 : Hid (Below w2.heap.size w2 w3) := by show Below _ _ _; rw [hw3]; exact (Below.refl _ _).alloc (Nat.le_refl _) _
        have r3 : Hid (Reads w3 w3.heap.size 2 C s.cuts.length (flatC s.cuts)) := HC1.out.up b3.out
        have HW3 := Lib.hid hw3
        have E1 := Lib.hid e1
        rw [← hw2]
        obtain ⟨q0, q1, q2, q3, q4, q5, q6, q7, q8, q9⟩ := ten_ (s := s) BA0.out
        have lA := BA0.out.lt
        clear hw2 hw3 e1 HW2 h4 HBr
        go_wp2_with (at_builtin; rw [← HW3.out]; refine wpList_append_any _ rfl (.tmp 38) (.tmp 40) 32 rfl w2.heap.size 48 i0 (.agg #[.int .i64 0, .int .i64 0]) 2 16 Try.underlying32 HI.out Z0.out Z1.out Z2.out rfl (by decide) (.slice (some ⟨w2.heap.size, 0, none⟩) 0 0) 0 [] rfl o3.out w3.heap.size C s.cuts.length c (flatC s.cuts) rfl r3.out (flatF_one cut_one _) (by unfold maxLen; omega) (by omega) (by have := b3.out.size; omega) ?_)
        intro v4 w4 hown4 hgr4 hnew4
        have b4 : Hid (Below w2.heap.size w2 w4) := below_own b3.out o3.out (Nat.le_refl _) hgr4
        have o5 : Hid ((w4.alloc (.cells #[.int .i64 day, .int .i64 sum] 48)).ownsRow w2.heap.size 48 2 v4 s.cuts.length (flatC s.cuts)) := own_below hown4 ((Below.refl _ _).alloc (Nat.le_refl _) _)
        have b5 : Hid (Below w2.heap.size w2 (w4.alloc (.cells #[.int .i64 day, .int .i64 sum] 48))) := b4.out.alloc b4.out.size _
        have BA4 := Lib.hid (BA0.out.below b4.out BA0.out.lt)
        obtain ⟨A4, c4, rfl, _⟩ := own_form hown4
        clear hown4 hgr4 hnew4 q0 q1 q2 q3 q4 q5 q6 q7 q8 q9 r3 o3 HW3 lA
        obtain ⟨q0, q1, q2, q3, q4, q5, q6, q7, q8, q9⟩ := ten_ (s := s) BA4.out
        have lA := BA4.out.lt
        go_wp2_with (at_builtin; refine wpList_append_any _ rfl (.tmp 41) (.tmp 45) 32 rfl w2.heap.size 48 i0 (.agg #[.int .i64 0, .int .i64 0]) 2 16 Try.underlying32 HI.out Z0.out Z1.out Z2.out rfl (by decide) (.slice A4 s.cuts.length c4) s.cuts.length (flatC s.cuts) rfl o5.out (w4.alloc (.cells #[.int .i64 day, .int .i64 sum] 48)).heap.size (some ⟨w4.heap.size, 0, none⟩) 1 1 (flatC [⟨day, sum⟩]) rfl ((lit_readsN w4 #[.int .i64 day, .int .i64 sum] 48 _ 2 1 _ rfl rfl rfl).more (by simp)) (flatF_one cut_one _) (by unfold maxLen; omega) (by omega) (by have := b5.out.size; omega) ?_)
        intro v6 w6 hown6 hgr6 hnew6
        have b6 : Hid (Below w2.heap.size w2 w6) := below_own b5.out o5.out (Nat.le_refl _) hgr6
        have hap : flatC s.cuts ++ flatC [⟨day, sum⟩] = flatC (s.cuts ++ [⟨day, sum⟩]) := (flatF_append _ _).symm
        rw [hap] at hown6
        obtain ⟨A', c', rfl, _⟩ := own_form hown6
        have HROW6 := Lib.hid (Row.of_own hown6)
        have BA6 := Lib.hid (BA0.out.below b6.out BA0.out.lt)
        have BB6 := Lib.hid (BB0.out.below b6.out BB0.out.lt)
        have B6 := Lib.hid (below_trans HB.out b6.out)
        have HD6 := Lib.hid ((HR.out.up B6.out).rd)
        clear hown6 hgr6 hnew6 hap q0 q1 q2 q3 q4 q5 q6 q7 q8 q9 lA BA4 o5 b5 b4
        obtain ⟨q0, q1, q2, q3, q4, q5, q6, q7, q8, q9⟩ := ten_ (s := s) BA6.out
        have lA := BA6.out.lt
        have f9' := BA6.out.frozen 9
        go_upto_region 11 with fail
        obtain ⟨w7, hw7⟩ : ∃ w7, w7 = w6.setCell ⟨w.heap.size, 9, none⟩ (.slice A' (s.cuts.length + 1) c') := ⟨_, rfl⟩
        have BA7 : Hid (Blk w7 w.heap.size 52 #[.string s.b.num, .string s.b.gua, .string s.b.for_, .string s.b.to_, .string s.b.cur, .int .i64 s.b.amt, .int .i64 s.b.exp, .int .i64 s.exp, .slice D s.dem.length d, .slice A' (s.cuts.length + 1) c']) := by
          show Blk w7 _ _ _
          rw [hw7]
          exact BA6.out.set_ 9 _
        have BB7 := Lib.hid (show Blk w7 _ _ _ by rw [hw7]; exact BB6.out.far (p := ⟨w.heap.size, 9, none⟩) (by show w.heap.size + 1 ≠ w.heap.size; omega) (.slice A' (s.cuts.length + 1) c'))
        have HROW7 := Lib.hid (show Row w7 w2.heap.size 48 2 A' (s.cuts.length + 1) c' (flatC (s.cuts ++ [⟨day, sum⟩])) by
          rw [hw7]
          exact HROW6.out.setCell (p := ⟨w.heap.size, 9, none⟩) (fun hj => by have h1 : w2.heap.size ≤ w.heap.size := (HROW6.out.lt hj).1; have := BA0.out.lt; omega) _)
        have HD7 := Lib.hid (show DemR w7 D s.dem by
          rw [hw7]
          exact HD6.out.chg0 (setCell_chg (O := fun j => j = w.heap.size) (p := ⟨w.heap.size, 9, none⟩) rfl _) fun h0 j hj h => by have := HDl.out h0 j hj; omega)
        have B7 := Lib.hid (show Below w.heap.size w w7 by rw [hw7]; exact B6.out.setCell (p := ⟨w.heap.size, 9, none⟩) (Nat.le_refl _) _)
        rw [← hw7]
        clear hw7 q0 q1 q2 q3 q4 q5 q6 q7 q8 q9 f9' lA BA6 BB6 HROW6 HD6 B6
        have hl1 : (s.cuts ++ [(⟨day, sum⟩ : Cut)]).length = s.cuts.length + 1 := by simp
        obtain ⟨q0, q1, q2, q3, q4, q5, q6, q7, q8, q9⟩ := ten_ (s := { s with cuts := s.cuts ++ [(⟨day, sum⟩ : Cut)] }) (D := D) (d := d) (C := A') (c := c') (v := w7) (g := w.heap.size) (by unfold Sur.rcells; simpa using BA7.out)
        simp only [hl1] at q9
        obtain ⟨f0, f1, f2, f3, f4, f5, f6, f7, f8, f9⟩ := froz10 BB7.out
        obtain ⟨z0, z1, z2, z3, z4, z5, z6, z7, z8, z9⟩ := zten_ BB7.out
        have lA := BA7.out.lt
        have lB := BB7.out.lt
        have HB2 := Lib.hid BB0.out.lt
        clear hl1
        go_wp2_with fail
        obtain ⟨w8, hw8⟩ : ∃ w8, w8 = putAll w7 (w.heap.size + 1) 0 [.string s.b.num, .string s.b.gua, .string s.b.for_, .string s.b.to_, .string s.b.cur, .int .i64 s.b.amt, .int .i64 s.b.exp, .int .i64 s.exp, .slice D s.dem.length d, .slice A' (s.cuts.length + 1) c'] := ⟨_, rfl⟩
        have BBo : Hid (Blk w8 (w.heap.size + 1) 52 #[.string s.b.num, .string s.b.gua, .string s.b.for_, .string s.b.to_, .string s.b.cur, .int .i64 s.b.amt, .int .i64 s.b.exp, .int .i64 s.exp, .slice D s.dem.length d, .slice A' (s.cuts.length + 1) c']) := by
          show Blk w8 _ _ _
          rw [hw8]
          exact putAll_all BB7.out rfl
        have CHo := Lib.hid (show Chg (fun j => j = w.heap.size + 1) w7 w8 by rw [hw8]; exact putAll_chg (S := fun j => j = w.heap.size + 1) rfl _ _ _)
        simp only [putAll, Nat.zero_add, Nat.reduceAdd] at hw8
        rw [← hw8]
        have FIN : RNew w w8 s { s with cuts := s.cuts ++ [(⟨day, sum⟩ : Cut)] } D C D A' := by
          refine ⟨⟨HD7.out.chg0 CHo.out fun h0 j hj h => by have := HDl.out h0 j hj; omega, ?_⟩, B7.out.trans (CHo.out.below B7.out.size fun j hj => by omega), .inl ⟨rfl, rfl⟩, .inr fun j hj => ?_⟩
          · show Reads w8 w8.heap.size 2 A' _ _
            have := (HROW7.out.chg CHo.out fun j hj e => by have := (HROW7.out.lt hj).1; have := HB2.out; omega).reads
            simpa using this
          · have := (HROW7.out.lt hj).1
            have := HB2.out
            omega
        have HF := Lib.hid FIN
        have BBo' := BBo.out
        have d0 := BBo'.cell 0
        have d1 := BBo'.cell 1
        have d2 := BBo'.cell 2
        have d3 := BBo'.cell 3
        have d4 := BBo'.cell 4
        have d5 := BBo'.cell 5
        have d6 := BBo'.cell 6
        have d7 := BBo'.cell 7
        have d8 := BBo'.cell 8
        have d9 := BBo'.cell 9
        simp only [List.getElem?_toArray, List.getElem?_cons_zero, List.getElem?_cons_succ] at d0 d1 d2 d3 d4 d5 d6 d7 d8 d9
        refine bodyPost_ret (v := .tuple #[.agg #[.string s.b.num, .string s.b.gua, .string s.b.for_, .string s.b.to_, .string s.b.cur, .int .i64 s.b.amt, .int .i64 s.b.exp, .int .i64 s.exp, .slice D s.dem.length d, .slice A' (s.cuts.length + 1) c'], .int .i64 0]) (by simp [results, Try.results45, go_sem, d0, d1, d2, d3, d4, d5, d6, d7, d8, d9]) rfl ?_
        rw [E1.out]
        exact ⟨A', ⟨c', by simp⟩, HF.out⟩
end Go.Proofs.Ytlmlepdmgopojaa
