/- The reference's Ask. Condition: how its two slices lie. -/
import Derived.Test.YtlmlepdmgopojaaRefW
import Derived.Test.YtlmlepdmgopojaaSinkB
namespace Go.Proofs.Ytlmlepdmgopojaa
open Go.RowKit
set_option linter.unusedVariables false
set_option linter.unusedSimpArgs false
/-- a result's box, filled -/
theorem put_s {v : World} {g : Nat} (s : Sur) (D C : Option Addr) (d c : Nat) {cs : Array Value} (h : Blk v g 52 cs) (hs : cs.size = 10) : Blk (putAll v g 0 (s.rcells D d C c).toList) g 52 (s.rcells D d C c) := by
  have := putAll_all (l := (s.rcells D d C c).toList) h (by rw [hs]; rfl)
  simpa using this
theorem RefAt.chg0 {w v v' : World} {s : Sur} {D C : Option Addr} {S : Nat → Prop} (h : RefAt v s D C) (hc : Chg S v v') (hd : 0 < s.dem.length → ∀ k, blockOf D k → ¬ S k) (hcc : 0 < s.cuts.length → ∀ k, blockOf C k → ¬ S k) : RefAt v' s D C := ⟨h.rd.chg0 hc hd, h.rc.chg0 hc hcc⟩
set_option maxRecDepth 100000 in
set_option maxHeartbeats 8000000 in
theorem rask_any (s : Sur) (d c : Nat) (D C : Option Addr) (w : World) (h : RefAt w s D C) {K : Nat} (ok : s.ok K) (hK : K < 4096) (by_ : ByteArray) (sum day : Int) :
    Calls Try.prog 42 #[refV s D d C c, .string by_, .int .i64 sum, .int .i64 day] w fun e w' => ∃ D' d', e = .returned (.tuple #[refV (s.demand by_ sum day).1 D' d' C c, .int .i64 (s.demand by_ sum day).2.1, .int .i64 (s.demand by_ sum day).2.2]) ∧ RNew w w' s (s.demand by_ sum day).1 D C D' C := by
  have HB := Lib.hid (show Below w.heap.size w ((w.alloc (.cells (s.rcells D d C c) 52)).alloc (.cells zero10 52)) from ((Below.refl _ _).alloc (Nat.le_refl _) _).alloc (by simp) _)
  have HBr := Lib.hid (show Below w.heap.size w ((w.alloc (.cells (s.rcells D d C c) 52)).alloc (.cells (s.rcells D d C c) 52)) from ((Below.refl _ _).alloc (Nat.le_refl _) _).alloc (by simp) _)
  have HR := Lib.hid h
  have early : ∀ z : Int, s.demand by_ sum day = (s, 0, z) → Hid (∃ D' d', Ending.returned (.tuple #[refV s D d C c, .int .i64 0, .int .i64 z]) = .returned (.tuple #[refV (s.demand by_ sum day).1 D' d' C c, .int .i64 (s.demand by_ sum day).2.1, .int .i64 (s.demand by_ sum day).2.2]) ∧ RNew w ((w.alloc (.cells (s.rcells D d C c) 52)).alloc (.cells (s.rcells D d C c) 52)) s (s.demand by_ sum day).1 D C D' C) := fun z hz => by
    show ∃ D' d', _
    rw [hz]
    exact ⟨D, d, rfl, ⟨h.up HBr.out, HBr.out, .inl ⟨rfl, rfl⟩, .inl ⟨rfl, rfl⟩⟩⟩
  by_cases h1 : eqS by_ s.b.to_ = false
  · have FIN := early 8 (by unfold Sur.demand; rw [if_pos h1])
    have h1' : (by_.toList == s.b.to_.toList) = false := h1
    clear h1 early h
    unfold refV at FIN ⊢
    unfold Sur.rcells zero10 at *
    go_enter Try.func42, Try.ntmps42
    go_wp2_with fail
    refine bodyPost_ret (v := .tuple #[.agg #[.string s.b.num, .string s.b.gua, .string s.b.for_, .string s.b.to_, .string s.b.cur, .int .i64 s.b.amt, .int .i64 s.b.exp, .int .i64 s.exp, .slice D s.dem.length d, .slice C s.cuts.length c], .int .i64 0, .int .i64 8]) (by simp [results, Try.results42, go_sem]) rfl ?_
    exact FIN.out
  have h1' : (by_.toList == s.b.to_.toList) = true := by
    have h : eqS by_ s.b.to_ = true := by cases hh : eqS by_ s.b.to_ <;> simp_all
    exact h
  cases h2 : right sum day
  · have FIN := early 3 (by unfold Sur.demand; rw [if_neg h1, if_pos h2])
    have RR := Lib.hid fun v => rright_any sum day v
    rw [h2] at RR
    clear h1 early h h2
    unfold refV at FIN ⊢
    unfold Sur.rcells zero10 at *
    go_enter Try.func42, Try.ntmps42
    go_wp2_with fail
    refine (RR.out _).mono ?_
    rintro e w' ⟨rfl, rfl⟩
    go_wp2_with fail
    refine bodyPost_ret (v := .tuple #[.agg #[.string s.b.num, .string s.b.gua, .string s.b.for_, .string s.b.to_, .string s.b.cur, .int .i64 s.b.amt, .int .i64 s.b.exp, .int .i64 s.exp, .slice D s.dem.length d, .slice C s.cuts.length c], .int .i64 0, .int .i64 3]) (by simp [results, Try.results42, go_sem]) rfl ?_
    exact FIN.out
  have RR := Lib.hid fun v => rright_any sum day v
  rw [h2] at RR
  by_cases h3 : s.exp < day
  · have FIN := early 11 (by unfold Sur.demand; rw [if_neg h1, if_neg (by simp [h2]), if_pos h3])
    clear h1 early h h2
    unfold refV at FIN ⊢
    unfold Sur.rcells zero10 at *
    go_enter Try.func42, Try.ntmps42
    go_wp2_with fail
    refine (RR.out _).mono ?_
    rintro e w' ⟨rfl, rfl⟩
    go_wp2_with fail
    refine bodyPost_ret (v := .tuple #[.agg #[.string s.b.num, .string s.b.gua, .string s.b.for_, .string s.b.to_, .string s.b.cur, .int .i64 s.b.amt, .int .i64 s.b.exp, .int .i64 s.exp, .slice D s.dem.length d, .slice C s.cuts.length c], .int .i64 0, .int .i64 11]) (by simp [results, Try.results42, go_sem]) rfl ?_
    exact FIN.out
  have LE := Lib.hid fun v (hv : Below w.heap.size w v) => rleft_any s d c D C v (h.up hv) ok (by omega) day
  have BA0 := Lib.hid (show Blk ((w.alloc (.cells (s.rcells D d C c) 52)).alloc (.cells zero10 52)) w.heap.size 52 (s.rcells D d C c) from (Blk.new w 52 _).alloc _)
  have BB0 := Lib.hid (show Blk ((w.alloc (.cells (s.rcells D d C c) 52)).alloc (.cells zero10 52)) (w.heap.size + 1) 52 zero10 by have := Blk.new (w.alloc (.cells (s.rcells D d C c) 52)) 52 zero10; simpa using this)
  have h3' : day ≤ s.exp := by omega
  have HDl := Lib.hid h.rd.old
  have HCl := Lib.hid h.rc.old
  have dl : s.dem.length < 4096 := by have := ok.dl; omega
  by_cases h4 : s.left day < sum
  · have e1 : s.demand by_ sum day = (s, 0, 10) := by unfold Sur.demand; rw [if_neg h1, if_neg (by simp [h2]), if_neg (by omega), if_pos h4]
    rw [e1]
    generalize s.left day = lf at *
    clear h1 early h h2 h3 ok e1 HBr
    unfold refV at LE ⊢
    unfold Sur.rcells at LE BA0 HB BB0 ⊢
    unfold zero10 at HB BA0 BB0
    go_enter Try.func42, Try.ntmps42
    go_wp2_with fail
    refine (RR.out _).mono ?_
    rintro e w' ⟨rfl, rfl⟩
    go_wp2_with fail
    refine (LE.out _ HB.out).mono ?_
    rintro e w2 ⟨rfl, hb2⟩
    have B2 := Lib.hid (below_trans HB.out hb2)
    have BA2 := Lib.hid (BA0.out.below hb2 BA0.out.lt)
    have BB2 := Lib.hid (BB0.out.below hb2 BB0.out.lt)
    obtain ⟨q0, q1, q2, q3, q4, q5, q6, q7, q8, q9⟩ := ten_ (s := s) BA2.out
    obtain ⟨z0, z1, z2, z3, z4, z5, z6, z7, z8, z9⟩ := zten_ BB2.out
    obtain ⟨f0, f1, f2, f3, f4, f5, f6, f7, f8, f9⟩ := froz10 BB2.out
    have lA := BA2.out.lt
    have lB := BB2.out.lt
    clear hb2 LE BA0 BB0 HB RR
    go_wp2_with fail
    obtain ⟨w5, hw5⟩ : ∃ w5, w5 = putAll w2 (w.heap.size + 1) 0 [.string s.b.num, .string s.b.gua, .string s.b.for_, .string s.b.to_, .string s.b.cur, .int .i64 s.b.amt, .int .i64 s.b.exp, .int .i64 s.exp, .slice D s.dem.length d, .slice C s.cuts.length c] := ⟨_, rfl⟩
    have BB5 : Hid (Blk w5 (w.heap.size + 1) 52 (s.rcells D d C c)) := by
      show Blk w5 _ _ _
      rw [hw5]
      exact put_s s D C d c BB2.out rfl
    have CH5 := Lib.hid (show Chg (fun j => j = w.heap.size + 1) w2 w5 by rw [hw5]; exact putAll_chg (S := fun j => j = w.heap.size + 1) rfl _ _ _)
    simp only [putAll, Nat.zero_add, Nat.reduceAdd] at hw5
    rw [← hw5]
    have FIN : RNew w w5 s s D C D C := ⟨(HR.out.up B2.out).chg0 (w := w) CH5.out (fun h0 j hj e => by have := HDl.out h0 j hj; omega) (fun h0 j hj e => by have := HCl.out h0 j hj; omega), B2.out.trans (CH5.out.below B2.out.size fun j hj => by omega), .inl ⟨rfl, rfl⟩, .inl ⟨rfl, rfl⟩⟩
    have HF := Lib.hid FIN
    obtain ⟨d0, d1, d2, d3, d4, d5, d6, d7, d8, d9⟩ := ten_ (s := s) BB5.out
    refine bodyPost_ret (v := .tuple #[.agg #[.string s.b.num, .string s.b.gua, .string s.b.for_, .string s.b.to_, .string s.b.cur, .int .i64 s.b.amt, .int .i64 s.b.exp, .int .i64 s.exp, .slice D s.dem.length d, .slice C s.cuts.length c], .int .i64 0, .int .i64 10]) (by simp [results, Try.results42, go_sem, d0, d1, d2, d3, d4, d5, d6, d7, d8, d9]) rfl ?_
    exact ⟨D, d, rfl, HF.out⟩
  · have e1 : s.demand by_ sum day = (({ s with dem := s.dem ++ [(⟨day, sum, 0⟩ : Dem)] } : Sur), (s.dem.length : Int), (0 : Int)) := by unfold Sur.demand; rw [if_neg h1, if_neg (by simp [h2]), if_neg (by omega), if_neg h4]
    rw [e1]
    have h4' : sum ≤ s.left day := by omega
    generalize s.left day = lf at *
    obtain ⟨i0, hi, hz0, hz1, hz2⟩ := info_parts info84
    have HI := Lib.hid hi
    have Z0 := Lib.hid hz0
    have Z1 := Lib.hid hz1
    have Z2 := Lib.hid hz2
    clear h1 early h h2 h3 ok e1 HBr h4 hi hz0 hz1 hz2
    unfold refV at LE ⊢
    unfold Sur.rcells at LE BA0 HB BB0 ⊢
    unfold zero10 at HB BA0 BB0
    go_enter Try.func42, Try.ntmps42
    go_wp2_with fail
    refine (RR.out _).mono ?_
    rintro e w' ⟨rfl, rfl⟩
    go_wp2_with fail
    refine (LE.out _ HB.out).mono ?_
    rintro e w2 ⟨rfl, hb2⟩
    have B2 := Lib.hid (below_trans HB.out hb2)
    have BA2 := Lib.hid (BA0.out.below hb2 BA0.out.lt)
    have BB2 := Lib.hid (BB0.out.below hb2 BB0.out.lt)
    obtain ⟨q0, q1, q2, q3, q4, q5, q6, q7, q8, q9⟩ := ten_ (s := s) BA2.out
    have lA := BA2.out.lt
    have lB := BB2.out.lt
    clear hb2 LE BA0 BB0 HB RR
    obtain ⟨w3, hw3⟩ : ∃ w3, w3 = w2.alloc (.cells #[] 84) := ⟨_, rfl⟩
    have o3 : Hid (w3.ownsRow w2.heap.size 84 3 (.slice (some ⟨w2.heap.size, 0, none⟩) 0 0) 0 []) := by
      show w3.ownsRow _ _ _ _ _ _
      rw [hw3]
      exact World.ownsRow_lit (base := w2.heap.size) (e := 84) (size := 3) w2 #[] 0 (Nat.le_refl _) (Nat.zero_le _) (by simp)
    have b3 : Hid (Below w2.heap.size w2 w3) := by show Below _ _ _; rw [hw3]; exact (Below.refl _ _).alloc (Nat.le_refl _) _
    have r3 : Hid (Reads w3 w3.heap.size 3 D s.dem.length (flatD s.dem)) := (HR.out.up B2.out).rd.up b3.out
    have HW3 := Lib.hid hw3
    clear hw3
    go_wp2_with (at_builtin; rw [← HW3.out]; refine wpList_append_any _ rfl (.tmp 33) (.tmp 35) 50 rfl w2.heap.size 84 i0 (.agg #[.int .i64 0, .int .i64 0, .int .i64 0]) 3 24 Try.underlying50 HI.out Z0.out Z1.out Z2.out rfl (by decide) (.slice (some ⟨w2.heap.size, 0, none⟩) 0 0) 0 [] rfl o3.out w3.heap.size D s.dem.length d (flatD s.dem) rfl r3.out (flatF_one dem_one _) (by unfold maxLen; omega) (by omega) (by have := b3.out.size; omega) ?_)
    intro v4 w4 hown4 hgr4 hnew4
    have b4 : Hid (Below w2.heap.size w2 w4) := below_own b3.out o3.out (Nat.le_refl _) hgr4
    have o5 : Hid ((w4.alloc (.cells #[.int .i64 day, .int .i64 sum, .int .i64 0] 84)).ownsRow w2.heap.size 84 3 v4 s.dem.length (flatD s.dem)) := own_below hown4 ((Below.refl _ _).alloc (Nat.le_refl _) _)
    have b5 : Hid (Below w2.heap.size w2 (w4.alloc (.cells #[.int .i64 day, .int .i64 sum, .int .i64 0] 84))) := b4.out.alloc b4.out.size _
    have BA4 := Lib.hid (BA2.out.below b4.out BA2.out.lt)
    obtain ⟨A4, c4, rfl, _⟩ := own_form hown4
    clear hown4 hgr4 hnew4 q0 q1 q2 q3 q4 q5 q6 q7 q8 q9 r3 o3 HW3 lA lB
    obtain ⟨q0, q1, q2, q3, q4, q5, q6, q7, q8, q9⟩ := ten_ (s := s) BA4.out
    have lA := BA4.out.lt
    have f8 := BA4.out.frozen 8
    go_wp2_with (at_builtin; refine wpList_append_any _ rfl (.tmp 36) (.tmp 40) 50 rfl w2.heap.size 84 i0 (.agg #[.int .i64 0, .int .i64 0, .int .i64 0]) 3 24 Try.underlying50 HI.out Z0.out Z1.out Z2.out rfl (by decide) (.slice A4 s.dem.length c4) s.dem.length (flatD s.dem) rfl o5.out (w4.alloc (.cells #[.int .i64 day, .int .i64 sum, .int .i64 0] 84)).heap.size (some ⟨w4.heap.size, 0, none⟩) 1 1 (flatD [⟨day, sum, 0⟩]) rfl ((lit_readsN w4 #[.int .i64 day, .int .i64 sum, .int .i64 0] 84 _ 3 1 _ rfl rfl rfl).more (by simp)) (flatF_one dem_one _) (by unfold maxLen; omega) (by omega) (by have := b5.out.size; omega) ?_)
    intro v6 w6 hown6 hgr6 hnew6
    have b6 : Hid (Below w2.heap.size w2 w6) := below_own b5.out o5.out (Nat.le_refl _) hgr6
    have hap : flatD s.dem ++ flatD [⟨day, sum, 0⟩] = flatD (s.dem ++ [⟨day, sum, 0⟩]) := (flatF_append _ _).symm
    rw [hap] at hown6
    obtain ⟨A', c', rfl, _⟩ := own_form hown6
    have HROW6 := Lib.hid (Row.of_own hown6)
    have BA6 := Lib.hid (BA2.out.below b6.out BA2.out.lt)
    have BB6 := Lib.hid (BB2.out.below b6.out BB2.out.lt)
    have B6 := Lib.hid (below_trans B2.out b6.out)
    have HC6 := Lib.hid ((HR.out.up B6.out).rc)
    clear hown6 hgr6 hnew6 hap q0 q1 q2 q3 q4 q5 q6 q7 q8 q9 lA f8 BA4 o5 b5 b4
    obtain ⟨q0, q1, q2, q3, q4, q5, q6, q7, q8, q9⟩ := ten_ (s := s) BA6.out
    have lA := BA6.out.lt
    have f8 := BA6.out.frozen 8
    go_upto_region 10 with fail
    obtain ⟨w7, hw7⟩ : ∃ w7, w7 = w6.setCell ⟨w.heap.size, 8, none⟩ (.slice A' (s.dem.length + 1) c') := ⟨_, rfl⟩
    have BA7 : Hid (Blk w7 w.heap.size 52 #[.string s.b.num, .string s.b.gua, .string s.b.for_, .string s.b.to_, .string s.b.cur, .int .i64 s.b.amt, .int .i64 s.b.exp, .int .i64 s.exp, .slice A' (s.dem.length + 1) c', .slice C s.cuts.length c]) := by
      show Blk w7 _ _ _
      rw [hw7]
      exact BA6.out.set_ 8 _
    have BB7 := Lib.hid (show Blk w7 _ _ _ by rw [hw7]; exact BB6.out.far (p := ⟨w.heap.size, 8, none⟩) (by show w.heap.size + 1 ≠ w.heap.size; omega) (.slice A' (s.dem.length + 1) c'))
    have HROW7 := Lib.hid (show Row w7 w2.heap.size 84 3 A' (s.dem.length + 1) c' (flatD (s.dem ++ [⟨day, sum, 0⟩])) by
      rw [hw7]
      exact HROW6.out.setCell (p := ⟨w.heap.size, 8, none⟩) (fun hj => by have h1 : w2.heap.size ≤ w.heap.size := (HROW6.out.lt hj).1; have := BA2.out.lt; omega) _)
    have HC7 := Lib.hid (show CutR w7 C s.cuts by
      rw [hw7]
      exact HC6.out.chg0 (setCell_chg (O := fun j => j = w.heap.size) (p := ⟨w.heap.size, 8, none⟩) rfl _) fun h0 j hj h => by have := HCl.out h0 j hj; omega)
    have B7 := Lib.hid (show Below w.heap.size w w7 by rw [hw7]; exact B6.out.setCell (p := ⟨w.heap.size, 8, none⟩) (Nat.le_refl _) _)
    rw [← hw7]
    clear hw7 q0 q1 q2 q3 q4 q5 q6 q7 q8 q9 f8 lA BA6 BB6 HROW6 HC6 B6
    have W1 : IntKind.i64.wrap (s.dem.length : Int) = (s.dem.length : Int) := IntWalk.i64_in _ (by omega)
    obtain ⟨q0, q1, q2, q3, q4, q5, q6, q7, q8, q9⟩ := ten_ (s := { s with dem := s.dem ++ [(⟨day, sum, 0⟩ : Dem)] }) (D := A') (d := c') (C := C) (c := c) (v := w7) (g := w.heap.size) (by unfold Sur.rcells; simpa using BA7.out)
    have hl1 : (s.dem ++ [(⟨day, sum, 0⟩ : Dem)]).length = s.dem.length + 1 := by simp
    simp only [hl1] at q8
    clear hl1
    obtain ⟨f0, f1, f2, f3, f4, f5, f6, f7, f8, f9⟩ := froz10 BB7.out
    obtain ⟨z0, z1, z2, z3, z4, z5, z6, z7, z8, z9⟩ := zten_ BB7.out
    have lA := BA7.out.lt
    have lB := BB7.out.lt
    have HB2 := Lib.hid BB2.out.lt
    generalize hHe : w.heap.size = H at *
    have HH := Lib.hid hHe
    clear hHe
    refine region_Z (z := 99) (S := fun v => v.cell? ⟨H, 0, none⟩ = some (.string s.b.num) ∧ v.cell? ⟨H, 1, none⟩ = some (.string s.b.gua) ∧ v.cell? ⟨H, 2, none⟩ = some (.string s.b.for_) ∧ v.cell? ⟨H, 3, none⟩ = some (.string s.b.to_) ∧ v.cell? ⟨H, 4, none⟩ = some (.string s.b.cur) ∧ v.cell? ⟨H, 5, none⟩ = some (.int .i64 s.b.amt) ∧ v.cell? ⟨H, 6, none⟩ = some (.int .i64 s.b.exp) ∧ v.cell? ⟨H, 7, none⟩ = some (.int .i64 s.exp) ∧ v.cell? ⟨H, 8, none⟩ = some (.slice A' (s.dem.length + 1) c') ∧ v.cell? ⟨H, 9, none⟩ = some (.slice C s.cuts.length c)) (by kernel_rfl) ?_
    have hS0 := Lib.hid (show (fun v => v.cell? ⟨H, 0, none⟩ = some (.string s.b.num) ∧ v.cell? ⟨H, 1, none⟩ = some (.string s.b.gua) ∧ v.cell? ⟨H, 2, none⟩ = some (.string s.b.for_) ∧ v.cell? ⟨H, 3, none⟩ = some (.string s.b.to_) ∧ v.cell? ⟨H, 4, none⟩ = some (.string s.b.cur) ∧ v.cell? ⟨H, 5, none⟩ = some (.int .i64 s.b.amt) ∧ v.cell? ⟨H, 6, none⟩ = some (.int .i64 s.b.exp) ∧ v.cell? ⟨H, 7, none⟩ = some (.int .i64 s.exp) ∧ v.cell? ⟨H, 8, none⟩ = some (.slice A' (s.dem.length + 1) c') ∧ v.cell? ⟨H, 9, none⟩ = some (.slice C s.cuts.length c)) (w7).drew from ⟨q0, q1, q2, q3, q4, q5, q6, q7, q8, q9⟩)
    show AnyZ _ _ _ _ _ _ 8 (List.replicate 8 false).toArray _ _
    first
      | refine AnyZ.takeD (i := 0) (some 43) (v := ?_) rfl (by rfl) (by kernel_rfl) (by kernel_rfl) (by kernel_rfl) (by kernel_rfl) (by kernel_rfl) (fun _ _ _ h => h) (by rfl) (fun v hv => ?_) hS0.out ?_
        rotate_left
        · obtain ⟨s0, s1, s2, s3, s4, s5, s6, s7, s8, s9⟩ := hv
          go_simp
          try with_reducible rfl
      | refine AnyZ.skipD (i := 0) (some 43) rfl (by rfl) (by kernel_rfl) (by kernel_rfl) (by kernel_rfl) (by kernel_rfl) (by kernel_rfl) (fun _ _ _ h => h) (by rfl) hS0.out ?_
    try simp only [Act.put, List.setIfInBounds_toArray, List.set_cons_zero, List.set_cons_succ]
    first
      | refine AnyZ.takeD (i := 1) (some 44) (v := ?_) rfl (by rfl) (by kernel_rfl) (by kernel_rfl) (by kernel_rfl) (by kernel_rfl) (by kernel_rfl) (fun _ _ _ h => h) (by rfl) (fun v hv => ?_) hS0.out ?_
        rotate_left
        · obtain ⟨s0, s1, s2, s3, s4, s5, s6, s7, s8, s9⟩ := hv
          go_simp
          try with_reducible rfl
      | refine AnyZ.skipD (i := 1) (some 44) rfl (by rfl) (by kernel_rfl) (by kernel_rfl) (by kernel_rfl) (by kernel_rfl) (by kernel_rfl) (fun _ _ _ h => h) (by rfl) hS0.out ?_
    try simp only [Act.put, List.setIfInBounds_toArray, List.set_cons_zero, List.set_cons_succ]
    first
      | refine AnyZ.takeD (i := 2) (some 45) (v := ?_) rfl (by rfl) (by kernel_rfl) (by kernel_rfl) (by kernel_rfl) (by kernel_rfl) (by kernel_rfl) (fun _ _ _ h => h) (by rfl) (fun v hv => ?_) hS0.out ?_
        rotate_left
        · obtain ⟨s0, s1, s2, s3, s4, s5, s6, s7, s8, s9⟩ := hv
          go_simp
          try with_reducible rfl
      | refine AnyZ.skipD (i := 2) (some 45) rfl (by rfl) (by kernel_rfl) (by kernel_rfl) (by kernel_rfl) (by kernel_rfl) (by kernel_rfl) (fun _ _ _ h => h) (by rfl) hS0.out ?_
    try simp only [Act.put, List.setIfInBounds_toArray, List.set_cons_zero, List.set_cons_succ]
    first
      | refine AnyZ.takeD (i := 3) (some 46) (v := ?_) rfl (by rfl) (by kernel_rfl) (by kernel_rfl) (by kernel_rfl) (by kernel_rfl) (by kernel_rfl) (fun _ _ _ h => h) (by rfl) (fun v hv => ?_) hS0.out ?_
        rotate_left
        · obtain ⟨s0, s1, s2, s3, s4, s5, s6, s7, s8, s9⟩ := hv
          go_simp
          try with_reducible rfl
      | refine AnyZ.skipD (i := 3) (some 46) rfl (by rfl) (by kernel_rfl) (by kernel_rfl) (by kernel_rfl) (by kernel_rfl) (by kernel_rfl) (fun _ _ _ h => h) (by rfl) hS0.out ?_
    try simp only [Act.put, List.setIfInBounds_toArray, List.set_cons_zero, List.set_cons_succ]
    first
      | refine AnyZ.takeD (i := 4) (some 47) (v := ?_) rfl (by rfl) (by kernel_rfl) (by kernel_rfl) (by kernel_rfl) (by kernel_rfl) (by kernel_rfl) (fun _ _ _ h => h) (by rfl) (fun v hv => ?_) hS0.out ?_
        rotate_left
        · obtain ⟨s0, s1, s2, s3, s4, s5, s6, s7, s8, s9⟩ := hv
          go_simp
          try with_reducible rfl
      | refine AnyZ.skipD (i := 4) (some 47) rfl (by rfl) (by kernel_rfl) (by kernel_rfl) (by kernel_rfl) (by kernel_rfl) (by kernel_rfl) (fun _ _ _ h => h) (by rfl) hS0.out ?_
    try simp only [Act.put, List.setIfInBounds_toArray, List.set_cons_zero, List.set_cons_succ]
    refine AnyZ.one (i := 5) (by kernel_rfl) rfl (by rfl) fun K5 hK5 => ?_
    go_simp
    have CH8 : Chg (fun j => j = H + 1) w7 (putAll w7 (H + 1) 0 [.string s.b.num, .string s.b.gua, .string s.b.for_, .string s.b.to_, .string s.b.cur, .int .i64 s.b.amt, .int .i64 s.b.exp, .int .i64 s.exp, .slice A' (s.dem.length + 1) c', .slice C s.cuts.length c]) := putAll_chg (S := fun j => j = H + 1) rfl _ _ _
    have BA8 := CH8.blk BA7.out (by omega)
    have BB8 : Blk (putAll w7 (H + 1) 0 [.string s.b.num, .string s.b.gua, .string s.b.for_, .string s.b.to_, .string s.b.cur, .int .i64 s.b.amt, .int .i64 s.b.exp, .int .i64 s.exp, .slice A' (s.dem.length + 1) c', .slice C s.cuts.length c]) (H + 1) 52 #[.string s.b.num, .string s.b.gua, .string s.b.for_, .string s.b.to_, .string s.b.cur, .int .i64 s.b.amt, .int .i64 s.b.exp, .int .i64 s.exp, .slice A' (s.dem.length + 1) c', .slice C s.cuts.length c] := putAll_all BB7.out rfl
    obtain ⟨w8, hw8⟩ : ∃ w8, w8 = putAll w7 (H + 1) 0 [.string s.b.num, .string s.b.gua, .string s.b.for_, .string s.b.to_, .string s.b.cur, .int .i64 s.b.amt, .int .i64 s.b.exp, .int .i64 s.exp, .slice A' (s.dem.length + 1) c', .slice C s.cuts.length c] := ⟨_, rfl⟩
    rw [← hw8] at CH8 BA8 BB8
    simp only [putAll, Nat.zero_add, Nat.reduceAdd] at hw8
    rw [← hw8]
    refine hK5.out _ _ (.inr ⟨BA8.cell 0, BA8.cell 1, BA8.cell 2, BA8.cell 3, BA8.cell 4, BA8.cell 5, BA8.cell 6, BA8.cell 7, BA8.cell 8, BA8.cell 9⟩) fun hS8 => ?_
    have HS8 := Lib.hid (hS8.resolve_right (by decide))
    clear hS8
    try simp only [Act.put, List.setIfInBounds_toArray, List.set_cons_zero, List.set_cons_succ]
    first
      | refine AnyZ.takeD (i := 6) (some 9) (v := ?_) rfl (by rfl) (by kernel_rfl) (by kernel_rfl) (by kernel_rfl) (by kernel_rfl) (by kernel_rfl) (fun _ _ _ h => h) (by rfl) (fun v hv => ?_) HS8.out ?_
        rotate_left
        · obtain ⟨s0, s1, s2, s3, s4, s5, s6, s7, s8, s9⟩ := hv
          go_simp
          try with_reducible rfl
      | refine AnyZ.skipD (i := 6) (some 9) rfl (by rfl) (by kernel_rfl) (by kernel_rfl) (by kernel_rfl) (by kernel_rfl) (by kernel_rfl) (fun _ _ _ h => h) (by rfl) HS8.out ?_
    try simp only [Act.put, List.setIfInBounds_toArray, List.set_cons_zero, List.set_cons_succ]
    first
      | refine AnyZ.takeD (i := 7) (some 10) (v := ?_) rfl (by rfl) (by kernel_rfl) (by kernel_rfl) (by kernel_rfl) (by kernel_rfl) (by kernel_rfl) (fun _ _ _ h => h) (by rfl) (fun v hv => ?_) HS8.out ?_
        rotate_left
        · obtain ⟨s0, s1, s2, s3, s4, s5, s6, s7, s8, s9⟩ := hv
          go_simp
          try with_reducible rfl
      | refine AnyZ.skipD (i := 7) (some 10) rfl (by rfl) (by kernel_rfl) (by kernel_rfl) (by kernel_rfl) (by kernel_rfl) (by kernel_rfl) (fun _ _ _ h => h) (by rfl) HS8.out ?_
    try simp only [Act.put, List.setIfInBounds_toArray, List.set_cons_zero, List.set_cons_succ]
    refine AnyZ.done (by kernel_rfl) ?_ _
    have FIN : RNew w w8.drew s { s with dem := s.dem ++ [(⟨day, sum, 0⟩ : Dem)] } D C A' C := by
      refine ⟨⟨?_, (show CutR w8 C s.cuts from HC7.out.chg0 CH8 fun h0 j hj h => by have := HCl.out h0 j hj; have := HH.out; omega)⟩, (by have hh := (B7.out.trans (CH8.below (by have := B7.out.size; have := HH.out; omega) fun j hj => by omega)).drew; rw [HH.out]; exact hh), .inr fun j hj => ?_, .inl ⟨rfl, rfl⟩⟩
      · show Reads w8 w8.heap.size 3 A' _ _
        have := (HROW7.out.chg CH8 fun j hj e => by have := (HROW7.out.lt hj).1; have := HB2.out; omega).reads
        simpa using this
      · have := (HROW7.out.lt hj).1
        have := HB2.out
        have := HH.out
        omega
    have HF := Lib.hid FIN
    obtain ⟨d0, d1, d2, d3, d4, d5, d6, d7, d8, d9⟩ := (⟨BB8.cell 0, BB8.cell 1, BB8.cell 2, BB8.cell 3, BB8.cell 4, BB8.cell 5, BB8.cell 6, BB8.cell 7, BB8.cell 8, BB8.cell 9⟩ : _ ∧ _ ∧ _ ∧ _ ∧ _ ∧ _ ∧ _ ∧ _ ∧ _ ∧ _)
    simp only [List.getElem?_toArray, List.getElem?_cons_zero, List.getElem?_cons_succ] at d0 d1 d2 d3 d4 d5 d6 d7 d8 d9
    clear hw8 CH8 BA8 BB8 FIN q0 q1 q2 q3 q4 q5 q6 q7 q8 q9 z0 z1 z2 z3 z4 z5 z6 z7 z8 z9 f0 f1 f2 f3 f4 f5 f6 f7 f8 f9
    go_wp2_with fail
    refine bodyPost_ret (v := .tuple #[.agg #[.string s.b.num, .string s.b.gua, .string s.b.for_, .string s.b.to_, .string s.b.cur, .int .i64 s.b.amt, .int .i64 s.b.exp, .int .i64 s.exp, .slice A' (s.dem.length + 1) c', .slice C s.cuts.length c], .int .i64 s.dem.length, .int .i64 0]) (by simp [results, Try.results42, go_sem, d0, d1, d2, d3, d4, d5, d6, d7, d8, d9]) rfl ?_
    exact ⟨A', ⟨c', by simp⟩, HF.out⟩
end Go.Proofs.Ytlmlepdmgopojaa
