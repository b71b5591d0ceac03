/- The reference's acts. Condition: how its two slices lie. -/
import Derived.Test.YtlmlepdmgopojaaRefR
import Derived.Test.YtlmlepdmgopojaaExtendsLaw
namespace Go.Proofs.Ytlmlepdmgopojaa
open Go.RowKit
set_option linter.unusedVariables false
set_option linter.unusedSimpArgs false
/-- so many cells, stored one behind the other -/
def putAll (v : World) (g : Nat) : Nat → List Value → World
  | _, [] => v
  | i, b :: l => putAll (v.setCell ⟨g, i, none⟩ b) g (i + 1) l
theorem putAll_blk (g : Nat) (t : TypeId) : ∀ (l : List Value) (v : World) (i : Nat) (cs : Array Value), Blk v g t cs → cs.size = i + l.length → ∃ ds : Array Value, Blk (putAll v g i l) g t ds ∧ ds.toList = cs.toList.take i ++ l := by
  intro l
  induction l with
  | nil =>
    intro v i cs h hs
    refine ⟨cs, h, ?_⟩
    simp at hs
    rw [List.append_nil, List.take_of_length_le (by simp; omega)]
  | cons b l ih =>
    intro v i cs h hs
    obtain ⟨ds, h1, h2⟩ := ih (v.setCell ⟨g, i, none⟩ b) (i + 1) (cs.setIfInBounds i b) (h.set_ i b) (by simp at hs ⊢; omega)
    refine ⟨ds, h1, ?_⟩
    rw [h2, Array.toList_setIfInBounds]
    have hi : i < cs.toList.length := by simp at hs ⊢; omega
    rw [List.take_add_one, List.getElem?_set_self hi, List.take_set_of_le (Nat.le_refl _)]
    simp
theorem putAll_all {g : Nat} {t : TypeId} {l : List Value} {v : World} {cs : Array Value} (h : Blk v g t cs) (hs : cs.size = l.length) : Blk (putAll v g 0 l) g t l.toArray := by
  obtain ⟨ds, h1, h2⟩ := putAll_blk g t l v 0 cs h (by omega)
  have : ds = l.toArray := Array.ext' (by rw [h2]; simp)
  rwa [this] at h1
theorem putAll_chg {S : Nat → Prop} {g : Nat} (hg : S g) : ∀ (l : List Value) (v : World) (i : Nat), Chg S v (putAll v g i l) := by
  intro l
  induction l with
  | nil => intro v i; exact Chg.refl _ _
  | cons b l ih => intro v i; exact (setCell_chg (p := ⟨g, i, none⟩) hg b).trans (ih _ _)
theorem info84 : (Try.prog.info? 84).map (fun i => (i.zero, i.size, i.bytes)) = some (some (.agg #[.int .i64 0, .int .i64 0, .int .i64 0]), 3, 24) := by kernel_rfl
/-- the cells of a surety of the reference, in a row -/
theorem ten_ {v : World} {g : Nat} {s : Sur} {D C : Option Addr} {d c : Nat} (h : Blk v g 52 (s.rcells D d C c)) : v.cell? ⟨g, 0, none⟩ = some (.string s.b.num) ∧ v.cell? ⟨g, 1, none⟩ = some (.string s.b.gua) ∧ v.cell? ⟨g, 2, none⟩ = some (.string s.b.for_) ∧ v.cell? ⟨g, 3, none⟩ = some (.string s.b.to_) ∧ v.cell? ⟨g, 4, none⟩ = some (.string s.b.cur) ∧ v.cell? ⟨g, 5, none⟩ = some (.int .i64 s.b.amt) ∧ v.cell? ⟨g, 6, none⟩ = some (.int .i64 s.b.exp) ∧ v.cell? ⟨g, 7, none⟩ = some (.int .i64 s.exp) ∧ v.cell? ⟨g, 8, none⟩ = some (.slice D s.dem.length d) ∧ v.cell? ⟨g, 9, none⟩ = some (.slice C s.cuts.length c) :=
  ⟨h.cell 0, h.cell 1, h.cell 2, h.cell 3, h.cell 4, h.cell 5, h.cell 6, h.cell 7, h.cell 8, h.cell 9⟩
theorem froz10 {v : World} {g : Nat} {t : TypeId} {cs : Array Value} (h : Blk v g t cs) : v.frozen? ⟨g, 0, none⟩ = false ∧ v.frozen? ⟨g, 1, none⟩ = false ∧ v.frozen? ⟨g, 2, none⟩ = false ∧ v.frozen? ⟨g, 3, none⟩ = false ∧ v.frozen? ⟨g, 4, none⟩ = false ∧ v.frozen? ⟨g, 5, none⟩ = false ∧ v.frozen? ⟨g, 6, none⟩ = false ∧ v.frozen? ⟨g, 7, none⟩ = false ∧ v.frozen? ⟨g, 8, none⟩ = false ∧ v.frozen? ⟨g, 9, none⟩ = false :=
  ⟨h.frozen 0, h.frozen 1, h.frozen 2, h.frozen 3, h.frozen 4, h.frozen 5, h.frozen 6, h.frozen 7, h.frozen 8, h.frozen 9⟩
theorem Reads.chg0 {w w' : World} {size n : Nat} {A : Option Addr} {xs : List Value} {S : Nat → Prop} (h : Reads w w.heap.size size A n xs) (hc : Chg S w w') (hS : 0 < n → ∀ k, blockOf A k → ¬ S k) : Reads w' w'.heap.size size A n xs := by
  refine ⟨h.1, fun hn => ?_⟩
  obtain ⟨a, rfl, hb, hcell⟩ := h.2 hn
  refine ⟨a, rfl, Nat.lt_of_lt_of_le hb hc.size, fun j u hu => ?_⟩
  rw [hc.cell (by rw [block_of_add]; exact hb) (by rw [block_of_add]; exact hS hn _ ⟨a, rfl, rfl⟩)]
  exact hcell j u hu
theorem CutR.chg0 {w w' : World} {A : Option Addr} {l : List Cut} {S : Nat → Prop} (h : CutR w A l) (hc : Chg S w w') (hS : 0 < l.length → ∀ k, blockOf A k → ¬ S k) : CutR w' A l := Reads.chg0 h hc hS
theorem DemR.chg0 {w w' : World} {A : Option Addr} {l : List Dem} {S : Nat → Prop} (h : DemR w A l) (hc : Chg S w w') (hS : 0 < l.length → ∀ k, blockOf A k → ¬ S k) : DemR w' A l := Reads.chg0 h hc hS
theorem CutR.old {w : World} {A : Option Addr} {l : List Cut} (h : CutR w A l) : 0 < l.length → ∀ k, blockOf A k → k < w.heap.size := by
  rintro hn k ⟨a, rfl, rfl⟩
  obtain ⟨a', e, hb, _⟩ := h.2 hn
  cases e
  exact hb
theorem DemR.old {w : World} {A : Option Addr} {l : List Dem} (h : DemR w A l) : 0 < l.length → ∀ k, blockOf A k → k < w.heap.size := by
  rintro hn k ⟨a, rfl, rfl⟩
  obtain ⟨a', e, hb, _⟩ := h.2 hn
  cases e
  exact hb
/-- the zero of a surety of the reference -/
def zero10 : Array Value := #[.string ⟨#[]⟩, .string ⟨#[]⟩, .string ⟨#[]⟩, .string ⟨#[]⟩, .string ⟨#[]⟩, .int .i64 0, .int .i64 0, .int .i64 0, .slice none 0 0, .slice none 0 0]
theorem zten_ {v : World} {g : Nat} (h : Blk v g 52 zero10) : v.cell? ⟨g, 0, none⟩ = some (.string ⟨#[]⟩) ∧ v.cell? ⟨g, 1, none⟩ = some (.string ⟨#[]⟩) ∧ v.cell? ⟨g, 2, none⟩ = some (.string ⟨#[]⟩) ∧ v.cell? ⟨g, 3, none⟩ = some (.string ⟨#[]⟩) ∧ v.cell? ⟨g, 4, none⟩ = some (.string ⟨#[]⟩) ∧ v.cell? ⟨g, 5, none⟩ = some (.int .i64 0) ∧ v.cell? ⟨g, 6, none⟩ = some (.int .i64 0) ∧ v.cell? ⟨g, 7, none⟩ = some (.int .i64 0) ∧ v.cell? ⟨g, 8, none⟩ = some (.slice none 0 0) ∧ v.cell? ⟨g, 9, none⟩ = some (.slice none 0 0) :=
  ⟨h.cell 0, h.cell 1, h.cell 2, h.cell 3, h.cell 4, h.cell 5, h.cell 6, h.cell 7, h.cell 8, h.cell 9⟩
/-- what an act of the reference leaves -/
structure RNew (w w' : World) (s0 s : Sur) (D C D' C' : Option Addr) : Prop where
  at_ : RefAt w' s D' C'
  fr : Below w.heap.size w w'
  fd : (D' = D ∧ s.dem.length = s0.dem.length) ∨ ∀ k, blockOf D' k → w.heap.size ≤ k
  fc : (C' = C ∧ s.cuts.length = s0.cuts.length) ∨ ∀ k, blockOf C' k → w.heap.size ≤ k
set_option maxRecDepth 100000 in
set_option maxHeartbeats 8000000 in
theorem rstand_any (s : Sur) (d c : Nat) (D C : Option Addr) (w : World) (h : RefAt w s D C) (len : s.dem.length ≤ 4096) (k : Nat) (x : Dem) (hx : s.dem[k]? = some x) (how : Int) :
    Calls Try.prog 65 #[refV s D d C c, .int .i64 k, .int .i64 how] w fun e w' => ∃ D' d', e = .returned (refV { s with dem := setSt s.dem k how } D' d' C c) ∧ RNew w w' s { s with dem := setSt s.dem k how } D C D' C := by
  obtain ⟨i0, hi, hz0, hz1, hz2⟩ := info_parts info84
  obtain ⟨w1, hw1⟩ : ∃ w1, w1 = ((w.alloc (.cells (s.rcells D d C c) 52)).alloc (.cells zero10 52)).alloc (.cells #[] 84) := ⟨_, rfl⟩
  have hb1 : Below w.heap.size w w1 := by rw [hw1]; exact (((Below.refl _ _).alloc (Nat.le_refl _) _).alloc (by simp) _).alloc (by simp; omega) _
  have own1 : w1.ownsRow (w.heap.size + 2) 84 3 (.slice (some ⟨w.heap.size + 2, 0, none⟩) 0 0) 0 [] := by
    have := World.ownsRow_lit (base := w.heap.size + 2) (e := 84) (size := 3) ((w.alloc (.cells (s.rcells D d C c) 52)).alloc (.cells zero10 52)) #[] 0 (by simp) (Nat.zero_le _) (by simp)
    rw [hw1]
    simpa using this
  have bA : Blk w1 w.heap.size 52 (s.rcells D d C c) := by rw [hw1]; exact ((Blk.new w 52 _).alloc _).alloc _
  have bB : Blk w1 (w.heap.size + 1) 52 zero10 := by rw [hw1]; have := (Blk.new (w.alloc (.cells (s.rcells D d C c) 52)) 52 zero10).alloc (.cells #[] 84); simpa using this
  have sz1 : w1.heap.size = w.heap.size + 3 := by rw [hw1]; simp
  have hr1 : Reads w1 w1.heap.size 3 D s.dem.length (flatD s.dem) := h.rd.up hb1
  have HC := Lib.hid (h.rc.up hb1)
  have HCl := Lib.hid h.rc.old
  have HI := Lib.hid hi
  have Z0 := Lib.hid hz0
  have Z1 := Lib.hid hz1
  have Z2 := Lib.hid hz2
  have HB1 := Lib.hid hb1
  have O1 := Lib.hid own1
  have BA := Lib.hid bA
  have BB := Lib.hid bB
  have S1 := Lib.hid sz1
  have R1 := Lib.hid hr1
  have HW := Lib.hid hw1
  have HX := Lib.hid hx
  have hk : k < s.dem.length := (List.getElem?_eq_some_iff.1 hx).1
  have hkI : (k : Int) < s.dem.length := by omega
  clear hi hz0 hz1 hz2 hb1 own1 bA bB sz1 hr1 hx h hw1
  unfold refV
  unfold Sur.rcells at *
  unfold zero10 at *
  go_enter Try.func65, Try.ntmps65
  go_wp2_with (at_builtin; rw [← HW.out]; refine wpList_append_any _ rfl (.tmp 7) (.tmp 9) 50 rfl (w.heap.size + 2) 84 i0 (.agg #[.int .i64 0, .int .i64 0, .int .i64 0]) 3 24 Try.underlying50 HI.out Z0.out Z1.out Z2.out rfl (by decide) (.slice (some ⟨w.heap.size + 2, 0, none⟩) 0 0) 0 [] rfl O1.out w1.heap.size D s.dem.length d (flatD s.dem) rfl R1.out (flatF_one dem_one _) (by unfold maxLen; omega) (by omega) (by rw [S1.out]; omega) ?_)
  intro v' w2 hown hgr hnew
  obtain ⟨A', c', rfl, hle⟩ := own_form hown
  have hrow := Row.of_own hown
  obtain ⟨r, cur, hA', hBr, hcur⟩ : ∃ r cur, A' = some ⟨r, 0, none⟩ ∧ w.heap.size + 2 ≤ r ∧ Blk w2 r 84 cur := by
    rcases hrow.2 with ⟨_, h0, _⟩ | ⟨r, cur, h1, h2, h3, _⟩
    · omega
    · exact ⟨r, cur, h1, h2, h3⟩
  subst hA'
  have hc2 : Chg (fun j => w.heap.size + 2 ≤ j) w1 w2 := (Chg.refl _ w1).grown hgr fun j hj => by
    have : w.heap.size + 2 = j := by simpa [Value.ownBlock] using hj
    exact .inl (by omega)
  have HC2 : Hid (CutR w2 C s.cuts) := by
    exact HC.out.chg0 hc2 fun h0 j hj h => by have := HCl.out h0 j hj; omega
  have BA2 := Lib.hid (hc2.blk BA.out (by omega))
  have BB2 := Lib.hid (hc2.blk BB.out (by omega))
  have B2 := Lib.hid (HB1.out.trans (hc2.below HB1.out.size fun j hj => by omega))
  have HROW := Lib.hid hrow
  have HCUR := Lib.hid hcur
  have HLE := Lib.hid hle
  have HBR := Lib.hid hBr
  obtain ⟨q0, q1, q2, q3, q4, q5, q6, q7, q8, q9⟩ := ten_ (s := s) BA2.out
  have f8 := BA2.out.frozen 8
  have lH := BA2.out.lt
  clear hown hgr hnew hrow hcur hle hc2 HC BA BB HB1 R1 O1 HW S1 hBr
  go_upto_region 2 with fail
  obtain ⟨w3, hw3⟩ : ∃ w3, w3 = w2.setCell ⟨w.heap.size, 8, none⟩ (.slice (some ⟨r, 0, none⟩) s.dem.length c') := ⟨_, rfl⟩
  have BA3 : Hid (Blk w3 w.heap.size 52 #[.string s.b.num, .string s.b.gua, .string s.b.for_, .string s.b.to_, .string s.b.cur, .int .i64 s.b.amt, .int .i64 s.b.exp, .int .i64 s.exp, .slice (some ⟨r, 0, none⟩) s.dem.length c', .slice C s.cuts.length c]) := by
    show Blk w3 _ _ _
    rw [hw3]
    exact BA2.out.set_ 8 _
  have BB3 := Lib.hid (show Blk w3 _ _ _ by rw [hw3]; exact BB2.out.far (p := ⟨w.heap.size, 8, none⟩) (by show w.heap.size + 1 ≠ w.heap.size; omega) (.slice (some ⟨r, 0, none⟩) s.dem.length c'))
  have HC3 := Lib.hid (show CutR w3 C s.cuts by
    rw [hw3]
    exact HC2.out.chg0 (setCell_chg (O := fun j => j = w.heap.size) (p := ⟨w.heap.size, 8, none⟩) rfl _) fun h0 j hj h => by have := HCl.out h0 j hj; omega)
  have B3 := Lib.hid (show Below w.heap.size w w3 by rw [hw3]; exact B2.out.setCell (p := ⟨w.heap.size, 8, none⟩) (Nat.le_refl _) _)
  have HROW3 := Lib.hid (show Row w3 (w.heap.size + 2) 84 3 (some ⟨r, 0, none⟩) s.dem.length c' (flatD s.dem) by
    rw [hw3]
    exact HROW.out.setCell (p := ⟨w.heap.size, 8, none⟩) (by rintro ⟨a, ha, hb⟩; cases ha; have := HBR.out; simp at hb; omega) _)
  rw [← hw3]
  clear hw3 q0 q1 q2 q3 q4 q5 q6 q7 q8 q9 f8 lH BA2 BB2 HC2 B2 HROW HCUR
  obtain ⟨q0, q1, q2, q3, q4, q5, q6, q7, q8, q9⟩ := ten_ (s := s) (D := some ⟨r, 0, none⟩) (d := c') BA3.out
  have hrd3 : DemR w3 (some ⟨r, 0, none⟩) s.dem := HROW3.out.reads
  obtain ⟨a', y, ha, hy, hblk, c0, c1, c2⟩ := hrd3.at_ hk
  cases ha
  rw [add_off] at c2
  simp only at c2
  have hfz : w3.frozen? ⟨r, k * 3 + 2, none⟩ = false := by
    obtain ⟨cur, hb⟩ := HROW3.out.blk_of (k := r) ⟨_, rfl, rfl⟩
    exact hb.frozen _
  have lr : r < w3.heap.size := by
    obtain ⟨cur, hb⟩ := HROW3.out.blk_of (k := r) ⟨_, rfl, rfl⟩
    exact hb.lt
  clear hy hrd3 hblk c0 c1
  go_upto_region 3 with fail
  obtain ⟨w4, hw4⟩ : ∃ w4, w4 = w3.setCell ⟨r, k * 3 + 2, none⟩ (.int .i64 how) := ⟨_, rfl⟩
  have BA4 := Lib.hid (show Blk w4 _ _ _ by rw [hw4]; exact BA3.out.far (p := ⟨r, k * 3 + 2, none⟩) (by show w.heap.size ≠ r; have := HBR.out; omega) (.int .i64 how))
  have BB4 := Lib.hid (show Blk w4 _ _ _ by rw [hw4]; exact BB3.out.far (p := ⟨r, k * 3 + 2, none⟩) (by show w.heap.size + 1 ≠ r; have := HBR.out; omega) (.int .i64 how))
  have HC4 := Lib.hid (show CutR w4 C s.cuts by
    rw [hw4]
    exact HC3.out.chg0 (setCell_chg (O := fun j => j = r) (p := ⟨r, k * 3 + 2, none⟩) rfl _) fun h0 j hj h => by have := HCl.out h0 j hj; have := HBR.out; omega)
  have B4 := Lib.hid (show Below w.heap.size w w4 by rw [hw4]; exact B3.out.setCell (p := ⟨r, k * 3 + 2, none⟩) (by have := HBR.out; show w.heap.size ≤ r; omega) _)
  have HROW4 := Lib.hid (show Row w4 (w.heap.size + 2) 84 3 (some ⟨r, 0, none⟩) s.dem.length c' (flatD (setSt s.dem k how)) by
    rw [hw4, flatD_set HX.out]
    exact HROW3.out.set_ (k * 3 + 2) (by omega) _)
  rw [← hw4]
  clear hw4 q0 q1 q2 q3 q4 q5 q6 q7 q8 q9 c2 hfz lr BA3 BB3 HC3 B3 HROW3
  obtain ⟨q0, q1, q2, q3, q4, q5, q6, q7, q8, q9⟩ := ten_ (s := s) (D := some ⟨r, 0, none⟩) (d := c') BA4.out
  obtain ⟨f0, f1, f2, f3, f4, f5, f6, f7, f8, f9⟩ := froz10 BB4.out
  obtain ⟨z0, z1, z2, z3, z4, z5, z6, z7, z8, z9⟩ := zten_ BB4.out
  have lB := BB4.out.lt
  have lA := BA4.out.lt
  go_wp2_with fail
  obtain ⟨w5, hw5⟩ : ∃ w5, w5 = putAll w4 (w.heap.size + 1) 0 [.string s.b.num, .string s.b.gua, .string s.b.for_, .string s.b.to_, .string s.b.cur, .int .i64 s.b.amt, .int .i64 s.b.exp, .int .i64 s.exp, .slice (some ⟨r, 0, none⟩) s.dem.length c', .slice C s.cuts.length c] := ⟨_, rfl⟩
  have BB5 : Hid (Blk w5 (w.heap.size + 1) 52 #[.string s.b.num, .string s.b.gua, .string s.b.for_, .string s.b.to_, .string s.b.cur, .int .i64 s.b.amt, .int .i64 s.b.exp, .int .i64 s.exp, .slice (some ⟨r, 0, none⟩) s.dem.length c', .slice C s.cuts.length c]) := by
    show Blk w5 _ _ _
    rw [hw5]
    exact putAll_all BB4.out rfl
  have CH5 := Lib.hid (show Chg (fun j => j = w.heap.size + 1) w4 w5 by rw [hw5]; exact putAll_chg (S := fun j => j = w.heap.size + 1) rfl _ _ _)
  simp only [putAll, Nat.zero_add, Nat.reduceAdd] at hw5
  rw [← hw5]
  have FIN : RNew w w5 s { s with dem := setSt s.dem k how } D C (some ⟨r, 0, none⟩) C := by
    refine ⟨⟨?_, ?_⟩, B4.out.trans (CH5.out.below B4.out.size fun j hj => by omega), .inr fun j hj => ?_, .inl ⟨rfl, rfl⟩⟩
    · show Reads _ _ _ _ _ _
      rw [setSt_len]
      refine (HROW4.out.chg CH5.out fun j hj e => ?_).reads
      have := (HROW4.out.lt hj).1
      omega
    · exact HC4.out.chg0 CH5.out fun h0 j hj h => by have := HCl.out h0 j hj; omega
    · have := (HROW4.out.lt hj).1
      omega
  have HF := Lib.hid FIN
  obtain ⟨d0, d1, d2, d3, d4, d5, d6, d7, d8, d9⟩ := ten_ (s := s) (D := some ⟨r, 0, none⟩) (d := c') BB5.out
  refine bodyPost_ret (v := .agg #[.string s.b.num, .string s.b.gua, .string s.b.for_, .string s.b.to_, .string s.b.cur, .int .i64 s.b.amt, .int .i64 s.b.exp, .int .i64 s.exp, .slice (some ⟨r, 0, none⟩) s.dem.length c', .slice C s.cuts.length c]) (by simp [results, Try.results65, go_sem, d0, d1, d2, d3, d4, d5, d6, d7, d8, d9]) rfl ?_
  refine ⟨some ⟨r, 0, none⟩, c', ?_, HF.out⟩
  simp only [setSt_len]
end Go.Proofs.Ytlmlepdmgopojaa
