/- The walk of an act by the document, kind 2. Condition: how the reference's two slices lie. -/
import Derived.Test.YtlmlepdmgopojaaRefWant
namespace Go.Proofs.Ytlmlepdmgopojaa
open Go.RowKit
set_option linter.unusedVariables false
set_option linter.unusedSimpArgs false
set_option maxRecDepth 100000 in
set_option maxHeartbeats 8000000 in
theorem want2_any (s : Sur) (d c : Nat) (D C : Option Addr) (w : World) (h : RefAt w s D C) {K : Nat} (ok : s.ok K) (hK : K < 4096) (a : Act') (wf : a.wf) (hm : a.kind % 4 = 2) :
    Calls Try.prog 18 #[refV s D d C c, actV a] w (Wanted s D C w a) := by
  have HB := Lib.hid (show Below w.heap.size w (((w.alloc (.cells (s.rcells D d C c) 52)).alloc (.cells a.cells.toArray 37)).alloc (.cells zero10 52)) from (((Below.refl _ _).alloc (Nat.le_refl _) _).alloc (by simp) _).alloc (by simp; omega) _)
  have HR := Lib.hid h
  have BB0 := Lib.hid (show Blk (((w.alloc (.cells (s.rcells D d C c) 52)).alloc (.cells a.cells.toArray 37)).alloc (.cells zero10 52)) (w.heap.size + 1 + 1) 52 zero10 by have := Blk.new ((w.alloc (.cells (s.rcells D d C c) 52)).alloc (.cells a.cells.toArray 37)) 52 zero10; simpa using this)
  have HSZ := Lib.hid (show (((w.alloc (.cells (s.rcells D d C c) 52)).alloc (.cells a.cells.toArray 37)).alloc (.cells zero10 52)).heap.size = w.heap.size + 3 by simp)
  have w0 := wf.1
  have w1 := wf.2
  have et : a.kind.tmod 4 = a.kind % 4 := Int.tmod_eq_emod_of_nonneg w0
  unfold Wanted
  rw [act_2 hm]
  have HC := Lib.hid (rpay_any s d c D C _ (h.up HB.out) ok (by omega) a.n)
  rw [hm] at et
  generalize s.pay a.n = r at *
  obtain ⟨r1, r2, r3⟩ := r
  obtain ⟨kind, by_, sum, day, n⟩ := a
  unfold actV
  unfold Act'.cells at HC HB BB0 HSZ ⊢
  simp only at *
  unfold refV at HC ⊢
  unfold Sur.rcells at HC HB BB0 HSZ ⊢
  unfold zero10 at HB BB0 HSZ HC
  clear h ok wf hm
  go_enter Try.func18, Try.ntmps18
  go_wp2_with fail
  refine HC.out.mono ?_
  rintro e w2 ⟨D', d', rfl, hn⟩
  have N2 := Lib.hid hn
  have BB2 := Lib.hid (BB0.out.below hn.fr BB0.out.lt)
  obtain ⟨z0, z1, z2, z3, z4, z5, z6, z7, z8, z9⟩ := zten_ BB2.out
  obtain ⟨f0, f1, f2, f3, f4, f5, f6, f7, f8, f9⟩ := froz10 BB2.out
  have lB := BB2.out.lt
  have lne : w.heap.size + 1 + 1 ≠ w2.heap.size := by omega
  clear hn HC
  go_wp2_with fail
  obtain ⟨w25, hw25⟩ : ∃ w25, w25 = putAll w2 (w.heap.size + 1 + 1) 0 [.string r1.b.num, .string r1.b.gua, .string r1.b.for_, .string r1.b.to_, .string r1.b.cur, .int .i64 r1.b.amt, .int .i64 r1.b.exp, .int .i64 r1.exp, .slice D' r1.dem.length d', .slice C r1.cuts.length c] := ⟨_, rfl⟩
  have BBo : Blk w25 (w.heap.size + 1 + 1) 52 #[.string r1.b.num, .string r1.b.gua, .string r1.b.for_, .string r1.b.to_, .string r1.b.cur, .int .i64 r1.b.amt, .int .i64 r1.b.exp, .int .i64 r1.exp, .slice D' r1.dem.length d', .slice C r1.cuts.length c] := by
    rw [hw25]
    exact putAll_all BB2.out rfl
  have CHo : Chg (fun j => j = w.heap.size + 1 + 1) w2 w25 := by
    rw [hw25]
    exact putAll_chg (S := fun j => j = w.heap.size + 1 + 1) rfl _ _ _
  simp only [putAll, Nat.zero_add, Nat.reduceAdd] at hw25
  rw [← hw25]
  clear hw25
  have HF := Lib.hid (RNew.put HR.out HB.out N2.out (by omega) (by rw [HSZ.out]; omega) CHo)
  have d0 := BBo.cell 0
  have d1 := BBo.cell 1
  have d2 := BBo.cell 2
  have d3 := BBo.cell 3
  have d4 := BBo.cell 4
  have d5 := BBo.cell 5
  have d6 := BBo.cell 6
  have d7 := BBo.cell 7
  have d8 := BBo.cell 8
  have d9 := BBo.cell 9
  simp only [List.getElem?_toArray, List.getElem?_cons_zero, List.getElem?_cons_succ] at d0 d1 d2 d3 d4 d5 d6 d7 d8 d9
  refine bodyPost_ret (v := .tuple #[.agg #[.string r1.b.num, .string r1.b.gua, .string r1.b.for_, .string r1.b.to_, .string r1.b.cur, .int .i64 r1.b.amt, .int .i64 r1.b.exp, .int .i64 r1.exp, .slice D' r1.dem.length d', .slice C r1.cuts.length c], .int .i64 r2, .int .i64 r3]) (by simp [results, Try.results18, go_sem, d0, d1, d2, d3, d4, d5, d6, d7, d8, d9]) rfl ?_
  exact ⟨D', d', C, c, rfl, HF.out⟩
end Go.Proofs.Ytlmlepdmgopojaa
