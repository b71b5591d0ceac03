/- The reference's Pay. Condition: how its two slices lie. -/
import Derived.Test.YtlmlepdmgopojaaRefAsk
namespace Go.Proofs.Ytlmlepdmgopojaa
open Go.RowKit
set_option linter.unusedVariables false
set_option linter.unusedSimpArgs false
set_option maxRecDepth 100000 in
set_option maxHeartbeats 8000000 in
theorem rpay_any (s : Sur) (d c : Nat) (D C : Option Addr) (w : World) (h : RefAt w s D C) {K : Nat} (ok : s.ok K) (hK : K ≤ 4096) (n : Int) :
    Calls Try.prog 44 #[refV s D d C c, .int .i64 n] w fun e w' => ∃ D' d', e = .returned (.tuple #[refV (s.pay n).1 D' d' C c, .int .i64 (s.pay n).2.1, .int .i64 (s.pay n).2.2]) ∧ RNew w w' s (s.pay n).1 D C D' C := by
  have HB := Lib.hid (show Below w.heap.size w ((w.alloc (.cells (s.rcells D d C c) 52)).alloc (.cells zero10 52)) from ((Below.refl _ _).alloc (Nat.le_refl _) _).alloc (by simp) _)
  have HR := Lib.hid h
  have OP := Lib.hid fun v (hv : Below w.heap.size w v) => ropen_any s d c D C v (h.up hv) ok hK n
  have BA0 := Lib.hid (show Blk ((w.alloc (.cells (s.rcells D d C c) 52)).alloc (.cells zero10 52)) w.heap.size 52 (s.rcells D d C c) from (Blk.new w 52 _).alloc _)
  have BB0 := Lib.hid (show Blk ((w.alloc (.cells (s.rcells D d C c) 52)).alloc (.cells zero10 52)) (w.heap.size + 1) 52 zero10 by have := Blk.new (w.alloc (.cells (s.rcells D d C c) 52)) 52 zero10; simpa using this)
  have HDl := Lib.hid h.rd.old
  have HCl := Lib.hid h.rc.old
  have dl : s.dem.length ≤ 4096 := by have := ok.dl; omega
  by_cases h1 : s.open_ n = 0
  rotate_left
  · have e1 : s.pay n = (s, 0, s.open_ n) := by unfold Sur.pay; rw [if_pos h1]
    rw [e1]
    have h1' : (s.open_ n != 0) = true := by simpa using h1
    generalize s.open_ n = z at *
    clear h h1 e1 ok
    unfold refV at OP ⊢
    unfold Sur.rcells at OP BA0 HB BB0 ⊢
    unfold zero10 at HB BA0 BB0
    go_enter Try.func44, Try.ntmps44
    go_wp2_with fail
    refine (OP.out _ HB.out).mono ?_
    rintro e w2 ⟨rfl, hb2⟩
    have B2 := Lib.hid (below_trans HB.out hb2)
    have BA2 := Lib.hid (BA0.out.below hb2 BA0.out.lt)
    have BB2 := Lib.hid (BB0.out.below hb2 BB0.out.lt)
    obtain ⟨q0, q1, q2, q3, q4, q5, q6, q7, q8, q9⟩ := ten_ (s := s) BA2.out
    obtain ⟨z0, z1, z2, z3, z4, z5, z6, z7, z8, z9⟩ := zten_ BB2.out
    obtain ⟨f0, f1, f2, f3, f4, f5, f6, f7, f8, f9⟩ := froz10 BB2.out
    have lA := BA2.out.lt
    have lB := BB2.out.lt
    clear hb2 OP BA0 BB0 HB
    go_wp2_with fail
    obtain ⟨w5, hw5⟩ : ∃ w5, w5 = putAll w2 (w.heap.size + 1) 0 [.string s.b.num, .string s.b.gua, .string s.b.for_, .string s.b.to_, .string s.b.cur, .int .i64 s.b.amt, .int .i64 s.b.exp, .int .i64 s.exp, .slice D s.dem.length d, .slice C s.cuts.length c] := ⟨_, rfl⟩
    have BBo : Hid (Blk w5 (w.heap.size + 1) 52 #[.string s.b.num, .string s.b.gua, .string s.b.for_, .string s.b.to_, .string s.b.cur, .int .i64 s.b.amt, .int .i64 s.b.exp, .int .i64 s.exp, .slice D s.dem.length d, .slice C s.cuts.length c]) := by
      show Blk w5 _ _ _
      rw [hw5]
      exact putAll_all BB2.out rfl
    have CHo := Lib.hid (show Chg (fun j => j = w.heap.size + 1) w2 w5 by rw [hw5]; exact putAll_chg (S := fun j => j = w.heap.size + 1) rfl _ _ _)
    simp only [putAll, Nat.zero_add, Nat.reduceAdd] at hw5
    rw [← hw5]
    have FIN : RNew w w5 s s D C D C := ⟨(HR.out.up B2.out).chg0 (w := w) CHo.out (fun h0 j hj e => by have := HDl.out h0 j hj; omega) (fun h0 j hj e => by have := HCl.out h0 j hj; omega), B2.out.trans (CHo.out.below B2.out.size fun j hj => by omega), .inl ⟨rfl, rfl⟩, .inl ⟨rfl, rfl⟩⟩
    have HF := Lib.hid FIN
    have BBo' := BBo.out
    have d0 := BBo'.cell 0
    have d1 := BBo'.cell 1
    have d2 := BBo'.cell 2
    have d3 := BBo'.cell 3
    have d4 := BBo'.cell 4
    have d5 := BBo'.cell 5
    have d6 := BBo'.cell 6
    have d7 := BBo'.cell 7
    have d8 := BBo'.cell 8
    have d9 := BBo'.cell 9
    simp only [List.getElem?_toArray, List.getElem?_cons_zero, List.getElem?_cons_succ] at d0 d1 d2 d3 d4 d5 d6 d7 d8 d9
    refine bodyPost_ret (v := .tuple #[.agg #[.string s.b.num, .string s.b.gua, .string s.b.for_, .string s.b.to_, .string s.b.cur, .int .i64 s.b.amt, .int .i64 s.b.exp, .int .i64 s.exp, .slice D s.dem.length d, .slice C s.cuts.length c], .int .i64 0, .int .i64 z]) (by simp [results, Try.results44, go_sem, d0, d1, d2, d3, d4, d5, d6, d7, d8, d9]) rfl ?_
    exact ⟨D, d, rfl, HF.out⟩
  · obtain ⟨g1, g2, x, hx, hx0⟩ := open_some h1
    obtain ⟨k, rfl⟩ := Int.eq_ofNat_of_zero_le g1
    rw [Int.toNat_natCast] at hx
    rw [h1] at OP
    have e1 : s.pay k = (({ s with dem := setSt s.dem k 1 } : Sur), x.amt, (0 : Int)) := by unfold Sur.pay; rw [if_neg (by simp [h1])]; simp [hx]
    rw [e1]
    have hk : k < s.dem.length := by omega
    have hkI : (k : Int) < s.dem.length := by omega
    obtain ⟨a, y, rfl, hy, hblk, c0, c1, c2⟩ := h.rd.at_ hk
    obtain rfl := Option.some.inj (hx.symm.trans hy)
    have C1 := Lib.hid c1
    have HBK := Lib.hid (show (a.add (k * 3)).block < w.heap.size from hblk)
    have ST := Lib.hid fun (v : World) (hv : RefAt v s (some a) C) => rstand_any s d c (some a) C v hv dl k x hx 1
    clear h h1 e1 ok g1 g2 hx hx0 hy c0 c1 c2 hblk
    unfold refV at OP ST ⊢
    unfold Sur.rcells at OP BA0 HB BB0 ST ⊢
    simp only [setSt_len] at ST ⊢
    unfold zero10 at HB BA0 BB0
    go_enter Try.func44, Try.ntmps44
    go_wp2_with fail
    refine (OP.out _ HB.out).mono ?_
    rintro e w2 ⟨rfl, hb2⟩
    have B2 := Lib.hid (below_trans HB.out hb2)
    have BA2 := Lib.hid (BA0.out.below hb2 BA0.out.lt)
    have BB2 := Lib.hid (BB0.out.below hb2 BB0.out.lt)
    have cA : w2.cell? ⟨(a.add (k * 3)).block, (a.add (k * 3)).off + 1, none⟩ = some (.int .i64 x.amt) := (B2.out.cell (p := ⟨(a.add (k * 3)).block, (a.add (k * 3)).off + 1, none⟩) HBK.out).trans C1.out
    obtain ⟨q0, q1, q2, q3, q4, q5, q6, q7, q8, q9⟩ := ten_ (s := s) (D := some a) BA2.out
    clear hb2 OP BA0 BB0 HB
    go_upto_region 4 with fail
    · refine region_Z (z := 99) (S := fun v => v.cell? ⟨w.heap.size, 0, none⟩ = some (.string s.b.num) ∧ v.cell? ⟨w.heap.size, 1, none⟩ = some (.string s.b.gua) ∧ v.cell? ⟨w.heap.size, 2, none⟩ = some (.string s.b.for_) ∧ v.cell? ⟨w.heap.size, 3, none⟩ = some (.string s.b.to_) ∧ v.cell? ⟨w.heap.size, 4, none⟩ = some (.string s.b.cur) ∧ v.cell? ⟨w.heap.size, 5, none⟩ = some (.int .i64 s.b.amt) ∧ v.cell? ⟨w.heap.size, 6, none⟩ = some (.int .i64 s.b.exp) ∧ v.cell? ⟨w.heap.size, 7, none⟩ = some (.int .i64 s.exp) ∧ v.cell? ⟨w.heap.size, 8, none⟩ = some (.slice (some a) s.dem.length d) ∧ v.cell? ⟨w.heap.size, 9, none⟩ = some (.slice C s.cuts.length c) ∧ v.cell? ⟨(a.add (k * 3)).block, (a.add (k * 3)).off + 1, none⟩ = some (.int .i64 x.amt)) (by kernel_rfl) ?_
      have hS0 := Lib.hid (show (fun v => v.cell? ⟨w.heap.size, 0, none⟩ = some (.string s.b.num) ∧ v.cell? ⟨w.heap.size, 1, none⟩ = some (.string s.b.gua) ∧ v.cell? ⟨w.heap.size, 2, none⟩ = some (.string s.b.for_) ∧ v.cell? ⟨w.heap.size, 3, none⟩ = some (.string s.b.to_) ∧ v.cell? ⟨w.heap.size, 4, none⟩ = some (.string s.b.cur) ∧ v.cell? ⟨w.heap.size, 5, none⟩ = some (.int .i64 s.b.amt) ∧ v.cell? ⟨w.heap.size, 6, none⟩ = some (.int .i64 s.b.exp) ∧ v.cell? ⟨w.heap.size, 7, none⟩ = some (.int .i64 s.exp) ∧ v.cell? ⟨w.heap.size, 8, none⟩ = some (.slice (some a) s.dem.length d) ∧ v.cell? ⟨w.heap.size, 9, none⟩ = some (.slice C s.cuts.length c) ∧ v.cell? ⟨(a.add (k * 3)).block, (a.add (k * 3)).off + 1, none⟩ = some (.int .i64 x.amt)) w2.drew from ⟨q0, q1, q2, q3, q4, q5, q6, q7, q8, q9, cA⟩)
      show AnyZ _ _ _ _ _ _ 12 (List.replicate 12 false).toArray _ _
      first
        | refine AnyZ.takeD (i := 0) (some 15) (v := ?_) rfl (by rfl) (by kernel_rfl) (by kernel_rfl) (by kernel_rfl) (by kernel_rfl) (by kernel_rfl) (fun _ _ _ h => h) (by rfl) (fun v hv => ?_) hS0.out ?_
          rotate_left
          · obtain ⟨s0, s1, s2, s3, s4, s5, s6, s7, s8, s9, s10⟩ := hv
            go_simp
            try with_reducible rfl
        | refine AnyZ.skipD (i := 0) (some 15) rfl (by rfl) (by kernel_rfl) (by kernel_rfl) (by kernel_rfl) (by kernel_rfl) (by kernel_rfl) (fun _ _ _ h => h) (by rfl) hS0.out ?_
      try simp only [Act.put, List.setIfInBounds_toArray, List.set_cons_zero, List.set_cons_succ]
      first
        | refine AnyZ.takeD (i := 1) (some 16) (v := ?_) rfl (by rfl) (by kernel_rfl) (by kernel_rfl) (by kernel_rfl) (by kernel_rfl) (by kernel_rfl) (fun _ _ _ h => h) (by rfl) (fun v hv => ?_) hS0.out ?_
          rotate_left
          · obtain ⟨s0, s1, s2, s3, s4, s5, s6, s7, s8, s9, s10⟩ := hv
            go_simp
            try with_reducible rfl
        | refine AnyZ.skipD (i := 1) (some 16) rfl (by rfl) (by kernel_rfl) (by kernel_rfl) (by kernel_rfl) (by kernel_rfl) (by kernel_rfl) (fun _ _ _ h => h) (by rfl) hS0.out ?_
      try simp only [Act.put, List.setIfInBounds_toArray, List.set_cons_zero, List.set_cons_succ]
      first
        | refine AnyZ.takeD (i := 3) (some 18) (v := ?_) rfl (by rfl) (by kernel_rfl) (by kernel_rfl) (by kernel_rfl) (by kernel_rfl) (by kernel_rfl) (fun _ _ _ h => h) (by rfl) (fun v hv => ?_) hS0.out ?_
          rotate_left
          · obtain ⟨s0, s1, s2, s3, s4, s5, s6, s7, s8, s9, s10⟩ := hv
            go_simp
            try with_reducible rfl
        | refine AnyZ.skipD (i := 3) (some 18) rfl (by rfl) (by kernel_rfl) (by kernel_rfl) (by kernel_rfl) (by kernel_rfl) (by kernel_rfl) (fun _ _ _ h => h) (by rfl) hS0.out ?_
      try simp only [Act.put, List.setIfInBounds_toArray, List.set_cons_zero, List.set_cons_succ]
      first
        | refine AnyZ.takeD (i := 4) (some 19) (v := ?_) rfl (by rfl) (by kernel_rfl) (by kernel_rfl) (by kernel_rfl) (by kernel_rfl) (by kernel_rfl) (fun _ _ _ h => h) (by rfl) (fun v hv => ?_) hS0.out ?_
          rotate_left
          · obtain ⟨s0, s1, s2, s3, s4, s5, s6, s7, s8, s9, s10⟩ := hv
            go_simp
            try with_reducible rfl
        | refine AnyZ.skipD (i := 4) (some 19) rfl (by rfl) (by kernel_rfl) (by kernel_rfl) (by kernel_rfl) (by kernel_rfl) (by kernel_rfl) (fun _ _ _ h => h) (by rfl) hS0.out ?_
      try simp only [Act.put, List.setIfInBounds_toArray, List.set_cons_zero, List.set_cons_succ]
      first
        | refine AnyZ.takeD (i := 5) (some 20) (v := ?_) rfl (by rfl) (by kernel_rfl) (by kernel_rfl) (by kernel_rfl) (by kernel_rfl) (by kernel_rfl) (fun _ _ _ h => h) (by rfl) (fun v hv => ?_) hS0.out ?_
          rotate_left
          · obtain ⟨s0, s1, s2, s3, s4, s5, s6, s7, s8, s9, s10⟩ := hv
            go_simp
            try with_reducible rfl
        | refine AnyZ.skipD (i := 5) (some 20) rfl (by rfl) (by kernel_rfl) (by kernel_rfl) (by kernel_rfl) (by kernel_rfl) (by kernel_rfl) (fun _ _ _ h => h) (by rfl) hS0.out ?_
      try simp only [Act.put, List.setIfInBounds_toArray, List.set_cons_zero, List.set_cons_succ]
      first
        | refine AnyZ.takeD (i := 6) (some 21) (v := ?_) rfl (by rfl) (by kernel_rfl) (by kernel_rfl) (by kernel_rfl) (by kernel_rfl) (by kernel_rfl) (fun _ _ _ h => h) (by rfl) (fun v hv => ?_) hS0.out ?_
          rotate_left
          · obtain ⟨s0, s1, s2, s3, s4, s5, s6, s7, s8, s9, s10⟩ := hv
            go_simp
            try with_reducible rfl
        | refine AnyZ.skipD (i := 6) (some 21) rfl (by rfl) (by kernel_rfl) (by kernel_rfl) (by kernel_rfl) (by kernel_rfl) (by kernel_rfl) (fun _ _ _ h => h) (by rfl) hS0.out ?_
      try simp only [Act.put, List.setIfInBounds_toArray, List.set_cons_zero, List.set_cons_succ]
      first
        | refine AnyZ.takeD (i := 7) (some 22) (v := ?_) rfl (by rfl) (by kernel_rfl) (by kernel_rfl) (by kernel_rfl) (by kernel_rfl) (by kernel_rfl) (fun _ _ _ h => h) (by rfl) (fun v hv => ?_) hS0.out ?_
          rotate_left
          · obtain ⟨s0, s1, s2, s3, s4, s5, s6, s7, s8, s9, s10⟩ := hv
            go_simp
            try with_reducible rfl
        | refine AnyZ.skipD (i := 7) (some 22) rfl (by rfl) (by kernel_rfl) (by kernel_rfl) (by kernel_rfl) (by kernel_rfl) (by kernel_rfl) (fun _ _ _ h => h) (by rfl) hS0.out ?_
      try simp only [Act.put, List.setIfInBounds_toArray, List.set_cons_zero, List.set_cons_succ]
      first
        | refine AnyZ.takeD (i := 8) (some 23) (v := ?_) rfl (by rfl) (by kernel_rfl) (by kernel_rfl) (by kernel_rfl) (by kernel_rfl) (by kernel_rfl) (fun _ _ _ h => h) (by rfl) (fun v hv => ?_) hS0.out ?_
          rotate_left
          · obtain ⟨s0, s1, s2, s3, s4, s5, s6, s7, s8, s9, s10⟩ := hv
            go_simp
            try with_reducible rfl
        | refine AnyZ.skipD (i := 8) (some 23) rfl (by rfl) (by kernel_rfl) (by kernel_rfl) (by kernel_rfl) (by kernel_rfl) (by kernel_rfl) (fun _ _ _ h => h) (by rfl) hS0.out ?_
      try simp only [Act.put, List.setIfInBounds_toArray, List.set_cons_zero, List.set_cons_succ]
      refine AnyZ.one (i := 2) (by kernel_rfl) rfl (by rfl) fun K2 hK2 => ?_
      go_simp
      refine (ST.out _ ((HR.out.up B2.out).up (Below.refl _ _).drew)).mono ?_
      rintro e w4 ⟨D', d', rfl, hn⟩
      have N4 := Lib.hid hn
      have BA4 := Lib.hid ((show Blk w2.drew _ _ _ from BA2.out).below hn.fr BA2.out.lt)
      have BB4 := Lib.hid ((show Blk w2.drew _ _ _ from BB2.out).below hn.fr BB2.out.lt)
      have B4 := Lib.hid (below_trans B2.out.drew hn.fr)
      have HS4 := Lib.hid (show w.heap.size + 1 < w2.drew.heap.size from BB2.out.lt)
      obtain ⟨r0, r1, r2, r3, r4, r5, r6, r7, r8, r9⟩ := ten_ (s := s) (D := some a) BA4.out
      have cA4 : w4.cell? ⟨(a.add (k * 3)).block, (a.add (k * 3)).off + 1, none⟩ = some (.int .i64 x.amt) := (B4.out.cell (p := ⟨(a.add (k * 3)).block, (a.add (k * 3)).off + 1, none⟩) HBK.out).trans C1.out
      obtain ⟨z0, z1, z2, z3, z4, z5, z6, z7, z8, z9⟩ := zten_ BB4.out
      obtain ⟨f0, f1, f2, f3, f4, f5, f6, f7, f8, f9⟩ := froz10 BB4.out
      have lB4 := BB4.out.lt
      clear hn q0 q1 q2 q3 q4 q5 q6 q7 q8 q9 cA
      try go_wp2_with fail
      refine hK2.out _ _ (.inr ⟨r0, r1, r2, r3, r4, r5, r6, r7, r8, r9, cA4⟩) fun _ => ?_
      try simp only [Act.put, List.setIfInBounds_toArray, List.set_cons_zero, List.set_cons_succ]
      refine AnyZ.one (i := 9) (by kernel_rfl) rfl (by rfl) fun K9 hK9 => ?_
      go_simp
      obtain ⟨w5, hw5⟩ : ∃ w5, w5 = putAll w4 (w.heap.size + 1) 0 [.string s.b.num, .string s.b.gua, .string s.b.for_, .string s.b.to_, .string s.b.cur, .int .i64 s.b.amt, .int .i64 s.b.exp, .int .i64 s.exp, .slice D' s.dem.length d', .slice C s.cuts.length c] := ⟨_, rfl⟩
      have BBo : Blk w5 (w.heap.size + 1) 52 #[.string s.b.num, .string s.b.gua, .string s.b.for_, .string s.b.to_, .string s.b.cur, .int .i64 s.b.amt, .int .i64 s.b.exp, .int .i64 s.exp, .slice D' s.dem.length d', .slice C s.cuts.length c] := by
        rw [hw5]
        exact putAll_all BB4.out rfl
      have CHo := Lib.hid (show Chg (fun j => j = w.heap.size + 1) w4 w5 by rw [hw5]; exact putAll_chg (S := fun j => j = w.heap.size + 1) rfl _ _ _)
      simp only [putAll, Nat.zero_add, Nat.reduceAdd] at hw5
      rw [← hw5]
      have BA5 := Lib.hid (CHo.out.blk BA4.out (by omega))
      obtain ⟨t0, t1, t2, t3, t4, t5, t6, t7, t8, t9⟩ := ten_ (s := s) (D := some a) BA5.out
      have cA5 : w5.cell? ⟨(a.add (k * 3)).block, (a.add (k * 3)).off + 1, none⟩ = some (.int .i64 x.amt) := (CHo.out.cell (a := ⟨(a.add (k * 3)).block, (a.add (k * 3)).off + 1, none⟩) (by have := HBK.out; have := HS4.out; have := B4.out.size; show (a.add (k * 3)).block < _; omega) (by have := HBK.out; show ¬ (a.add (k * 3)).block = _; omega)).trans cA4
      refine hK9.out _ _ (.inr ⟨t0, t1, t2, t3, t4, t5, t6, t7, t8, t9, cA5⟩) fun hS5 => ?_
      have HS5 := Lib.hid (hS5.resolve_right (by decide))
      clear hS5
      try simp only [Act.put, List.setIfInBounds_toArray, List.set_cons_zero, List.set_cons_succ]
      first
        | refine AnyZ.takeD (i := 10) (some 5) (v := ?_) rfl (by rfl) (by kernel_rfl) (by kernel_rfl) (by kernel_rfl) (by kernel_rfl) (by kernel_rfl) (fun _ _ _ h => h) (by rfl) (fun v hv => ?_) HS5.out ?_
          rotate_left
          · obtain ⟨s0, s1, s2, s3, s4, s5, s6, s7, s8, s9, s10⟩ := hv
            go_simp
            try with_reducible rfl
        | refine AnyZ.skipD (i := 10) (some 5) rfl (by rfl) (by kernel_rfl) (by kernel_rfl) (by kernel_rfl) (by kernel_rfl) (by kernel_rfl) (fun _ _ _ h => h) (by rfl) HS5.out ?_
      try simp only [Act.put, List.setIfInBounds_toArray, List.set_cons_zero, List.set_cons_succ]
      first
        | refine AnyZ.takeD (i := 11) (some 6) (v := ?_) rfl (by rfl) (by kernel_rfl) (by kernel_rfl) (by kernel_rfl) (by kernel_rfl) (by kernel_rfl) (fun _ _ _ h => h) (by rfl) (fun v hv => ?_) HS5.out ?_
          rotate_left
          · obtain ⟨s0, s1, s2, s3, s4, s5, s6, s7, s8, s9, s10⟩ := hv
            go_simp
            try with_reducible rfl
        | refine AnyZ.skipD (i := 11) (some 6) rfl (by rfl) (by kernel_rfl) (by kernel_rfl) (by kernel_rfl) (by kernel_rfl) (by kernel_rfl) (fun _ _ _ h => h) (by rfl) HS5.out ?_
      try simp only [Act.put, List.setIfInBounds_toArray, List.set_cons_zero, List.set_cons_succ]
      refine AnyZ.done (by kernel_rfl) ?_ _
      have FIN : RNew w w5 s { s with dem := setSt s.dem k 1 } (some a) C D' C := by
        refine ⟨N4.out.at_.chg0 (w := w) CHo.out (fun h0 j hj e => ?_) (fun h0 j hj e => ?_), B4.out.trans (CHo.out.below B4.out.size fun j hj => by omega), ?_, .inl ⟨rfl, rfl⟩⟩
        · have h9 : (setSt s.dem k 1).length = s.dem.length := setSt_len _ _ _
          rcases N4.out.fd with ⟨rfl, _⟩ | hf
          · have := HDl.out (by show 0 < s.dem.length; have : 0 < (setSt s.dem k 1).length := h0; omega) j hj
            omega
          · have := hf j hj
            have := HS4.out
            omega
        · have := HCl.out h0 j hj
          omega
        · rcases N4.out.fd with h9 | hf
          · exact .inl h9
          · exact .inr fun j hj => Nat.le_trans B2.out.size (hf j hj)
      have HF := Lib.hid FIN
      have d0 := BBo.cell 0
      have d1 := BBo.cell 1
      have d2 := BBo.cell 2
      have d3 := BBo.cell 3
      have d4 := BBo.cell 4
      have d5 := BBo.cell 5
      have d6 := BBo.cell 6
      have d7 := BBo.cell 7
      have d8 := BBo.cell 8
      have d9 := BBo.cell 9
      simp only [List.getElem?_toArray, List.getElem?_cons_zero, List.getElem?_cons_succ] at d0 d1 d2 d3 d4 d5 d6 d7 d8 d9
      clear hw5 BBo FIN r0 r1 r2 r3 r4 r5 r6 r7 r8 r9 cA4 cA5 z0 z1 z2 z3 z4 z5 z6 z7 z8 z9 f0 f1 f2 f3 f4 f5 f6 f7 f8 f9 t0 t1 t2 t3 t4 t5 t6 t7 t8 t9
      go_wp2_with fail
      refine bodyPost_ret (v := .tuple #[.agg #[.string s.b.num, .string s.b.gua, .string s.b.for_, .string s.b.to_, .string s.b.cur, .int .i64 s.b.amt, .int .i64 s.b.exp, .int .i64 s.exp, .slice D' s.dem.length d', .slice C s.cuts.length c], .int .i64 x.amt, .int .i64 0]) (by simp [results, Try.results44, go_sem, d0, d1, d2, d3, d4, d5, d6, d7, d8, d9]) rfl ?_
      exact ⟨D', d', rfl, HF.out⟩
end Go.Proofs.Ytlmlepdmgopojaa
