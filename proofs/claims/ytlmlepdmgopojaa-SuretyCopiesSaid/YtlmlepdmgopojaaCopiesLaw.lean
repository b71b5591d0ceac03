/- SuretyCopies' walk. Condition: where the acts lie; the sizes of the bond's texts. -/
import Derived.Test.YtlmlepdmgopojaaCopStB
import Derived.Test.YtlmlepdmgopojaaSinkC
namespace Go.Proofs.Ytlmlepdmgopojaa
open Go.RowKit
set_option linter.unusedVariables false
set_option linter.unusedSimpArgs false
set_option maxRecDepth 100000 in
set_option maxHeartbeats 8000000 in
theorem copiesLaw_any (b : Bnd) (hb : b.wf) (A : Option Addr) (n c : Nat) (l : List Act') (A2 : Option Addr) (n2 c2 : Nat) (l2 : List Act') (day : Int) (w : World) (h : Acts w w.heap.size A n l) (hn : n ≤ maxLen) (h2 : Acts w w.heap.size A2 n2 l2) (hn2 : n2 ≤ maxLen) :
    Calls Try.prog 6 #[bndV b, .slice A n c, .slice A2 n2 c2, .int .i64 day] w fun e w' => e = .returned (.bool true) ∧ Below w.heap.size w w' := by
  unfold maxLen at hn hn2
  have K0 := Lib.hid (Kb.new w b)
  have NM := Lib.hid fun v => new_m b hb v
  have HA := Lib.hid h
  have HA2 := Lib.hid h2
  have hl := h.1
  have hl2 := h2.1
  clear h h2
  unfold bndV at NM ⊢
  unfold Bnd.cells at NM ⊢
  by_cases h40 : 40 < n
  · have q : (40 : Int) < n := by omega
    clear hl h40 hl2
    go_enter Try.func6, Try.ntmps6
    go_wp2_with fail
    refine (awake_any _).mono ?_
    rintro e w1 ⟨rfl, hb1⟩
    have K1 := Lib.hid ((show Kb w b _ from K0.out).step hb1)
    clear hb1 K0
    go_wp2_with fail
    refine (awake_any _).mono ?_
    rintro e w2 ⟨rfl, hb2⟩
    have K2 := Lib.hid (K1.out.step hb2)
    clear hb2 K1
    go_wp2_with fail
    go_ret
    exact ⟨rfl, K2.out.1⟩
  have q : (n : Int) ≤ 40 := by omega
  have hn40 : n ≤ 40 := by omega
  by_cases h41 : 40 < n2
  · have q2 : (40 : Int) < n2 := by omega
    clear hl h40 hl2 h41
    go_enter Try.func6, Try.ntmps6
    go_wp2_with fail
    refine (awake_any _).mono ?_
    rintro e w1 ⟨rfl, hb1⟩
    have K1 := Lib.hid ((show Kb w b _ from K0.out).step hb1)
    clear hb1 K0
    go_wp2_with fail
    refine (awake_any _).mono ?_
    rintro e w2 ⟨rfl, hb2⟩
    have K2 := Lib.hid (K1.out.step hb2)
    clear hb2 K1
    go_wp2_with fail
    go_ret
    exact ⟨rfl, K2.out.1⟩
  have q2 : (n2 : Int) ≤ 40 := by omega
  have hn41 : n2 ≤ 40 := by omega
  have HL := Lib.hid hl
  have HL2 := Lib.hid hl2
  clear h40 h41 hl hl2
  go_enter Try.func6, Try.ntmps6
  go_wp2_with fail
  refine (awake_any _).mono ?_
  rintro e w1 ⟨rfl, hb1⟩
  have K1 := Lib.hid ((show Kb w b _ from K0.out).step hb1)
  obtain ⟨p0, p1, p2, p3, p4, p5, p6⟩ := K1.out.seven
  clear hb1 K0
  go_wp2_with fail
  refine (NM.out _).mono ?_
  rintro e w2 (⟨hm, g, rfl, hmine⟩ | ⟨hm, rfl, hb3⟩)
  rotate_left
  · have K2 := Lib.hid (K1.out.step hb3)
    clear hm hb3
    go_wp2_with fail
    go_ret
    exact ⟨rfl, K2.out.1⟩
  have OK := Lib.hid (sur0_ok hm)
  have M2 : Hid (CSt w1 (w2.alloc (.cells ((sur0 b).rcells none 0 none 0) 52)) g w2.heap.size (sur0 b) (sur0 b)) := by
    obtain ⟨O, h1, h2, h3⟩ := hmine
    obtain ⟨O1, g1, g2, g3⟩ := h1.small
    have hb : Below w2.heap.size w2 (w2.alloc (.cells ((sur0 b).rcells none 0 none 0) 52)) := (Below.refl _ _).alloc (Nat.le_refl _) _
    exact ⟨O1, none, none, 0, 0, g1.below hb, fun j hj => ⟨h2 j (g2 j hj), by have := g3 j hj; have := hb.size; omega⟩, Blk.new w2 52 _, ⟨Reads.none_, Reads.none_⟩, fun hj => by have := g3 _ hj; omega, fun h0 => absurd h0 (by simp [sur0]), fun h0 => absurd h0 (by simp [sur0]), h3.size, below_trans h3 hb⟩
  have K2 := Lib.hid (K1.out.step hmine.frame)
  obtain ⟨r0, r1, r2, r3, r4, r5, r6⟩ := K2.out.seven
  have lb2 := K2.out.2.lt
  clear hm hmine p0 p1 p2 p3 p4 p5 p6
  go_wp2_with fail
  go_loopw [46] (fun i v => ∃ (k : Nat), k ≤ n ∧ i = .int .i64 k ∧ Hid (CSt w1 v g w2.heap.size ((sur0 b).acts (l.take k)) ((sur0 b).acts (l.take k)))) (fun i _ => n - (intOf i).toNat)
  case atStart => exact ⟨0, Nat.zero_le _, rfl, M2⟩
  case round =>
    obtain ⟨k, hk, rfl, hm⟩ := hrel
    have KV := Lib.hid (K1.out.step hm.out.frame)
    have OKk := Lib.hid (OK.out.acts (l.take k))
    have hlk : 0 + (l.take k).length < 4096 := by simp; omega
    by_cases hlt : k < n
    · obtain ⟨a, x, rfl, hx, hwf, hblk, c0, c1, c2, c3, c4⟩ := (HA.out.up KV.out.1).at_ hlt
      have HE := Lib.hid (acts_take (sur0 b) l k x hx)
      obtain ⟨s, hs⟩ : ∃ s, s = (sur0 b).acts (l.take k) := ⟨_, rfl⟩
      rw [← hs] at HE hm OKk
      generalize 0 + (l.take k).length = K at *
      obtain ⟨D, C, d, c5, hb0, hwc⟩ := hm.out.want OKk.out hlk x hwf
      have B0 := Lib.hid hb0
      have WC := Lib.hid hwc
      have DO := Lib.hid fun v (hv : CSt w1 v g w2.heap.size s (s.act x).1) => hv.did OKk.out hlk x hwf
      clear hb0 hwc hx hwf hs
      generalize s.act x = r at *
      obtain ⟨r1, r2, r3⟩ := r
      simp only at WC DO HE
      obtain ⟨q0, q1, q2, q3, q4, q5, q6, q7, q8, q9⟩ := ten_ (s := s) B0.out
      have lh := B0.out.lt
      unfold actV Act'.cells refV at WC
      unfold actV at DO
      unfold Sur.rcells at WC
      go_wp2_with fail
      refine WC.out.mono ?_
      rintro e w4 ⟨D', d', C', c', rfl, b37, fr, bh, hst, b37'⟩
      have B37 := Lib.hid b37'
      have ST := Lib.hid hst
      obtain ⟨f0, f1, f2, f3, f4, f5, f6, f7, f8, f9⟩ := froz10 bh
      obtain ⟨z0, z1, z2, z3, z4, z5, z6, z7, z8, z9⟩ := ten_ (s := s) bh
      have lB := bh.lt
      clear b37 fr bh hst b37' q0 q1 q2 q3 q4 q5 q6 q7 q8 q9 WC B0
      go_upto_region 11 with fail
      obtain ⟨w5, hw5⟩ : ∃ w5, w5 = putAll w4 w2.heap.size 0 [.string r1.b.num, .string r1.b.gua, .string r1.b.for_, .string r1.b.to_, .string r1.b.cur, .int .i64 r1.b.amt, .int .i64 r1.b.exp, .int .i64 r1.exp, .slice D' r1.dem.length d', .slice C' r1.cuts.length c'] := ⟨_, rfl⟩
      have ST5 : Hid (CSt w1 w5 g w2.heap.size s r1) := by
        show CSt _ w5 _ _ _ _
        rw [hw5]
        exact ST.out
      have BX5 : Hid (Blk w5 wr.heap.size 37 #[.int .u8 x.kind, .string x.by_, .int .i64 x.sum, .int .i64 x.day, .int .i64 x.n]) := by
        show Blk w5 _ _ _
        rw [hw5]
        exact B37.out
      simp only [putAll, Nat.zero_add, Nat.reduceAdd] at hw5
      rw [← hw5]
      clear hw5 f0 f1 f2 f3 f4 f5 f6 f7 f8 f9 z0 z1 z2 z3 z4 z5 z6 z7 z8 z9 lB ST B37
      have y0 : w5.cell? ⟨wr.heap.size, 0, none⟩ = some (.int .u8 x.kind) := BX5.out.cell 0
      have y1 : w5.cell? ⟨wr.heap.size, 1, none⟩ = some (.string x.by_) := BX5.out.cell 1
      have y2 : w5.cell? ⟨wr.heap.size, 2, none⟩ = some (.int .i64 x.sum) := BX5.out.cell 2
      have y3 : w5.cell? ⟨wr.heap.size, 3, none⟩ = some (.int .i64 x.day) := BX5.out.cell 3
      have y4 : w5.cell? ⟨wr.heap.size, 4, none⟩ = some (.int .i64 x.n) := BX5.out.cell 4
      go_wp2_with fail
      refine (DO.out _ ST5.out).mono ?_
      rintro e w6 ⟨rfl, h6⟩
      have S6 : Hid (CSt w1 w6 g w2.heap.size ((sur0 b).acts (l.take (k + 1))) ((sur0 b).acts (l.take (k + 1)))) := by
        show CSt _ _ _ _ _ _
        rw [HE.out]
        exact h6
      clear h6 DO
      go_wp2_with fail
      go_roundw
      case rel => exact ⟨k + 1, by omega, by go_num, S6⟩
      case measure => simp [intOf]; omega
    · have hge : (n : Int) ≤ k := by omega
      have hge' : n ≤ k := by omega
      rw [List.take_of_length_le (by have := HL.out; omega)] at hm
      clear hlt OKk hlk
      obtain ⟨wq, rfl⟩ : ∃ wq, wq = wr := ⟨_, rfl⟩
      go_upto_region 13 with fail
      obtain ⟨s, hs⟩ : ∃ s, s = (sur0 b).acts l := ⟨_, rfl⟩
      have OKs := Lib.hid (OK.out.acts l)
      rw [← hs] at hm OKs
      clear hs
      have HK0 : Hid (0 + l.length ≤ 40) := by show 0 + l.length ≤ 40; have := HL.out; omega
      generalize 0 + l.length = K0 at OKs HK0
      obtain ⟨O, D, C, d, c5, u1, u2, u3, u4, u5, u6, u7, u8, u9⟩ := id hm.out
      obtain ⟨C9, c9, D9, d9, sa, _⟩ := u1
      have CP := Lib.hid fun v (hv : Below wq.heap.size wq v) => copy_any (sa.below hv) OKs.out (by have := HK0.out; omega)
      have BH := Lib.hid u3
      have RA := Lib.hid u4
      have KW := Lib.hid (K1.out.step hm.out.frame)
      have M1r := Lib.hid hm.out
      clear u2 u3 u4 u5 u6 u7 u8 u9 sa hm KV K2 r0 r1 r2 r3 r4 r5 r6 lb2
      refine region_Z (z := 99) (S := fun v => v.cell? ⟨w2.heap.size, 0, none⟩ = some (.string s.b.num) ∧ v.cell? ⟨w2.heap.size, 1, none⟩ = some (.string s.b.gua) ∧ v.cell? ⟨w2.heap.size, 2, none⟩ = some (.string s.b.for_) ∧ v.cell? ⟨w2.heap.size, 3, none⟩ = some (.string s.b.to_) ∧ v.cell? ⟨w2.heap.size, 4, none⟩ = some (.string s.b.cur) ∧ v.cell? ⟨w2.heap.size, 5, none⟩ = some (.int .i64 s.b.amt) ∧ v.cell? ⟨w2.heap.size, 6, none⟩ = some (.int .i64 s.b.exp) ∧ v.cell? ⟨w2.heap.size, 7, none⟩ = some (.int .i64 s.exp) ∧ v.cell? ⟨w2.heap.size, 8, none⟩ = some (.slice D s.dem.length d) ∧ v.cell? ⟨w2.heap.size, 9, none⟩ = some (.slice C s.cuts.length c5)) (by kernel_rfl) ?_
      have hS0 := Lib.hid (show (fun v => v.cell? ⟨w2.heap.size, 0, none⟩ = some (.string s.b.num) ∧ v.cell? ⟨w2.heap.size, 1, none⟩ = some (.string s.b.gua) ∧ v.cell? ⟨w2.heap.size, 2, none⟩ = some (.string s.b.for_) ∧ v.cell? ⟨w2.heap.size, 3, none⟩ = some (.string s.b.to_) ∧ v.cell? ⟨w2.heap.size, 4, none⟩ = some (.string s.b.cur) ∧ v.cell? ⟨w2.heap.size, 5, none⟩ = some (.int .i64 s.b.amt) ∧ v.cell? ⟨w2.heap.size, 6, none⟩ = some (.int .i64 s.b.exp) ∧ v.cell? ⟨w2.heap.size, 7, none⟩ = some (.int .i64 s.exp) ∧ v.cell? ⟨w2.heap.size, 8, none⟩ = some (.slice D s.dem.length d) ∧ v.cell? ⟨w2.heap.size, 9, none⟩ = some (.slice C s.cuts.length c5)) (wq).drew from ⟨BH.out.cell 0, BH.out.cell 1, BH.out.cell 2, BH.out.cell 3, BH.out.cell 4, BH.out.cell 5, BH.out.cell 6, BH.out.cell 7, BH.out.cell 8, BH.out.cell 9⟩)
      show AnyZ _ _ _ _ _ _ 6 (List.replicate 6 false).toArray _ _
      first
        | refine AnyZ.takeD (i := 0) (some 61) (v := ?_) rfl (by rfl) (by kernel_rfl) (by kernel_rfl) (by kernel_rfl) (by kernel_rfl) (by kernel_rfl) (fun _ _ _ h => h) (by rfl) (fun v hv => ?_) hS0.out ?_
          rotate_left
          · obtain ⟨s0, s1, s2, s3, s4, s5, s6, s7, s8, s9⟩ := hv
            go_simp
            try with_reducible rfl
        | refine AnyZ.skipD (i := 0) (some 61) rfl (by rfl) (by kernel_rfl) (by kernel_rfl) (by kernel_rfl) (by kernel_rfl) (by kernel_rfl) (fun _ _ _ h => h) (by rfl) hS0.out ?_
      try simp only [Act.put, List.setIfInBounds_toArray, List.set_cons_zero, List.set_cons_succ]
      first
        | refine AnyZ.takeD (i := 2) (some 63) (v := ?_) rfl (by rfl) (by kernel_rfl) (by kernel_rfl) (by kernel_rfl) (by kernel_rfl) (by kernel_rfl) (fun _ _ _ h => h) (by rfl) (fun v hv => ?_) hS0.out ?_
          rotate_left
          · obtain ⟨s0, s1, s2, s3, s4, s5, s6, s7, s8, s9⟩ := hv
            go_simp
            try with_reducible rfl
        | refine AnyZ.skipD (i := 2) (some 63) rfl (by rfl) (by kernel_rfl) (by kernel_rfl) (by kernel_rfl) (by kernel_rfl) (by kernel_rfl) (fun _ _ _ h => h) (by rfl) hS0.out ?_
      try simp only [Act.put, List.setIfInBounds_toArray, List.set_cons_zero, List.set_cons_succ]
      refine AnyZ.two (i := 1) (j := 3) (by kernel_rfl) rfl rfl (by rfl) (by rfl) (fun K1' hK1 => ?_) (fun K3 hK3 => ?_)
      · go_simp
        refine (CP.out _ (Below.refl _ _).drew).mono ?_
        rintro e v1 ⟨O', rfl, hat, hge2, hb1⟩
        have B1 := Lib.hid (show Below wq.heap.size wq v1 from (Below.refl _ wq).drew.trans hb1)
        have BH1 := Lib.hid (BH.out.below B1.out BH.out.lt)
        have NP := Lib.hid (cst_new1 (C := C) (D := D) (v := wq) d c5 hat hge2 B1.out RA.out)
        have hS1 := Lib.hid (show (fun v => v.cell? ⟨w2.heap.size, 0, none⟩ = some (.string s.b.num) ∧ v.cell? ⟨w2.heap.size, 1, none⟩ = some (.string s.b.gua) ∧ v.cell? ⟨w2.heap.size, 2, none⟩ = some (.string s.b.for_) ∧ v.cell? ⟨w2.heap.size, 3, none⟩ = some (.string s.b.to_) ∧ v.cell? ⟨w2.heap.size, 4, none⟩ = some (.string s.b.cur) ∧ v.cell? ⟨w2.heap.size, 5, none⟩ = some (.int .i64 s.b.amt) ∧ v.cell? ⟨w2.heap.size, 6, none⟩ = some (.int .i64 s.b.exp) ∧ v.cell? ⟨w2.heap.size, 7, none⟩ = some (.int .i64 s.exp) ∧ v.cell? ⟨w2.heap.size, 8, none⟩ = some (.slice D s.dem.length d) ∧ v.cell? ⟨w2.heap.size, 9, none⟩ = some (.slice C s.cuts.length c5)) v1 from ⟨BH1.out.cell 0, BH1.out.cell 1, BH1.out.cell 2, BH1.out.cell 3, BH1.out.cell 4, BH1.out.cell 5, BH1.out.cell 6, BH1.out.cell 7, BH1.out.cell 8, BH1.out.cell 9⟩)
        clear hat hge2 hb1
        try go_wp2_with fail
        refine hK1.out _ _ (.inr hS1.out) fun _ => ?_
        try simp only [Act.put, List.setIfInBounds_toArray, List.set_cons_zero, List.set_cons_succ]
        refine AnyZ.one (i := 3) (by kernel_rfl) rfl (by rfl) fun K3 hK3 => ?_
        go_simp
        have BH2 := Lib.hid (BH1.out.alloc (.cells zero10 52))
        refine hK3.out _ _ (.inr ⟨BH2.out.cell 0, BH2.out.cell 1, BH2.out.cell 2, BH2.out.cell 3, BH2.out.cell 4, BH2.out.cell 5, BH2.out.cell 6, BH2.out.cell 7, BH2.out.cell 8, BH2.out.cell 9⟩) fun hS3 => ?_
        try simp only [Act.put, List.setIfInBounds_toArray, List.set_cons_zero, List.set_cons_succ]
        refine AnyZ.one (i := 4) (by kernel_rfl) rfl (by rfl) fun K4 hK4 => ?_
        go_simp
        refine hK4.out _ _ (.inr (hS3.resolve_right (by decide))) fun hS4 => ?_
        try simp only [Act.put, List.setIfInBounds_toArray, List.set_cons_zero, List.set_cons_succ]
        refine AnyZ.one (i := 5) (by kernel_rfl) rfl (by rfl) fun K5 hK5 => ?_
        go_simp
        refine hK5.out _ _ (.inr ⟨(BH1.out.alloc _).cell 0, (BH1.out.alloc _).cell 1, (BH1.out.alloc _).cell 2, (BH1.out.alloc _).cell 3, (BH1.out.alloc _).cell 4, (BH1.out.alloc _).cell 5, (BH1.out.alloc _).cell 6, (BH1.out.alloc _).cell 7, (BH1.out.alloc _).cell 8, (BH1.out.alloc _).cell 9⟩) fun _ => ?_
        refine AnyZ.done (by kernel_rfl) ?_ _
        obtain ⟨w9, hw9⟩ : ∃ w9, w9 = v1.alloc (.cells #[.string s.b.num, .string s.b.gua, .string s.b.for_, .string s.b.to_, .string s.b.cur, .int .i64 s.b.amt, .int .i64 s.b.exp, .int .i64 s.exp, .slice D s.dem.length d, .slice C s.cuts.length c5] 52) := ⟨_, rfl⟩
        have M9 : Hid (CSt wq w9 wq.heap.size v1.heap.size s s) := by
          show CSt _ w9 _ _ _ _
          rw [hw9]
          exact NP.out
        have hw1 : Hid (wq.heap.size ≤ v1.heap.size) := B1.out.size
        rw [← hw9]
        clear hw9
        have M1w := M1r
        go_wp2_with fail
        go_loopw [66] (fun i v => ∃ (k : Nat), k ≤ n2 ∧ i = .int .i64 k ∧ Hid (CSt wq v (wq.heap.size) (v1.heap.size) (s.acts (l2.take k)) (s.acts (l2.take k)))) (fun i _ => n2 - (intOf i).toNat)
        case atStart => exact ⟨0, Nat.zero_le _, rfl, M9⟩
        case round =>
          obtain ⟨k, hk, rfl, hm⟩ := hrel
          have KV := Lib.hid (KW.out.step hm.out.frame)
          have OKk := Lib.hid (OKs.out.acts (l2.take k))
          have hlk : K0 + (l2.take k).length < 4096 := by have := HK0.out; simp; omega
          by_cases hlt : k < n2
          · obtain ⟨a, x, rfl, hx, hwf, hblk, c0, c1, c2, c3, c4⟩ := (HA2.out.up KV.out.1).at_ hlt
            have HE := Lib.hid (acts_take s l2 k x hx)
            obtain ⟨sk, hs⟩ : ∃ sk, sk = s.acts (l2.take k) := ⟨_, rfl⟩
            rw [← hs] at HE hm OKk
            generalize K0 + (l2.take k).length = K at *
            obtain ⟨D, C, d, c5, hb0, hwc⟩ := hm.out.want OKk.out hlk x hwf
            have B0 := Lib.hid hb0
            have WC := Lib.hid hwc
            have DO := Lib.hid fun v (hv : CSt wq v (wq.heap.size) (v1.heap.size) sk (sk.act x).1) => hv.did OKk.out hlk x hwf
            clear hb0 hwc hx hwf hs
            generalize sk.act x = r at *
            obtain ⟨r1, r2, r3⟩ := r
            simp only at WC DO HE
            obtain ⟨q0, q1, q2, q3, q4, q5, q6, q7, q8, q9⟩ := ten_ (s := sk) B0.out
            have lh := B0.out.lt
            unfold actV Act'.cells refV at WC
            unfold actV at DO
            unfold Sur.rcells at WC
            go_wp2_with fail
            refine WC.out.mono ?_
            rintro e w4 ⟨D', d', C', c', rfl, b37, fr, bh, hst, b37'⟩
            have B37 := Lib.hid b37'
            have ST := Lib.hid hst
            obtain ⟨f0, f1, f2, f3, f4, f5, f6, f7, f8, f9⟩ := froz10 bh
            obtain ⟨z0, z1, z2, z3, z4, z5, z6, z7, z8, z9⟩ := ten_ (s := sk) bh
            have lB := bh.lt
            clear b37 fr bh hst b37' q0 q1 q2 q3 q4 q5 q6 q7 q8 q9 WC B0
            go_upto_region 18 with fail
            obtain ⟨w5, hw5⟩ : ∃ w5, w5 = putAll w4 (v1.heap.size) 0 [.string r1.b.num, .string r1.b.gua, .string r1.b.for_, .string r1.b.to_, .string r1.b.cur, .int .i64 r1.b.amt, .int .i64 r1.b.exp, .int .i64 r1.exp, .slice D' r1.dem.length d', .slice C' r1.cuts.length c'] := ⟨_, rfl⟩
            have ST5 : Hid (CSt wq w5 (wq.heap.size) (v1.heap.size) sk r1) := by
              show CSt _ w5 _ _ _ _
              rw [hw5]
              exact ST.out
            have BX5 : Hid (Blk w5 wr.heap.size 37 #[.int .u8 x.kind, .string x.by_, .int .i64 x.sum, .int .i64 x.day, .int .i64 x.n]) := by
              show Blk w5 _ _ _
              rw [hw5]
              exact B37.out
            simp only [putAll, Nat.zero_add, Nat.reduceAdd] at hw5
            rw [← hw5]
            clear hw5 f0 f1 f2 f3 f4 f5 f6 f7 f8 f9 z0 z1 z2 z3 z4 z5 z6 z7 z8 z9 lB ST B37
            have y0 : w5.cell? ⟨wr.heap.size, 0, none⟩ = some (.int .u8 x.kind) := BX5.out.cell 0
            have y1 : w5.cell? ⟨wr.heap.size, 1, none⟩ = some (.string x.by_) := BX5.out.cell 1
            have y2 : w5.cell? ⟨wr.heap.size, 2, none⟩ = some (.int .i64 x.sum) := BX5.out.cell 2
            have y3 : w5.cell? ⟨wr.heap.size, 3, none⟩ = some (.int .i64 x.day) := BX5.out.cell 3
            have y4 : w5.cell? ⟨wr.heap.size, 4, none⟩ = some (.int .i64 x.n) := BX5.out.cell 4
            go_wp2_with fail
            refine (DO.out _ ST5.out).mono ?_
            rintro e w6 ⟨rfl, h6⟩
            have S6 : Hid (CSt wq w6 (wq.heap.size) (v1.heap.size) (s.acts (l2.take (k + 1))) (s.acts (l2.take (k + 1)))) := by
              show CSt _ _ _ _ _ _
              rw [HE.out]
              exact h6
            clear h6 DO
            go_wp2_with fail
            go_roundw
            case rel => exact ⟨k + 1, by omega, by go_num, S6⟩
            case measure => simp [intOf]; omega
          · have hge : (n2 : Int) ≤ k := by omega
            have hge' : n2 ≤ k := by omega
            rw [List.take_of_length_le (by have := HL2.out; omega)] at hm
            clear hlt OKk hlk
            have M1x := Lib.hid (M1w.out.below hm.out.frame)
            obtain ⟨t, ht⟩ : ∃ t, t = s.acts l2 := ⟨_, rfl⟩
            have OKt := Lib.hid (OKs.out.acts l2)
            rw [← ht] at hm OKt
            clear ht
            have hKt : K0 + l2.length < 4096 := by have := HK0.out; have := HL2.out; omega
            obtain ⟨D1, C1, d1, c1, bx1, sm1⟩ := M1x.out.sameAt OKs.out (by have := HK0.out; omega) day
            obtain ⟨D2, C2, d2, c2', bx2, sm2⟩ := hm.out.sameAt OKt.out hKt day
            have BX1 := Lib.hid bx1
            have BX2 := Lib.hid bx2
            have SM1 := Lib.hid sm1
            have SM2 := Lib.hid sm2
            clear bx1 bx2 sm1 sm2
            unfold refV at SM1 SM2
            unfold Sur.rcells at SM1 SM2
            obtain ⟨p0, p1, p2, p3, p4, p5, p6, p7, p8, p9⟩ := ten_ (s := s) BX1.out
            have l1 := BX1.out.lt
            have l2' := BX2.out.lt
            go_wp2_with fail
            refine (SM1.out _ (Below.refl _ wr)).mono ?_
            rintro e v3 ⟨rfl, hb3⟩
            have B3 := Lib.hid hb3
            have BX2a := Lib.hid (BX2.out.below hb3 BX2.out.lt)
            obtain ⟨q0, q1, q2, q3, q4, q5, q6, q7, q8, q9⟩ := ten_ (s := t) BX2a.out
            have l3 := BX2a.out.lt
            clear hb3 p0 p1 p2 p3 p4 p5 p6 p7 p8 p9 l1 l2'
            go_wp2_with fail
            refine (SM2.out _ B3.out).mono ?_
            rintro e v8 ⟨rfl, hb8⟩
            have FIN := Lib.hid (show Below w.heap.size w v8 from KV.out.1.trans ((B3.out.trans (hb8.mono B3.out.size)).mono KV.out.1.size))
            clear hb8 q0 q1 q2 q3 q4 q5 q6 q7 q8 q9 l3
            go_wp2_with fail
            go_ret
            exact ⟨rfl, FIN.out⟩
      · go_simp
        have W2 := Lib.hid (show Below wq.heap.size wq (wq.drew.alloc (.cells zero10 52)) from ((Below.refl _ wq).drew).alloc (Nat.le_refl _) _)
        have BHa := Lib.hid (BH.out.drew.alloc (.cells zero10 52))
        refine hK3.out _ _ (.inr ⟨BHa.out.cell 0, BHa.out.cell 1, BHa.out.cell 2, BHa.out.cell 3, BHa.out.cell 4, BHa.out.cell 5, BHa.out.cell 6, BHa.out.cell 7, BHa.out.cell 8, BHa.out.cell 9⟩) fun hS3 => ?_
        try simp only [Act.put, List.setIfInBounds_toArray, List.set_cons_zero, List.set_cons_succ]
        refine AnyZ.one (i := 1) (by kernel_rfl) rfl (by rfl) fun K1' hK1 => ?_
        go_simp
        refine (CP.out _ W2.out).mono ?_
        rintro e v1 ⟨O', rfl, hat, hge2, hb1⟩
        have NB := Lib.hid (Blk.new wq.drew 52 zero10)
        have NBo := Lib.hid (show Blk v1 wq.heap.size 52 zero10 from NB.out.below hb1 NB.out.lt)
        have BH1 := Lib.hid (BHa.out.below hb1 BHa.out.lt)
        have NP := Lib.hid (cst_new2 (C := C) (D := D) (v := wq) d c5 (z := zero10) rfl NB.out W2.out NB.out.lt hat hge2 hb1 RA.out)
        have hS1 := Lib.hid (show (fun v => v.cell? ⟨w2.heap.size, 0, none⟩ = some (.string s.b.num) ∧ v.cell? ⟨w2.heap.size, 1, none⟩ = some (.string s.b.gua) ∧ v.cell? ⟨w2.heap.size, 2, none⟩ = some (.string s.b.for_) ∧ v.cell? ⟨w2.heap.size, 3, none⟩ = some (.string s.b.to_) ∧ v.cell? ⟨w2.heap.size, 4, none⟩ = some (.string s.b.cur) ∧ v.cell? ⟨w2.heap.size, 5, none⟩ = some (.int .i64 s.b.amt) ∧ v.cell? ⟨w2.heap.size, 6, none⟩ = some (.int .i64 s.b.exp) ∧ v.cell? ⟨w2.heap.size, 7, none⟩ = some (.int .i64 s.exp) ∧ v.cell? ⟨w2.heap.size, 8, none⟩ = some (.slice D s.dem.length d) ∧ v.cell? ⟨w2.heap.size, 9, none⟩ = some (.slice C s.cuts.length c5)) v1 from ⟨BH1.out.cell 0, BH1.out.cell 1, BH1.out.cell 2, BH1.out.cell 3, BH1.out.cell 4, BH1.out.cell 5, BH1.out.cell 6, BH1.out.cell 7, BH1.out.cell 8, BH1.out.cell 9⟩)
        clear hat hge2 hb1
        try go_wp2_with fail
        refine hK1.out _ _ (.inr hS1.out) fun _ => ?_
        try simp only [Act.put, List.setIfInBounds_toArray, List.set_cons_zero, List.set_cons_succ]
        refine AnyZ.one (i := 4) (by kernel_rfl) rfl (by rfl) fun K4 hK4 => ?_
        go_simp
        refine hK4.out _ _ (.inr hS1.out) fun hS4 => ?_
        try simp only [Act.put, List.setIfInBounds_toArray, List.set_cons_zero, List.set_cons_succ]
        refine AnyZ.one (i := 5) (by kernel_rfl) rfl (by rfl) fun K5 hK5 => ?_
        obtain ⟨f0, f1, f2, f3, f4, f5, f6, f7, f8, f9⟩ := froz10 NBo.out
        obtain ⟨z0, z1, z2, z3, z4, z5, z6, z7, z8, z9⟩ := zten_ NBo.out
        have lB := NBo.out.lt
        have lwq := BH.out.lt
        go_simp
        obtain ⟨w9, hw9⟩ : ∃ w9, w9 = putAll v1 wq.heap.size 0 [.string s.b.num, .string s.b.gua, .string s.b.for_, .string s.b.to_, .string s.b.cur, .int .i64 s.b.amt, .int .i64 s.b.exp, .int .i64 s.exp, .slice D s.dem.length d, .slice C s.cuts.length c5] := ⟨_, rfl⟩
        have M9 : Hid (CSt wq w9 (wq.heap.size + 1) wq.heap.size s s) := by
          show CSt _ w9 _ _ _ _
          rw [hw9]
          have := NP.out
          simp only [World.size_alloc] at this
          exact this
        have BH9 : Hid (Blk w9 w2.heap.size 52 (s.rcells D d C c5)) := by
          show Blk w9 _ _ _
          rw [hw9]
          exact (putAll_chg (S := fun j => j = wq.heap.size) rfl _ _ _).blk BH1.out (by omega)
        simp only [putAll, Nat.zero_add, Nat.reduceAdd] at hw9
        rw [← hw9]
        refine hK5.out _ _ (.inr ⟨BH9.out.cell 0, BH9.out.cell 1, BH9.out.cell 2, BH9.out.cell 3, BH9.out.cell 4, BH9.out.cell 5, BH9.out.cell 6, BH9.out.cell 7, BH9.out.cell 8, BH9.out.cell 9⟩) fun _ => ?_
        refine AnyZ.done (by kernel_rfl) ?_ _
        clear f0 f1 f2 f3 f4 f5 f6 f7 f8 f9 z0 z1 z2 z3 z4 z5 z6 z7 z8 z9 lB lwq
        clear hw9
        have M1w := M1r
        go_wp2_with fail
        go_loopw [66] (fun i v => ∃ (k : Nat), k ≤ n2 ∧ i = .int .i64 k ∧ Hid (CSt wq v (wq.heap.size + 1) (wq.heap.size) (s.acts (l2.take k)) (s.acts (l2.take k)))) (fun i _ => n2 - (intOf i).toNat)
        case atStart => exact ⟨0, Nat.zero_le _, rfl, M9⟩
        case round =>
          obtain ⟨k, hk, rfl, hm⟩ := hrel
          have KV := Lib.hid (KW.out.step hm.out.frame)
          have OKk := Lib.hid (OKs.out.acts (l2.take k))
          have hlk : K0 + (l2.take k).length < 4096 := by have := HK0.out; simp; omega
          by_cases hlt : k < n2
          · obtain ⟨a, x, rfl, hx, hwf, hblk, c0, c1, c2, c3, c4⟩ := (HA2.out.up KV.out.1).at_ hlt
            have HE := Lib.hid (acts_take s l2 k x hx)
            obtain ⟨sk, hs⟩ : ∃ sk, sk = s.acts (l2.take k) := ⟨_, rfl⟩
            rw [← hs] at HE hm OKk
            generalize K0 + (l2.take k).length = K at *
            obtain ⟨D, C, d, c5, hb0, hwc⟩ := hm.out.want OKk.out hlk x hwf
            have B0 := Lib.hid hb0
            have WC := Lib.hid hwc
            have DO := Lib.hid fun v (hv : CSt wq v (wq.heap.size + 1) (wq.heap.size) sk (sk.act x).1) => hv.did OKk.out hlk x hwf
            clear hb0 hwc hx hwf hs
            generalize sk.act x = r at *
            obtain ⟨r1, r2, r3⟩ := r
            simp only at WC DO HE
            obtain ⟨q0, q1, q2, q3, q4, q5, q6, q7, q8, q9⟩ := ten_ (s := sk) B0.out
            have lh := B0.out.lt
            unfold actV Act'.cells refV at WC
            unfold actV at DO
            unfold Sur.rcells at WC
            go_wp2_with fail
            refine WC.out.mono ?_
            rintro e w4 ⟨D', d', C', c', rfl, b37, fr, bh, hst, b37'⟩
            have B37 := Lib.hid b37'
            have ST := Lib.hid hst
            obtain ⟨f0, f1, f2, f3, f4, f5, f6, f7, f8, f9⟩ := froz10 bh
            obtain ⟨z0, z1, z2, z3, z4, z5, z6, z7, z8, z9⟩ := ten_ (s := sk) bh
            have lB := bh.lt
            clear b37 fr bh hst b37' q0 q1 q2 q3 q4 q5 q6 q7 q8 q9 WC B0
            go_upto_region 18 with fail
            obtain ⟨w5, hw5⟩ : ∃ w5, w5 = putAll w4 (wq.heap.size) 0 [.string r1.b.num, .string r1.b.gua, .string r1.b.for_, .string r1.b.to_, .string r1.b.cur, .int .i64 r1.b.amt, .int .i64 r1.b.exp, .int .i64 r1.exp, .slice D' r1.dem.length d', .slice C' r1.cuts.length c'] := ⟨_, rfl⟩
            have ST5 : Hid (CSt wq w5 (wq.heap.size + 1) (wq.heap.size) sk r1) := by
              show CSt _ w5 _ _ _ _
              rw [hw5]
              exact ST.out
            have BX5 : Hid (Blk w5 wr.heap.size 37 #[.int .u8 x.kind, .string x.by_, .int .i64 x.sum, .int .i64 x.day, .int .i64 x.n]) := by
              show Blk w5 _ _ _
              rw [hw5]
              exact B37.out
            simp only [putAll, Nat.zero_add, Nat.reduceAdd] at hw5
            rw [← hw5]
            clear hw5 f0 f1 f2 f3 f4 f5 f6 f7 f8 f9 z0 z1 z2 z3 z4 z5 z6 z7 z8 z9 lB ST B37
            have y0 : w5.cell? ⟨wr.heap.size, 0, none⟩ = some (.int .u8 x.kind) := BX5.out.cell 0
            have y1 : w5.cell? ⟨wr.heap.size, 1, none⟩ = some (.string x.by_) := BX5.out.cell 1
            have y2 : w5.cell? ⟨wr.heap.size, 2, none⟩ = some (.int .i64 x.sum) := BX5.out.cell 2
            have y3 : w5.cell? ⟨wr.heap.size, 3, none⟩ = some (.int .i64 x.day) := BX5.out.cell 3
            have y4 : w5.cell? ⟨wr.heap.size, 4, none⟩ = some (.int .i64 x.n) := BX5.out.cell 4
            go_wp2_with fail
            refine (DO.out _ ST5.out).mono ?_
            rintro e w6 ⟨rfl, h6⟩
            have S6 : Hid (CSt wq w6 (wq.heap.size + 1) (wq.heap.size) (s.acts (l2.take (k + 1))) (s.acts (l2.take (k + 1)))) := by
              show CSt _ _ _ _ _ _
              rw [HE.out]
              exact h6
            clear h6 DO
            go_wp2_with fail
            go_roundw
            case rel => exact ⟨k + 1, by omega, by go_num, S6⟩
            case measure => simp [intOf]; omega
          · have hge : (n2 : Int) ≤ k := by omega
            have hge' : n2 ≤ k := by omega
            rw [List.take_of_length_le (by have := HL2.out; omega)] at hm
            clear hlt OKk hlk
            have M1x := Lib.hid (M1w.out.below hm.out.frame)
            obtain ⟨t, ht⟩ : ∃ t, t = s.acts l2 := ⟨_, rfl⟩
            have OKt := Lib.hid (OKs.out.acts l2)
            rw [← ht] at hm OKt
            clear ht
            have hKt : K0 + l2.length < 4096 := by have := HK0.out; have := HL2.out; omega
            obtain ⟨D1, C1, d1, c1, bx1, sm1⟩ := M1x.out.sameAt OKs.out (by have := HK0.out; omega) day
            obtain ⟨D2, C2, d2, c2', bx2, sm2⟩ := hm.out.sameAt OKt.out hKt day
            have BX1 := Lib.hid bx1
            have BX2 := Lib.hid bx2
            have SM1 := Lib.hid sm1
            have SM2 := Lib.hid sm2
            clear bx1 bx2 sm1 sm2
            unfold refV at SM1 SM2
            unfold Sur.rcells at SM1 SM2
            obtain ⟨p0, p1, p2, p3, p4, p5, p6, p7, p8, p9⟩ := ten_ (s := s) BX1.out
            have l1 := BX1.out.lt
            have l2' := BX2.out.lt
            go_wp2_with fail
            refine (SM1.out _ (Below.refl _ wr)).mono ?_
            rintro e v3 ⟨rfl, hb3⟩
            have B3 := Lib.hid hb3
            have BX2a := Lib.hid (BX2.out.below hb3 BX2.out.lt)
            obtain ⟨q0, q1, q2, q3, q4, q5, q6, q7, q8, q9⟩ := ten_ (s := t) BX2a.out
            have l3 := BX2a.out.lt
            clear hb3 p0 p1 p2 p3 p4 p5 p6 p7 p8 p9 l1 l2'
            go_wp2_with fail
            refine (SM2.out _ B3.out).mono ?_
            rintro e v8 ⟨rfl, hb8⟩
            have FIN := Lib.hid (show Below w.heap.size w v8 from KV.out.1.trans ((B3.out.trans (hb8.mono B3.out.size)).mono KV.out.1.size))
            clear hb8 q0 q1 q2 q3 q4 q5 q6 q7 q8 q9 l3
            go_wp2_with fail
            go_ret
            exact ⟨rfl, FIN.out⟩

end Go.Proofs.Ytlmlepdmgopojaa
