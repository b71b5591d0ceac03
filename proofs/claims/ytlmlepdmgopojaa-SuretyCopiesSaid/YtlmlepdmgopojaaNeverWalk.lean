/- SuretyNever's walk: the loop. Condition: where the acts lie; the sizes of the bond's texts. -/
import Derived.Test.YtlmlepdmgopojaaNeverLaw
namespace Go.Proofs.Ytlmlepdmgopojaa
open Go.RowKit
open Go.Maps (Keyed int_keyed keyOf_int_mk)
set_option linter.unusedVariables false
set_option linter.unusedSimpArgs false
theorem drawn_at {l : List Dem} {k : Nat} {x : Dem} (h : l[k]? = some x) : (drawn l)[k]? = some ⟨x.day, x.amt⟩ := by unfold drawn; rw [List.getElem?_map, h]; rfl
set_option maxRecDepth 100000 in
set_option maxHeartbeats 8000000 in
theorem neverLaw_any (b : Bnd) (hb : b.wf) (A : Option Addr) (n c : Nat) (l : List Act') (w : World) (h : Acts w w.heap.size A n l) (hn : n ≤ maxLen) :
    Calls Try.prog 5 #[bndV b, .slice A n c] w fun e w' => e = .returned (.bool true) ∧ Below w.heap.size w w' := by
  unfold maxLen at hn
  have K0 := Lib.hid (Kb.new w b)
  have NM := Lib.hid fun v => new_m b hb v
  have HA := Lib.hid h
  have hl := h.1
  have hmm := @run_makeMap Try.prog
  clear h
  unfold bndV at NM ⊢
  unfold Bnd.cells at NM ⊢
  by_cases h40 : 40 < n
  · have q : (40 : Int) < n := by omega
    clear hl h40
    go_enter Try.func5, Try.ntmps5
    go_wp2_with fail
    refine (awake_any _).mono ?_
    rintro e w1 ⟨rfl, hb1⟩
    have K1 := Lib.hid ((show Kb w b _ from K0.out).step hb1)
    clear hb1 K0
    go_wp2_with fail
    refine (awake_any _).mono ?_
    rintro e w2 ⟨rfl, hb2⟩
    have K2 := Lib.hid (K1.out.step hb2)
    clear hb2 K1
    go_wp2_with fail
    go_ret
    exact ⟨rfl, K2.out.1⟩
  have q : (n : Int) ≤ 40 := by omega
  have hn40 : n ≤ 40 := by omega
  have HL := Lib.hid hl
  clear h40 hl
  go_enter Try.func5, Try.ntmps5
  go_wp2_with fail
  refine (awake_any _).mono ?_
  rintro e w1 ⟨rfl, hb1⟩
  have K1 := Lib.hid ((show Kb w b _ from K0.out).step hb1)
  obtain ⟨p0, p1, p2, p3, p4, p5, p6⟩ := K1.out.seven
  clear hb1 K0
  go_wp2_with fail
  refine (NM.out _).mono ?_
  rintro e w2 (⟨hm, g, rfl, hmine⟩ | ⟨hm, rfl, hb3⟩)
  rotate_left
  · have K2 := Lib.hid (K1.out.step hb3)
    clear hm hb3
    go_wp2_with fail
    go_ret
    exact ⟨rfl, K2.out.1⟩
  have OK := Lib.hid (sur0_ok hm)
  have M2 : Hid (NSt w1 (w2.alloc (.map #[] 0)) w2.heap.size g (sur0 b) (sur0 b) 0 0) := by
    obtain ⟨O, h1, h2, h3⟩ := hmine
    refine ⟨fun j => O j ∧ j < w2.heap.size, .map [], ?_, fun j hj => h2 j hj.1, fun hj => by omega, h3.alloc h3.size _, World.ownsMap_made _ _ _ _, Maps.isMap_empty, fun n hn => ?_, rfl⟩
    · obtain ⟨C, c, D, d, sa, o1, o2, o3⟩ := h1
      exact ⟨C, c, D, d, sa.below ((Below.refl _ _).alloc (Nat.le_refl _) _), ⟨o1, sa.box.lt⟩, fun k hk => ⟨o2 k hk, (sa.rd.lt hk).2⟩, fun k hk => ⟨o3 k hk, (sa.rc.lt hk).2⟩⟩
    · have e : paidB (sur0 b).dem n = false := by unfold paidB sur0; simp
      rw [e]
      rfl
  have HMB := Lib.hid hmine.frame.size
  clear hm hmine p0 p1 p2 p3 p4 p5 p6
  go_wp2_with fail
  go_loopw [7, 34] (fun pd i v => ∃ (k : Nat) (p : Int), k ≤ n ∧ pd = .int .i64 p ∧ i = .int .i64 k ∧ Hid (NSt w1 v w2.heap.size g ((sur0 b).acts (l.take k)) ((sur0 b).acts (l.take k)) k p)) (fun _ i _ => n - (intOf i).toNat)
  case atStart => exact ⟨0, 0, Nat.zero_le _, rfl, rfl, M2⟩
  case round =>
    obtain ⟨k, p, hk, rfl, rfl, hm⟩ := hrel
    have KV := Lib.hid (K1.out.step hm.out.frame)
    have OKk := Lib.hid (OK.out.acts (l.take k))
    have hlk : 0 + (l.take k).length < 4096 := by simp; omega
    have hlk1 : 0 + (l.take k).length + 1 < 4096 := by simp; omega
    have bp : 0 ≤ p ∧ p ≤ 1099511627776 := by
      obtain ⟨O, D, _, _, _, _, _, _, _, rfl⟩ := hm.out
      have h1 := paidSum_le OKk.out.dok
      have h2 := OKk.out.most
      have h3 := OKk.out.amt
      omega
    by_cases hlt : k < n
    · obtain ⟨a, x, rfl, hx, hwf, hblk, c0, c1, c2, c3, c4⟩ := (HA.out.up KV.out.1).at_ hlt
      have HE := Lib.hid (acts_take (sur0 b) l k x hx)
      obtain ⟨s, hs⟩ : ∃ s, s = (sur0 b).acts (l.take k) := ⟨_, rfl⟩
      rw [← hs] at HE hm OKk
      generalize 0 + (l.take k).length = K at *
      have DO := Lib.hid (do_x hm.out OKk.out hlk x hwf)
      have HN2 : Hid (w2.heap.size < wr.heap.size) := by
        obtain ⟨O, D, _, _, _, _, h5, _⟩ := hm.out
        exact h5.lt
      have w0 := hwf.1
      have w3 := hwf.2
      have et : x.kind.tmod 4 = x.kind % 4 := Int.tmod_eq_emod_of_nonneg w0
      unfold actV Act'.cells at DO
      clear hx hwf hs
      by_cases hp : x.kind % 4 = 2 ∧ (s.act x).2.2 = 0
      rotate_left
      · have PK := Lib.hid (paid_keep (s := s) (a := x) (by
          by_cases h : x.kind % 4 = 2
          · exact .inr fun e => hp ⟨h, e⟩
          · exact .inl h))
        by_cases hk2 : x.kind % 4 = 2
        · have hz : (s.act x).2.2 ≠ 0 := fun e => hp ⟨hk2, e⟩
          rw [hk2] at et
          clear hp hk2
          go_wp2_with fail
          refine DO.out.mono ?_
          rintro e w4 ⟨rfl, hm4, bx⟩
          have N4 : Hid (NSt w1 w4 w2.heap.size g ((sur0 b).acts (l.take (k + 1))) ((sur0 b).acts (l.take (k + 1))) (k + 1) p) := by
            have := (hm4.turn PK.out.1 PK.out.2).more
            rw [← HE.out] at this
            exact this
          generalize (s.act x).2.1 = z1 at *
          have b0 : w4.cell? ⟨wr.heap.size, 0, none⟩ = some (.int .u8 x.kind) := bx.cell 0
          have lb := bx.lt
          generalize (s.act x).2.2 = z at *
          have hz' : (z != 0) = true := by simpa using hz
          clear hm4 bx hz DO
          go_wp2_with fail
          go_roundw
          case rel => exact ⟨k + 1, p, by omega, rfl, by go_num, N4⟩
          case measure => simp [intOf]; omega
        · rcases (show x.kind % 4 = 0 ∨ x.kind % 4 = 1 ∨ x.kind % 4 = 3 by omega) with hj | hj | hj
          all_goals
            rw [hj] at et
            clear hp hk2 hj
            go_wp2_with fail
            refine DO.out.mono ?_
            rintro e w4 ⟨rfl, hm4, bx⟩
            have N4 : Hid (NSt w1 w4 w2.heap.size g ((sur0 b).acts (l.take (k + 1))) ((sur0 b).acts (l.take (k + 1))) (k + 1) p) := by
              have := (hm4.turn PK.out.1 PK.out.2).more
              rw [← HE.out] at this
              exact this
            generalize (s.act x).2.1 = z1 at *
            have b0 : w4.cell? ⟨wr.heap.size, 0, none⟩ = some (.int .u8 x.kind) := bx.cell 0
            have lb := bx.lt
            generalize (s.act x).2.2 = z at *
            clear hm4 bx DO
            go_wp2_with fail
            go_roundw
            case rel => exact ⟨k + 1, p, by omega, rfl, by go_num, N4⟩
            case measure => simp [intOf]; omega
      · obtain ⟨j, y, hn, hy, hy0, hs1, hs2⟩ := paid_pay hp.1 hp.2
        rw [hp.1] at et
        have hz := hp.2
        have hjl : j < s.dem.length := (List.getElem?_eq_some_iff.1 hy).1
        have OK1 := Lib.hid (OKk.out.act x)
        have ydok := OKk.out.dok y (List.mem_of_getElem? hy)
        have dl := OKk.out.dl
        have psum : p + y.amt ≤ 1099511627776 := by
          obtain ⟨O, D, _, _, _, _, _, _, _, hp8⟩ := hm.out
          have e1 : paidSum (setSt s.dem j 1) = p + y.amt := by rw [setSt_some 1 hy, paidSum_set _ hy, ← hp8]; simp [hy0]
          have e2 : (s.act x).1.dem = setSt s.dem j 1 := by rw [hs1]
          have h1 := paidSum_le OK1.out.dok
          have h2 := OK1.out.most
          have h3 := OK1.out.amt
          rw [e2, e1] at h1
          rw [e2] at h2
          omega
        rw [hs1, hs2, hz] at DO
        rw [hs1] at HE OK1
        have HY := Lib.hid hy
        have HY0 := Lib.hid hy0
        have jwf : Hid ((Lit.int .i64 (j : Int)).wf = true) := by
          show (Lit.int .i64 (j : Int)).wf = true
          have h1 : IntKind.i64.min = -9223372036854775808 := by decide
          have h2 : IntKind.i64.max = 9223372036854775807 := by decide
          simp only [Lit.wf, h1, h2, Bool.and_eq_true, decide_eq_true_eq]
          omega
        have W1 : IntKind.i64.wrap (p + y.amt) = p + y.amt := IntWalk.i64_in _ (by omega)
        have HN := Lib.hid hn
        clear hp hz hs1 hs2 hy hy0 hn
        go_wp2_with fail
        refine DO.out.mono ?_
        rintro e w4 ⟨rfl, hm4, bx⟩
        have bx' : Blk w4 wr.heap.size 37 #[.int .u8 x.kind, .string x.by_, .int .i64 x.sum, .int .i64 x.day, .int .i64 j] := by rw [← HN.out]; exact bx
        have b0 : w4.cell? ⟨wr.heap.size, 0, none⟩ = some (.int .u8 x.kind) := bx'.cell 0
        have b4 : w4.cell? ⟨wr.heap.size, 4, none⟩ = some (.int .i64 j) := bx'.cell 4
        have lb := bx'.lt
        have HM4 := Lib.hid hm4
        have BX := Lib.hid bx'
        clear hm4 bx bx' DO
        obtain ⟨O4, D4, m1, m2, m3, m4, m5, m6, m7, m8⟩ := HM4.out
        have hpB : paidB s.dem j = false := by unfold paidB; rw [Int.toNat_natCast, HY.out]; simp [HY0.out]
        have look := m7 j jwf.out
        rw [hpB] at look
        have M1 := Lib.hid m1
        have M2' := Lib.hid m2
        have M3 := Lib.hid m3
        have M4 := Lib.hid m4
        have M5 := Lib.hid m5
        have M6 := Lib.hid m6
        have M7 := Lib.hid m7
        have M8 := Lib.hid m8
        have LK := Lib.hid look
        clear m1 m2 m3 m4 m5 m6 m7 m8 look hpB
        go_wp2_with (first | (at_lookup; refine look_bool rfl _ _ rfl w2.heap.size k D4 rfl M5.out j rfl jwf.out false LK.out ?_) | (at_mapUpdate; refine wpList_mapUpdate_own _ rfl _ _ _ 46 rfl 3 4 (int_keyed Try.underlying3) Try.underlying46 _ w2.heap.size k _ rfl M5.out (by unfold maxLen; omega) _ _ _ rfl rfl (keyOf_int_mk Try.underlying3 jwf.out) _ [] (plainElem_bool Try.underlying4 true) ?_))
        intro w5 hown5 hg5
        have N5 := Lib.hid (NSt.note M1.out M2'.out M3.out M4.out HMB.out M6.out M7.out M8.out HY.out HY0.out jwf.out hown5 hg5)
        have hne : some wr.heap.size ≠ some w2.heap.size := by
          have h1 := HN2.out
          intro e
          injection e with e
          omega
        have b5 : Blk w5 wr.heap.size 37 #[.int .u8 x.kind, .string x.by_, .int .i64 x.sum, .int .i64 x.day, .int .i64 j] := (hg5.block _ BX.out.lt hne).trans BX.out
        have BX5 := Lib.hid b5
        have d4 : w5.cell? ⟨wr.heap.size, 4, none⟩ = some (.int .i64 j) := b5.cell 4
        have lb5 := b5.lt
        clear b5 hown5 hg5
        go_wp2_with fail
        obtain ⟨C5, cc5, D5, dd5, sa5⟩ := N5.out.mine.sa
        refine (demands_any _ g cc5 dd5 C5 D5 w5 sa5 OK1.out (by omega)).mono ?_
        rintro e w6 ⟨A6, c6, rfl, hb6, hc6⟩
        have N6 := Lib.hid (N5.out.below hb6)
        have BX6 := Lib.hid (BX5.out.below hb6 BX5.out.lt)
        have f4 : w6.cell? ⟨wr.heap.size, 4, none⟩ = some (.int .i64 j) := BX6.out.cell 4
        have lb6 := BX6.out.lt
        have hlen : (drawn (setSt s.dem j 1)).length = s.dem.length := by unfold drawn; rw [List.length_map, setSt_len]
        obtain ⟨a6, y6, rfl, hy6, hblk6, r0, r1⟩ := hc6.at_ (k := j) (by rw [hlen]; exact hjl)
        have hy6' : (⟨y.day, y.amt⟩ : Cut) = y6 := by
          have h1 : (setSt s.dem j 1)[j]? = some ⟨y.day, y.amt, 1⟩ := by rw [setSt_some 1 HY.out, List.getElem?_set_self hjl]
          exact Option.some.inj ((drawn_at h1).symm.trans hy6)
        rw [← hy6'] at r1
        simp only at r1
        have e9 : (y.amt != y.amt) = false := by simp
        have NF : Hid (NSt w1 w6 w2.heap.size g ((sur0 b).acts (l.take (k + 1))) ((sur0 b).acts (l.take (k + 1))) (k + 1) (p + y.amt)) := by
          have := N6.out
          rw [HE.out]
          exact this
        have hjI : (j : Int) < s.dem.length := by omega
        simp only [setSt_len]
        clear hb6 hc6 hy6 hy6' hlen d4 lb5 sa5 b0 b4 r0
        go_wp2_with fail
        go_roundw
        case rel => exact ⟨k + 1, p + y.amt, by omega, rfl, by go_num, NF⟩
        case measure => simp [intOf]; omega
    · have hge : (n : Int) ≤ k := by omega
      have hle : p ≤ b.amt := by
        obtain ⟨O, D, _, _, _, _, _, _, _, rfl⟩ := hm.out
        have h1 := paidSum_le OKk.out.dok
        have h2 := OKk.out.most
        rw [acts_b] at h2
        have h3 : (sur0 b).b.amt = b.amt := rfl
        omega
      obtain ⟨p0, p1, p2, p3, p4, p5, p6⟩ := KV.out.seven
      clear hlt
      go_wp2_with fail
      go_ret
      exact ⟨by simp [hle], KV.out.1⟩
end Go.Proofs.Ytlmlepdmgopojaa
