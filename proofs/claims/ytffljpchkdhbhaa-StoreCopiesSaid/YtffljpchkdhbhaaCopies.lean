/- StoreCopies's walk. Condition: how the calls lie. -/
import Derived.Test.YtffljpchkdhbhaaTwo
import Derived.Deep.RegionHeld3
namespace Go.Proofs.Ytffljpchkdhbhaa
open Go.RowKit
set_option linter.unusedVariables false
set_option linter.unusedSimpArgs false

theorem op_at {W : World} {A : Option Addr} {n k : Nat} {os : List Call} (hO : Ops W W.heap.size A n os) (hlt : k < n) : ∃ (a : Addr) (o : Call), A = some a ∧ (a.add (k * 3)).block < W.heap.size ∧ o.num ≤ 9223372036854775807 ∧
    W.cell? (a.add (k * 3)) = some (.int .i64 o.kind) ∧ W.cell? ⟨(a.add (k * 3)).block, (a.add (k * 3)).off + 1, none⟩ = some (.int .i64 o.num) ∧ W.cell? ⟨(a.add (k * 3)).block, (a.add (k * 3)).off + 2, none⟩ = some (.string o.text) := by
  obtain ⟨o, ho⟩ : ∃ o, os[k]? = some o := ⟨_, List.getElem?_eq_getElem (by rw [hO.1]; exact hlt)⟩
  obtain ⟨a, rfl, hab, hon, x0, x1, x2⟩ := hO.2 k o ho
  have e1 : (a.add (k * 3)).add 1 = ⟨(a.add (k * 3)).block, (a.add (k * 3)).off + 1, none⟩ := by unfold Addr.add; split <;> simp_all
  have e2 : (a.add (k * 3)).add 2 = ⟨(a.add (k * 3)).block, (a.add (k * 3)).off + 2, none⟩ := by unfold Addr.add; split <;> simp_all
  rw [← add_of_add, e1] at x1
  rw [← add_of_add, e2] at x2
  exact ⟨a, o, rfl, by rw [block_of_add]; exact hab, hon, x0, x1, x2⟩
/-- one store and the document's, and the box that holds the document's -/
structure One (W v : World) (g mx : Nat) (A R : Option Addr) (c : Nat) (σ : SS) (zx : Array Value) : Prop where
  a : Both W v g A R c σ
  x : Blk v mx 42 zx
  fx : Free g A R mx
  lx : W.heap.size ≤ mx
theorem One.put {W v : World} {g mx : Nat} {A R : Option Addr} {c : Nat} {σ : SS} {a b e f : Value} (H : One W v g mx A R c σ #[a, b, e, f]) (a' b' e' f' : Value) : One W (put4 v mx a' b' e' f') g mx A R c σ #[a', b', e', f'] :=
  ⟨both_box H.a (chg_put4 _ _ _ _) H.lx H.fx.1 H.fx.2, H.x.put4 _ _ _ _, H.fx, H.lx⟩
theorem one_do {W v : World} {g mx : Nat} {A R : Option Addr} {c : Nat} {σ : SS} {zx : Array Value} (H : One W v g mx A R c σ zx) (o : Call) (hn : o.num ≤ 9223372036854775807) :
    Calls Try.prog 20 #[.pointer (some ⟨g, 0, none⟩), σ.ref R c, .agg #[.int .i64 o.kind, .int .i64 o.num, .string o.text]] v fun e v' => ∃ σ' A' R' c', e = .returned (.tuple #[σ'.ref R' c', .bool true]) ∧ One W v' g mx A' R' c' σ' zx := by
  refine (both_do H.a o hn).mono ?_
  rintro e v' ⟨σ', A', R', c', he, hB, hsz, h1, h2⟩
  exact ⟨σ', A', R', c', he, hB, (h1 mx H.x.lt H.fx.1).1 _ _ H.x, ⟨(h1 mx H.x.lt H.fx.1).2, h2 mx H.x.lt H.fx.2⟩, H.lx⟩
set_option maxRecDepth 100000 in
set_option maxHeartbeats 4000000 in
theorem copies_any (n c : Nat) (A : Option Addr) (os : List Call) (m d : Nat) (D : Option Addr) (qs : List Call) (w : World) (hO : Ops w w.heap.size A n os) (hQ : Ops w w.heap.size D m qs) :
    Calls Try.prog 9 #[.slice A n c, .slice D m d] w fun e w' => e = .returned (.bool true) ∧ Below w.heap.size w w' := by
  go_enter Try.func9, Try.ntmps9
  go_wp2_with fail
  refine (awake_any w _ (Below.refl _ _)).mono ?_
  rintro e w1 ⟨rfl, hb⟩
  go_wp2_with fail
  refine (few_any A n c os w1 ((hO.below hb).more hb.size)).mono ?_
  rintro e w2 ⟨fw, rfl, hfew, hb2⟩
  have hbb := below_trans hb hb2
  cases fw
  · go_wp2_with fail
    go_ret
    exact ⟨rfl, hbb⟩
  have hn61 : n ≤ 61 := hfew rfl
  clear hfew hb2
  go_wp2_with fail
  refine (few_any D m d qs w2 ((hQ.below hbb).more hbb.size)).mono ?_
  rintro e w3 ⟨fw, rfl, hfew, hb3⟩
  have hbb3 := below_trans hbb hb3
  clear hbb hb3 hb
  cases fw
  · go_wp2_with fail
    go_ret
    exact ⟨rfl, hbb3⟩
  have hm61 : m ≤ 61 := hfew rfl
  clear hfew
  go_wp2_with fail
  refine (new_any w3 w.heap.size hbb3.size).mono ?_
  rintro e w4 ⟨rfl, h3, h4, h5⟩
  go_wp2_with fail
  refine (rnew_any w4).mono ?_
  rintro e w5 ⟨rfl, h6⟩
  simp only [SS.ref, SS.cells, SS.new]
  go_wp2_with fail
  obtain ⟨w6, hw6⟩ : ∃ w6, w6 = w5.alloc (.cells #[.slice none 0 0, .int .i64 0, .int .i64 (-1), .bool false] 42) := ⟨_, rfl⟩
  have bm := Blk.new w5 42 #[.slice none 0 0, .int .i64 0, .int .i64 (-1), .bool false]
  rw [← hw6] at bm
  have hb56 : Below w5.heap.size w5 w6 := by rw [hw6]; exact (Below.refl _ _).alloc (Nat.le_refl _) _
  have hb46 := below_trans h6 hb56
  have hB6 : Both w w6 w3.heap.size none none 0 SS.new := by
    refine ⟨below_trans (below_trans hbb3 h4) hb46, new_ok, h3.below hb46, Reads.none_, Nat.le_refl _, fun k hk => ?_⟩
    obtain ⟨a, e, _⟩ := hk
    cases e
  have hge : w3.heap.size < w5.heap.size := by have := h6.size; omega
  have hWge : w.heap.size ≤ w5.heap.size := by have := hbb3.size; omega
  have H0 : One w w6 w3.heap.size w5.heap.size none none 0 SS.new #[.slice none 0 0, .int .i64 0, .int .i64 (-1), .bool false] := by
    refine ⟨hB6, bm, ⟨?_, ?_⟩, hWge⟩
    · rintro (h | ⟨a, e, _⟩)
      · omega
      · cases e
    · rintro ⟨a, e, _⟩
      cases e
  simp only [List.length_nil]
  rw [← hw6]
  clear hw6 hbb3 h3 h4 h5 h6 hb56 hb46 bm hB6
  generalize w3.heap.size = g at *
  generalize w5.heap.size = mx at *
  go_loopw [7] (fun i v => ∃ (k : Nat) (σ : SS) (A' R : Option Addr) (c' : Nat), k ≤ n ∧ i = .int .i64 k ∧ One w v g mx A' R c' σ (σ.cells R c')) (fun i _ => n - (intOf i).toNat)
  case atStart => exact ⟨0, SS.new, none, none, 0, by omega, rfl, H0⟩
  case round =>
    obtain ⟨k, σ, A', R, c', hk, rfl, H⟩ := hrel
    clear H0
    by_cases hlt : k < n
    · obtain ⟨a, o, rfl, hab, hon, x0, x1, x2⟩ := op_at hO hlt
      have y0 := (H.a.1.cell (p := a.add (k * 3)) hab).trans x0
      have y1 := (H.a.1.cell (p := ⟨(a.add (k * 3)).block, (a.add (k * 3)).off + 1, none⟩) hab).trans x1
      have y2 := (H.a.1.cell (p := ⟨(a.add (k * 3)).block, (a.add (k * 3)).off + 2, none⟩) hab).trans x2
      obtain ⟨c0, c1, c2, c3, f0, f1, f2, f3⟩ := H.x.four
      have hml := H.x.lt
      have HD : Hid (One w wr.drew g mx A' R c' σ (σ.cells R c')) := by exact ⟨⟨H.a.1.drew, H.a.2.1, H.a.2.2.1, H.a.2.2.2⟩, H.x, H.fx, H.lx⟩
      clear x0 x1 x2 H
      go_wp2_with fail
      go_region_with (first | (go_at_call 20; refine (one_do HD.out o hon).mono ?_; rintro e w7 ⟨σ', A2, R2, c2', rfl, H7⟩; obtain ⟨p0, p1, p2, p3, q0, q1, q2, q3⟩ := H7.x.four; have hml7 := H7.x.lt; have HH7 := Lib.hid H7; clear H7; simp only [SS.ref, SS.cells]))
      all_goals
        have H8 := Lib.hid (HH7.out.put (.slice R2 σ'.l.length c2') (.int .i64 σ'.last) (.int .i64 σ'.fuse) (.bool σ'.down))
        clear c0 c1 c2 c3 f0 f1 f2 f3 y0 y1 y2 p0 p1 p2 p3 q0 q1 q2 q3 HH7 HD
        go_wp2_with fail
        go_roundw
        case rel => exact ⟨k + 1, σ', A2, R2, c2', by omega, by go_num, H8.out⟩
        case measure => simp [intOf]; omega
    · obtain rfl : k = n := by omega
      obtain ⟨c0, c1, c2, c3, f0, f1, f2, f3⟩ := H.x.four
      have hml := H.x.lt
      have HH := Lib.hid H
      clear H
      go_wp2_with fail
      refine (copy_any g σ HH.out.a.2.1 A' wr w.heap.size HH.out.a.2.2.1 HH.out.a.1.size).mono ?_
      rintro e w7 ⟨C, rfl, hSt, hb7, hC⟩
      have hx7 := HH.out.x.below hb7 hml
      obtain ⟨d0, d1, d2, d3, _, _, _, _⟩ := hx7.four
      have hB7 : Both w w7 wr.heap.size C R c' σ := by
        have h0 := HH.out.a.below hb7
        refine ⟨h0.1, h0.2.1, hSt, h0.2.2.2.1, h0.2.2.2.2.1, fun k hk => ⟨(h0.2.2.2.2.2 k hk).1, ?_⟩⟩
        have := (HH.out.a.2.2.2.2.2 k hk).1
        rintro (h | h)
        · omega
        · have := hC k h
          omega
      have HC := Lib.hid hC
      have HX7 := Lib.hid hx7
      have HB7 := Lib.hid hB7
      have HB70 := Lib.hid (HH.out.a.below hb7)
      have hsz7 := hb7.size
      have hnp : (Value.pointer (some ⟨wr.heap.size, 0, none⟩)) ≠ .pointer none := by simp
      clear hC hx7 hB7 hb7 hSt c0 c1 c2 c3 f0 f1 f2 f3 hnp
      have HA := Lib.hid (both_alike HB7.out)
      simp only [SS.ref, SS.cells] at HA
      go_wp2_with fail
      refine HA.out.mono ?_
      rintro e w8 ⟨rfl, hB8, hb8⟩
      have hx8 := HX7.out.below hb8 HX7.out.lt
      have hB80 := HB70.out.below hb8
      obtain ⟨c0, c1, c2, c3, f0, f1, f2, f3⟩ := hx8.four
      have hsz8 := hb8.size
      obtain ⟨w9, hw9⟩ : ∃ w9, w9 = w8.alloc (.cells #[.slice R σ.l.length c', .int .i64 σ.last, .int .i64 σ.fuse, .bool σ.down] 42) := ⟨_, rfl⟩
      have hb9 : Below w8.heap.size w8 w9 := by rw [hw9]; exact (Below.refl _ _).alloc (Nat.le_refl _) _
      have hy9 : Blk w9 w8.heap.size 42 (σ.cells R c') := by rw [hw9]; exact Blk.new _ _ _
      have H9 : All w w9 g wr.heap.size mx w8.heap.size A' C R R c' c' σ σ (σ.cells R c') (σ.cells R c') := by
        refine ⟨hB80.below hb9, hB8.below hb9, fun k hk h => ?_, fun k hk h => ?_, fun k hk h => (HH.out.a.2.2.2.2.2 k hk).2 h, hx8.below hb9 hx8.lt, hy9, ⟨HH.out.fx, ?_, HH.out.fx.2⟩, ⟨both_past hB80, both_past hB8⟩, ?_, HH.out.lx, hB8.1.size⟩
        · have := HH.out.a.own_lt hk
          rcases h with h | h
          · omega
          · have := HC.out k h
            omega
        · have := HH.out.a.ref_lt hk
          rcases h with h | h
          · omega
          · have := HC.out k h
            omega
        · rintro (h | h)
          · omega
          · have := HC.out mx h
            omega
        · omega
      have HH9 := Lib.hid H9
      have HW9 := Lib.hid hw9
      clear HB7 HB70 HA HX7 hB8 hx8 hB80 hb8 hb9 hy9 H9 hw9 d0 d1 d2 d3
      go_wp2_with fail
      rw [← HW9.out]
      clear HW9 c0 c1 c2 c3 f0 f1 f2 f3 HC HH hsz7 hsz8 hml
      generalize w8.heap.size = my at *
      generalize wr.heap.size = h at *
      go_loopw [10, 11, 12] (fun i _ _ v => ∃ (k : Nat) (C : Option Addr) (τ : SS) (S : Option Addr) (d' : Nat), k ≤ m ∧ i = .int .i64 k ∧ All w v h g my mx C A' S R d' c' τ σ (τ.cells S d') (σ.cells R c')) (fun i _ _ _ => m - (intOf i).toNat)
      case atStart => exact ⟨0, C, σ, R, c', by omega, rfl, HH9.out.swap⟩
      case round =>
        obtain ⟨k2, C2, τ, S, d', hk2, rfl, H⟩ := hrel
        clear HH9
        by_cases hlt2 : k2 < m
        · obtain ⟨a, o, hD, hab, hon, x0, x1, x2⟩ := op_at hQ (k := k2) (by omega)
          subst hD
          have y0 := (H.a.1.cell (p := a.add (k2 * 3)) hab).trans x0
          have y1 := (H.a.1.cell (p := ⟨(a.add (k2 * 3)).block, (a.add (k2 * 3)).off + 1, none⟩) hab).trans x1
          have y2 := (H.a.1.cell (p := ⟨(a.add (k2 * 3)).block, (a.add (k2 * 3)).off + 2, none⟩) hab).trans x2
          obtain ⟨c0, c1, c2, c3, f0, f1, f2, f3⟩ := H.x.four
          have hml := H.x.lt
          have ne1 : wr.heap.size ≠ my := H.past.2.2.1
          have ne2 : wr.heap.size ≠ (a.add (k2 * 3)).block := by have := H.a.1.size; omega
          have HD : Hid (All w wr.drew h g my mx C2 A' S R d' c' τ σ (τ.cells S d') (σ.cells R c')) := by exact ⟨⟨H.a.1.drew, H.a.2.1, H.a.2.2.1, H.a.2.2.2⟩, ⟨H.b.1.drew, H.b.2.1, H.b.2.2.1, H.b.2.2.2⟩, H.ab, H.rb, H.sa, H.x, H.y, H.fx, H.fy, H.ne, H.lx, H.ly⟩
          have HX0 := Lib.hid x0
          have HX1 := Lib.hid x1
          have HX2 := Lib.hid x2
          clear x0 x1 x2 H
          go_wp2_with fail
          go_region_held3 (fun v => v.cell? ⟨my, 0, none⟩ = some (.slice S τ.l.length d') ∧ v.cell? ⟨my, 1, none⟩ = some (.int .i64 τ.last) ∧ v.cell? ⟨my, 2, none⟩ = some (.int .i64 τ.fuse) ∧ v.cell? ⟨my, 3, none⟩ = some (.bool τ.down) ∧ v.cell? (a.add (k2 * 3)) = some (.int .i64 o.kind) ∧ v.cell? ⟨(a.add (k2 * 3)).block, (a.add (k2 * 3)).off + 1, none⟩ = some (.int .i64 o.num) ∧ v.cell? ⟨(a.add (k2 * 3)).block, (a.add (k2 * 3)).off + 2, none⟩ = some (.string o.text)) (go_keep) (first | (go_at_call 20; refine (all_do_box HD.out o hon #[.slice none 0 0, .int .i64 0, .int .i64 0, .bool false]).mono ?_; rintro e w6 ⟨σ', A2, R2, c2', rfl, H6, hsz6, hT7, hT8⟩; have z0 := (H6.a.1.cell (p := a.add (k2 * 3)) hab).trans (HX0.out); have z1 := (H6.a.1.cell (p := ⟨(a.add (k2 * 3)).block, (a.add (k2 * 3)).off + 1, none⟩) hab).trans (HX1.out); have z2 := (H6.a.1.cell (p := ⟨(a.add (k2 * 3)).block, (a.add (k2 * 3)).off + 2, none⟩) hab).trans (HX2.out); have HA6 := Lib.hid H6; obtain ⟨p0, p1, p2, p3, q0, q1, q2, q3⟩ := H6.x.four; have lw := H6.a.1.size; have ne5 := H6.past.2.2.1; clear H6; have hT7 : Blk w6 wr.heap.size 42 #[.slice none 0 0, .int .i64 0, .int .i64 0, .bool false] := hT7; obtain ⟨t0, t1, t2, t3, r0, r1, r2, r3⟩ := hT7.four; simp only [SS.ref, SS.cells]) | (go_at_call 20; refine (all_do HD.out o hon).mono ?_; rintro e w6 ⟨σ', A2, R2, c2', rfl, H6, hsz6, hT⟩; have z0 := (H6.a.1.cell (p := a.add (k2 * 3)) hab).trans (HX0.out); have z1 := (H6.a.1.cell (p := ⟨(a.add (k2 * 3)).block, (a.add (k2 * 3)).off + 1, none⟩) hab).trans (HX1.out); have z2 := (H6.a.1.cell (p := ⟨(a.add (k2 * 3)).block, (a.add (k2 * 3)).off + 2, none⟩) hab).trans (HX2.out); have HA6 := Lib.hid H6; obtain ⟨p0, p1, p2, p3, q0, q1, q2, q3⟩ := H6.x.four; have lw := H6.a.1.size; have ne5 := H6.past.2.2.1; clear H6; have ne3 : w6.heap.size ≠ my := ne5; have ne4 : w6.heap.size ≠ (a.add (k2 * 3)).block := (by omega); simp only [SS.ref, SS.cells]))
          · obtain ⟨w7, hw7⟩ : ∃ w7, w7 = w6.alloc (.cells #[.slice R2 σ'.l.length c2', .int .i64 σ'.last, .int .i64 σ'.fuse, .bool σ'.down] 42) := ⟨_, rfl⟩
            have hA7 : Below w6.heap.size w6 w7 := by rw [hw7]; exact (Below.refl _ _).alloc (Nat.le_refl _) _
            have hn7 : Blk w7 w6.heap.size 42 #[.slice R2 σ'.l.length c2', .int .i64 σ'.last, .int .i64 σ'.fuse, .bool σ'.down] := by rw [hw7]; exact Blk.new _ _ _
            have H7 := HA6.out.below hA7
            clear hA7 hT
            have hb7 := hn7.lt
            obtain ⟨t0, t1, t2, t3, r0, r1, r2, r3⟩ := hn7.four
            obtain ⟨s0, s1, s2, s3, v0, v1, v2, v3⟩ := H7.x.four
            have hml7 := H7.x.lt
            have HH7 := Lib.hid H7
            rw [← hw7]
            clear hw7 H7 p0 p1 p2 p3 q0 q1 q2 q3 z0 z1 z2 c0 c1 c2 c3 f0 f1 f2 f3 y0 y1 y2 hn7 HD HA6
            go_wp2_with fail
            obtain ⟨w8, hw8⟩ : ∃ w8, w8 = put4 w7 my (.slice R2 σ'.l.length c2') (.int .i64 σ'.last) (.int .i64 σ'.fuse) (.bool σ'.down) := ⟨_, rfl⟩
            have H8 := HH7.out.putx (.slice R2 σ'.l.length c2') (.int .i64 σ'.last) (.int .i64 σ'.fuse) (.bool σ'.down)
            rw [← hw8] at H8
            unfold put4 at hw8
            rw [← hw8]
            clear hw8 s0 s1 s2 s3 t0 t1 t2 t3 v0 v1 v2 v3 r0 r1 r2 r3 HH7
            refine (all_alike H8).mono ?_
            rintro e w9 ⟨rfl, H9⟩
            obtain ⟨s0, s1, s2, s3, v0, v1, v2, v3⟩ := H9.swap.x.four
            have HH9 := Lib.hid H9
            clear H8 H9
            go_wp2_with fail
            refine (all_alike HH9.out.swap).mono ?_
            rintro e w10 ⟨rfl, H10⟩
            have HH10 := Lib.hid H10
            clear H10 s0 s1 s2 s3 v0 v1 v2 v3 HH9
            go_wp2_with fail
            go_roundw
            case rel => exact ⟨k2 + 1, A2, σ', R2, c2', by omega, by go_num, HH10.out.swap⟩
            case measure => simp [intOf]; omega
          · obtain ⟨w7, hw7⟩ : ∃ w7, w7 = put4 w6 wr.heap.size (.slice R2 σ'.l.length c2') (.int .i64 σ'.last) (.int .i64 σ'.fuse) (.bool σ'.down) := ⟨_, rfl⟩
            have hC7 : Chg (· = wr.heap.size) w6 w7 := by rw [hw7]; exact chg_put4 _ _ _ _
            have hn7 : Blk w7 wr.heap.size 42 #[.slice R2 σ'.l.length c2', .int .i64 σ'.last, .int .i64 σ'.fuse, .bool σ'.down] := by rw [hw7]; exact hT7.put4 _ _ _ _
            have H7 := HA6.out.box hC7 ne1 HD.out.past.2.2.2.1 hT8 HD.out.past.2.1 HD.out.past.2.2.2.2
            unfold put4 at hw7
            clear hC7 hT7 hT8
            have hb7 := hn7.lt
            obtain ⟨t0, t1, t2, t3, r0, r1, r2, r3⟩ := hn7.four
            obtain ⟨s0, s1, s2, s3, v0, v1, v2, v3⟩ := H7.x.four
            have hml7 := H7.x.lt
            have HH7 := Lib.hid H7
            rw [← hw7]
            clear hw7 H7 p0 p1 p2 p3 q0 q1 q2 q3 z0 z1 z2 c0 c1 c2 c3 f0 f1 f2 f3 y0 y1 y2 hn7 HD HA6
            go_wp2_with fail
            obtain ⟨w8, hw8⟩ : ∃ w8, w8 = put4 w7 my (.slice R2 σ'.l.length c2') (.int .i64 σ'.last) (.int .i64 σ'.fuse) (.bool σ'.down) := ⟨_, rfl⟩
            have H8 := HH7.out.putx (.slice R2 σ'.l.length c2') (.int .i64 σ'.last) (.int .i64 σ'.fuse) (.bool σ'.down)
            rw [← hw8] at H8
            unfold put4 at hw8
            rw [← hw8]
            clear hw8 s0 s1 s2 s3 t0 t1 t2 t3 v0 v1 v2 v3 r0 r1 r2 r3 HH7
            refine (all_alike H8).mono ?_
            rintro e w9 ⟨rfl, H9⟩
            obtain ⟨s0, s1, s2, s3, v0, v1, v2, v3⟩ := H9.swap.x.four
            have HH9 := Lib.hid H9
            clear H8 H9
            go_wp2_with fail
            refine (all_alike HH9.out.swap).mono ?_
            rintro e w10 ⟨rfl, H10⟩
            have HH10 := Lib.hid H10
            clear H10 s0 s1 s2 s3 v0 v1 v2 v3 HH9
            go_wp2_with fail
            go_roundw
            case rel => exact ⟨k2 + 1, A2, σ', R2, c2', by omega, by go_num, HH10.out.swap⟩
            case measure => simp [intOf]; omega
        · obtain rfl : k2 = m := by omega
          have HH2 := Lib.hid H
          clear H
          go_wp2_with fail
          go_loopw [13, 14, 15] (fun i _ _ v => ∃ (k : Nat) (A' : Option Addr) (σ : SS) (R : Option Addr) (c' : Nat), k ≤ k2 ∧ i = .int .i64 k ∧ All w v g h mx my A' C2 R S c' d' σ τ (σ.cells R c') (τ.cells S d')) (fun i _ _ _ => k2 - (intOf i).toNat)
          case atStart => exact ⟨0, A', σ, R, c', by omega, rfl, HH2.out.swap⟩
          case round =>
            obtain ⟨k3, A', σ, R, c', hk3, rfl, H⟩ := hrel
            clear HH2
            by_cases hlt3 : k3 < k2
            · obtain ⟨a, o, hD, hab, hon, x0, x1, x2⟩ := op_at hQ (k := (k2 - 1 - k3)) (by omega)
              subst hD
              have y0 := (H.a.1.cell (p := a.add ((k2 - 1 - k3) * 3)) hab).trans x0
              have y1 := (H.a.1.cell (p := ⟨(a.add ((k2 - 1 - k3) * 3)).block, (a.add ((k2 - 1 - k3) * 3)).off + 1, none⟩) hab).trans x1
              have y2 := (H.a.1.cell (p := ⟨(a.add ((k2 - 1 - k3) * 3)).block, (a.add ((k2 - 1 - k3) * 3)).off + 2, none⟩) hab).trans x2
              obtain ⟨c0, c1, c2, c3, f0, f1, f2, f3⟩ := H.x.four
              have hml := H.x.lt
              have ne1 : wr.heap.size ≠ mx := H.past.2.2.1
              have ne2 : wr.heap.size ≠ (a.add ((k2 - 1 - k3) * 3)).block := by have := H.a.1.size; omega
              have HD : Hid (All w wr.drew g h mx my A' C2 R S c' d' σ τ (σ.cells R c') (τ.cells S d')) := by exact ⟨⟨H.a.1.drew, H.a.2.1, H.a.2.2.1, H.a.2.2.2⟩, ⟨H.b.1.drew, H.b.2.1, H.b.2.2.1, H.b.2.2.2⟩, H.ab, H.rb, H.sa, H.x, H.y, H.fx, H.fy, H.ne, H.lx, H.ly⟩
              have HX0 := Lib.hid x0
              have HX1 := Lib.hid x1
              have HX2 := Lib.hid x2
              clear x0 x1 x2 H
              have W1 : IntKind.i64.wrap ((k2 : Int) - 1) = (k2 : Int) - 1 := IntWalk.i64_in _ (by omega)
              have W2 : IntKind.i64.wrap ((k2 : Int) - 1 - k3) = ((k2 - 1 - k3 : Nat) : Int) := by rw [show (k2 : Int) - 1 - k3 = ((k2 - 1 - k3 : Nat) : Int) by omega]; exact IntWalk.i64_in _ (by omega)
              have l1 : k2 - 1 - k3 < k2 := by omega
              have W3 := Lib.hid W1
              go_wp2_with fail
              go_region_held3 (fun v => v.cell? ⟨mx, 0, none⟩ = some (.slice R σ.l.length c') ∧ v.cell? ⟨mx, 1, none⟩ = some (.int .i64 σ.last) ∧ v.cell? ⟨mx, 2, none⟩ = some (.int .i64 σ.fuse) ∧ v.cell? ⟨mx, 3, none⟩ = some (.bool σ.down) ∧ v.cell? (a.add ((k2 - 1 - k3) * 3)) = some (.int .i64 o.kind) ∧ v.cell? ⟨(a.add ((k2 - 1 - k3) * 3)).block, (a.add ((k2 - 1 - k3) * 3)).off + 1, none⟩ = some (.int .i64 o.num) ∧ v.cell? ⟨(a.add ((k2 - 1 - k3) * 3)).block, (a.add ((k2 - 1 - k3) * 3)).off + 2, none⟩ = some (.string o.text)) (go_keep) (first | (go_at_call 20; refine (all_do_box HD.out o hon #[.slice none 0 0, .int .i64 0, .int .i64 0, .bool false]).mono ?_; rintro e w6 ⟨σ', A2, R2, c2', rfl, H6, hsz6, hT7, hT8⟩; have z0 := (H6.a.1.cell (p := a.add ((k2 - 1 - k3) * 3)) hab).trans (HX0.out); have z1 := (H6.a.1.cell (p := ⟨(a.add ((k2 - 1 - k3) * 3)).block, (a.add ((k2 - 1 - k3) * 3)).off + 1, none⟩) hab).trans (HX1.out); have z2 := (H6.a.1.cell (p := ⟨(a.add ((k2 - 1 - k3) * 3)).block, (a.add ((k2 - 1 - k3) * 3)).off + 2, none⟩) hab).trans (HX2.out); have HA6 := Lib.hid H6; obtain ⟨p0, p1, p2, p3, q0, q1, q2, q3⟩ := H6.x.four; have lw := H6.a.1.size; have ne5 := H6.past.2.2.1; clear H6; have hT7 : Blk w6 wr.heap.size 42 #[.slice none 0 0, .int .i64 0, .int .i64 0, .bool false] := hT7; obtain ⟨t0, t1, t2, t3, r0, r1, r2, r3⟩ := hT7.four; simp only [SS.ref, SS.cells]) | (go_at_call 20; refine (all_do HD.out o hon).mono ?_; rintro e w6 ⟨σ', A2, R2, c2', rfl, H6, hsz6, hT⟩; have z0 := (H6.a.1.cell (p := a.add ((k2 - 1 - k3) * 3)) hab).trans (HX0.out); have z1 := (H6.a.1.cell (p := ⟨(a.add ((k2 - 1 - k3) * 3)).block, (a.add ((k2 - 1 - k3) * 3)).off + 1, none⟩) hab).trans (HX1.out); have z2 := (H6.a.1.cell (p := ⟨(a.add ((k2 - 1 - k3) * 3)).block, (a.add ((k2 - 1 - k3) * 3)).off + 2, none⟩) hab).trans (HX2.out); have HA6 := Lib.hid H6; obtain ⟨p0, p1, p2, p3, q0, q1, q2, q3⟩ := H6.x.four; have lw := H6.a.1.size; have ne5 := H6.past.2.2.1; clear H6; have ne3 : w6.heap.size ≠ mx := ne5; have ne4 : w6.heap.size ≠ (a.add ((k2 - 1 - k3) * 3)).block := (by omega); simp only [SS.ref, SS.cells]))
              · obtain ⟨w7, hw7⟩ : ∃ w7, w7 = w6.alloc (.cells #[.slice R2 σ'.l.length c2', .int .i64 σ'.last, .int .i64 σ'.fuse, .bool σ'.down] 42) := ⟨_, rfl⟩
                have hA7 : Below w6.heap.size w6 w7 := by rw [hw7]; exact (Below.refl _ _).alloc (Nat.le_refl _) _
                have hn7 : Blk w7 w6.heap.size 42 #[.slice R2 σ'.l.length c2', .int .i64 σ'.last, .int .i64 σ'.fuse, .bool σ'.down] := by rw [hw7]; exact Blk.new _ _ _
                have H7 := HA6.out.below hA7
                clear hA7 hT
                have hb7 := hn7.lt
                obtain ⟨t0, t1, t2, t3, r0, r1, r2, r3⟩ := hn7.four
                obtain ⟨s0, s1, s2, s3, v0, v1, v2, v3⟩ := H7.x.four
                have hml7 := H7.x.lt
                have HH7 := Lib.hid H7
                rw [← hw7]
                clear hw7 H7 p0 p1 p2 p3 q0 q1 q2 q3 z0 z1 z2 c0 c1 c2 c3 f0 f1 f2 f3 y0 y1 y2 hn7 HD HA6
                go_wp2_with fail
                obtain ⟨w8, hw8⟩ : ∃ w8, w8 = put4 w7 mx (.slice R2 σ'.l.length c2') (.int .i64 σ'.last) (.int .i64 σ'.fuse) (.bool σ'.down) := ⟨_, rfl⟩
                have H8 := HH7.out.putx (.slice R2 σ'.l.length c2') (.int .i64 σ'.last) (.int .i64 σ'.fuse) (.bool σ'.down)
                rw [← hw8] at H8
                unfold put4 at hw8
                rw [← hw8]
                clear hw8 s0 s1 s2 s3 t0 t1 t2 t3 v0 v1 v2 v3 r0 r1 r2 r3 HH7
                refine (all_alike H8).mono ?_
                rintro e w9 ⟨rfl, H9⟩
                have HH10 := Lib.hid H9
                clear H9 H8
                go_wp2_with fail
                go_roundw
                case rel => exact ⟨k3 + 1, A2, σ', R2, c2', by omega, by go_num, HH10.out⟩
                case measure => simp [intOf]; omega
              · obtain ⟨w7, hw7⟩ : ∃ w7, w7 = put4 w6 wr.heap.size (.slice R2 σ'.l.length c2') (.int .i64 σ'.last) (.int .i64 σ'.fuse) (.bool σ'.down) := ⟨_, rfl⟩
                have hC7 : Chg (· = wr.heap.size) w6 w7 := by rw [hw7]; exact chg_put4 _ _ _ _
                have hn7 : Blk w7 wr.heap.size 42 #[.slice R2 σ'.l.length c2', .int .i64 σ'.last, .int .i64 σ'.fuse, .bool σ'.down] := by rw [hw7]; exact hT7.put4 _ _ _ _
                have H7 := HA6.out.box hC7 ne1 HD.out.past.2.2.2.1 hT8 HD.out.past.2.1 HD.out.past.2.2.2.2
                unfold put4 at hw7
                clear hC7 hT7 hT8
                have hb7 := hn7.lt
                obtain ⟨t0, t1, t2, t3, r0, r1, r2, r3⟩ := hn7.four
                obtain ⟨s0, s1, s2, s3, v0, v1, v2, v3⟩ := H7.x.four
                have hml7 := H7.x.lt
                have HH7 := Lib.hid H7
                rw [← hw7]
                clear hw7 H7 p0 p1 p2 p3 q0 q1 q2 q3 z0 z1 z2 c0 c1 c2 c3 f0 f1 f2 f3 y0 y1 y2 hn7 HD HA6
                go_wp2_with fail
                obtain ⟨w8, hw8⟩ : ∃ w8, w8 = put4 w7 mx (.slice R2 σ'.l.length c2') (.int .i64 σ'.last) (.int .i64 σ'.fuse) (.bool σ'.down) := ⟨_, rfl⟩
                have H8 := HH7.out.putx (.slice R2 σ'.l.length c2') (.int .i64 σ'.last) (.int .i64 σ'.fuse) (.bool σ'.down)
                rw [← hw8] at H8
                unfold put4 at hw8
                rw [← hw8]
                clear hw8 s0 s1 s2 s3 t0 t1 t2 t3 v0 v1 v2 v3 r0 r1 r2 r3 HH7
                refine (all_alike H8).mono ?_
                rintro e w9 ⟨rfl, H9⟩
                have HH10 := Lib.hid H9
                clear H9 H8
                go_wp2_with fail
                go_roundw
                case rel => exact ⟨k3 + 1, A2, σ', R2, c2', by omega, by go_num, HH10.out⟩
                case measure => simp [intOf]; omega
            · obtain rfl : k3 = k2 := by omega
              obtain ⟨c0, c1, c2, c3, f0, f1, f2, f3⟩ := H.swap.x.four
              have hml := H.swap.x.lt
              have HH := Lib.hid H
              clear H
              go_wp2_with fail
              refine (all_alike HH.out.swap).mono ?_
              rintro e w10 ⟨rfl, H10⟩
              have HH10 := Lib.hid H10
              clear H10 HH c0 c1 c2 c3 f0 f1 f2 f3
              go_wp2_with fail
              go_ret
              exact ⟨rfl, HH10.out.a.1⟩
end Go.Proofs.Ytffljpchkdhbhaa
