/- LayMore's walk. Condition: how the stretches lie. -/
import Derived.Test.YtlmnbdepklcfpaaMoney
import Derived.Test.YtlmnbdepklcfpaaStaysLaw
import Derived.Deep.RegionHeld3
namespace Go.Proofs.Ytlmnbdepklcfpaa
open Go.RowKit
set_option linter.unusedVariables false
set_option linter.unusedSimpArgs false

theorem U_more {a m : Int} {l : List Str} (hr : (chk l).2 = 0) (hm : 0 ≤ m) : U (a + m) l ≤ U a l :=
  fold_more (by omega) _ 0 0 (Int.le_refl _) fun x hx => ((right_hours hr).1 x hx).2
theorem P_more {F F' : Int} (hF : F ≤ F') (L : List Int) (hL : ∀ h ∈ L, h ≤ 2) (j : Nat) : P F' L j ≤ P F L j :=
  fold_more hF _ 0 0 (Int.le_refl _) fun x hx => hL x (List.mem_of_mem_take hx)
/-- with more free hours it expires no earlier -/
theorem out_more {a m : Int} {l : List Str} (hr : (chk l).2 = 0) (hm : 0 ≤ m) (h1 : 1 ≤ l.length) (ho : 0 ≤ (Clk.run (2 * (a + m)) l).out) :
    0 ≤ (Clk.run (2 * a) l).out ∧ (Clk.run (2 * a) l).out ≤ (Clk.run (2 * (a + m)) l).out := by
  have hi := run_inv (F := 2 * a) (chk_chain hr).1 (headF_ok hr)
  have hi' := run_inv (F := 2 * (a + m)) (chk_chain hr).1 (headF_ok hr)
  have hall := (right_hours hr).1
  have h0 := headF_ok hr
  rcases hi'.o with ⟨h2, _⟩ | ⟨j', h2, h3, h4, h5⟩
  · omega
  · have hp := P_more (F := 2 * a) (F' := 2 * (a + m)) (by omega) (hours l) (fun x hx => (hall x hx).2) j'
    rcases hi.o with ⟨g2, g3⟩ | ⟨j, g2, g3, g4, g5⟩
    · have := g3 (hours_ne hr h1)
      have hm2 := P_mono (F := 2 * a) (fun x hx => (hall x hx).1) h3
      rw [P_all] at hm2
      omega
    · refine ⟨by omega, ?_⟩
      by_cases hlt : j' < j
      · have := g5 j' hlt
        omega
      · omega
def longer (l : List Str) (p : Str) (z : Int) : List Str := l ++ [⟨p.t, p.t + 1, z⟩]
theorem longer_ok {l : List Str} {p : Str} {z : Int} (hr : (chk l).2 = 0) (hl : l.length < 4096) (hp : l[l.length - 1]? = some p) (h0 : 0 ≤ z) (h2 : z ≤ 2) (he : p.t < 1048576) : (chk (longer l p z)).2 = 0 := by
  unfold longer
  have hc := (chk_chain hr).1
  have hlt := lastTo_get (headF l) l p hp
  have hpo := right_get hr hp
  unfold Str.ok at hpo
  have : Chain (headF l) (l ++ [⟨p.t, p.t + 1, z⟩]) := by
    rw [chain_append]
    refine ⟨hc, hlt.symm, ?_, trivial⟩
    unfold Str.ok
    simp only
    omega
  rw [chk_mk this (by simp; omega)]
theorem U_longer {a : Int} {l : List Str} {p : Str} {z : Int} : U a (longer l p z) = step (2 * a) (U a l) z := by
  unfold U longer
  rw [hours_append, fold_append]
  have : hours [⟨p.t, p.t + 1, z⟩] = [z] := by
    simp only [hours, List.flatMap_cons, List.flatMap_nil, List.append_nil, hrs]
    rw [show (p.t + 1 - p.t).toNat = 1 by omega]
    rfl
  rw [this]
  rfl
theorem row_lit0 (w : World) (B : Nat) (hB : B ≤ w.heap.size) (e size : Nat) : Row (w.alloc (.cells #[] e)) B e size (some ⟨w.heap.size, 0, none⟩) 0 0 [] := Row.of_own (World.ownsRow_lit w #[] 0 hB (Nat.zero_le _) (by simp))
theorem below_chg {w w' w'' : World} {A : Option Addr} (hb : Below w.heap.size w w') (hc : Chg (blockOf A) w' w'') (hA : ∀ k, blockOf A k → w.heap.size ≤ k) : Below w.heap.size w w'' := hb.trans (hc.below hb.size hA)
theorem blockOf_some {g k o : Nat} (h : blockOf (some ⟨g, o, none⟩) k) : g = k := by
  obtain ⟨a, e, hk⟩ := h
  cases e
  exact hk
theorem reads_blk {w : World} {g t size n : Nat} {cs : Array Value} {xs : List Value} (h : Blk w g t cs) (hx : cs.toList = xs) (hl : xs.length = n * size) : Reads w w.heap.size size (some ⟨g, 0, none⟩) n xs := by
  subst hx
  refine ⟨hl, fun _ => ⟨_, rfl, h.lt, fun j u hu => ?_⟩⟩
  have h0 : (⟨g, 0, none⟩ : Addr).add j = ⟨g, j, none⟩ := by unfold Addr.add; split <;> simp_all
  rw [h0, h.cell j, ← Array.getElem?_toList, hu]
theorem rowA {w : World} {B n c : Nat} {A : Option Addr} {xs : List Value} (h : Row w B 44 3 A (0 + n) c ([] ++ xs)) (o : Obj) : Row (w.alloc o) B 44 3 A n c xs := by
  rw [Nat.zero_add] at h
  exact h.alloc o
theorem rowB {w : World} {B n c : Nat} {A : Option Addr} {xs : List Value} (h : Row w B 44 3 A (0 + n) c ([] ++ xs)) : Row w B 44 3 A n c xs := by
  rw [Nat.zero_add] at h
  exact h
theorem RA_ge {w : World} {B n c k : Nat} {A : Option Addr} {xs : List Value} (h : Row w B 44 3 A n c xs) (hk : blockOf A k) : B ≤ k := (h.lt hk).1
theorem row_longer {w : World} {B n c : Nat} {A : Option Addr} {l : List Str} {s : Str} (h : Row w B 44 3 A (n + 1) c (flat l ++ flat [s])) : Reads w w.heap.size 3 A (n + 1) (flat (l ++ [s])) := by
  rw [flat_append]
  exact h.reads
theorem row_longer' {w : World} {B n c : Nat} {A : Option Addr} {l : List Str} {s : Str} (h : Row w B 44 3 A (0 + n + 1) c ([] ++ flat l ++ flat [s])) : Reads w w.heap.size 3 A (n + 1) (flat (l ++ [s])) := by
  rw [Nat.zero_add, List.nil_append] at h
  exact row_longer h
theorem strs_longer {w : World} {n : Nat} {A : Option Addr} {l : List Str} (hl : l.length = n) (h : Reads w w.heap.size 3 A n (flat l)) : Strs w w.heap.size A n l := ⟨hl, h⟩
def expV (o : Int) : Value := if o < 0 then .tuple #[.int .i64 0, .bool false] else .tuple #[.int .i64 o, .bool true]
theorem exp_form (a m : Int) (l : List Str) (h : 0 ≤ (Clk.run (2 * (a + m)) l).out → 0 ≤ (Clk.run (2 * a) l).out ∧ (Clk.run (2 * a) l).out ≤ (Clk.run (2 * (a + m)) l).out) :
    ∃ h1 h2 k1 k2, expV (Clk.run (2 * a) l).out = .tuple #[.int .i64 h1, .bool k1] ∧ expV (Clk.run (2 * (a + m)) l).out = .tuple #[.int .i64 h2, .bool k2] ∧ (k2 = true → k1 = true ∧ h1 ≤ h2) := by
  unfold expV
  by_cases c2 : (Clk.run (2 * (a + m)) l).out < 0
  · rw [if_pos c2]
    by_cases c1 : (Clk.run (2 * a) l).out < 0
    · rw [if_pos c1]
      exact ⟨_, _, _, _, rfl, rfl, by simp⟩
    · rw [if_neg c1]
      exact ⟨_, _, _, _, rfl, rfl, by simp⟩
  · obtain ⟨c1, c3⟩ := h (by omega)
    rw [if_neg c2, if_neg (by omega)]
    exact ⟨_, _, _, _, rfl, rfl, fun _ => ⟨rfl, c3⟩⟩
set_option maxRecDepth 100000 in
set_option maxHeartbeats 8000000 in
theorem moreLaw_any (a b c m : Int) (A : Option Addr) (n k : Nat) (l : List Str) (z : Int) (w : World) (h : Strs w w.heap.size A n l) (hn : n ≤ maxLen) :
    Calls Try.prog 5 #[layV a b c, .int .i64 m, .slice A n k, .int .i64 z] w fun e w' => e = .returned (.bool true) ∧ Below w.heap.size w w' := by
  have K0 := Lib.hid (Kp.new w a b c)
  have H := Lib.hid h
  clear h
  unfold layV
  go_enter Try.func5, Try.ntmps5
  go_wp2_with fail
  refine (awake_any _).mono ?_
  rintro e w1 ⟨rfl, hb⟩
  have K1 := Lib.hid (K0.out.step hb)
  clear hb K0
  by_cases h0 : n < 1
  · have q : (n : Int) < 1 := by omega
    go_wp2_with fail
    go_ret
    exact ⟨rfl, K1.out.1⟩
  have q0 : (1 : Int) ≤ n := by omega
  have n1 : 1 ≤ n := by omega
  clear h0
  by_cases h30 : 30 < n
  · have q : (30 : Int) < n := by omega
    go_wp2_with fail
    go_ret
    exact ⟨rfl, K1.out.1⟩
  have q : (n : Int) ≤ 30 := by omega
  have hn5 : n ≤ 100000 := by omega
  clear h30
  go_wp2_with fail
  refine (long_any A n k l w1 (K1.out.strs H.out) hn 2000).mono ?_
  rintro e w2 ⟨lg, rfl, hb⟩
  have K2 := Lib.hid (K1.out.step hb)
  obtain ⟨p0, p1, p2⟩ := K2.out.three
  clear hb K1
  cases lg
  case true =>
    go_wp2_with fail
    go_ret
    exact ⟨rfl, K2.out.1⟩
  by_cases hmm : m < 0 ∨ 1000 < m ∨ 524288 < a
  · rcases (show m < 0 ∨ (0 ≤ m ∧ 1000 < m) ∨ (0 ≤ m ∧ m ≤ 1000 ∧ 524288 < a) by omega) with g1 | ⟨g1, g2⟩ | ⟨g1, g2, g3⟩
    · clear hmm
      go_wp2_with fail
      go_ret
      exact ⟨rfl, K2.out.1⟩
    · clear hmm
      go_wp2_with fail
      go_ret
      exact ⟨rfl, K2.out.1⟩
    · clear hmm
      go_wp2_with fail
      go_ret
      exact ⟨rfl, K2.out.1⟩
  have g1 : 0 ≤ m := by omega
  have g2 : m ≤ 1000 := by omega
  have g3 : a ≤ 524288 := by omega
  clear hmm
  go_wp2_with fail
  refine (rmay_any a b c w2).mono ?_
  rintro e w3 ⟨rfl, hb⟩
  have K3 := Lib.hid (K2.out.step hb)
  clear hb K2 p0 p1 p2
  generalize hm : mayB a b c = mb
  have HM := Lib.hid hm
  clear hm
  cases mb
  · go_wp2_with fail
    go_ret
    exact ⟨rfl, K3.out.1⟩
  go_wp2_with fail
  refine (rcheck_any A n k l w3 (K3.out.strs H.out) hn).mono ?_
  rintro e w4 ⟨rfl, hb⟩
  have K4 := Lib.hid (K3.out.step hb)
  obtain ⟨p0, p1, p2⟩ := K4.out.three
  clear hb K3
  unfold chkV
  by_cases hr : (chk l).2 = 0
  case neg =>
    have q : ((chk l).2 != 0) = true := by simpa using hr
    generalize (chk l).1 = c1 at *
    generalize (chk l).2 = c2 at *
    clear hr
    go_wp2_with fail
    go_ret
    exact ⟨rfl, K4.out.1⟩
  have HR := Lib.hid hr
  have HL : Hid (1 ≤ l.length) := by show 1 ≤ l.length; rw [H.out.1]; exact n1
  have hU := U_more (a := a) hr g1
  rw [HR.out]
  generalize (chk l).1 = c1
  obtain ⟨ao1, ao2, ao3, ao4, ao5, ao6⟩ := mayB_yes HM.out
  have HM2 := Lib.hid (mayB_mk (a := a + m) (b := b) (c := c) ⟨by omega, by omega, ao3, ao4, ao5, ao6⟩)
  have HOUT := Lib.hid (out_more (a := a) (m := m) hr g1 HL.out)
  clear hr
  obtain ⟨w5, hw5⟩ : ∃ w5, w5 = w4.alloc (.cells #[.int .i64 (a + m), .int .i64 b, .int .i64 c] 23) := ⟨_, rfl⟩
  have b5 : Blk w5 w4.heap.size 23 #[.int .i64 (a + m), .int .i64 b, .int .i64 c] := by rw [hw5]; exact Blk.new _ _ _
  have hb5 : Below w4.heap.size w4 w5 := by rw [hw5]; exact (Below.refl _ _).alloc (Nat.le_refl _) _
  have K5 := Lib.hid (K4.out.step hb5)
  obtain ⟨q0', q1', q2'⟩ := K5.out.three
  obtain ⟨s0, s1, s2, _, _, _⟩ := b5.three_
  have B5 := Lib.hid b5
  have HW5 := Lib.hid hw5
  clear hw5 b5 hb5
  have lt4 : w.heap.size < w4.heap.size := K4.out.2.lt
  go_wp2_with fail
  rw [← HW5.out]
  refine (used_ok a b c A n k l w5 (K5.out.strs H.out) hn HM.out HR.out).mono ?_
  rintro e w6 ⟨rfl, hb⟩
  have K6 := Lib.hid (K5.out.step hb)
  have B6 := Lib.hid (B5.out.below hb B5.out.lt)
  obtain ⟨r0, r1, r2, _, _, _⟩ := B6.out.three_
  clear hb HW5 p0 p1 p2 q0' q1' q2' s0 s1 s2 lt4
  go_wp2_with fail
  refine (used_ok (a + m) b c A n k l w6 (K6.out.strs H.out) hn HM2.out HR.out).mono ?_
  rintro e w7 ⟨rfl, hb⟩
  have K7 := Lib.hid (K6.out.step hb)
  have B7 := Lib.hid (B6.out.below hb B6.out.lt)
  obtain ⟨p0, p1, p2⟩ := K7.out.three
  clear hb r0 r1 r2
  obtain ⟨h1, h2, k1, k2, E1, E2, E3⟩ := exp_form a m l HOUT.out
  have HE1 := Lib.hid E1
  have HE2 := Lib.hid E2
  have HE3 := Lib.hid E3
  clear E1 E2 E3 HOUT
  go_wp2_with fail
  refine (expires_any a b c A n k l w7 (K7.out.strs H.out) hn HM.out HR.out n1).mono ?_
  rintro e w8 ⟨rfl, hb⟩
  have K8 := Lib.hid (K7.out.step hb)
  have B8 := Lib.hid (B7.out.below hb B7.out.lt)
  obtain ⟨r0, r1, r2, _, _, _⟩ := B8.out.three_
  rw [show (if (Clk.run (2 * a) l).out < 0 then Value.tuple #[.int .i64 0, .bool false] else .tuple #[.int .i64 (Clk.run (2 * a) l).out, .bool true]) = _ from HE1.out]
  clear hb p0 p1 p2
  go_wp2_with fail
  refine (expires_any (a + m) b c A n k l w8 (K8.out.strs H.out) hn HM2.out HR.out n1).mono ?_
  rintro e w9 ⟨rfl, hb⟩
  have K9 := Lib.hid (K8.out.step hb)
  rw [show (if (Clk.run (2 * (a + m)) l).out < 0 then Value.tuple #[.int .i64 0, .bool false] else .tuple #[.int .i64 (Clk.run (2 * (a + m)) l).out, .bool true]) = _ from HE2.out]
  obtain ⟨p0, p1, p2⟩ := K9.out.three
  have HS9 := K9.out.strs H.out
  obtain ⟨x, p, hA, hp, hab', y0, y1, y2⟩ := HS9.at_ (show n - 1 < n by omega)
  subst hA
  have W1 : IntKind.i64.wrap ((n : Int) - 1) = ((n - 1 : Nat) : Int) := by rw [show (n : Int) - 1 = ((n - 1 : Nat) : Int) by omega]; exact IntWalk.i64_in _ (by omega)
  have hle : n - 1 < n := by omega
  have po := right_get HR.out hp
  unfold Str.ok at po
  obtain ⟨po1, po3, po2, _, _⟩ := po
  have HP := Lib.hid (show l[l.length - 1]? = some p by rw [H.out.1]; exact hp)
  clear hb r0 r1 r2 y0 y2 HS9 hp
  have hs10 : w.heap.size ≤ w9.heap.size + 1 := by have := K9.out.1.size; omega
  obtain ⟨w10, hw10⟩ : ∃ w10, w10 = w9.alloc (.cells #[.int .i64 p.t, .int .i64 (p.t + 1), .int .i64 z] 44) := ⟨_, rfl⟩
  have hb10 : Below w9.heap.size w9 w10 := by rw [hw10]; exact (Below.refl _ _).alloc (Nat.le_refl _) _
  have hz10 : w10.heap.size = w9.heap.size + 1 := by rw [hw10]; simp
  rw [← hz10] at hs10
  have K10 := Lib.hid (K9.out.step hb10)
  have BX : Hid (Blk w10 w9.heap.size 44 #[.int .i64 p.t, .int .i64 (p.t + 1), .int .i64 z]) := by show Blk w10 w9.heap.size 44 _; rw [hw10]; exact Blk.new _ _ _
  have HSr := Lib.hid (K10.out.strs H.out).2
  have lx9 : w9.heap.size < w10.heap.size := by omega
  obtain ⟨bx0, bx1, bx2, _, _, _⟩ := BX.out.three_
  have HW10 := Lib.hid hw10
  obtain ⟨i0, hi, hz0, hz1, hz2⟩ := info_parts info44
  have nx1 : w10.heap.size ≠ w9.heap.size := by omega
  have nx2 : w10.heap.size + 1 ≠ w9.heap.size := by omega
  clear hw10 hb10 hz10
  have hkk : k2 = false ∨ (k2 = true ∧ k1 = true ∧ h1 ≤ h2) := by
    cases hk : k2
    · exact .inl rfl
    · exact .inr ⟨rfl, HE3.out hk⟩
  clear HE3
  rcases hkk with rfl | ⟨rfl, rfl, hle12⟩
  all_goals
    go_wp2_with fail
    rw [← HW10.out]
    clear HW10 p0 p1 p2
    go_region_held3 (fun v => v.cell? ⟨w9.heap.size, 0, none⟩ = some (.int .i64 p.t) ∧ v.cell? ⟨w9.heap.size, 1, none⟩ = some (.int .i64 (p.t + 1)) ∧ v.cell? ⟨w9.heap.size, 2, none⟩ = some (.int .i64 z)) (go_keep) (first | (refine step_append_row (w10.drew.alloc (.cells #[] 44)) (by rfl) (.tmp 133) (.tmp 134) 24 (by rfl) w10.heap.size 44 i0 (.agg #[.int .i64 0, .int .i64 0, .int .i64 0]) 3 24 Try.underlying24 hi hz0 hz1 hz2 rfl (by decide) (some ⟨w10.heap.size, 0, none⟩) 0 0 [] (by rfl) (row_lit0 w10.drew w10.heap.size (Nat.le_refl _) 44 3) (by first | omega | (simp; done) | (simp; omega)) x n k (by omega) (flat l) (by rfl) ((HSr.out.below (((Below.refl w10.heap.size w10).drew).alloc (Nat.le_refl _) (.cells #[] 44))).more (by first | omega | (simp; done) | (simp; omega))) (flat_one _) (by unfold maxLen; omega) (by omega) ?_; intro A1 c1' wA hrow1 hch1 _; have hbA := below_chg (((Below.refl w10.heap.size w10).drew).alloc (Nat.le_refl _) (.cells #[] 44)) hch1 (fun k hk => (by have := blockOf_some hk; omega)); have BA := Lib.hid hbA; have RA := Lib.hid hrow1; obtain ⟨f0, f1, f2, _, _, _⟩ := (BX.out.below hbA BX.out.lt).three_; have lA := hbA.size; clear hrow1 hch1 hbA) | (refine step_append_row ((w10.drew.alloc (.cells #[] 44)).alloc (.cells #[.int .i64 p.t, .int .i64 (p.t + 1), .int .i64 z] 44)) (by rfl) (.tmp 133) (.tmp 134) 24 (by rfl) w10.heap.size 44 i0 (.agg #[.int .i64 0, .int .i64 0, .int .i64 0]) 3 24 Try.underlying24 hi hz0 hz1 hz2 rfl (by decide) (some ⟨w10.heap.size, 0, none⟩) 0 0 [] (by rfl) ((row_lit0 w10.drew w10.heap.size (Nat.le_refl _) 44 3).alloc _) (by first | omega | (simp; done) | (simp; omega)) x n k (by omega) (flat l) (by rfl) ((HSr.out.below ((((Below.refl w10.heap.size w10).drew).alloc (Nat.le_refl _) (.cells #[] 44)).alloc (by simp) (.cells #[.int .i64 p.t, .int .i64 (p.t + 1), .int .i64 z] 44))).more (by first | omega | (simp; done) | (simp; omega))) (flat_one _) (by unfold maxLen; omega) (by omega) ?_; intro A1 c1' wA hrow1 hch1 _; have hbA := below_chg ((((Below.refl w10.heap.size w10).drew).alloc (Nat.le_refl _) (.cells #[] 44)).alloc (by simp) (.cells #[.int .i64 p.t, .int .i64 (p.t + 1), .int .i64 z] 44)) hch1 (fun k hk => (by have := blockOf_some hk; omega)); have BA := Lib.hid hbA; have RA := Lib.hid hrow1; obtain ⟨f0, f1, f2, _, _, _⟩ := (BX.out.below hbA BX.out.lt).three_; have lA := hbA.size; have BXS : Hid (Blk wA (w10.heap.size + 1) 44 #[.int .i64 p.t, .int .i64 (p.t + 1), .int .i64 z]) := hch1.blk (by have := Blk.new (w10.drew.alloc (.cells #[] 44)) 44 #[.int .i64 p.t, .int .i64 (p.t + 1), .int .i64 z]; simpa using this) (fun hk => (by have := blockOf_some hk; omega)); clear hrow1 hch1 hbA) | (refine step_append_row ((w10.drew.alloc (.cells #[.int .i64 p.t, .int .i64 (p.t + 1), .int .i64 z] 44)).alloc (.cells #[] 44)) (by rfl) (.tmp 133) (.tmp 134) 24 (by rfl) w10.heap.size 44 i0 (.agg #[.int .i64 0, .int .i64 0, .int .i64 0]) 3 24 Try.underlying24 hi hz0 hz1 hz2 rfl (by decide) (some ⟨w10.heap.size + 1, 0, none⟩) 0 0 [] (by rfl) (by have := row_lit0 (w10.drew.alloc (.cells #[.int .i64 p.t, .int .i64 (p.t + 1), .int .i64 z] 44)) w10.heap.size (by first | omega | (simp; done) | (simp; omega)) 44 3; simpa using this) (by first | omega | (simp; done) | (simp; omega)) x n k (by omega) (flat l) (by rfl) ((HSr.out.below ((((Below.refl w10.heap.size w10).drew).alloc (Nat.le_refl _) (.cells #[.int .i64 p.t, .int .i64 (p.t + 1), .int .i64 z] 44)).alloc (by simp) (.cells #[] 44))).more (by first | omega | (simp; done) | (simp; omega))) (flat_one _) (by unfold maxLen; omega) (by omega) ?_; intro A1 c1' wA hrow1 hch1 _; have hbA := below_chg ((((Below.refl w10.heap.size w10).drew).alloc (Nat.le_refl _) (.cells #[.int .i64 p.t, .int .i64 (p.t + 1), .int .i64 z] 44)).alloc (by simp) (.cells #[] 44)) hch1 (fun k hk => (by have := blockOf_some hk; omega)); have BA := Lib.hid hbA; have RA := Lib.hid hrow1; obtain ⟨f0, f1, f2, _, _, _⟩ := (BX.out.below hbA BX.out.lt).three_; have lA := hbA.size; have BXS : Hid (Blk wA (w10.heap.size) 44 #[.int .i64 p.t, .int .i64 (p.t + 1), .int .i64 z]) := hch1.blk ((Blk.new w10.drew 44 #[.int .i64 p.t, .int .i64 (p.t + 1), .int .i64 z]).alloc _) (fun hk => (by have := blockOf_some hk; omega)); clear hrow1 hch1 hbA) | (refine step_append_row (wA.alloc (.cells #[.int .i64 p.t, .int .i64 (p.t + 1), .int .i64 z] 44)) (by rfl) (.tmp 135) (.tmp 137) 24 (by rfl) w10.heap.size 44 i0 (.agg #[.int .i64 0, .int .i64 0, .int .i64 0]) 3 24 Try.underlying24 hi hz0 hz1 hz2 rfl (by decide) A1 n c1' (flat l) (by rfl) (by first | exact rowA RA.out _ | exact RA.out.alloc _) (by first | omega | (simp; done) | (simp; omega)) ⟨wA.heap.size, 0, none⟩ 1 1 (by omega) (flat [⟨p.t, p.t + 1, z⟩]) (by rfl) ((lit_readsN wA #[.int .i64 p.t, .int .i64 (p.t + 1), .int .i64 z] 44 wA.heap.size 3 1 _ rfl rfl rfl).more (by simp)) (flat_one _) (by unfold maxLen; omega) (by omega) ?_; intro A2 c2' wB hrow2 hch2 _; have BB := Lib.hid (BA.out.trans ((((Below.refl wA.heap.size wA).alloc (Nat.le_refl _) (.cells #[.int .i64 p.t, .int .i64 (p.t + 1), .int .i64 z] 44)).mono lA).trans (hch2.below (by first | omega | (simp; done) | (simp; omega)) (fun k hk => RA_ge RA.out hk)))); have RB := Lib.hid hrow2; obtain ⟨g0, g1', g2', _, _, _⟩ := (BX.out.below BB.out BX.out.lt).three_; clear hrow2 hch2) | (refine step_append_row wA (by rfl) (.tmp 135) (.tmp 137) 24 (by rfl) w10.heap.size 44 i0 (.agg #[.int .i64 0, .int .i64 0, .int .i64 0]) 3 24 Try.underlying24 hi hz0 hz1 hz2 rfl (by decide) A1 (0 + n) c1' ([] ++ flat l) (by rfl) RA.out (by omega) ⟨_, 0, none⟩ 1 1 (by omega) (flat [⟨p.t, p.t + 1, z⟩]) (by rfl) (reads_blk BXS.out rfl rfl) (flat_one _) (by unfold maxLen; omega) (by omega) ?_; intro A2 c2' wB hrow2 hch2 _; have BB := Lib.hid (BA.out.trans (((Below.refl wA.heap.size wA).mono lA).trans (hch2.below (by first | omega | (simp; done) | (simp; omega)) (fun k hk => RA_ge RA.out hk)))); have RB := Lib.hid hrow2; obtain ⟨g0, g1', g2', _, _, _⟩ := (BX.out.below BB.out BX.out.lt).three_; clear hrow2 hch2))
    all_goals
      have K11 := Lib.hid (K10.out.step BB.out)
      have HSL : Hid (Strs wB wB.heap.size A2 (n + 1) (longer l p z)) := strs_longer (by unfold longer; rw [List.length_append, H.out.1]; rfl) (by first | exact row_longer RB.out | exact row_longer' RB.out)
      obtain ⟨p0, p1, p2⟩ := K11.out.three
      clear bx0 bx1 bx2 f0 f1 f2 g0 g1' g2' BA BB RA RB BX
      by_cases hr2 : (chk (longer l p z)).2 = 0
      · have HR2 := Lib.hid hr2
        have hstep := U_longer (a := a) (l := l) (p := p) (z := z)
        have hz2 := (right_hours hr2).1 z (by unfold longer; rw [hours_append]; refine List.mem_append_right _ ?_; simp only [hours, List.flatMap_cons, List.flatMap_nil, List.append_nil, hrs]; rw [show (p.t + 1 - p.t).toNat = 1 by omega]; simp)
        have m1 : U a l ≤ U a (longer l p z) := by rw [hstep]; exact step_le hz2.1
        have m2 : U a (longer l p z) ≤ U a l + 2 := by rw [hstep]; exact step_le2 hz2.2
        obtain ⟨u1, u2⟩ := U_bd (a := a) HR.out
        have hmono := money_mono (la := b) (so := c) (F := 2 * a) ao3 ao5 m1
        clear hr2 hstep
        go_wp2_with fail
        refine (used_ok a b c _ (n + 1) _ (longer l p z) wB HSL.out (by unfold maxLen; omega) HM.out HR2.out).mono ?_
        rintro e w12 ⟨rfl, hb⟩
        have K12 := Lib.hid (K11.out.step hb)
        have HSL2 := Lib.hid (HSL.out.up hb)
        obtain ⟨r0, r1, r2⟩ := K12.out.three
        clear hb p0 p1 p2
        go_wp2_with fail
        refine (money_any a b c _ n k l w12 (K12.out.strs H.out) hn HM.out HR.out).mono ?_
        rintro e w13 ⟨⟨v1, rfl, hv1⟩, hb⟩
        have K13 := Lib.hid (K12.out.step hb)
        have HSL3 := Lib.hid (HSL2.out.up hb)
        obtain ⟨p0, p1, p2⟩ := K13.out.three
        clear hb r0 r1 r2
        generalize hmo1 : money b c (2 * a) (U a l) = mo1 at *
        generalize hmo2 : money b c (2 * a) (U a (longer l p z)) = mo2 at *
        have HMO2 := Lib.hid hmo2
        clear hmo1 hmo2
        rcases hv1 with rfl | rfl
        all_goals
          go_wp2_with fail
          refine (money_any a b c _ (n + 1) _ (longer l p z) w13 HSL3.out (by unfold maxLen; omega) HM.out HR2.out).mono ?_
          rintro e w14 ⟨⟨v2, rfl, hv2⟩, hb⟩
          rw [HMO2.out] at hv2
          have K14 := Lib.hid (K13.out.step hb)
          clear hb
          rcases hv2 with rfl | rfl
          all_goals
            go_wp2_with fail
            go_ret
            exact ⟨rfl, K14.out.1⟩
      · have HBad : Hid (badC a b c (longer l p z) = (chk (longer l p z)).2) := by show badC a b c (longer l p z) = _; unfold badC; rw [if_pos HM.out]
        have HNZ : Hid (badC a b c (longer l p z) ≠ 0) := by show badC a b c (longer l p z) ≠ 0; rw [HBad.out]; exact hr2
        have e1 : (badC a b c (longer l p z) != 0) = true := by simpa using HNZ.out
        have hz : z < 0 ∨ (0 ≤ z ∧ 2 < z) ∨ (0 ≤ z ∧ z ≤ 2 ∧ p.t = 1048576) := by
          by_cases c1 : z < 0
          · exact .inl c1
          · by_cases c2 : 2 < z
            · exact .inr (.inl ⟨by omega, c2⟩)
            · by_cases c3 : p.t < 1048576
              · exact absurd (longer_ok HR.out (by rw [H.out.1]; omega) HP.out (by omega) (by omega) c3) hr2
              · exact .inr (.inr ⟨by omega, by omega, by omega⟩)
        generalize hbc : badC a b c (longer l p z) = bc at *
        have HBC := Lib.hid hbc
        clear hr2 hbc HBad
        go_wp2_with fail
        refine (used_bad a b c _ (n + 1) _ (longer l p z) wB HSL.out (by unfold maxLen; omega) (by rw [HBC.out]; exact HNZ.out)).mono ?_
        rw [HBC.out]
        rintro e w12 ⟨rfl, hb⟩
        have K12 := Lib.hid (K11.out.step hb)
        clear hb p0 p1 p2
        rcases hz with z1 | ⟨z1, z2⟩ | ⟨z1, z2, z3⟩
        · go_wp2_with fail
          go_ret
          exact ⟨rfl, K12.out.1⟩
        · go_wp2_with fail
          go_ret
          exact ⟨rfl, K12.out.1⟩
        · have z4 : (p.t == 1048576) = true := by simpa using z3
          clear z3
          go_wp2_with fail
          go_ret
          exact ⟨rfl, K12.out.1⟩
end Go.Proofs.Ytlmnbdepklcfpaa
