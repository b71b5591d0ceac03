/- The walks of the document's Cut, and of Same. Condition: how the stretches lie. -/
import Derived.Test.YtlmnbdepklcfpaaSplit
namespace Go.Proofs.Ytlmnbdepklcfpaa
open Go.RowKit
set_option linter.unusedVariables false
set_option linter.unusedSimpArgs false

/-- two slices of the call's own, apart -/
structure Duo (w : World) (B : Nat) (A : Option Addr) (c : Nat) (D : Option Addr) (d : Nat) (xs ys : List Str) : Prop where
  ra : Row w B 44 3 A xs.length c (flat xs)
  rb : Row w B 44 3 D ys.length d (flat ys)
  ap : ∀ k, blockOf A k → ¬ blockOf D k
section
variable {w w' w1 w2 : World} {B c d : Nat} {A D : Option Addr} {xs ys : List Str}
theorem Duo.swap (P : Duo w B A c D d xs ys) : Duo w B D d A c ys xs := ⟨P.rb, P.ra, fun k hk h' => P.ap k h' hk⟩
theorem Duo.below (P : Duo w B A c D d xs ys) (hb : Below w.heap.size w w') : Duo w' B A c D d xs ys := ⟨P.ra.below hb, P.rb.below hb, P.ap⟩
theorem Duo.push (P : Duo w B A c D d xs ys) {s : Str} {A' : Option Addr} {c' : Nat} (hW : Below w.heap.size w w1) (hrow : Row w2 B 44 3 A' (xs.length + 1) c' (flat xs ++ flat [s])) (hc : Chg (blockOf A) w1 w2) (hfr : A' = A ∨ ∀ k, blockOf A' k → w1.heap.size ≤ k) :
    Duo w2 B A' c' D d (xs ++ [s]) ys := by
  have P1 := P.below hW
  have e : flat xs ++ flat [s] = flat (xs ++ [s]) := (flat_append _ _).symm
  have hl : (xs ++ [s]).length = xs.length + 1 := by simp
  rw [e] at hrow
  refine ⟨by rw [hl]; exact hrow, P1.rb.chg hc fun k hk h' => P.ap k h' hk, fun k hk hk' => ?_⟩
  rcases hfr with rfl | hf
  · exact P.ap k hk hk'
  · have := hf k hk
    have := (P1.rb.lt hk').2
    omega
theorem Duo.frame (P : Duo w B A c D d xs ys) (hW : Below w.heap.size w w1) (hB : B ≤ w.heap.size) (hc : Chg (blockOf A) w1 w2) : Below B w w2 :=
  (hW.mono hB).trans (hc.below (Nat.le_trans hB hW.size) fun k hk => ((P.below hW).ra.lt hk).1)
end
def duoV (B : Nat) (v : World) (x y : Value) (xs ys : List Str) : Prop := ∃ A c D d, x = .slice A xs.length c ∧ y = .slice D ys.length d ∧ Duo v B A c D d xs ys
theorem cutV_take {B k : Nat} {w w' : World} {at_ : Int} {l : List Str} {e : Ending} (hk : l.take k = l) (h : CutV B w (ahead at_ (l.take k)) (behind at_ (l.take k)) e w') : CutV B w (ahead at_ l) (behind at_ l) e w' := by
  rw [hk] at h
  exact h
theorem row_lit0 (w : World) (B : Nat) (hB : B ≤ w.heap.size) (e size : Nat) : Row (w.alloc (.cells #[] e)) B e size (some ⟨w.heap.size, 0, none⟩) 0 0 [] := Row.of_own (World.ownsRow_lit w #[] 0 hB (Nat.zero_le _) (by simp))
set_option maxRecDepth 100000 in
set_option maxHeartbeats 8000000 in
theorem rcut_any (at_ : Int) (A : Option Addr) (n c : Nat) (l : List Str) (w : World) (h : Strs w w.heap.size A n l) (hn : n ≤ 100000) :
    Calls Try.prog 19 #[.slice A n c, .int .i64 at_] w (CutV w.heap.size w (ahead at_ l) (behind at_ l)) := by
  obtain ⟨i0, hi, hz0, hz1, hz2⟩ := info_parts info44
  obtain ⟨w1, hw1⟩ : ∃ w1, w1 = (w.alloc (.cells #[] 44)).alloc (.cells #[] 44) := ⟨_, rfl⟩
  have hb : Below w.heap.size w w1 := by rw [hw1]; exact ((Below.refl _ _).alloc (Nat.le_refl _) _).alloc (by simp) _
  have hD : duoV w.heap.size w1 (.slice (some ⟨w.heap.size, 0, none⟩) 0 0) (.slice (some ⟨w.heap.size + 1, 0, none⟩) 0 0) [] [] := by
    refine ⟨_, _, _, _, rfl, rfl, ?_, ?_, ?_⟩
    · rw [hw1]; exact (row_lit0 w _ (Nat.le_refl _) 44 3).alloc _
    · rw [hw1]; have := row_lit0 (w.alloc (.cells #[] 44)) w.heap.size (by simp) 44 3; show Row _ _ 44 3 _ 0 0 []; simpa using this
    · rintro k ⟨a, e, rfl⟩ ⟨b, e', hk⟩
      cases e
      cases e'
      simp at hk
  have HD := Lib.hid hD
  have HB := Lib.hid hb
  have HW := Lib.hid hw1
  have H := Lib.hid h
  clear hw1 hb hD h
  go_enter Try.func19, Try.ntmps19
  go_wp2_with fail
  rw [← HW.out]
  clear HW
  go_loopw [6, 7, 8, 9] (fun x y i _ v => ∃ k : Nat, k ≤ n ∧ i = .int .i64 k ∧ duoV w.heap.size v x y (ahead at_ (l.take k)) (behind at_ (l.take k)) ∧ Below w.heap.size w v) (fun _ _ i _ _ => n - (intOf i).toNat)
  case atStart => exact ⟨0, by omega, rfl, HD.out, HB.out⟩
  case round =>
    obtain ⟨k, hk, rfl, ⟨A1, c1, D1, d1, rfl, rfl, P⟩, hbel⟩ := hrel
    clear HD HB
    by_cases hlt : k < n
    · obtain ⟨a', s, hA, hs, hab, x0, x1, x2⟩ := (H.out.below hbel).at_ hlt
      subst hA
      obtain ⟨n1, n2⟩ := ahead_next (at_ := at_) hs
      have N1 := Lib.hid n1
      have N2 := Lib.hid n2
      have hlen : (l.take k).length = k := by rw [List.length_take, H.out.1]; omega
      obtain ⟨cl1, cl2⟩ := cut_len at_ (l.take k)
      have hl1 : (ahead at_ (l.take k)).length < 1000000 := by omega
      have hl2 : (behind at_ (l.take k)).length < 1000000 := by omega
      generalize ahead at_ (l.take k) = xs at *
      generalize behind at_ (l.take k) = ys at *
      have HB0 := Lib.hid hbel
      have hsz := hbel.size
      obtain ⟨f, t, z⟩ := s
      simp only at x0 x1 x2
      have hB1 : Below wr.heap.size wr (wr.alloc (.cells #[.int .i64 f, .int .i64 t, .int .i64 z] 44)) := (Below.refl _ _).alloc (Nat.le_refl _) _
      have hB2 : Below wr.heap.size wr ((wr.alloc (.cells #[.int .i64 f, .int .i64 t, .int .i64 z] 44)).alloc (.cells #[.int .i64 f, .int .i64 t, .int .i64 z] 44)) := hB1.alloc (by simp) _
      have HB2 := Lib.hid hB2
      have HP := Lib.hid P
      have ra2 := Lib.hid (P.ra.below hB2)
      have rb2 := Lib.hid (P.rb.below hB2)
      clear hs hbel n1 n2 hB1 hB2 P cl1 cl2 hlen
      by_cases c1' : f < at_
      · by_cases c2' : at_ < t
        · have hca : Hid (cutA at_ ⟨f, t, z⟩ = [⟨f, at_, z⟩] ∧ cutB at_ ⟨f, t, z⟩ = [⟨at_, t, z⟩]) := by show cutA at_ ⟨f, t, z⟩ = _ ∧ cutB at_ ⟨f, t, z⟩ = _; unfold cutA cutB; simp only; rw [if_pos (by omega), if_pos (by omega)]; exact ⟨rfl, rfl⟩
          have hB3 : Below wr.heap.size wr ((wr.alloc (.cells #[.int .i64 f, .int .i64 t, .int .i64 z] 44)).alloc (.cells #[.int .i64 f, .int .i64 at_, .int .i64 z] 44)) := ((Below.refl _ _).alloc (Nat.le_refl _) _).alloc (by simp) _
          have HB3 := Lib.hid hB3
          have ra3 := Lib.hid (HP.out.ra.below hB3)
          have bx3 := Lib.hid (show Blk ((wr.alloc (.cells #[.int .i64 f, .int .i64 t, .int .i64 z] 44)).alloc (.cells #[.int .i64 f, .int .i64 at_, .int .i64 z] 44)) wr.heap.size 44 #[.int .i64 f, .int .i64 t, .int .i64 z] from (Blk.new wr 44 _).alloc _)
          have nbx := Lib.hid (show ¬ blockOf A1 wr.heap.size from fun hk => by have := (HP.out.ra.lt hk).2; omega)
          clear hB3
          go_wp2_with (at_builtin; refine wpList_append_row _ rfl (.tmp 32) (.tmp 39) 24 rfl w.heap.size 44 i0 (.agg #[.int .i64 0, .int .i64 0, .int .i64 0]) 3 24 Try.underlying24 hi hz0 hz1 hz2 rfl (by decide) A1 xs.length c1 (flat xs) rfl ra3.out (by simp; omega) ⟨wr.heap.size + 1, 0, none⟩ 1 1 (by omega) (flat [⟨f, at_, z⟩]) rfl ((lit_readsN _ #[.int .i64 f, .int .i64 at_, .int .i64 z] 44 (wr.heap.size + 1) 3 1 _ (by simp) rfl rfl).more (by simp)) (flat_one _) (by unfold maxLen; omega) (by omega) ?_)
          intro A' c' w2 hrow hch hfr
          have P2 := Lib.hid (HP.out.push HB3.out hrow hch (by simpa using hfr))
          have B2 := Lib.hid (HB0.out.trans (HP.out.frame HB3.out hsz hch))
          obtain ⟨b0, b1, b2, _, _, _⟩ := (hch.blk bx3.out nbx.out).three_
          have hsz2 := B2.out.size
          have lb2 : wr.heap.size < w2.heap.size := (hch.blk bx3.out nbx.out).lt
          have hB4 : Below w2.heap.size w2 (w2.alloc (.cells #[.int .i64 at_, .int .i64 t, .int .i64 z] 44)) := (Below.refl _ _).alloc (Nat.le_refl _) _
          have HB4 := Lib.hid hB4
          have rb4 := Lib.hid (P2.out.rb.below hB4)
          clear hrow hch hfr hB4
          go_wp2_with (at_builtin; refine wpList_append_row _ rfl (.tmp 41) (.tmp 48) 24 rfl w.heap.size 44 i0 (.agg #[.int .i64 0, .int .i64 0, .int .i64 0]) 3 24 Try.underlying24 hi hz0 hz1 hz2 rfl (by decide) D1 ys.length d1 (flat ys) rfl rb4.out (by simp; omega) ⟨w2.heap.size, 0, none⟩ 1 1 (by omega) (flat [⟨at_, t, z⟩]) rfl ((lit_readsN _ #[.int .i64 at_, .int .i64 t, .int .i64 z] 44 w2.heap.size 3 1 _ (by simp) rfl rfl).more (by simp)) (flat_one _) (by unfold maxLen; omega) (by omega) ?_)
          intro A2 c2 w3 hrow hch hfr
          have P3 := Lib.hid (P2.out.swap.push HB4.out hrow hch (by simpa using hfr)).swap
          have B3 := Lib.hid (B2.out.trans (P2.out.swap.frame HB4.out (by omega) hch))
          clear hrow hch hfr b0 b1 b2
          go_wp2_with fail
          go_roundw
          case rel => exact ⟨k + 1, by omega, by go_num, by rw [N1.out, N2.out, hca.out.1, hca.out.2]; exact ⟨_, _, _, _, by simp, by simp, P3.out⟩, B3.out⟩
          case measure => simp [intOf]; omega
        · have c3 : t ≤ at_ := by omega
          have hca : Hid (cutA at_ ⟨f, t, z⟩ = [⟨f, t, z⟩] ∧ cutB at_ ⟨f, t, z⟩ = []) := by show cutA at_ ⟨f, t, z⟩ = _ ∧ cutB at_ ⟨f, t, z⟩ = []; unfold cutA cutB; simp only; rw [if_neg (by omega), if_pos c1', if_neg (by omega), if_pos c1']; exact ⟨rfl, rfl⟩
          clear c2'
          go_wp2_with (at_builtin; refine wpList_append_row _ rfl (.tmp 54) (.tmp 56) 24 rfl w.heap.size 44 i0 (.agg #[.int .i64 0, .int .i64 0, .int .i64 0]) 3 24 Try.underlying24 hi hz0 hz1 hz2 rfl (by decide) A1 xs.length c1 (flat xs) rfl ra2.out (by simp; omega) ⟨wr.heap.size + 1, 0, none⟩ 1 1 (by omega) (flat [⟨f, t, z⟩]) rfl ((lit_readsN _ #[.int .i64 f, .int .i64 t, .int .i64 z] 44 (wr.heap.size + 1) 3 1 _ (by simp) rfl rfl).more (by simp)) (flat_one _) (by unfold maxLen; omega) (by omega) ?_)
          intro A' c' w2 hrow hch hfr
          have P2 := Lib.hid (HP.out.push HB2.out hrow hch (by simpa using hfr))
          have B2 := Lib.hid (HB0.out.trans (HP.out.frame HB2.out hsz hch))
          clear hrow hch hfr
          go_wp2_with fail
          go_roundw
          case rel => exact ⟨k + 1, by omega, by go_num, by rw [N1.out, N2.out, hca.out.1, hca.out.2, List.append_nil]; exact ⟨_, _, _, _, by simp, rfl, P2.out⟩, B2.out⟩
          case measure => simp [intOf]; omega
      · have c3 : at_ ≤ f := by omega
        have hca : Hid (cutA at_ ⟨f, t, z⟩ = [] ∧ cutB at_ ⟨f, t, z⟩ = [⟨f, t, z⟩]) := by show cutA at_ ⟨f, t, z⟩ = _ ∧ cutB at_ ⟨f, t, z⟩ = _; unfold cutA cutB; simp only; rw [if_neg (by omega), if_neg c1', if_neg (by omega), if_neg c1']; exact ⟨rfl, rfl⟩
        clear c1'
        go_wp2_with (at_builtin; refine wpList_append_row _ rfl (.tmp 58) (.tmp 60) 24 rfl w.heap.size 44 i0 (.agg #[.int .i64 0, .int .i64 0, .int .i64 0]) 3 24 Try.underlying24 hi hz0 hz1 hz2 rfl (by decide) D1 ys.length d1 (flat ys) rfl rb2.out (by simp; omega) ⟨wr.heap.size + 1, 0, none⟩ 1 1 (by omega) (flat [⟨f, t, z⟩]) rfl ((lit_readsN _ #[.int .i64 f, .int .i64 t, .int .i64 z] 44 (wr.heap.size + 1) 3 1 _ (by simp) rfl rfl).more (by simp)) (flat_one _) (by unfold maxLen; omega) (by omega) ?_)
        intro A' c' w2 hrow hch hfr
        have P2 := Lib.hid (HP.out.swap.push HB2.out hrow hch (by simpa using hfr)).swap
        have B2 := Lib.hid (HB0.out.trans (HP.out.swap.frame HB2.out hsz hch))
        clear hrow hch hfr
        go_wp2_with fail
        go_roundw
        case rel => exact ⟨k + 1, by omega, by go_num, by rw [N1.out, N2.out, hca.out.1, hca.out.2, List.append_nil]; exact ⟨_, _, _, _, rfl, by simp, P2.out⟩, B2.out⟩
        case measure => simp [intOf]; omega
    · obtain rfl : k = n := by omega
      have hk : l.take k = l := List.take_of_length_le (by rw [H.out.1]; exact Nat.le_refl _)
      have HK := Lib.hid hk
      clear hk
      have HP := Lib.hid P
      have HB0 := Lib.hid hbel
      clear P hbel
      go_wp2_with fail
      go_ret2
      exact cutV_take HK.out ⟨A1, c1, D1, d1, rfl, HB0.out, HP.out.ra, HP.out.rb, HP.out.ap⟩
set_option maxRecDepth 100000 in
set_option maxHeartbeats 2000000 in
theorem same_any (A D : Option Addr) (n c d : Nat) (l : List Str) (w : World) (h : Strs w w.heap.size A n l) (g : Strs w w.heap.size D n l) (hn : n ≤ 100000) :
    Calls Try.prog 20 #[.slice A n c, .slice D n d] w fun e w' => e = .returned (.bool true) ∧ Below w.heap.size w w' := by
  have q0 : ((n : Int) != (n : Int)) = false := by simp
  go_enter Try.func20, Try.ntmps20
  go_wp2_with fail
  go_loopw [5] (fun i v => ∃ k : Nat, k ≤ n ∧ i = .int .i64 k ∧ ∃ m, v = w.drewN m) (fun i _ => n - (intOf i).toNat)
  case atStart => exact ⟨0, by omega, rfl, 0, rfl⟩
  case round =>
    obtain ⟨k, hk, rfl, m, rfl⟩ := hrel
    by_cases hlt : k < n
    · obtain ⟨a', s, hA, hs, hab, x0, x1, x2⟩ := h.at_ hlt
      subst hA
      obtain ⟨b', s', hD, hs', hdb, y0, y1, y2⟩ := g.at_ hlt
      subst hD
      obtain rfl : s' = s := Option.some.inj (hs'.symm.trans hs)
      clear hs hs'
      go_wp2_with fail
      go_quiet (fail)
      go_wp2_with fail
      go_roundw
      case rel => exact ⟨k + 1, by omega, by go_num, _, rfl⟩
      case measure => simp [intOf]; omega
    · obtain rfl : k = n := by omega
      go_wp2_with fail
      go_ret
      exact ⟨rfl, below_drewN' (Below.refl _ _) _⟩
end Go.Proofs.Ytlmnbdepklcfpaa
