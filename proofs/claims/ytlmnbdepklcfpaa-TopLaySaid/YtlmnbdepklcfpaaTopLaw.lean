/- TopLay's walk. Condition: how the bytes lie. -/
import Derived.Test.YtlmnbdepklcfpaaNets
import Derived.Test.YtlmnbdepklcfpaaMoneyFit
import Derived.Test.YtlmnbdepklcfpaaTopPlain
import Derived.Test.YtlmnbdepklcfpaaCutsLaw
namespace Go.Proofs.Ytlmnbdepklcfpaa
open Go.RowKit
set_option linter.unusedVariables false
set_option linter.unusedSimpArgs false
theorem row_from {w : World} {B e size n c : Nat} {A : Option Addr} {xs : List Value} (h : Row w B e size A n c xs) : ∀ k, blockOf A k → B ≤ k := by
  rintro k ⟨a, ha, hb⟩
  rcases h.2 with ⟨h0, _⟩ | ⟨r, cur, h0, h1, _⟩
  · rw [h0] at ha; cases ha
  · rw [h0] at ha; cases ha; subst hb; exact h1
def u8s (zs : List Int) : List Value := zs.map (Value.int .u8)
set_option maxRecDepth 100000 in
set_option maxHeartbeats 8000000 in
theorem topLaw_any (a b c : Int) (A : Option Addr) (n k : Nat) (zs : List Int) (at_ : Int) (w : World) (ha : 0 ≤ a ∧ a ≤ 255) (hb : 0 ≤ b ∧ b ≤ 255) (hc : 0 ≤ c ∧ c ≤ 255) (hat : 0 ≤ at_ ∧ at_ ≤ 255) (hz : ∀ z ∈ zs, 0 ≤ z ∧ z ≤ 255)
    (h : Reads w w.heap.size 1 A n (u8s zs)) (hl : zs.length = n) (hn : n ≤ maxLen) :
    Calls Try.prog 8 #[.int .u8 a, .int .u8 b, .int .u8 c, .slice A n k, .int .u8 at_] w fun e w' => e = .returned (.bool true) ∧ Below w.heap.size w w' := by
  obtain ⟨i0, hi, hz0, hz1, hz2⟩ := info_parts info44
  obtain ⟨a1, a2⟩ := ha
  obtain ⟨b1, b2⟩ := hb
  obtain ⟨c1, c2⟩ := hc
  obtain ⟨d1, d2⟩ := hat
  have H := Lib.hid h
  have HZ := Lib.hid hz
  have HM : Hid (mayB a b c = true) := mayB_mk (by omega)
  clear h hz
  go_enter Try.func8, Try.ntmps8
  go_wp2_with fail
  refine (nets_any w).mono ?_
  rintro e w1 ⟨rfl, hb1⟩
  have HB1 := Lib.hid hb1
  have hs1 := hb1.size
  clear hb1
  by_cases h12 : 12 < n
  · have q : (12 : Int) < n := by omega
    go_wp2_with fail
    refine (nets_any w1).mono ?_
    rintro e w2 ⟨rfl, hb2⟩
    have HB2 := Lib.hid (below_trans HB1.out hb2)
    clear hb2
    go_wp2_with fail
    go_ret
    exact ⟨rfl, HB2.out⟩
  have q : (n : Int) ≤ 12 := by omega
  go_wp2_with fail
  have HB2 := Lib.hid (HB1.out.alloc hs1 (.cells #[.int .i64 a, .int .i64 b, .int .i64 c] 23))
  have HX := Lib.hid (Blk.new w1 23 #[.int .i64 a, .int .i64 b, .int .i64 c])
  have hlz := hl
  generalize hgg : w1.heap.size = g at *
  have HGG := Lib.hid hgg
  clear hgg
  go_loopw [12, 13, 15, 48] (fun s hh _ i v => ∃ (j : Nat) (A' : Option Addr) (c' : Nat), j ≤ n ∧ i = .int .i64 j ∧ s = .slice A' j c' ∧ hh = .int .i64 (lastTo 0 (mkS 0 (zs.take j))) ∧ Hid (Row v (g + 1) 44 3 A' j c' (flat (mkS 0 (zs.take j)))) ∧
    Hid (Blk v g 23 #[.int .i64 a, .int .i64 b, .int .i64 c]) ∧ Hid (Below w.heap.size w v) ∧ g + 1 ≤ v.heap.size) (fun _ _ _ i _ => n - (intOf i).toNat)
  case atStart => exact ⟨0, none, 0, by omega, rfl, rfl, rfl, Row.nil _ _ _ _, HX.out, HB2.out, by simp [HGG.out]⟩
  case round =>
    obtain ⟨j, A', c', hj, rfl, rfl, rfl, hrow, hx, hbv, hgv⟩ := hrel
    clear HX HB2
    by_cases hlt : j < n
    · obtain ⟨ad, u, rfl, hab, hu, hcell⟩ := (H.out.below hbv.out).at_ hlt
      unfold u8s at hu
      rw [List.getElem?_map] at hu
      obtain ⟨z, hzj, rfl⟩ := Option.map_eq_some_iff.1 hu
      obtain ⟨z0, z1⟩ := HZ.out z (List.mem_of_getElem? hzj)
      have HN := Lib.hid (mkS_next hzj)
      obtain ⟨e0, e1⟩ := mkS_last (zs.take j) (fun x hx => (HZ.out x (List.mem_of_mem_take hx)).1) 0
      have e2 : lastTo 0 (mkS 0 (zs.take j)) ≤ 240 := by
        have : (zs.take j).length ≤ 12 := by rw [List.length_take]; omega
        omega
      generalize hh : lastTo 0 (mkS 0 (zs.take j)) = hh at *
      have HHH := Lib.hid hh
      have HROW := Lib.hid hrow.out
      have HXX := Lib.hid hx.out
      have HBV := Lib.hid hbv.out
      have hM1 : 0 ≤ z % 20 ∧ z % 20 < 20 := by omega
      have hM2 : 0 ≤ z % 3 ∧ z % 3 < 3 := by omega
      clear hh hrow hx hbv hu hzj e1
      go_wp2_with (at_builtin; go_loud (refine wpList_append_row _ rfl (.tmp 52) (.tmp 64) 24 rfl (g + 1) 44 i0 (.agg #[.int .i64 0, .int .i64 0, .int .i64 0]) 3 24 Try.underlying24 hi hz0 hz1 hz2 rfl (by decide) A' j c' (flat (mkS 0 (zs.take j))) rfl (HROW.out.alloc _) (by simp; omega) ⟨wr.heap.size, 0, none⟩ 1 1 (by omega) (flat [⟨hh, hh + 1 + z % 20, z % 3⟩]) rfl ((lit_readsN _ #[.int .i64 hh, .int .i64 (hh + 1 + z % 20), .int .i64 (z % 3)] 44 wr.heap.size 3 1 _ (by simp) rfl rfl).more (by simp)) (flat_one _) (by unfold maxLen; omega) (by omega) ?_))
      intro A2 c2 w3 hrow2 hch _
      rw [← flat_append, ← HN.out] at hrow2
      have hlen : (mkS 0 (zs.take (j + 1))).length = j + 1 := by rw [mkS_len, List.length_take]; omega
      have hlen0 : (mkS 0 (zs.take j)).length = j := by rw [mkS_len, List.length_take]; omega
      have HS : Strs w3 w3.heap.size A2 (j + 1) (mkS 0 (zs.take (j + 1))) := ⟨hlen, hrow2.reads⟩
      obtain ⟨ad2, s2, rfl, hs2, hb2, x0, x1, x2⟩ := HS.at_ (k := j) (by omega)
      have es2 : s2 = ⟨hh, hh + 1 + z % 20, z % 3⟩ := by
        rw [HN.out, List.getElem?_append_right (by omega), hlen0] at hs2
        simpa using hs2.symm
      have hlast : lastTo 0 (mkS 0 (zs.take (j + 1))) = hh + 1 + z % 20 := by rw [HN.out, lastTo_append]; rfl
      subst es2
      have HL := Lib.hid hlast
      have HR2 := Lib.hid hrow2
      have HX2 := Lib.hid (hch.blk (HXX.out.alloc _) (HROW.out.blk_ne HXX.out (by decide)))
      have HB3 := Lib.hid (((HBV.out.alloc HBV.out.size _).trans (hch.below (B := w.heap.size) (by simp; have := HBV.out.size; omega) (fun k hk => by have := row_from HROW.out k hk; omega))))
      have hg3 : g + 1 ≤ w3.heap.size := by have := hch.size; simp at this; omega
      clear hrow2 hch HS hs2 hlast x0 x2 hb2
      go_wp2_with fail
      go_roundw
      case rel => exact ⟨j + 1, _, c2, by omega, by go_num, rfl, by rw [HL.out], HR2.out, HX2.out, HB3.out, hg3⟩
      case measure => simp [intOf]; omega
    · obtain rfl : j = n := by omega
      have htk : zs.take j = zs := List.take_of_length_le (by omega)
      rw [htk] at hrow ⊢
      have hch0 := mkS_chain zs (fun x hx => (HZ.out x hx).1) 0 (by omega) (by omega)
      have hSL : (mkS 0 zs).length = j := by rw [mkS_len]; omega
      have hck := chk_mk hch0 (by omega)
      obtain ⟨S, hS⟩ : ∃ S, S = mkS 0 zs := ⟨_, rfl⟩
      rw [← hS] at hrow hSL hck ⊢
      have HR : Hid ((chk S).2 = 0) := by show (chk S).2 = 0; rw [hck]
      have HSs : Hid (Strs wr wr.heap.size A' j S) := ⟨hSL, hrow.out.reads⟩
      have HA := Lib.hid (cut_all at_ HR.out (by omega))
      have HU := Lib.hid (U_bd (a := a) HR.out)
      have HV := Lib.hid (V_bd (a := a) at_ HR.out)
      obtain ⟨cl1, cl2⟩ := cut_len at_ S
      have HCH := Lib.hid hch0
      have HSe := Lib.hid hS
      have HX := Lib.hid hx.out
      have HBV := Lib.hid hbv.out
      have hj5 : j ≤ 100000 := by omega
      generalize lastTo 0 S = lst
      have q0 := HX.out.cell 0
      have q1 := HX.out.cell 1
      have q2 := HX.out.cell 2
      have qf := HX.out.lt
      simp at q0 q1 q2
      clear hrow hck hch0 hx hbv htk hS
      go_wp2_with fail
      refine (split_ok a b c at_ A' j c' S wr HSs.out hj5 HM.out HR.out).mono ?_
      rintro e w3 ⟨rfl, hb3⟩
      have HX3 := Lib.hid (HX.out.below hb3 HX.out.lt)
      have HS3 := Lib.hid (HSs.out.up hb3)
      have HB3 := Lib.hid (HBV.out.trans (hb3.mono HBV.out.size))
      have q0 := HX3.out.cell 0
      have q1 := HX3.out.cell 1
      have q2 := HX3.out.cell 2
      have qf := HX3.out.lt
      simp at q0 q1 q2
      clear hb3
      go_wp2_with fail
      refine (used_ok a b c A' j c' S w3 HS3.out hn HM.out HR.out).mono ?_
      rintro e w4 ⟨rfl, hb4⟩
      have HX4 := Lib.hid (HX3.out.below hb4 HX3.out.lt)
      have HS4 := Lib.hid (HS3.out.up hb4)
      have HB4 := Lib.hid (HB3.out.trans (hb4.mono HB3.out.size))
      clear hb4
      obtain ⟨u0, u1⟩ := HU.out
      obtain ⟨v0, v1⟩ := HV.out
      obtain ⟨u, hu⟩ : ∃ u, U a S = u := ⟨_, rfl⟩
      obtain ⟨v, hv⟩ : ∃ v, V a S at_ = v := ⟨_, rfl⟩
      rw [hu] at u0 u1 v1 ⊢
      rw [hv] at v0 v1 ⊢
      have HUe := Lib.hid hu
      have HVe := Lib.hid hv
      clear hu hv
      have gg : v + (u - v) = u := by omega
      go_wp2_with fail
      refine (cut_any at_ A' j c' S w4 HS4.out hj5).mono ?_
      rintro e w5 ⟨A1, c1, D1, d1, rfl, hb5, hra, hrb, _⟩
      have HX5 := Lib.hid (HX4.out.below hb5 HX4.out.lt)
      have HS5 := Lib.hid (HS4.out.up hb5)
      have HB5 := Lib.hid (HB4.out.trans (hb5.mono HB4.out.size))
      have RA := Lib.hid hra.strs
      have RB := Lib.hid hrb.strs
      have HVA := Lib.hid (V_ahead (a := a) (at_ := at_) HR.out)
      have e1 : (ahead at_ S).length ≤ 12 := by omega
      have e2 : (behind at_ S).length ≤ 12 := by omega
      clear hb5 hra hrb cl1 cl2
      generalize hxs : ahead at_ S = xs at *
      generalize hys : behind at_ S = ys at *
      have HXS := Lib.hid hxs
      have HYS := Lib.hid hys
      clear hxs hys
      have HXa := Lib.hid (HX5.out.drew.alloc (.cells #[] 44))
      go_upto_region 17 with fail
      refine region_Z (z := 99) (S := fun v => v.cell? ⟨g, 0, none⟩ = some (.int .i64 a) ∧ v.cell? ⟨g, 1, none⟩ = some (.int .i64 b) ∧ v.cell? ⟨g, 2, none⟩ = some (.int .i64 c)) (by kernel_rfl) ?_
      have hS0 := Lib.hid (show (fun v => v.cell? ⟨g, 0, none⟩ = some (.int .i64 a) ∧ v.cell? ⟨g, 1, none⟩ = some (.int .i64 b) ∧ v.cell? ⟨g, 2, none⟩ = some (.int .i64 c)) (w5).drew from ⟨HX5.out.cell 0, HX5.out.cell 1, HX5.out.cell 2⟩)
      show AnyZ _ _ _ _ _ _ 12 (List.replicate 12 false).toArray _ _
      first
        | refine AnyZ.takeD (i := 0) (some 110) (v := ?_) rfl (by rfl) (by kernel_rfl) (by kernel_rfl) (by kernel_rfl) (by kernel_rfl) (by kernel_rfl) (fun _ _ _ h => h) (by rfl) (fun v hv => ?_) hS0.out ?_
          rotate_left
          · obtain ⟨s0, s1, s2⟩ := hv
            go_simp
            try with_reducible rfl
        | refine AnyZ.skipD (i := 0) (some 110) rfl (by rfl) (by kernel_rfl) (by kernel_rfl) (by kernel_rfl) (by kernel_rfl) (by kernel_rfl) (fun _ _ _ h => h) (by rfl) hS0.out ?_
      try simp only [Act.put, List.setIfInBounds_toArray, List.set_cons_zero, List.set_cons_succ]
      first
        | refine AnyZ.takeD (i := 2) (some 112) (v := ?_) rfl (by rfl) (by kernel_rfl) (by kernel_rfl) (by kernel_rfl) (by kernel_rfl) (by kernel_rfl) (fun _ _ _ h => h) (by rfl) (fun v hv => ?_) hS0.out ?_
          rotate_left
          · obtain ⟨s0, s1, s2⟩ := hv
            go_simp
            try with_reducible rfl
        | refine AnyZ.skipD (i := 2) (some 112) rfl (by rfl) (by kernel_rfl) (by kernel_rfl) (by kernel_rfl) (by kernel_rfl) (by kernel_rfl) (fun _ _ _ h => h) (by rfl) hS0.out ?_
      try simp only [Act.put, List.setIfInBounds_toArray, List.set_cons_zero, List.set_cons_succ]
      first
        | refine AnyZ.takeD (i := 4) (some 114) (v := ?_) rfl (by rfl) (by kernel_rfl) (by kernel_rfl) (by kernel_rfl) (by kernel_rfl) (by kernel_rfl) (fun _ _ _ h => h) (by rfl) (fun v hv => ?_) hS0.out ?_
          rotate_left
          · obtain ⟨s0, s1, s2⟩ := hv
            go_simp
            try with_reducible rfl
        | refine AnyZ.skipD (i := 4) (some 114) rfl (by rfl) (by kernel_rfl) (by kernel_rfl) (by kernel_rfl) (by kernel_rfl) (by kernel_rfl) (fun _ _ _ h => h) (by rfl) hS0.out ?_
      try simp only [Act.put, List.setIfInBounds_toArray, List.set_cons_zero, List.set_cons_succ]
      refine AnyZ.one (i := 1) (by kernel_rfl) rfl (by rfl) fun K1 hK1 => ?_
      go_simp
      have hS1 := Lib.hid (show (fun v => v.cell? ⟨g, 0, none⟩ = some (.int .i64 a) ∧ v.cell? ⟨g, 1, none⟩ = some (.int .i64 b) ∧ v.cell? ⟨g, 2, none⟩ = some (.int .i64 c)) (w5.drew.alloc (.cells #[] 44)) from ⟨HXa.out.cell 0, HXa.out.cell 1, HXa.out.cell 2⟩)
      refine hK1.out _ _ (.inr hS1.out) fun _ => ?_
      try simp only [Act.put, List.setIfInBounds_toArray, List.set_cons_zero, List.set_cons_succ]
      refine AnyZ.one (i := 3) (by kernel_rfl) rfl (by rfl) fun K3 hK3 => ?_
      refine wp_append_any _ (.tmp 111) (.tmp 112) 24 rfl w5.heap.size 44 i0 (.agg #[.int .i64 0, .int .i64 0, .int .i64 0]) 3 24 Try.underlying24 hi hz0 hz1 hz2 rfl (by decide) (.slice (some ⟨w5.heap.size, 0, none⟩) 0 0) 0 [] rfl (World.ownsRow_lit w5.drew #[] 0 (Nat.le_refl _) (Nat.zero_le _) rfl) w5.heap.size A1 xs.length c1 (flat xs) rfl (RA.out.2.alloc (Nat.le_refl _) _) (flat_one _) (by unfold maxLen; omega) (by omega) (by simp) ?_
      intro v1 w6 hown1 hg1 _
      obtain ⟨A3, c3, rfl, hle1⟩ := own_form hown1
      simp only [Nat.zero_add]
      have HB6d := Lib.hid (below_own ((Below.refl w5.heap.size w5.drew).alloc (Nat.le_refl _) _) (World.ownsRow_lit (size := 3) w5.drew #[] 0 (Nat.le_refl _) (Nat.zero_le _) rfl) (Nat.le_refl _) hg1)
      have HB6 := Lib.hid (show Below w5.heap.size w5 w6 from (Below.refl w5.heap.size w5).drew.trans HB6d.out)
      have O1 := Lib.hid hown1
      have HX6 := Lib.hid (HX5.out.below HB6.out HX5.out.lt)
      have RB6 := Lib.hid (RB.out.2.below HB6.out)
      have hsz6 := HB6.out.size
      clear hown1 hg1 hle1
      have hS3 := Lib.hid (show (fun v => v.cell? ⟨g, 0, none⟩ = some (.int .i64 a) ∧ v.cell? ⟨g, 1, none⟩ = some (.int .i64 b) ∧ v.cell? ⟨g, 2, none⟩ = some (.int .i64 c)) w6 from ⟨HX6.out.cell 0, HX6.out.cell 1, HX6.out.cell 2⟩)
      refine hK3.out _ _ (.inr hS3.out) fun _ => ?_
      try simp only [Act.put, List.setIfInBounds_toArray, List.set_cons_zero, List.set_cons_succ]
      refine AnyZ.one (i := 5) (by kernel_rfl) rfl (by rfl) fun K5 hK5 => ?_
      refine wp_append_any _ (.tmp 113) (.tmp 114) 24 rfl w5.heap.size 44 i0 (.agg #[.int .i64 0, .int .i64 0, .int .i64 0]) 3 24 Try.underlying24 hi hz0 hz1 hz2 rfl (by decide) (.slice A3 xs.length c3) xs.length (flat xs) rfl (by first | exact O1.out | exact own_nil O1.out) w5.heap.size D1 ys.length d1 (flat ys) rfl RB6.out (flat_one _) (by unfold maxLen; omega) (by omega) (by omega) ?_
      intro v2 w7 hown2 hg2 _
      obtain ⟨A4, c4, rfl, hle2⟩ := own_form hown2
      have HB7d := Lib.hid (below_own HB6d.out (by first | exact O1.out | exact own_nil O1.out) (Nat.le_refl _) hg2)
      have HB7 := Lib.hid (show Below w5.heap.size w5 w7 from (Below.refl w5.heap.size w5).drew.trans HB7d.out)
      have HX7 := Lib.hid (HX5.out.below HB7.out HX5.out.lt)
      have HSA : Hid (Strs w7 w7.heap.size A4 (xs.length + ys.length) (xs ++ ys)) := ⟨List.length_append, by rw [flat_append]; exact (Row.of_own hown2).reads⟩
      clear hown2 hg2 hle2
      have hS5 := Lib.hid (show (fun v => v.cell? ⟨g, 0, none⟩ = some (.int .i64 a) ∧ v.cell? ⟨g, 1, none⟩ = some (.int .i64 b) ∧ v.cell? ⟨g, 2, none⟩ = some (.int .i64 c)) w7 from ⟨HX7.out.cell 0, HX7.out.cell 1, HX7.out.cell 2⟩)
      refine hK5.out _ _ (.inr hS5.out) fun _ => ?_
      try simp only [Act.put, List.setIfInBounds_toArray, List.set_cons_zero, List.set_cons_succ]
      refine AnyZ.one (i := 6) (by kernel_rfl) rfl (by rfl) fun K6 hK6 => ?_
      go_simp
      refine (used_ok a b c A4 _ c4 (xs ++ ys) w7 HSA.out (by unfold maxLen; omega) HM.out HA.out.1).mono ?_
      rintro e w8 ⟨rfl, hb8⟩
      rw [HA.out.2.2, HUe.out]
      have HB8 := Lib.hid (HB7.out.trans (hb8.mono HB7.out.size))
      have HX8 := Lib.hid (HX5.out.below HB8.out HX5.out.lt)
      clear hb8
      try go_wp2_with fail
      have hS6 := Lib.hid (show (fun v => v.cell? ⟨g, 0, none⟩ = some (.int .i64 a) ∧ v.cell? ⟨g, 1, none⟩ = some (.int .i64 b) ∧ v.cell? ⟨g, 2, none⟩ = some (.int .i64 c)) w8 from ⟨HX8.out.cell 0, HX8.out.cell 1, HX8.out.cell 2⟩)
      refine hK6.out _ _ (.inr hS6.out) fun _ => ?_
      try simp only [Act.put, List.setIfInBounds_toArray, List.set_cons_zero, List.set_cons_succ]
      first
        | refine AnyZ.takeD (i := 7) (some 109) (v := ?_) rfl (by rfl) (by kernel_rfl) (by kernel_rfl) (by kernel_rfl) (by kernel_rfl) (by kernel_rfl) (fun _ _ _ h => h) (by rfl) (fun v hv => ?_) hS6.out ?_
          rotate_left
          · obtain ⟨s0, s1, s2⟩ := hv
            go_simp
            try with_reducible rfl
        | refine AnyZ.skipD (i := 7) (some 109) rfl (by rfl) (by kernel_rfl) (by kernel_rfl) (by kernel_rfl) (by kernel_rfl) (by kernel_rfl) (fun _ _ _ h => h) (by rfl) hS6.out ?_
      try simp only [Act.put, List.setIfInBounds_toArray, List.set_cons_zero, List.set_cons_succ]
      first
        | refine AnyZ.takeD (i := 8) (some 117) (v := ?_) rfl (by rfl) (by kernel_rfl) (by kernel_rfl) (by kernel_rfl) (by kernel_rfl) (by kernel_rfl) (fun _ _ _ h => h) (by rfl) (fun v hv => ?_) hS6.out ?_
          rotate_left
          · obtain ⟨s0, s1, s2⟩ := hv
            go_simp
            try with_reducible rfl
        | refine AnyZ.skipD (i := 8) (some 117) rfl (by rfl) (by kernel_rfl) (by kernel_rfl) (by kernel_rfl) (by kernel_rfl) (by kernel_rfl) (fun _ _ _ h => h) (by rfl) hS6.out ?_
      try simp only [Act.put, List.setIfInBounds_toArray, List.set_cons_zero, List.set_cons_succ]
      first
        | refine AnyZ.takeD (i := 9) (some 118) (v := ?_) rfl (by rfl) (by kernel_rfl) (by kernel_rfl) (by kernel_rfl) (by kernel_rfl) (by kernel_rfl) (fun _ _ _ h => h) (by rfl) (fun v hv => ?_) hS6.out ?_
          rotate_left
          · obtain ⟨s0, s1, s2⟩ := hv
            go_simp
            try with_reducible rfl
        | refine AnyZ.skipD (i := 9) (some 118) rfl (by rfl) (by kernel_rfl) (by kernel_rfl) (by kernel_rfl) (by kernel_rfl) (by kernel_rfl) (fun _ _ _ h => h) (by rfl) hS6.out ?_
      try simp only [Act.put, List.setIfInBounds_toArray, List.set_cons_zero, List.set_cons_succ]
      first
        | refine AnyZ.takeD (i := 10) (some 23) (v := ?_) rfl (by rfl) (by kernel_rfl) (by kernel_rfl) (by kernel_rfl) (by kernel_rfl) (by kernel_rfl) (fun _ _ _ h => h) (by rfl) (fun v hv => ?_) hS6.out ?_
          rotate_left
          · obtain ⟨s0, s1, s2⟩ := hv
            go_simp
            try with_reducible rfl
        | refine AnyZ.skipD (i := 10) (some 23) rfl (by rfl) (by kernel_rfl) (by kernel_rfl) (by kernel_rfl) (by kernel_rfl) (by kernel_rfl) (fun _ _ _ h => h) (by rfl) hS6.out ?_
      try simp only [Act.put, List.setIfInBounds_toArray, List.set_cons_zero, List.set_cons_succ]
      first
        | refine AnyZ.takeD (i := 11) (some 24) (v := ?_) rfl (by rfl) (by kernel_rfl) (by kernel_rfl) (by kernel_rfl) (by kernel_rfl) (by kernel_rfl) (fun _ _ _ h => h) (by rfl) (fun v hv => ?_) hS6.out ?_
          rotate_left
          · obtain ⟨s0, s1, s2⟩ := hv
            go_simp
            try with_reducible rfl
        | refine AnyZ.skipD (i := 11) (some 24) rfl (by rfl) (by kernel_rfl) (by kernel_rfl) (by kernel_rfl) (by kernel_rfl) (by kernel_rfl) (fun _ _ _ h => h) (by rfl) hS6.out ?_
      try simp only [Act.put, List.setIfInBounds_toArray, List.set_cons_zero, List.set_cons_succ]
      refine AnyZ.done (by kernel_rfl) ?_ _
      have HCX := Lib.hid (show (chk xs).2 = 0 by rw [chk_mk HVA.out.1 (by omega)])
      have HUX := Lib.hid (show U a xs = v by rw [← HVe.out, ← HVA.out.2, run_used HVA.out.1 (headF_ok HR.out)]; rfl)
      have HXSA := Lib.hid (RA.out.up HB8.out)
      have HSS8 := Lib.hid (HS5.out.up HB8.out)
      have q0 := HX8.out.cell 0
      have q1 := HX8.out.cell 1
      have q2 := HX8.out.cell 2
      have qf := HX8.out.lt
      simp at q0 q1 q2
      go_wp2_with fail
      refine (used_ok a b c A1 _ c1 xs w8 HXSA.out (by unfold maxLen; omega) HM.out HCX.out).mono ?_
      rintro e w9 ⟨rfl, hb9⟩
      rw [HUX.out]
      have HX9 := Lib.hid (HX8.out.below hb9 HX8.out.lt)
      have HXS9 := Lib.hid (HXSA.out.up hb9)
      have HSS9 := Lib.hid (HSS8.out.up hb9)
      have HB9 := Lib.hid (HB8.out.trans (hb9.mono HB8.out.size))
      clear hb9
      have q0 := HX9.out.cell 0
      have q1 := HX9.out.cell 1
      have q2 := HX9.out.cell 2
      have qf := HX9.out.lt
      simp at q0 q1 q2
      go_wp2_with fail
      refine (money_fit a b c A' j c' S w9 HSS9.out hn HM.out HR.out b2 c2).mono ?_
      rintro e w10 ⟨rfl, hb10⟩
      rw [HUe.out]
      have HX10 := Lib.hid (HX9.out.below hb10 HX9.out.lt)
      have HXS10 := Lib.hid (HXS9.out.up hb10)
      have HB10 := Lib.hid (HB9.out.trans (hb10.mono HB9.out.size))
      clear hb10
      have q0 := HX10.out.cell 0
      have q1 := HX10.out.cell 1
      have q2 := HX10.out.cell 2
      have qf := HX10.out.lt
      simp at q0 q1 q2
      go_wp2_with fail
      refine (money_fit a b c A1 _ c1 xs w10 HXS10.out (by unfold maxLen; omega) HM.out HCX.out b2 c2).mono ?_
      rintro e w11 ⟨rfl, hb11⟩
      rw [HUX.out]
      have HB11 := Lib.hid (HB10.out.trans (hb11.mono HB10.out.size))
      clear hb11
      have hmm := money_mono (la := b) (so := c) (F := 2 * a) b1 (mayB_yes HM.out).2.2.2.2.1 v1
      generalize money b c (2 * a) v = mv at *
      generalize money b c (2 * a) u = mu at *
      go_wp2_with fail
      go_ret
      exact ⟨rfl, HB5.out.trans (HB11.out.mono HB5.out.size)⟩
end Go.Proofs.Ytlmnbdepklcfpaa
