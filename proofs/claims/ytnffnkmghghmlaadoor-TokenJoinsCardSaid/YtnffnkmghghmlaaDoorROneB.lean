/- The walk of the document's one: capitals, quotes, signs. Conditions: a place within the text. -/
import Derived.Test.YtnffnkmghghmlaaDoorROne
namespace Go.Proofs.YtnffnkmghghmlaaDoor
open Go.RowKit
set_option linter.unusedVariables false
set_option linter.unusedSimpArgs false
def sgL : List Bs := [[40], [41], [44], [59], [58], [46], [61], [126]]
theorem sgL_all : ∀ n : Fin 256, sgL.contains [n.1.toUInt8] = sgI n.1 := by decide +kernel
theorem sgL_eq (c : UInt8) : sgL.contains [c] = sgI c.toNat := by
  have := sgL_all ⟨c.toNat, c.toNat_lt⟩
  simp only [Nat.toUInt8] at this
  rw [show UInt8.ofNat c.toNat = c by simp] at this
  exact this
set_option maxRecDepth 100000 in
set_option maxHeartbeats 4000000 in
theorem rone_cap (s : ByteArray) (at_ : Nat) (w : World) (hs : s.size ≤ maxLen) (h : at_ < s.size) (h1 : runI (s[at_].toNat : Int) = false) (h2 : capI (s[at_].toNat : Int) = true) : Calls Tryd.prog 26 #[.string s, .int .i64 at_] w (ROneR (oneL ((bs s).drop at_)) at_ w) := by
  have hI : (at_ : Int) < s.size := by omega
  have W1 : IntKind.i64.wrap ((at_ : Int) + 1) = at_ + 1 := IntWalk.i64_in _ (by unfold maxLen at hs; omega)
  have H1 := Lib.hid h1
  have HO : Hid (oneL ((bs s).drop at_) = if spanN capI ((bs s).drop at_) = 3 then ⟨4, ((bs s).drop at_).take 3, 3, 0⟩ else badO) := by
    show _ = _
    unfold oneL
    rw [head_at h, if_neg (by simp [h1]), if_pos h2]
  have F1 := Lib.hid (FrontA.one h h2)
  have hx := Lib.hid (show s.extract at_ (at_ + 3) = str (((bs s).drop at_).take 3) from ext_at rfl)
  have c1 : 65 ≤ (s[at_].toNat : Int) ∧ (s[at_].toNat : Int) ≤ 90 := by simpa [capI] using h2
  obtain ⟨c1, c2⟩ := c1
  clear h2
  unfold maxLen at hs
  clear h1
  go_enter Tryd.func26, Tryd.ntmps26
  go_wp2_with fail
  refine (rrun_any _ _).mono ?_
  rintro e w' ⟨rfl, rfl⟩
  rw [H1.out]
  go_wp2_with fail
  obtain ⟨w1, hw1⟩ : ∃ w1, w1 = w.alloc (.cells #[.int .i64 0, .int .i64 0, .string ⟨#[]⟩] 31) := ⟨_, rfl⟩
  have BX := Lib.hid (show Blk w1 w.heap.size 31 #[.int .i64 0, .int .i64 0, .string ⟨#[]⟩] by rw [hw1]; exact Blk.new w 31 _)
  have B1 := Lib.hid (show Below w.heap.size w w1 by rw [hw1]; exact (Below.refl _ _).alloc (Nat.le_refl _) _)
  rw [← hw1]
  clear hw1
  go_loopw [8] (fun i v => ∃ k : Nat, at_ + 1 ≤ k ∧ k ≤ s.size ∧ i = .int .i64 k ∧ Hid (FrontA capI s at_ k) ∧ w1 = v) (fun i _ => s.size - (intOf i).toNat)
  case atStart => exact ⟨at_ + 1, Nat.le_refl _, h, by go_num, F1.out, rfl⟩
  case round =>
    obtain ⟨k, hk0, hk, rfl, ha, rfl⟩ := hrel
    have fin : Hid (spanN capI ((bs s).drop at_) = k - at_ → ∀ (Q : One → Prop), (k = at_ + 3 → Q ⟨4, ((bs s).drop at_).take 3, 3, 0⟩) → (k ≠ at_ + 3 → Q badO) → Q (oneL ((bs s).drop at_))) := by
      intro hn Q q1 q2
      rw [HO.out, hn]
      split
      · exact q1 (by omega)
      · exact q2 (by omega)
    by_cases hlt : k < s.size
    · by_cases hb1 : 65 ≤ (s[k].toNat : Int)
      · by_cases hb2 : (s[k].toNat : Int) ≤ 90
        · have NX := Lib.hid (ha.out.next hlt (by simp [capI]; omega))
          go_wp2_with fail
          go_roundw
          case rel => exact ⟨k + 1, by omega, by omega, by go_num, NX.out, trivial⟩
          case measure => simp [intOf]; omega
        · have HN := Lib.hid (ha.out.stop (by omega) hlt (by simp [capI]; omega))
          have hb2' : 90 < (s[k].toNat : Int) := by omega
          clear hb2
          have W3 : IntKind.i64.wrap ((k : Int) - at_) = (k : Int) - at_ := IntWalk.i64_in _ (by omega)
          by_cases h3 : k = at_ + 3
          · subst h3
            have e3 : ((((at_ + 3 : Nat) : Int) - at_) != 3) = false := by simp; omega
            have e4 : (((at_ : Int) + 3 - at_) != 3) = false := by simp; omega
            have e5 : Hid (oneL ((bs s).drop at_) = ⟨4, ((bs s).drop at_).take 3, 3, 0⟩) := fin.out HN.out (fun o => o = _) (fun _ => rfl) (fun h => absurd rfl h)
            clear fin HN
            have x0 : w1.cell? ⟨w.heap.size, 0, none⟩ = some (.int .i64 0) := BX.out.cell 0
            have x1 : w1.cell? ⟨w.heap.size, 1, none⟩ = some (.int .i64 0) := BX.out.cell 1
            have x2 : w1.cell? ⟨w.heap.size, 2, none⟩ = some (.string ⟨#[]⟩) := BX.out.cell 2
            have f0 := BX.out.frozen 0
            have f1 := BX.out.frozen 1
            have f2 := BX.out.frozen 2
            have lb := BX.out.lt
            go_wp2_with fail
            rw [hx.out, e5.out]
            exact ends26 rfl rfl rfl rfl BX B1 (.inl ⟨rfl, ret_tok rfl rfl rfl (Int.natCast_add _ _) rfl⟩)
          · have e3 : ((((k : Nat) : Int) - at_) != 3) = true := by simp; omega
            have e5 : Hid (oneL ((bs s).drop at_) = badO) := fin.out HN.out (fun o => o = _) (fun h => absurd h h3) (fun _ => rfl)
            clear fin HN h3
            have x0 : w1.cell? ⟨w.heap.size, 0, none⟩ = some (.int .i64 0) := BX.out.cell 0
            have x1 : w1.cell? ⟨w.heap.size, 1, none⟩ = some (.int .i64 0) := BX.out.cell 1
            have x2 : w1.cell? ⟨w.heap.size, 2, none⟩ = some (.string ⟨#[]⟩) := BX.out.cell 2
            have f0 := BX.out.frozen 0
            have f1 := BX.out.frozen 1
            have f2 := BX.out.frozen 2
            have lb := BX.out.lt
            go_wp2_with fail
            rw [e5.out]
            exact ends26 rfl rfl rfl rfl BX B1 (.inr ⟨by simp [badO], rfl⟩)
      · have HN := Lib.hid (ha.out.stop (by omega) hlt (by simp [capI]; omega))
        have hb1' : (s[k].toNat : Int) < 65 := by omega
        clear hb1
        have W3 : IntKind.i64.wrap ((k : Int) - at_) = (k : Int) - at_ := IntWalk.i64_in _ (by omega)
        by_cases h3 : k = at_ + 3
        · subst h3
          have e3 : ((((at_ + 3 : Nat) : Int) - at_) != 3) = false := by simp; omega
          have e4 : (((at_ : Int) + 3 - at_) != 3) = false := by simp; omega
          have e5 : Hid (oneL ((bs s).drop at_) = ⟨4, ((bs s).drop at_).take 3, 3, 0⟩) := fin.out HN.out (fun o => o = _) (fun _ => rfl) (fun h => absurd rfl h)
          clear fin HN
          have x0 : w1.cell? ⟨w.heap.size, 0, none⟩ = some (.int .i64 0) := BX.out.cell 0
          have x1 : w1.cell? ⟨w.heap.size, 1, none⟩ = some (.int .i64 0) := BX.out.cell 1
          have x2 : w1.cell? ⟨w.heap.size, 2, none⟩ = some (.string ⟨#[]⟩) := BX.out.cell 2
          have f0 := BX.out.frozen 0
          have f1 := BX.out.frozen 1
          have f2 := BX.out.frozen 2
          have lb := BX.out.lt
          go_wp2_with fail
          rw [hx.out, e5.out]
          exact ends26 rfl rfl rfl rfl BX B1 (.inl ⟨rfl, ret_tok rfl rfl rfl (Int.natCast_add _ _) rfl⟩)
        · have e3 : ((((k : Nat) : Int) - at_) != 3) = true := by simp; omega
          have e5 : Hid (oneL ((bs s).drop at_) = badO) := fin.out HN.out (fun o => o = _) (fun h => absurd h h3) (fun _ => rfl)
          clear fin HN h3
          have x0 : w1.cell? ⟨w.heap.size, 0, none⟩ = some (.int .i64 0) := BX.out.cell 0
          have x1 : w1.cell? ⟨w.heap.size, 1, none⟩ = some (.int .i64 0) := BX.out.cell 1
          have x2 : w1.cell? ⟨w.heap.size, 2, none⟩ = some (.string ⟨#[]⟩) := BX.out.cell 2
          have f0 := BX.out.frozen 0
          have f1 := BX.out.frozen 1
          have f2 := BX.out.frozen 2
          have lb := BX.out.lt
          go_wp2_with fail
          rw [e5.out]
          exact ends26 rfl rfl rfl rfl BX B1 (.inr ⟨by simp [badO], rfl⟩)
    · have hge : (s.size : Int) ≤ k := by omega
      have HN : Hid (spanN capI ((bs s).drop at_) = k - at_) := by
        show _ = _
        obtain rfl : k = s.size := by omega
        exact ha.out.end_ (by omega)
      clear hlt
      have W3 : IntKind.i64.wrap ((k : Int) - at_) = (k : Int) - at_ := IntWalk.i64_in _ (by omega)
      by_cases h3 : k = at_ + 3
      · subst h3
        have e3 : ((((at_ + 3 : Nat) : Int) - at_) != 3) = false := by simp; omega
        have e4 : (((at_ : Int) + 3 - at_) != 3) = false := by simp; omega
        have e5 : Hid (oneL ((bs s).drop at_) = ⟨4, ((bs s).drop at_).take 3, 3, 0⟩) := fin.out HN.out (fun o => o = _) (fun _ => rfl) (fun h => absurd rfl h)
        clear fin HN
        have x0 : w1.cell? ⟨w.heap.size, 0, none⟩ = some (.int .i64 0) := BX.out.cell 0
        have x1 : w1.cell? ⟨w.heap.size, 1, none⟩ = some (.int .i64 0) := BX.out.cell 1
        have x2 : w1.cell? ⟨w.heap.size, 2, none⟩ = some (.string ⟨#[]⟩) := BX.out.cell 2
        have f0 := BX.out.frozen 0
        have f1 := BX.out.frozen 1
        have f2 := BX.out.frozen 2
        have lb := BX.out.lt
        go_wp2_with fail
        rw [hx.out, e5.out]
        exact ends26 rfl rfl rfl rfl BX B1 (.inl ⟨rfl, ret_tok rfl rfl rfl (Int.natCast_add _ _) rfl⟩)
      · have e3 : ((((k : Nat) : Int) - at_) != 3) = true := by simp; omega
        have e5 : Hid (oneL ((bs s).drop at_) = badO) := fin.out HN.out (fun o => o = _) (fun h => absurd h h3) (fun _ => rfl)
        clear fin HN h3
        have x0 : w1.cell? ⟨w.heap.size, 0, none⟩ = some (.int .i64 0) := BX.out.cell 0
        have x1 : w1.cell? ⟨w.heap.size, 1, none⟩ = some (.int .i64 0) := BX.out.cell 1
        have x2 : w1.cell? ⟨w.heap.size, 2, none⟩ = some (.string ⟨#[]⟩) := BX.out.cell 2
        have f0 := BX.out.frozen 0
        have f1 := BX.out.frozen 1
        have f2 := BX.out.frozen 2
        have lb := BX.out.lt
        go_wp2_with fail
        rw [e5.out]
        exact ends26 rfl rfl rfl rfl BX B1 (.inr ⟨by simp [badO], rfl⟩)
set_option maxRecDepth 100000 in
set_option maxHeartbeats 4000000 in
theorem rone_quote (s : ByteArray) (at_ : Nat) (w : World) (hs : s.size ≤ maxLen) (h : at_ < s.size) (h1 : runI (s[at_].toNat : Int) = false) (h3 : (s[at_].toNat : Int) = 34) : Calls Tryd.prog 26 #[.string s, .int .i64 at_] w (ROneR (oneL ((bs s).drop at_)) at_ w) := by
  have hI : (at_ : Int) < s.size := by omega
  have W1 : IntKind.i64.wrap ((at_ : Int) + 1) = at_ + 1 := IntWalk.i64_in _ (by unfold maxLen at hs; omega)
  have H1 := Lib.hid h1
  have h2 : capI (s[at_].toNat : Int) = false := by rw [h3]; rfl
  have HO : Hid (∀ n, spanN plI ((bs s).drop (at_ + 1)) = n → oneL ((bs s).drop at_) = if ((bs s).drop (at_ + 1))[n]? = some 34 then ⟨3, ((bs s).drop (at_ + 1)).take n, n + 2, 0⟩ else badO) := by
    rintro n rfl
    unfold oneL
    rw [head_at h, if_neg (by simp [h1]), if_neg (by simp [h2]), if_pos h3, List.tail_drop]
  have e3 : ((s[at_].toNat : Int) == 34) = true := by rw [h3]; rfl
  have c1 : (s[at_].toNat : Int) < 65 := by omega
  clear h2 h3
  unfold maxLen at hs
  clear h1
  go_enter Tryd.func26, Tryd.ntmps26
  go_wp2_with fail
  refine (rrun_any _ _).mono ?_
  rintro e w' ⟨rfl, rfl⟩
  rw [H1.out]
  go_wp2_with fail
  obtain ⟨w1, hw1⟩ : ∃ w1, w1 = w.alloc (.cells #[.int .i64 0, .int .i64 0, .string ⟨#[]⟩] 31) := ⟨_, rfl⟩
  have BX := Lib.hid (show Blk w1 w.heap.size 31 #[.int .i64 0, .int .i64 0, .string ⟨#[]⟩] by rw [hw1]; exact Blk.new w 31 _)
  have B1 := Lib.hid (show Below w.heap.size w w1 by rw [hw1]; exact (Below.refl _ _).alloc (Nat.le_refl _) _)
  rw [← hw1]
  clear hw1
  go_loopw [8] (fun i v => ∃ k : Nat, at_ + 1 ≤ k ∧ k ≤ s.size ∧ i = .int .i64 k ∧ Hid (FrontA plI s (at_ + 1) k) ∧ w1 = v) (fun i _ => s.size - (intOf i).toNat)
  case atStart => exact ⟨at_ + 1, Nat.le_refl _, h, by go_num, fun i c h1 h2 _ => by omega, rfl⟩
  case round =>
    obtain ⟨k, hk0, hk, rfl, ha, rfl⟩ := hrel
    by_cases hlt : k < s.size
    · have HG := Lib.hid (show ((bs s).drop (at_ + 1))[k - (at_ + 1)]? = some s[k] by rw [List.getElem?_drop, show at_ + 1 + (k - (at_ + 1)) = k by omega]; exact bs_get hlt)
      by_cases hq : (s[k].toNat : Int) = 34
      · have HN := Lib.hid (ha.out.stop (by omega) hlt (by rw [hq]; rfl))
        have HE : Hid (oneL ((bs s).drop at_) = ⟨3, ((bs s).drop (at_ + 1)).take (k - (at_ + 1)), k - (at_ + 1) + 2, 0⟩) := by
          show _ = _
          rw [HO.out _ HN.out, if_pos (by rw [HG.out]; congr 1; exact (u8_eq (n := 34) rfl).2 hq)]
        have e4 : ((s[k].toNat : Int) != 34) = false := by rw [hq]; rfl
        have e5 : ((k : Int) == s.size) = false := by simp; omega
        have hx := Lib.hid (show s.extract (at_ + 1) k = str (((bs s).drop (at_ + 1)).take (k - (at_ + 1))) from ext_str (by rw [List.drop_take]))
        have W3 : IntKind.i64.wrap ((k : Int) + 1) = (k : Int) + 1 := IntWalk.i64_in _ (by omega)
        have q2 : (at_ : Int) + 1 ≤ k := by omega
        have q3 : (k : Int) ≤ s.size := by omega
        clear hq HO HG
        have x0 : w1.cell? ⟨w.heap.size, 0, none⟩ = some (.int .i64 0) := BX.out.cell 0
        have x1 : w1.cell? ⟨w.heap.size, 1, none⟩ = some (.int .i64 0) := BX.out.cell 1
        have x2 : w1.cell? ⟨w.heap.size, 2, none⟩ = some (.string ⟨#[]⟩) := BX.out.cell 2
        have f0 := BX.out.frozen 0
        have f1 := BX.out.frozen 1
        have f2 := BX.out.frozen 2
        have lb := BX.out.lt
        go_wp2_with fail
        rw [hx.out, HE.out]
        exact ends26 rfl rfl rfl rfl BX B1 (.inl ⟨rfl, ret_tok rfl rfl rfl (by rw [Int.natCast_add]; simp only; omega) rfl⟩)
      · have e4 : ((s[k].toNat : Int) != 34) = true := by simpa using hq
        have bad : plI (s[k].toNat : Int) = false → Hid (oneL ((bs s).drop at_) = badO) := fun hp => by
          show _ = _
          rw [HO.out _ (ha.out.stop (by omega) hlt hp), HG.out, if_neg]
          intro e
          rw [Option.some.inj e] at hq
          exact hq rfl
        have BAD := Lib.hid bad
        clear bad
        by_cases g1 : (s[k].toNat : Int) < 32
        · have HE := BAD.out (by simp [plI]; omega)
          clear BAD HG HO
          have x0 : w1.cell? ⟨w.heap.size, 0, none⟩ = some (.int .i64 0) := BX.out.cell 0
          have x1 : w1.cell? ⟨w.heap.size, 1, none⟩ = some (.int .i64 0) := BX.out.cell 1
          have x2 : w1.cell? ⟨w.heap.size, 2, none⟩ = some (.string ⟨#[]⟩) := BX.out.cell 2
          have f0 := BX.out.frozen 0
          have f1 := BX.out.frozen 1
          have f2 := BX.out.frozen 2
          have lb := BX.out.lt
          go_wp2_with fail
          rw [HE.out]
          exact ends26 rfl rfl rfl rfl BX B1 (.inr ⟨by simp [badO], rfl⟩)
        · have g1' : 32 ≤ (s[k].toNat : Int) := by omega
          by_cases g2 : 126 < (s[k].toNat : Int)
          · have HE := BAD.out (by simp [plI]; omega)
            clear BAD HG HO g1
            have x0 : w1.cell? ⟨w.heap.size, 0, none⟩ = some (.int .i64 0) := BX.out.cell 0
            have x1 : w1.cell? ⟨w.heap.size, 1, none⟩ = some (.int .i64 0) := BX.out.cell 1
            have x2 : w1.cell? ⟨w.heap.size, 2, none⟩ = some (.string ⟨#[]⟩) := BX.out.cell 2
            have f0 := BX.out.frozen 0
            have f1 := BX.out.frozen 1
            have f2 := BX.out.frozen 2
            have lb := BX.out.lt
            go_wp2_with fail
            rw [HE.out]
            exact ends26 rfl rfl rfl rfl BX B1 (.inr ⟨by simp [badO], rfl⟩)
          · have g2' : (s[k].toNat : Int) ≤ 126 := by omega
            have NX := Lib.hid (ha.out.next hlt (by simp [plI]; omega))
            clear BAD HG HO g1 g2 hq
            go_wp2_with fail
            go_roundw
            case rel => exact ⟨k + 1, by omega, by omega, by go_num, NX.out, trivial⟩
            case measure => simp [intOf]; omega
    · have hge : (s.size : Int) ≤ k := by omega
      have e5 : ((k : Int) == s.size) = true := by simp; omega
      have HE : Hid (oneL ((bs s).drop at_) = badO) := by
        show _ = _
        obtain rfl : k = s.size := by omega
        rw [HO.out _ (ha.out.end_ (by omega)), if_neg]
        intro e
        have := (List.getElem?_eq_some_iff.1 e).1
        rw [List.length_drop, bs_len] at this
        omega
      clear hlt HO
      have x0 : w1.cell? ⟨w.heap.size, 0, none⟩ = some (.int .i64 0) := BX.out.cell 0
      have x1 : w1.cell? ⟨w.heap.size, 1, none⟩ = some (.int .i64 0) := BX.out.cell 1
      have x2 : w1.cell? ⟨w.heap.size, 2, none⟩ = some (.string ⟨#[]⟩) := BX.out.cell 2
      have f0 := BX.out.frozen 0
      have f1 := BX.out.frozen 1
      have f2 := BX.out.frozen 2
      have lb := BX.out.lt
      go_wp2_with fail
      rw [HE.out]
      exact ends26 rfl rfl rfl rfl BX B1 (.inr ⟨by simp [badO], rfl⟩)
end Go.Proofs.YtnffnkmghghmlaaDoor
