/- The walk of the document's one: signs; all ways. Conditions: a place within the text. -/
import Derived.Test.YtnffnkmghghmlaaDoorROneB
namespace Go.Proofs.YtnffnkmghghmlaaDoor
open Go.RowKit
set_option linter.unusedVariables false
set_option linter.unusedSimpArgs false
set_option maxRecDepth 100000 in
theorem ends26A {w : World} {a : Act} {k at_ n e : Int} {t : ByteArray} (h2 : a.tmps[4]?.getD undef = .pointer (some ⟨w.heap.size, 0, none⟩)) (h3 : a.tmps[5]?.getD undef = .int .i64 n) (h4 : a.tmps[6]?.getD undef = .int .i64 e) (hd : a.defers = []) {o : One} {m : Nat}
    (hv : (o.err = 0 ∧ Ending.returned (.tuple #[.agg #[.int .i64 k, .int .i64 at_, .string t], .int .i64 n, .int .i64 e]) = .returned (.tuple #[.agg #[.int .i64 o.kind, .int .i64 m, .string (str o.text)], .int .i64 (m + o.n : Nat), .int .i64 0])) ∨
      (o.err ≠ 0 ∧ Ending.returned (.tuple #[.agg #[.int .i64 k, .int .i64 at_, .string t], .int .i64 n, .int .i64 e]) = .returned (.tuple #[.agg #[.int .i64 0, .int .i64 0, .string ⟨#[]⟩], .int .i64 m, .int .i64 o.err]))) :
    bodyPost Tryd.prog Tryd.f26 (ROneR o m w) Exit.ret a (w.alloc (.cells #[.int .i64 k, .int .i64 at_, .string t] 31)) := by
  have B4 : Blk (w.alloc (.cells #[.int .i64 k, .int .i64 at_, .string t] 31)) w.heap.size 31 #[.int .i64 k, .int .i64 at_, .string t] := Blk.new w 31 _
  have L4 : Below w.heap.size w (w.alloc (.cells #[.int .i64 k, .int .i64 at_, .string t] 31)) := (Below.refl _ _).alloc (Nat.le_refl _) _
  generalize w.alloc (.cells #[.int .i64 k, .int .i64 at_, .string t] 31) = w4 at *
  have c0 : w4.cell? ⟨w.heap.size, 0, none⟩ = some (.int .i64 k) := B4.cell 0
  have c1 : w4.cell? ⟨w.heap.size, 1, none⟩ = some (.int .i64 at_) := B4.cell 1
  have c2 : w4.cell? ⟨w.heap.size, 2, none⟩ = some (.string t) := B4.cell 2
  have lt := B4.lt
  exact bodyPost_ret (v := .tuple #[.agg #[.int .i64 k, .int .i64 at_, .string t], .int .i64 n, .int .i64 e]) (by simp [results, Tryd.results26, go_sem, h2, h3, h4, c0, c1, c2]) hd ⟨hv, L4⟩
set_option maxRecDepth 100000 in
set_option maxHeartbeats 4000000 in
theorem rone_double (s : ByteArray) (at_ : Nat) (w : World) (hs : s.size ≤ maxLen) (h : at_ < s.size) (h1 : runI (s[at_].toNat : Int) = false) (h2 : capI (s[at_].toNat : Int) = false) (h3 : (s[at_].toNat : Int) ≠ 34) (h5 : (s[at_].toNat : Int) = 60 ∨ (s[at_].toNat : Int) = 62) (h6 : at_ + 1 < s.size) (h7 : s[at_ + 1] = 61) : Calls Tryd.prog 26 #[.string s, .int .i64 at_] w (ROneR (oneL ((bs s).drop at_)) at_ w) := by
  have hI : (at_ : Int) < s.size := by omega
  have W1 : IntKind.i64.wrap ((at_ : Int) + 1) = at_ + 1 := IntWalk.i64_in _ (by unfold maxLen at hs; omega)
  have H1 := Lib.hid h1
  have HO : Hid (oneL ((bs s).drop at_) = ⟨5, ((bs s).drop at_).take 2, 2, 0⟩) := by
    show _ = _
    unfold oneL
    rw [head_at h, if_neg (by simp [h1]), if_neg (by simp [h2]), if_neg h3, if_neg (by rcases h5 with h5 | h5 <;> rw [h5] <;> decide), if_pos ⟨h5, by rw [List.getElem?_drop, bs_get h6, h7]⟩]
  have hx := Lib.hid (show s.extract at_ (at_ + 2) = str (((bs s).drop at_).take 2) from ext_at rfl)
  have W2 : IntKind.i64.wrap ((at_ : Int) + 1 + 1) = at_ + 2 := by rw [show (at_ : Int) + 1 + 1 = at_ + 2 by omega]; exact IntWalk.i64_in _ (by unfold maxLen at hs; omega)
  have k1 : (at_ : Int) + 1 < s.size := by omega
  have k2 : (at_ : Int) + 2 ≤ s.size := by omega
  have e7 : ((s[at_ + 1].toNat : Int) == 61) = true := by rw [h7]; rfl
  clear h7
  have c9 : (s[at_].toNat : Int) < 65 ∨ (65 ≤ (s[at_].toNat : Int) ∧ 90 < (s[at_].toNat : Int)) := by
    have : ¬ (65 ≤ (s[at_].toNat : Int) ∧ (s[at_].toNat : Int) ≤ 90) := by simpa [capI] using h2
    omega
  have e3 : ((s[at_].toNat : Int) == 34) = false := by simpa using h3
  clear h2 h3
  rcases c9 with c1 | ⟨c1, c2⟩
  · rcases h5 with h5 | h5
    · have e5 : ((s[at_].toNat : Int) == 60) = true := by rw [h5]; rfl
      clear h5
      unfold maxLen at hs
      clear h1
      go_enter Tryd.func26, Tryd.ntmps26
      go_wp2_with fail
      refine (rrun_any _ _).mono ?_
      rintro e w' ⟨rfl, rfl⟩
      rw [H1.out]
      go_wp2_with fail
      rw [hx.out, HO.out]
      exact ends26A rfl rfl rfl rfl (.inl ⟨rfl, ret_tok rfl rfl rfl (Int.natCast_add _ _) rfl⟩)
    · have e5 : ((s[at_].toNat : Int) == 60) = false := by rw [h5]; rfl
      have e6 : ((s[at_].toNat : Int) == 62) = true := by rw [h5]; rfl
      clear h5
      unfold maxLen at hs
      clear h1
      go_enter Tryd.func26, Tryd.ntmps26
      go_wp2_with fail
      refine (rrun_any _ _).mono ?_
      rintro e w' ⟨rfl, rfl⟩
      rw [H1.out]
      go_wp2_with fail
      rw [hx.out, HO.out]
      exact ends26A rfl rfl rfl rfl (.inl ⟨rfl, ret_tok rfl rfl rfl (Int.natCast_add _ _) rfl⟩)
  · rcases h5 with h5 | h5
    · have e5 : ((s[at_].toNat : Int) == 60) = true := by rw [h5]; rfl
      clear h5
      unfold maxLen at hs
      clear h1
      go_enter Tryd.func26, Tryd.ntmps26
      go_wp2_with fail
      refine (rrun_any _ _).mono ?_
      rintro e w' ⟨rfl, rfl⟩
      rw [H1.out]
      go_wp2_with fail
      rw [hx.out, HO.out]
      exact ends26A rfl rfl rfl rfl (.inl ⟨rfl, ret_tok rfl rfl rfl (Int.natCast_add _ _) rfl⟩)
    · have e5 : ((s[at_].toNat : Int) == 60) = false := by rw [h5]; rfl
      have e6 : ((s[at_].toNat : Int) == 62) = true := by rw [h5]; rfl
      clear h5
      unfold maxLen at hs
      clear h1
      go_enter Tryd.func26, Tryd.ntmps26
      go_wp2_with fail
      refine (rrun_any _ _).mono ?_
      rintro e w' ⟨rfl, rfl⟩
      rw [H1.out]
      go_wp2_with fail
      rw [hx.out, HO.out]
      exact ends26A rfl rfl rfl rfl (.inl ⟨rfl, ret_tok rfl rfl rfl (Int.natCast_add _ _) rfl⟩)
set_option maxRecDepth 100000 in
set_option maxHeartbeats 4000000 in
theorem rone_single (s : ByteArray) (at_ : Nat) (w : World) (hs : s.size ≤ maxLen) (h : at_ < s.size) (h1 : runI (s[at_].toNat : Int) = false) (h2 : capI (s[at_].toNat : Int) = false) (h3 : (s[at_].toNat : Int) ≠ 34) (h4 : sgI (s[at_].toNat : Int) = true) (h5 : ¬ ((s[at_].toNat : Int) = 60 ∨ (s[at_].toNat : Int) = 62)) : Calls Tryd.prog 26 #[.string s, .int .i64 at_] w (ROneR (oneL ((bs s).drop at_)) at_ w) := by
  have hI : (at_ : Int) < s.size := by omega
  have W1 : IntKind.i64.wrap ((at_ : Int) + 1) = at_ + 1 := IntWalk.i64_in _ (by unfold maxLen at hs; omega)
  have H1 := Lib.hid h1
  have HO : Hid (oneL ((bs s).drop at_) = ⟨5, ((bs s).drop at_).take 1, 1, 0⟩) := by
    show _ = _
    unfold oneL
    rw [head_at h, if_neg (by simp [h1]), if_neg (by simp [h2]), if_neg h3, if_pos h4]
  have hx := Lib.hid (show s.extract at_ (at_ + 1) = str (((bs s).drop at_).take 1) from ext_at rfl)
  have k2 : (at_ : Int) + 1 ≤ s.size := by omega
  have e5 : ((s[at_].toNat : Int) == 60) = false := by simpa using fun e => h5 (.inl e)
  have e6 : ((s[at_].toNat : Int) == 62) = false := by simpa using fun e => h5 (.inr e)
  clear h5
  have c9 : (s[at_].toNat : Int) < 65 ∨ (65 ≤ (s[at_].toNat : Int) ∧ 90 < (s[at_].toNat : Int)) := by
    have : ¬ (65 ≤ (s[at_].toNat : Int) ∧ (s[at_].toNat : Int) ≤ 90) := by simpa [capI] using h2
    omega
  have e3 : ((s[at_].toNat : Int) == 34) = false := by simpa using h3
  clear h2 h3
  rcases c9 with c1 | ⟨c1, c2⟩
  · obtain ⟨w3, hw3⟩ : ∃ w3, w3 = ((w.alloc (.cells #[.int .i64 0, .int .i64 0, .string ⟨#[]⟩] 31)).alloc (.cells #[.string ⟨#[40]⟩, .string ⟨#[41]⟩, .string ⟨#[44]⟩, .string ⟨#[59]⟩, .string ⟨#[58]⟩, .string ⟨#[46]⟩, .string ⟨#[61]⟩, .string ⟨#[126]⟩] 9)).alloc (.cells #[.int .u8 (s[at_].toNat : Int)] 5) := ⟨_, rfl⟩
    have BX3 := Lib.hid (show Blk w3 w.heap.size 31 #[.int .i64 0, .int .i64 0, .string ⟨#[]⟩] by rw [hw3]; exact ((Blk.new w 31 _).alloc _).alloc _)
    have B3 := Lib.hid (show Below w.heap.size w w3 by rw [hw3]; exact (((Below.refl _ _).alloc (Nat.le_refl _) _).alloc (by simp) _).alloc (by simp; omega) _)
    have SR : Hid (StrR w3 (some ⟨w.heap.size + 1, 0, none⟩) sgL) := by
      show StrR w3 _ _
      rw [hw3]
      have := lit_readsN (w.alloc (.cells #[.int .i64 0, .int .i64 0, .string ⟨#[]⟩] 31)) #[.string ⟨#[40]⟩, .string ⟨#[41]⟩, .string ⟨#[44]⟩, .string ⟨#[59]⟩, .string ⟨#[58]⟩, .string ⟨#[46]⟩, .string ⟨#[61]⟩, .string ⟨#[126]⟩] 9 (w.heap.size + 1) 1 8 _ (by simp) rfl rfl
      exact (this.alloc (by simp) _).more (by simp)
    have CV : (convert 29 9 (.slice (some ⟨w.heap.size + 1 + 1, 0, none⟩) 1 1)).run Tryd.prog w3 = .ok (.string (str [s[at_]])) w3 := by
      have := run_convert_bytes_back (P := Tryd.prog) w3 29 9 5 ⟨w.heap.size + 1 + 1, 0, none⟩ 1 [s[at_]] Tryd.underlying29 Tryd.underlying5 Tryd.underlying9 (fun j hj => by
        obtain rfl : j = 0 := by simpa using hj
        rw [hw3]
        have := (Blk.new ((w.alloc (.cells #[.int .i64 0, .int .i64 0, .string ⟨#[]⟩] 31)).alloc (.cells #[.string ⟨#[40]⟩, .string ⟨#[41]⟩, .string ⟨#[44]⟩, .string ⟨#[59]⟩, .string ⟨#[58]⟩, .string ⟨#[46]⟩, .string ⟨#[61]⟩, .string ⟨#[126]⟩] 9)) 5 #[.int .u8 (s[at_].toNat : Int)]).cell 0
        simpa [Addr.add] using this)
      exact this
    have IN := Lib.hid (in_any sgL (some ⟨w.heap.size + 1, 0, none⟩) 8 (str [s[at_]]) w3 SR.out (by decide))
    rw [bs_str, sgL_eq, h4] at IN
    clear h4
    unfold maxLen at hs
    clear h1
    go_enter Tryd.func26, Tryd.ntmps26
    go_wp2_with fail
    refine (rrun_any _ _).mono ?_
    rintro e w' ⟨rfl, rfl⟩
    rw [H1.out]
    go_wp2_with fail
    rw [← hw3]
    simp only [CV]
    clear hw3 CV
    go_wp2_with fail
    refine IN.out.mono ?_
    rintro e w' ⟨rfl, rfl⟩
    have x0 : w3.cell? ⟨w.heap.size, 0, none⟩ = some (.int .i64 0) := BX3.out.cell 0
    have x1 : w3.cell? ⟨w.heap.size, 1, none⟩ = some (.int .i64 0) := BX3.out.cell 1
    have x2 : w3.cell? ⟨w.heap.size, 2, none⟩ = some (.string ⟨#[]⟩) := BX3.out.cell 2
    have f0 := BX3.out.frozen 0
    have f1 := BX3.out.frozen 1
    have f2 := BX3.out.frozen 2
    have lb := BX3.out.lt
    go_wp2_with fail
    rw [hx.out, HO.out]
    exact ends26 rfl rfl rfl rfl BX3 B3 (.inl ⟨rfl, ret_tok rfl rfl rfl (Int.natCast_add _ _) rfl⟩)
  · obtain ⟨w3, hw3⟩ : ∃ w3, w3 = ((w.alloc (.cells #[.int .i64 0, .int .i64 0, .string ⟨#[]⟩] 31)).alloc (.cells #[.string ⟨#[40]⟩, .string ⟨#[41]⟩, .string ⟨#[44]⟩, .string ⟨#[59]⟩, .string ⟨#[58]⟩, .string ⟨#[46]⟩, .string ⟨#[61]⟩, .string ⟨#[126]⟩] 9)).alloc (.cells #[.int .u8 (s[at_].toNat : Int)] 5) := ⟨_, rfl⟩
    have BX3 := Lib.hid (show Blk w3 w.heap.size 31 #[.int .i64 0, .int .i64 0, .string ⟨#[]⟩] by rw [hw3]; exact ((Blk.new w 31 _).alloc _).alloc _)
    have B3 := Lib.hid (show Below w.heap.size w w3 by rw [hw3]; exact (((Below.refl _ _).alloc (Nat.le_refl _) _).alloc (by simp) _).alloc (by simp; omega) _)
    have SR : Hid (StrR w3 (some ⟨w.heap.size + 1, 0, none⟩) sgL) := by
      show StrR w3 _ _
      rw [hw3]
      have := lit_readsN (w.alloc (.cells #[.int .i64 0, .int .i64 0, .string ⟨#[]⟩] 31)) #[.string ⟨#[40]⟩, .string ⟨#[41]⟩, .string ⟨#[44]⟩, .string ⟨#[59]⟩, .string ⟨#[58]⟩, .string ⟨#[46]⟩, .string ⟨#[61]⟩, .string ⟨#[126]⟩] 9 (w.heap.size + 1) 1 8 _ (by simp) rfl rfl
      exact (this.alloc (by simp) _).more (by simp)
    have CV : (convert 29 9 (.slice (some ⟨w.heap.size + 1 + 1, 0, none⟩) 1 1)).run Tryd.prog w3 = .ok (.string (str [s[at_]])) w3 := by
      have := run_convert_bytes_back (P := Tryd.prog) w3 29 9 5 ⟨w.heap.size + 1 + 1, 0, none⟩ 1 [s[at_]] Tryd.underlying29 Tryd.underlying5 Tryd.underlying9 (fun j hj => by
        obtain rfl : j = 0 := by simpa using hj
        rw [hw3]
        have := (Blk.new ((w.alloc (.cells #[.int .i64 0, .int .i64 0, .string ⟨#[]⟩] 31)).alloc (.cells #[.string ⟨#[40]⟩, .string ⟨#[41]⟩, .string ⟨#[44]⟩, .string ⟨#[59]⟩, .string ⟨#[58]⟩, .string ⟨#[46]⟩, .string ⟨#[61]⟩, .string ⟨#[126]⟩] 9)) 5 #[.int .u8 (s[at_].toNat : Int)]).cell 0
        simpa [Addr.add] using this)
      exact this
    have IN := Lib.hid (in_any sgL (some ⟨w.heap.size + 1, 0, none⟩) 8 (str [s[at_]]) w3 SR.out (by decide))
    rw [bs_str, sgL_eq, h4] at IN
    clear h4
    unfold maxLen at hs
    clear h1
    go_enter Tryd.func26, Tryd.ntmps26
    go_wp2_with fail
    refine (rrun_any _ _).mono ?_
    rintro e w' ⟨rfl, rfl⟩
    rw [H1.out]
    go_wp2_with fail
    rw [← hw3]
    simp only [CV]
    clear hw3 CV
    go_wp2_with fail
    refine IN.out.mono ?_
    rintro e w' ⟨rfl, rfl⟩
    have x0 : w3.cell? ⟨w.heap.size, 0, none⟩ = some (.int .i64 0) := BX3.out.cell 0
    have x1 : w3.cell? ⟨w.heap.size, 1, none⟩ = some (.int .i64 0) := BX3.out.cell 1
    have x2 : w3.cell? ⟨w.heap.size, 2, none⟩ = some (.string ⟨#[]⟩) := BX3.out.cell 2
    have f0 := BX3.out.frozen 0
    have f1 := BX3.out.frozen 1
    have f2 := BX3.out.frozen 2
    have lb := BX3.out.lt
    go_wp2_with fail
    rw [hx.out, HO.out]
    exact ends26 rfl rfl rfl rfl BX3 B3 (.inl ⟨rfl, ret_tok rfl rfl rfl (Int.natCast_add _ _) rfl⟩)
set_option maxRecDepth 100000 in
set_option maxHeartbeats 4000000 in
theorem rone_none0 (s : ByteArray) (at_ : Nat) (w : World) (hs : s.size ≤ maxLen) (h : at_ < s.size) (h1 : runI (s[at_].toNat : Int) = false) (h2 : capI (s[at_].toNat : Int) = false) (h3 : (s[at_].toNat : Int) ≠ 34) (h4 : sgI (s[at_].toNat : Int) = false) (h5 : ¬ ((s[at_].toNat : Int) = 60 ∨ (s[at_].toNat : Int) = 62)) : Calls Tryd.prog 26 #[.string s, .int .i64 at_] w (ROneR (oneL ((bs s).drop at_)) at_ w) := by
  have hI : (at_ : Int) < s.size := by omega
  have W1 : IntKind.i64.wrap ((at_ : Int) + 1) = at_ + 1 := IntWalk.i64_in _ (by unfold maxLen at hs; omega)
  have H1 := Lib.hid h1
  have HO : Hid (oneL ((bs s).drop at_) = badO) := by
    show _ = _
    unfold oneL
    rw [head_at h, if_neg (by simp [h1]), if_neg (by simp [h2]), if_neg h3, if_neg (by simp [h4]), if_neg (fun h => h5 h.1)]
  have e5 : ((s[at_].toNat : Int) == 60) = false := by simpa using fun e => h5 (.inl e)
  have e6 : ((s[at_].toNat : Int) == 62) = false := by simpa using fun e => h5 (.inr e)
  clear h5
  have c9 : (s[at_].toNat : Int) < 65 ∨ (65 ≤ (s[at_].toNat : Int) ∧ 90 < (s[at_].toNat : Int)) := by
    have : ¬ (65 ≤ (s[at_].toNat : Int) ∧ (s[at_].toNat : Int) ≤ 90) := by simpa [capI] using h2
    omega
  have e3 : ((s[at_].toNat : Int) == 34) = false := by simpa using h3
  clear h2 h3
  rcases c9 with c1 | ⟨c1, c2⟩
  · obtain ⟨w3, hw3⟩ : ∃ w3, w3 = ((w.alloc (.cells #[.int .i64 0, .int .i64 0, .string ⟨#[]⟩] 31)).alloc (.cells #[.string ⟨#[40]⟩, .string ⟨#[41]⟩, .string ⟨#[44]⟩, .string ⟨#[59]⟩, .string ⟨#[58]⟩, .string ⟨#[46]⟩, .string ⟨#[61]⟩, .string ⟨#[126]⟩] 9)).alloc (.cells #[.int .u8 (s[at_].toNat : Int)] 5) := ⟨_, rfl⟩
    have BX3 := Lib.hid (show Blk w3 w.heap.size 31 #[.int .i64 0, .int .i64 0, .string ⟨#[]⟩] by rw [hw3]; exact ((Blk.new w 31 _).alloc _).alloc _)
    have B3 := Lib.hid (show Below w.heap.size w w3 by rw [hw3]; exact (((Below.refl _ _).alloc (Nat.le_refl _) _).alloc (by simp) _).alloc (by simp; omega) _)
    have SR : Hid (StrR w3 (some ⟨w.heap.size + 1, 0, none⟩) sgL) := by
      show StrR w3 _ _
      rw [hw3]
      have := lit_readsN (w.alloc (.cells #[.int .i64 0, .int .i64 0, .string ⟨#[]⟩] 31)) #[.string ⟨#[40]⟩, .string ⟨#[41]⟩, .string ⟨#[44]⟩, .string ⟨#[59]⟩, .string ⟨#[58]⟩, .string ⟨#[46]⟩, .string ⟨#[61]⟩, .string ⟨#[126]⟩] 9 (w.heap.size + 1) 1 8 _ (by simp) rfl rfl
      exact (this.alloc (by simp) _).more (by simp)
    have CV : (convert 29 9 (.slice (some ⟨w.heap.size + 1 + 1, 0, none⟩) 1 1)).run Tryd.prog w3 = .ok (.string (str [s[at_]])) w3 := by
      have := run_convert_bytes_back (P := Tryd.prog) w3 29 9 5 ⟨w.heap.size + 1 + 1, 0, none⟩ 1 [s[at_]] Tryd.underlying29 Tryd.underlying5 Tryd.underlying9 (fun j hj => by
        obtain rfl : j = 0 := by simpa using hj
        rw [hw3]
        have := (Blk.new ((w.alloc (.cells #[.int .i64 0, .int .i64 0, .string ⟨#[]⟩] 31)).alloc (.cells #[.string ⟨#[40]⟩, .string ⟨#[41]⟩, .string ⟨#[44]⟩, .string ⟨#[59]⟩, .string ⟨#[58]⟩, .string ⟨#[46]⟩, .string ⟨#[61]⟩, .string ⟨#[126]⟩] 9)) 5 #[.int .u8 (s[at_].toNat : Int)]).cell 0
        simpa [Addr.add] using this)
      exact this
    have IN := Lib.hid (in_any sgL (some ⟨w.heap.size + 1, 0, none⟩) 8 (str [s[at_]]) w3 SR.out (by decide))
    rw [bs_str, sgL_eq, h4] at IN
    clear h4
    unfold maxLen at hs
    clear h1
    go_enter Tryd.func26, Tryd.ntmps26
    go_wp2_with fail
    refine (rrun_any _ _).mono ?_
    rintro e w' ⟨rfl, rfl⟩
    rw [H1.out]
    go_wp2_with fail
    rw [← hw3]
    simp only [CV]
    clear hw3 CV
    go_wp2_with fail
    refine IN.out.mono ?_
    rintro e w' ⟨rfl, rfl⟩
    have x0 : w3.cell? ⟨w.heap.size, 0, none⟩ = some (.int .i64 0) := BX3.out.cell 0
    have x1 : w3.cell? ⟨w.heap.size, 1, none⟩ = some (.int .i64 0) := BX3.out.cell 1
    have x2 : w3.cell? ⟨w.heap.size, 2, none⟩ = some (.string ⟨#[]⟩) := BX3.out.cell 2
    have f0 := BX3.out.frozen 0
    have f1 := BX3.out.frozen 1
    have f2 := BX3.out.frozen 2
    have lb := BX3.out.lt
    go_wp2_with fail
    rw [HO.out]
    exact ends26 rfl rfl rfl rfl BX3 B3 (.inr ⟨by simp [badO], rfl⟩)
  · obtain ⟨w3, hw3⟩ : ∃ w3, w3 = ((w.alloc (.cells #[.int .i64 0, .int .i64 0, .string ⟨#[]⟩] 31)).alloc (.cells #[.string ⟨#[40]⟩, .string ⟨#[41]⟩, .string ⟨#[44]⟩, .string ⟨#[59]⟩, .string ⟨#[58]⟩, .string ⟨#[46]⟩, .string ⟨#[61]⟩, .string ⟨#[126]⟩] 9)).alloc (.cells #[.int .u8 (s[at_].toNat : Int)] 5) := ⟨_, rfl⟩
    have BX3 := Lib.hid (show Blk w3 w.heap.size 31 #[.int .i64 0, .int .i64 0, .string ⟨#[]⟩] by rw [hw3]; exact ((Blk.new w 31 _).alloc _).alloc _)
    have B3 := Lib.hid (show Below w.heap.size w w3 by rw [hw3]; exact (((Below.refl _ _).alloc (Nat.le_refl _) _).alloc (by simp) _).alloc (by simp; omega) _)
    have SR : Hid (StrR w3 (some ⟨w.heap.size + 1, 0, none⟩) sgL) := by
      show StrR w3 _ _
      rw [hw3]
      have := lit_readsN (w.alloc (.cells #[.int .i64 0, .int .i64 0, .string ⟨#[]⟩] 31)) #[.string ⟨#[40]⟩, .string ⟨#[41]⟩, .string ⟨#[44]⟩, .string ⟨#[59]⟩, .string ⟨#[58]⟩, .string ⟨#[46]⟩, .string ⟨#[61]⟩, .string ⟨#[126]⟩] 9 (w.heap.size + 1) 1 8 _ (by simp) rfl rfl
      exact (this.alloc (by simp) _).more (by simp)
    have CV : (convert 29 9 (.slice (some ⟨w.heap.size + 1 + 1, 0, none⟩) 1 1)).run Tryd.prog w3 = .ok (.string (str [s[at_]])) w3 := by
      have := run_convert_bytes_back (P := Tryd.prog) w3 29 9 5 ⟨w.heap.size + 1 + 1, 0, none⟩ 1 [s[at_]] Tryd.underlying29 Tryd.underlying5 Tryd.underlying9 (fun j hj => by
        obtain rfl : j = 0 := by simpa using hj
        rw [hw3]
        have := (Blk.new ((w.alloc (.cells #[.int .i64 0, .int .i64 0, .string ⟨#[]⟩] 31)).alloc (.cells #[.string ⟨#[40]⟩, .string ⟨#[41]⟩, .string ⟨#[44]⟩, .string ⟨#[59]⟩, .string ⟨#[58]⟩, .string ⟨#[46]⟩, .string ⟨#[61]⟩, .string ⟨#[126]⟩] 9)) 5 #[.int .u8 (s[at_].toNat : Int)]).cell 0
        simpa [Addr.add] using this)
      exact this
    have IN := Lib.hid (in_any sgL (some ⟨w.heap.size + 1, 0, none⟩) 8 (str [s[at_]]) w3 SR.out (by decide))
    rw [bs_str, sgL_eq, h4] at IN
    clear h4
    unfold maxLen at hs
    clear h1
    go_enter Tryd.func26, Tryd.ntmps26
    go_wp2_with fail
    refine (rrun_any _ _).mono ?_
    rintro e w' ⟨rfl, rfl⟩
    rw [H1.out]
    go_wp2_with fail
    rw [← hw3]
    simp only [CV]
    clear hw3 CV
    go_wp2_with fail
    refine IN.out.mono ?_
    rintro e w' ⟨rfl, rfl⟩
    have x0 : w3.cell? ⟨w.heap.size, 0, none⟩ = some (.int .i64 0) := BX3.out.cell 0
    have x1 : w3.cell? ⟨w.heap.size, 1, none⟩ = some (.int .i64 0) := BX3.out.cell 1
    have x2 : w3.cell? ⟨w.heap.size, 2, none⟩ = some (.string ⟨#[]⟩) := BX3.out.cell 2
    have f0 := BX3.out.frozen 0
    have f1 := BX3.out.frozen 1
    have f2 := BX3.out.frozen 2
    have lb := BX3.out.lt
    go_wp2_with fail
    rw [HO.out]
    exact ends26 rfl rfl rfl rfl BX3 B3 (.inr ⟨by simp [badO], rfl⟩)
set_option maxRecDepth 100000 in
set_option maxHeartbeats 4000000 in
theorem rone_none1 (s : ByteArray) (at_ : Nat) (w : World) (hs : s.size ≤ maxLen) (h : at_ < s.size) (h1 : runI (s[at_].toNat : Int) = false) (h2 : capI (s[at_].toNat : Int) = false) (h3 : (s[at_].toNat : Int) ≠ 34) (h4 : sgI (s[at_].toNat : Int) = false) (h5 : (s[at_].toNat : Int) = 60 ∨ (s[at_].toNat : Int) = 62) (h6 : s.size ≤ at_ + 1) : Calls Tryd.prog 26 #[.string s, .int .i64 at_] w (ROneR (oneL ((bs s).drop at_)) at_ w) := by
  have hI : (at_ : Int) < s.size := by omega
  have W1 : IntKind.i64.wrap ((at_ : Int) + 1) = at_ + 1 := IntWalk.i64_in _ (by unfold maxLen at hs; omega)
  have H1 := Lib.hid h1
  have HO : Hid (oneL ((bs s).drop at_) = badO) := by
    show _ = _
    unfold oneL
    rw [head_at h, if_neg (by simp [h1]), if_neg (by simp [h2]), if_neg h3, if_neg (by simp [h4]), if_neg (fun g => by have := (List.getElem?_eq_some_iff.1 g.2).1; rw [List.length_drop, bs_len] at this; omega)]
  have k1 : (s.size : Int) ≤ (at_ : Int) + 1 := by omega
  have c9 : (s[at_].toNat : Int) < 65 ∨ (65 ≤ (s[at_].toNat : Int) ∧ 90 < (s[at_].toNat : Int)) := by
    have : ¬ (65 ≤ (s[at_].toNat : Int) ∧ (s[at_].toNat : Int) ≤ 90) := by simpa [capI] using h2
    omega
  have e3 : ((s[at_].toNat : Int) == 34) = false := by simpa using h3
  clear h2 h3
  rcases c9 with c1 | ⟨c1, c2⟩
  · rcases h5 with h5 | h5
    · have e5 : ((s[at_].toNat : Int) == 60) = true := by rw [h5]; rfl
      clear h5
      obtain ⟨w3, hw3⟩ : ∃ w3, w3 = ((w.alloc (.cells #[.int .i64 0, .int .i64 0, .string ⟨#[]⟩] 31)).alloc (.cells #[.string ⟨#[40]⟩, .string ⟨#[41]⟩, .string ⟨#[44]⟩, .string ⟨#[59]⟩, .string ⟨#[58]⟩, .string ⟨#[46]⟩, .string ⟨#[61]⟩, .string ⟨#[126]⟩] 9)).alloc (.cells #[.int .u8 (s[at_].toNat : Int)] 5) := ⟨_, rfl⟩
      have BX3 := Lib.hid (show Blk w3 w.heap.size 31 #[.int .i64 0, .int .i64 0, .string ⟨#[]⟩] by rw [hw3]; exact ((Blk.new w 31 _).alloc _).alloc _)
      have B3 := Lib.hid (show Below w.heap.size w w3 by rw [hw3]; exact (((Below.refl _ _).alloc (Nat.le_refl _) _).alloc (by simp) _).alloc (by simp; omega) _)
      have SR : Hid (StrR w3 (some ⟨w.heap.size + 1, 0, none⟩) sgL) := by
        show StrR w3 _ _
        rw [hw3]
        have := lit_readsN (w.alloc (.cells #[.int .i64 0, .int .i64 0, .string ⟨#[]⟩] 31)) #[.string ⟨#[40]⟩, .string ⟨#[41]⟩, .string ⟨#[44]⟩, .string ⟨#[59]⟩, .string ⟨#[58]⟩, .string ⟨#[46]⟩, .string ⟨#[61]⟩, .string ⟨#[126]⟩] 9 (w.heap.size + 1) 1 8 _ (by simp) rfl rfl
        exact (this.alloc (by simp) _).more (by simp)
      have CV : (convert 29 9 (.slice (some ⟨w.heap.size + 1 + 1, 0, none⟩) 1 1)).run Tryd.prog w3 = .ok (.string (str [s[at_]])) w3 := by
        have := run_convert_bytes_back (P := Tryd.prog) w3 29 9 5 ⟨w.heap.size + 1 + 1, 0, none⟩ 1 [s[at_]] Tryd.underlying29 Tryd.underlying5 Tryd.underlying9 (fun j hj => by
          obtain rfl : j = 0 := by simpa using hj
          rw [hw3]
          have := (Blk.new ((w.alloc (.cells #[.int .i64 0, .int .i64 0, .string ⟨#[]⟩] 31)).alloc (.cells #[.string ⟨#[40]⟩, .string ⟨#[41]⟩, .string ⟨#[44]⟩, .string ⟨#[59]⟩, .string ⟨#[58]⟩, .string ⟨#[46]⟩, .string ⟨#[61]⟩, .string ⟨#[126]⟩] 9)) 5 #[.int .u8 (s[at_].toNat : Int)]).cell 0
          simpa [Addr.add] using this)
        exact this
      have IN := Lib.hid (in_any sgL (some ⟨w.heap.size + 1, 0, none⟩) 8 (str [s[at_]]) w3 SR.out (by decide))
      rw [bs_str, sgL_eq, h4] at IN
      clear h4
      unfold maxLen at hs
      clear h1
      go_enter Tryd.func26, Tryd.ntmps26
      go_wp2_with fail
      refine (rrun_any _ _).mono ?_
      rintro e w' ⟨rfl, rfl⟩
      rw [H1.out]
      go_wp2_with fail
      rw [← hw3]
      simp only [CV]
      clear hw3 CV
      go_wp2_with fail
      refine IN.out.mono ?_
      rintro e w' ⟨rfl, rfl⟩
      have x0 : w3.cell? ⟨w.heap.size, 0, none⟩ = some (.int .i64 0) := BX3.out.cell 0
      have x1 : w3.cell? ⟨w.heap.size, 1, none⟩ = some (.int .i64 0) := BX3.out.cell 1
      have x2 : w3.cell? ⟨w.heap.size, 2, none⟩ = some (.string ⟨#[]⟩) := BX3.out.cell 2
      have f0 := BX3.out.frozen 0
      have f1 := BX3.out.frozen 1
      have f2 := BX3.out.frozen 2
      have lb := BX3.out.lt
      go_wp2_with fail
      rw [HO.out]
      exact ends26 rfl rfl rfl rfl BX3 B3 (.inr ⟨by simp [badO], rfl⟩)
    · have e5 : ((s[at_].toNat : Int) == 60) = false := by rw [h5]; rfl
      have e6 : ((s[at_].toNat : Int) == 62) = true := by rw [h5]; rfl
      clear h5
      obtain ⟨w3, hw3⟩ : ∃ w3, w3 = ((w.alloc (.cells #[.int .i64 0, .int .i64 0, .string ⟨#[]⟩] 31)).alloc (.cells #[.string ⟨#[40]⟩, .string ⟨#[41]⟩, .string ⟨#[44]⟩, .string ⟨#[59]⟩, .string ⟨#[58]⟩, .string ⟨#[46]⟩, .string ⟨#[61]⟩, .string ⟨#[126]⟩] 9)).alloc (.cells #[.int .u8 (s[at_].toNat : Int)] 5) := ⟨_, rfl⟩
      have BX3 := Lib.hid (show Blk w3 w.heap.size 31 #[.int .i64 0, .int .i64 0, .string ⟨#[]⟩] by rw [hw3]; exact ((Blk.new w 31 _).alloc _).alloc _)
      have B3 := Lib.hid (show Below w.heap.size w w3 by rw [hw3]; exact (((Below.refl _ _).alloc (Nat.le_refl _) _).alloc (by simp) _).alloc (by simp; omega) _)
      have SR : Hid (StrR w3 (some ⟨w.heap.size + 1, 0, none⟩) sgL) := by
        show StrR w3 _ _
        rw [hw3]
        have := lit_readsN (w.alloc (.cells #[.int .i64 0, .int .i64 0, .string ⟨#[]⟩] 31)) #[.string ⟨#[40]⟩, .string ⟨#[41]⟩, .string ⟨#[44]⟩, .string ⟨#[59]⟩, .string ⟨#[58]⟩, .string ⟨#[46]⟩, .string ⟨#[61]⟩, .string ⟨#[126]⟩] 9 (w.heap.size + 1) 1 8 _ (by simp) rfl rfl
        exact (this.alloc (by simp) _).more (by simp)
      have CV : (convert 29 9 (.slice (some ⟨w.heap.size + 1 + 1, 0, none⟩) 1 1)).run Tryd.prog w3 = .ok (.string (str [s[at_]])) w3 := by
        have := run_convert_bytes_back (P := Tryd.prog) w3 29 9 5 ⟨w.heap.size + 1 + 1, 0, none⟩ 1 [s[at_]] Tryd.underlying29 Tryd.underlying5 Tryd.underlying9 (fun j hj => by
          obtain rfl : j = 0 := by simpa using hj
          rw [hw3]
          have := (Blk.new ((w.alloc (.cells #[.int .i64 0, .int .i64 0, .string ⟨#[]⟩] 31)).alloc (.cells #[.string ⟨#[40]⟩, .string ⟨#[41]⟩, .string ⟨#[44]⟩, .string ⟨#[59]⟩, .string ⟨#[58]⟩, .string ⟨#[46]⟩, .string ⟨#[61]⟩, .string ⟨#[126]⟩] 9)) 5 #[.int .u8 (s[at_].toNat : Int)]).cell 0
          simpa [Addr.add] using this)
        exact this
      have IN := Lib.hid (in_any sgL (some ⟨w.heap.size + 1, 0, none⟩) 8 (str [s[at_]]) w3 SR.out (by decide))
      rw [bs_str, sgL_eq, h4] at IN
      clear h4
      unfold maxLen at hs
      clear h1
      go_enter Tryd.func26, Tryd.ntmps26
      go_wp2_with fail
      refine (rrun_any _ _).mono ?_
      rintro e w' ⟨rfl, rfl⟩
      rw [H1.out]
      go_wp2_with fail
      rw [← hw3]
      simp only [CV]
      clear hw3 CV
      go_wp2_with fail
      refine IN.out.mono ?_
      rintro e w' ⟨rfl, rfl⟩
      have x0 : w3.cell? ⟨w.heap.size, 0, none⟩ = some (.int .i64 0) := BX3.out.cell 0
      have x1 : w3.cell? ⟨w.heap.size, 1, none⟩ = some (.int .i64 0) := BX3.out.cell 1
      have x2 : w3.cell? ⟨w.heap.size, 2, none⟩ = some (.string ⟨#[]⟩) := BX3.out.cell 2
      have f0 := BX3.out.frozen 0
      have f1 := BX3.out.frozen 1
      have f2 := BX3.out.frozen 2
      have lb := BX3.out.lt
      go_wp2_with fail
      rw [HO.out]
      exact ends26 rfl rfl rfl rfl BX3 B3 (.inr ⟨by simp [badO], rfl⟩)
  · rcases h5 with h5 | h5
    · have e5 : ((s[at_].toNat : Int) == 60) = true := by rw [h5]; rfl
      clear h5
      obtain ⟨w3, hw3⟩ : ∃ w3, w3 = ((w.alloc (.cells #[.int .i64 0, .int .i64 0, .string ⟨#[]⟩] 31)).alloc (.cells #[.string ⟨#[40]⟩, .string ⟨#[41]⟩, .string ⟨#[44]⟩, .string ⟨#[59]⟩, .string ⟨#[58]⟩, .string ⟨#[46]⟩, .string ⟨#[61]⟩, .string ⟨#[126]⟩] 9)).alloc (.cells #[.int .u8 (s[at_].toNat : Int)] 5) := ⟨_, rfl⟩
      have BX3 := Lib.hid (show Blk w3 w.heap.size 31 #[.int .i64 0, .int .i64 0, .string ⟨#[]⟩] by rw [hw3]; exact ((Blk.new w 31 _).alloc _).alloc _)
      have B3 := Lib.hid (show Below w.heap.size w w3 by rw [hw3]; exact (((Below.refl _ _).alloc (Nat.le_refl _) _).alloc (by simp) _).alloc (by simp; omega) _)
      have SR : Hid (StrR w3 (some ⟨w.heap.size + 1, 0, none⟩) sgL) := by
        show StrR w3 _ _
        rw [hw3]
        have := lit_readsN (w.alloc (.cells #[.int .i64 0, .int .i64 0, .string ⟨#[]⟩] 31)) #[.string ⟨#[40]⟩, .string ⟨#[41]⟩, .string ⟨#[44]⟩, .string ⟨#[59]⟩, .string ⟨#[58]⟩, .string ⟨#[46]⟩, .string ⟨#[61]⟩, .string ⟨#[126]⟩] 9 (w.heap.size + 1) 1 8 _ (by simp) rfl rfl
        exact (this.alloc (by simp) _).more (by simp)
      have CV : (convert 29 9 (.slice (some ⟨w.heap.size + 1 + 1, 0, none⟩) 1 1)).run Tryd.prog w3 = .ok (.string (str [s[at_]])) w3 := by
        have := run_convert_bytes_back (P := Tryd.prog) w3 29 9 5 ⟨w.heap.size + 1 + 1, 0, none⟩ 1 [s[at_]] Tryd.underlying29 Tryd.underlying5 Tryd.underlying9 (fun j hj => by
          obtain rfl : j = 0 := by simpa using hj
          rw [hw3]
          have := (Blk.new ((w.alloc (.cells #[.int .i64 0, .int .i64 0, .string ⟨#[]⟩] 31)).alloc (.cells #[.string ⟨#[40]⟩, .string ⟨#[41]⟩, .string ⟨#[44]⟩, .string ⟨#[59]⟩, .string ⟨#[58]⟩, .string ⟨#[46]⟩, .string ⟨#[61]⟩, .string ⟨#[126]⟩] 9)) 5 #[.int .u8 (s[at_].toNat : Int)]).cell 0
          simpa [Addr.add] using this)
        exact this
      have IN := Lib.hid (in_any sgL (some ⟨w.heap.size + 1, 0, none⟩) 8 (str [s[at_]]) w3 SR.out (by decide))
      rw [bs_str, sgL_eq, h4] at IN
      clear h4
      unfold maxLen at hs
      clear h1
      go_enter Tryd.func26, Tryd.ntmps26
      go_wp2_with fail
      refine (rrun_any _ _).mono ?_
      rintro e w' ⟨rfl, rfl⟩
      rw [H1.out]
      go_wp2_with fail
      rw [← hw3]
      simp only [CV]
      clear hw3 CV
      go_wp2_with fail
      refine IN.out.mono ?_
      rintro e w' ⟨rfl, rfl⟩
      have x0 : w3.cell? ⟨w.heap.size, 0, none⟩ = some (.int .i64 0) := BX3.out.cell 0
      have x1 : w3.cell? ⟨w.heap.size, 1, none⟩ = some (.int .i64 0) := BX3.out.cell 1
      have x2 : w3.cell? ⟨w.heap.size, 2, none⟩ = some (.string ⟨#[]⟩) := BX3.out.cell 2
      have f0 := BX3.out.frozen 0
      have f1 := BX3.out.frozen 1
      have f2 := BX3.out.frozen 2
      have lb := BX3.out.lt
      go_wp2_with fail
      rw [HO.out]
      exact ends26 rfl rfl rfl rfl BX3 B3 (.inr ⟨by simp [badO], rfl⟩)
    · have e5 : ((s[at_].toNat : Int) == 60) = false := by rw [h5]; rfl
      have e6 : ((s[at_].toNat : Int) == 62) = true := by rw [h5]; rfl
      clear h5
      obtain ⟨w3, hw3⟩ : ∃ w3, w3 = ((w.alloc (.cells #[.int .i64 0, .int .i64 0, .string ⟨#[]⟩] 31)).alloc (.cells #[.string ⟨#[40]⟩, .string ⟨#[41]⟩, .string ⟨#[44]⟩, .string ⟨#[59]⟩, .string ⟨#[58]⟩, .string ⟨#[46]⟩, .string ⟨#[61]⟩, .string ⟨#[126]⟩] 9)).alloc (.cells #[.int .u8 (s[at_].toNat : Int)] 5) := ⟨_, rfl⟩
      have BX3 := Lib.hid (show Blk w3 w.heap.size 31 #[.int .i64 0, .int .i64 0, .string ⟨#[]⟩] by rw [hw3]; exact ((Blk.new w 31 _).alloc _).alloc _)
      have B3 := Lib.hid (show Below w.heap.size w w3 by rw [hw3]; exact (((Below.refl _ _).alloc (Nat.le_refl _) _).alloc (by simp) _).alloc (by simp; omega) _)
      have SR : Hid (StrR w3 (some ⟨w.heap.size + 1, 0, none⟩) sgL) := by
        show StrR w3 _ _
        rw [hw3]
        have := lit_readsN (w.alloc (.cells #[.int .i64 0, .int .i64 0, .string ⟨#[]⟩] 31)) #[.string ⟨#[40]⟩, .string ⟨#[41]⟩, .string ⟨#[44]⟩, .string ⟨#[59]⟩, .string ⟨#[58]⟩, .string ⟨#[46]⟩, .string ⟨#[61]⟩, .string ⟨#[126]⟩] 9 (w.heap.size + 1) 1 8 _ (by simp) rfl rfl
        exact (this.alloc (by simp) _).more (by simp)
      have CV : (convert 29 9 (.slice (some ⟨w.heap.size + 1 + 1, 0, none⟩) 1 1)).run Tryd.prog w3 = .ok (.string (str [s[at_]])) w3 := by
        have := run_convert_bytes_back (P := Tryd.prog) w3 29 9 5 ⟨w.heap.size + 1 + 1, 0, none⟩ 1 [s[at_]] Tryd.underlying29 Tryd.underlying5 Tryd.underlying9 (fun j hj => by
          obtain rfl : j = 0 := by simpa using hj
          rw [hw3]
          have := (Blk.new ((w.alloc (.cells #[.int .i64 0, .int .i64 0, .string ⟨#[]⟩] 31)).alloc (.cells #[.string ⟨#[40]⟩, .string ⟨#[41]⟩, .string ⟨#[44]⟩, .string ⟨#[59]⟩, .string ⟨#[58]⟩, .string ⟨#[46]⟩, .string ⟨#[61]⟩, .string ⟨#[126]⟩] 9)) 5 #[.int .u8 (s[at_].toNat : Int)]).cell 0
          simpa [Addr.add] using this)
        exact this
      have IN := Lib.hid (in_any sgL (some ⟨w.heap.size + 1, 0, none⟩) 8 (str [s[at_]]) w3 SR.out (by decide))
      rw [bs_str, sgL_eq, h4] at IN
      clear h4
      unfold maxLen at hs
      clear h1
      go_enter Tryd.func26, Tryd.ntmps26
      go_wp2_with fail
      refine (rrun_any _ _).mono ?_
      rintro e w' ⟨rfl, rfl⟩
      rw [H1.out]
      go_wp2_with fail
      rw [← hw3]
      simp only [CV]
      clear hw3 CV
      go_wp2_with fail
      refine IN.out.mono ?_
      rintro e w' ⟨rfl, rfl⟩
      have x0 : w3.cell? ⟨w.heap.size, 0, none⟩ = some (.int .i64 0) := BX3.out.cell 0
      have x1 : w3.cell? ⟨w.heap.size, 1, none⟩ = some (.int .i64 0) := BX3.out.cell 1
      have x2 : w3.cell? ⟨w.heap.size, 2, none⟩ = some (.string ⟨#[]⟩) := BX3.out.cell 2
      have f0 := BX3.out.frozen 0
      have f1 := BX3.out.frozen 1
      have f2 := BX3.out.frozen 2
      have lb := BX3.out.lt
      go_wp2_with fail
      rw [HO.out]
      exact ends26 rfl rfl rfl rfl BX3 B3 (.inr ⟨by simp [badO], rfl⟩)
set_option maxRecDepth 100000 in
set_option maxHeartbeats 4000000 in
theorem rone_none2 (s : ByteArray) (at_ : Nat) (w : World) (hs : s.size ≤ maxLen) (h : at_ < s.size) (h1 : runI (s[at_].toNat : Int) = false) (h2 : capI (s[at_].toNat : Int) = false) (h3 : (s[at_].toNat : Int) ≠ 34) (h4 : sgI (s[at_].toNat : Int) = false) (h5 : (s[at_].toNat : Int) = 60 ∨ (s[at_].toNat : Int) = 62) (h6 : at_ + 1 < s.size) (h7 : s[at_ + 1] ≠ 61) : Calls Tryd.prog 26 #[.string s, .int .i64 at_] w (ROneR (oneL ((bs s).drop at_)) at_ w) := by
  have hI : (at_ : Int) < s.size := by omega
  have W1 : IntKind.i64.wrap ((at_ : Int) + 1) = at_ + 1 := IntWalk.i64_in _ (by unfold maxLen at hs; omega)
  have H1 := Lib.hid h1
  have HO : Hid (oneL ((bs s).drop at_) = badO) := by
    show _ = _
    unfold oneL
    rw [head_at h, if_neg (by simp [h1]), if_neg (by simp [h2]), if_neg h3, if_neg (by simp [h4]), if_neg (fun g => h7 (by have := g.2; rw [List.getElem?_drop, bs_get h6] at this; exact Option.some.inj this))]
  have k1 : (at_ : Int) + 1 < s.size := by omega
  have e7 : ((s[at_ + 1].toNat : Int) == 61) = false := by
    have : (s[at_ + 1].toNat : Int) ≠ 61 := fun e => h7 ((u8_eq (n := 61) rfl).2 e)
    simpa using this
  clear h7
  have c9 : (s[at_].toNat : Int) < 65 ∨ (65 ≤ (s[at_].toNat : Int) ∧ 90 < (s[at_].toNat : Int)) := by
    have : ¬ (65 ≤ (s[at_].toNat : Int) ∧ (s[at_].toNat : Int) ≤ 90) := by simpa [capI] using h2
    omega
  have e3 : ((s[at_].toNat : Int) == 34) = false := by simpa using h3
  clear h2 h3
  rcases c9 with c1 | ⟨c1, c2⟩
  · rcases h5 with h5 | h5
    · have e5 : ((s[at_].toNat : Int) == 60) = true := by rw [h5]; rfl
      clear h5
      obtain ⟨w3, hw3⟩ : ∃ w3, w3 = ((w.alloc (.cells #[.int .i64 0, .int .i64 0, .string ⟨#[]⟩] 31)).alloc (.cells #[.string ⟨#[40]⟩, .string ⟨#[41]⟩, .string ⟨#[44]⟩, .string ⟨#[59]⟩, .string ⟨#[58]⟩, .string ⟨#[46]⟩, .string ⟨#[61]⟩, .string ⟨#[126]⟩] 9)).alloc (.cells #[.int .u8 (s[at_].toNat : Int)] 5) := ⟨_, rfl⟩
      have BX3 := Lib.hid (show Blk w3 w.heap.size 31 #[.int .i64 0, .int .i64 0, .string ⟨#[]⟩] by rw [hw3]; exact ((Blk.new w 31 _).alloc _).alloc _)
      have B3 := Lib.hid (show Below w.heap.size w w3 by rw [hw3]; exact (((Below.refl _ _).alloc (Nat.le_refl _) _).alloc (by simp) _).alloc (by simp; omega) _)
      have SR : Hid (StrR w3 (some ⟨w.heap.size + 1, 0, none⟩) sgL) := by
        show StrR w3 _ _
        rw [hw3]
        have := lit_readsN (w.alloc (.cells #[.int .i64 0, .int .i64 0, .string ⟨#[]⟩] 31)) #[.string ⟨#[40]⟩, .string ⟨#[41]⟩, .string ⟨#[44]⟩, .string ⟨#[59]⟩, .string ⟨#[58]⟩, .string ⟨#[46]⟩, .string ⟨#[61]⟩, .string ⟨#[126]⟩] 9 (w.heap.size + 1) 1 8 _ (by simp) rfl rfl
        exact (this.alloc (by simp) _).more (by simp)
      have CV : (convert 29 9 (.slice (some ⟨w.heap.size + 1 + 1, 0, none⟩) 1 1)).run Tryd.prog w3 = .ok (.string (str [s[at_]])) w3 := by
        have := run_convert_bytes_back (P := Tryd.prog) w3 29 9 5 ⟨w.heap.size + 1 + 1, 0, none⟩ 1 [s[at_]] Tryd.underlying29 Tryd.underlying5 Tryd.underlying9 (fun j hj => by
          obtain rfl : j = 0 := by simpa using hj
          rw [hw3]
          have := (Blk.new ((w.alloc (.cells #[.int .i64 0, .int .i64 0, .string ⟨#[]⟩] 31)).alloc (.cells #[.string ⟨#[40]⟩, .string ⟨#[41]⟩, .string ⟨#[44]⟩, .string ⟨#[59]⟩, .string ⟨#[58]⟩, .string ⟨#[46]⟩, .string ⟨#[61]⟩, .string ⟨#[126]⟩] 9)) 5 #[.int .u8 (s[at_].toNat : Int)]).cell 0
          simpa [Addr.add] using this)
        exact this
      have IN := Lib.hid (in_any sgL (some ⟨w.heap.size + 1, 0, none⟩) 8 (str [s[at_]]) w3 SR.out (by decide))
      rw [bs_str, sgL_eq, h4] at IN
      clear h4
      unfold maxLen at hs
      clear h1
      go_enter Tryd.func26, Tryd.ntmps26
      go_wp2_with fail
      refine (rrun_any _ _).mono ?_
      rintro e w' ⟨rfl, rfl⟩
      rw [H1.out]
      go_wp2_with fail
      rw [← hw3]
      simp only [CV]
      clear hw3 CV
      go_wp2_with fail
      refine IN.out.mono ?_
      rintro e w' ⟨rfl, rfl⟩
      have x0 : w3.cell? ⟨w.heap.size, 0, none⟩ = some (.int .i64 0) := BX3.out.cell 0
      have x1 : w3.cell? ⟨w.heap.size, 1, none⟩ = some (.int .i64 0) := BX3.out.cell 1
      have x2 : w3.cell? ⟨w.heap.size, 2, none⟩ = some (.string ⟨#[]⟩) := BX3.out.cell 2
      have f0 := BX3.out.frozen 0
      have f1 := BX3.out.frozen 1
      have f2 := BX3.out.frozen 2
      have lb := BX3.out.lt
      go_wp2_with fail
      rw [HO.out]
      exact ends26 rfl rfl rfl rfl BX3 B3 (.inr ⟨by simp [badO], rfl⟩)
    · have e5 : ((s[at_].toNat : Int) == 60) = false := by rw [h5]; rfl
      have e6 : ((s[at_].toNat : Int) == 62) = true := by rw [h5]; rfl
      clear h5
      obtain ⟨w3, hw3⟩ : ∃ w3, w3 = ((w.alloc (.cells #[.int .i64 0, .int .i64 0, .string ⟨#[]⟩] 31)).alloc (.cells #[.string ⟨#[40]⟩, .string ⟨#[41]⟩, .string ⟨#[44]⟩, .string ⟨#[59]⟩, .string ⟨#[58]⟩, .string ⟨#[46]⟩, .string ⟨#[61]⟩, .string ⟨#[126]⟩] 9)).alloc (.cells #[.int .u8 (s[at_].toNat : Int)] 5) := ⟨_, rfl⟩
      have BX3 := Lib.hid (show Blk w3 w.heap.size 31 #[.int .i64 0, .int .i64 0, .string ⟨#[]⟩] by rw [hw3]; exact ((Blk.new w 31 _).alloc _).alloc _)
      have B3 := Lib.hid (show Below w.heap.size w w3 by rw [hw3]; exact (((Below.refl _ _).alloc (Nat.le_refl _) _).alloc (by simp) _).alloc (by simp; omega) _)
      have SR : Hid (StrR w3 (some ⟨w.heap.size + 1, 0, none⟩) sgL) := by
        show StrR w3 _ _
        rw [hw3]
        have := lit_readsN (w.alloc (.cells #[.int .i64 0, .int .i64 0, .string ⟨#[]⟩] 31)) #[.string ⟨#[40]⟩, .string ⟨#[41]⟩, .string ⟨#[44]⟩, .string ⟨#[59]⟩, .string ⟨#[58]⟩, .string ⟨#[46]⟩, .string ⟨#[61]⟩, .string ⟨#[126]⟩] 9 (w.heap.size + 1) 1 8 _ (by simp) rfl rfl
        exact (this.alloc (by simp) _).more (by simp)
      have CV : (convert 29 9 (.slice (some ⟨w.heap.size + 1 + 1, 0, none⟩) 1 1)).run Tryd.prog w3 = .ok (.string (str [s[at_]])) w3 := by
        have := run_convert_bytes_back (P := Tryd.prog) w3 29 9 5 ⟨w.heap.size + 1 + 1, 0, none⟩ 1 [s[at_]] Tryd.underlying29 Tryd.underlying5 Tryd.underlying9 (fun j hj => by
          obtain rfl : j = 0 := by simpa using hj
          rw [hw3]
          have := (Blk.new ((w.alloc (.cells #[.int .i64 0, .int .i64 0, .string ⟨#[]⟩] 31)).alloc (.cells #[.string ⟨#[40]⟩, .string ⟨#[41]⟩, .string ⟨#[44]⟩, .string ⟨#[59]⟩, .string ⟨#[58]⟩, .string ⟨#[46]⟩, .string ⟨#[61]⟩, .string ⟨#[126]⟩] 9)) 5 #[.int .u8 (s[at_].toNat : Int)]).cell 0
          simpa [Addr.add] using this)
        exact this
      have IN := Lib.hid (in_any sgL (some ⟨w.heap.size + 1, 0, none⟩) 8 (str [s[at_]]) w3 SR.out (by decide))
      rw [bs_str, sgL_eq, h4] at IN
      clear h4
      unfold maxLen at hs
      clear h1
      go_enter Tryd.func26, Tryd.ntmps26
      go_wp2_with fail
      refine (rrun_any _ _).mono ?_
      rintro e w' ⟨rfl, rfl⟩
      rw [H1.out]
      go_wp2_with fail
      rw [← hw3]
      simp only [CV]
      clear hw3 CV
      go_wp2_with fail
      refine IN.out.mono ?_
      rintro e w' ⟨rfl, rfl⟩
      have x0 : w3.cell? ⟨w.heap.size, 0, none⟩ = some (.int .i64 0) := BX3.out.cell 0
      have x1 : w3.cell? ⟨w.heap.size, 1, none⟩ = some (.int .i64 0) := BX3.out.cell 1
      have x2 : w3.cell? ⟨w.heap.size, 2, none⟩ = some (.string ⟨#[]⟩) := BX3.out.cell 2
      have f0 := BX3.out.frozen 0
      have f1 := BX3.out.frozen 1
      have f2 := BX3.out.frozen 2
      have lb := BX3.out.lt
      go_wp2_with fail
      rw [HO.out]
      exact ends26 rfl rfl rfl rfl BX3 B3 (.inr ⟨by simp [badO], rfl⟩)
  · rcases h5 with h5 | h5
    · have e5 : ((s[at_].toNat : Int) == 60) = true := by rw [h5]; rfl
      clear h5
      obtain ⟨w3, hw3⟩ : ∃ w3, w3 = ((w.alloc (.cells #[.int .i64 0, .int .i64 0, .string ⟨#[]⟩] 31)).alloc (.cells #[.string ⟨#[40]⟩, .string ⟨#[41]⟩, .string ⟨#[44]⟩, .string ⟨#[59]⟩, .string ⟨#[58]⟩, .string ⟨#[46]⟩, .string ⟨#[61]⟩, .string ⟨#[126]⟩] 9)).alloc (.cells #[.int .u8 (s[at_].toNat : Int)] 5) := ⟨_, rfl⟩
      have BX3 := Lib.hid (show Blk w3 w.heap.size 31 #[.int .i64 0, .int .i64 0, .string ⟨#[]⟩] by rw [hw3]; exact ((Blk.new w 31 _).alloc _).alloc _)
      have B3 := Lib.hid (show Below w.heap.size w w3 by rw [hw3]; exact (((Below.refl _ _).alloc (Nat.le_refl _) _).alloc (by simp) _).alloc (by simp; omega) _)
      have SR : Hid (StrR w3 (some ⟨w.heap.size + 1, 0, none⟩) sgL) := by
        show StrR w3 _ _
        rw [hw3]
        have := lit_readsN (w.alloc (.cells #[.int .i64 0, .int .i64 0, .string ⟨#[]⟩] 31)) #[.string ⟨#[40]⟩, .string ⟨#[41]⟩, .string ⟨#[44]⟩, .string ⟨#[59]⟩, .string ⟨#[58]⟩, .string ⟨#[46]⟩, .string ⟨#[61]⟩, .string ⟨#[126]⟩] 9 (w.heap.size + 1) 1 8 _ (by simp) rfl rfl
        exact (this.alloc (by simp) _).more (by simp)
      have CV : (convert 29 9 (.slice (some ⟨w.heap.size + 1 + 1, 0, none⟩) 1 1)).run Tryd.prog w3 = .ok (.string (str [s[at_]])) w3 := by
        have := run_convert_bytes_back (P := Tryd.prog) w3 29 9 5 ⟨w.heap.size + 1 + 1, 0, none⟩ 1 [s[at_]] Tryd.underlying29 Tryd.underlying5 Tryd.underlying9 (fun j hj => by
          obtain rfl : j = 0 := by simpa using hj
          rw [hw3]
          have := (Blk.new ((w.alloc (.cells #[.int .i64 0, .int .i64 0, .string ⟨#[]⟩] 31)).alloc (.cells #[.string ⟨#[40]⟩, .string ⟨#[41]⟩, .string ⟨#[44]⟩, .string ⟨#[59]⟩, .string ⟨#[58]⟩, .string ⟨#[46]⟩, .string ⟨#[61]⟩, .string ⟨#[126]⟩] 9)) 5 #[.int .u8 (s[at_].toNat : Int)]).cell 0
          simpa [Addr.add] using this)
        exact this
      have IN := Lib.hid (in_any sgL (some ⟨w.heap.size + 1, 0, none⟩) 8 (str [s[at_]]) w3 SR.out (by decide))
      rw [bs_str, sgL_eq, h4] at IN
      clear h4
      unfold maxLen at hs
      clear h1
      go_enter Tryd.func26, Tryd.ntmps26
      go_wp2_with fail
      refine (rrun_any _ _).mono ?_
      rintro e w' ⟨rfl, rfl⟩
      rw [H1.out]
      go_wp2_with fail
      rw [← hw3]
      simp only [CV]
      clear hw3 CV
      go_wp2_with fail
      refine IN.out.mono ?_
      rintro e w' ⟨rfl, rfl⟩
      have x0 : w3.cell? ⟨w.heap.size, 0, none⟩ = some (.int .i64 0) := BX3.out.cell 0
      have x1 : w3.cell? ⟨w.heap.size, 1, none⟩ = some (.int .i64 0) := BX3.out.cell 1
      have x2 : w3.cell? ⟨w.heap.size, 2, none⟩ = some (.string ⟨#[]⟩) := BX3.out.cell 2
      have f0 := BX3.out.frozen 0
      have f1 := BX3.out.frozen 1
      have f2 := BX3.out.frozen 2
      have lb := BX3.out.lt
      go_wp2_with fail
      rw [HO.out]
      exact ends26 rfl rfl rfl rfl BX3 B3 (.inr ⟨by simp [badO], rfl⟩)
    · have e5 : ((s[at_].toNat : Int) == 60) = false := by rw [h5]; rfl
      have e6 : ((s[at_].toNat : Int) == 62) = true := by rw [h5]; rfl
      clear h5
      obtain ⟨w3, hw3⟩ : ∃ w3, w3 = ((w.alloc (.cells #[.int .i64 0, .int .i64 0, .string ⟨#[]⟩] 31)).alloc (.cells #[.string ⟨#[40]⟩, .string ⟨#[41]⟩, .string ⟨#[44]⟩, .string ⟨#[59]⟩, .string ⟨#[58]⟩, .string ⟨#[46]⟩, .string ⟨#[61]⟩, .string ⟨#[126]⟩] 9)).alloc (.cells #[.int .u8 (s[at_].toNat : Int)] 5) := ⟨_, rfl⟩
      have BX3 := Lib.hid (show Blk w3 w.heap.size 31 #[.int .i64 0, .int .i64 0, .string ⟨#[]⟩] by rw [hw3]; exact ((Blk.new w 31 _).alloc _).alloc _)
      have B3 := Lib.hid (show Below w.heap.size w w3 by rw [hw3]; exact (((Below.refl _ _).alloc (Nat.le_refl _) _).alloc (by simp) _).alloc (by simp; omega) _)
      have SR : Hid (StrR w3 (some ⟨w.heap.size + 1, 0, none⟩) sgL) := by
        show StrR w3 _ _
        rw [hw3]
        have := lit_readsN (w.alloc (.cells #[.int .i64 0, .int .i64 0, .string ⟨#[]⟩] 31)) #[.string ⟨#[40]⟩, .string ⟨#[41]⟩, .string ⟨#[44]⟩, .string ⟨#[59]⟩, .string ⟨#[58]⟩, .string ⟨#[46]⟩, .string ⟨#[61]⟩, .string ⟨#[126]⟩] 9 (w.heap.size + 1) 1 8 _ (by simp) rfl rfl
        exact (this.alloc (by simp) _).more (by simp)
      have CV : (convert 29 9 (.slice (some ⟨w.heap.size + 1 + 1, 0, none⟩) 1 1)).run Tryd.prog w3 = .ok (.string (str [s[at_]])) w3 := by
        have := run_convert_bytes_back (P := Tryd.prog) w3 29 9 5 ⟨w.heap.size + 1 + 1, 0, none⟩ 1 [s[at_]] Tryd.underlying29 Tryd.underlying5 Tryd.underlying9 (fun j hj => by
          obtain rfl : j = 0 := by simpa using hj
          rw [hw3]
          have := (Blk.new ((w.alloc (.cells #[.int .i64 0, .int .i64 0, .string ⟨#[]⟩] 31)).alloc (.cells #[.string ⟨#[40]⟩, .string ⟨#[41]⟩, .string ⟨#[44]⟩, .string ⟨#[59]⟩, .string ⟨#[58]⟩, .string ⟨#[46]⟩, .string ⟨#[61]⟩, .string ⟨#[126]⟩] 9)) 5 #[.int .u8 (s[at_].toNat : Int)]).cell 0
          simpa [Addr.add] using this)
        exact this
      have IN := Lib.hid (in_any sgL (some ⟨w.heap.size + 1, 0, none⟩) 8 (str [s[at_]]) w3 SR.out (by decide))
      rw [bs_str, sgL_eq, h4] at IN
      clear h4
      unfold maxLen at hs
      clear h1
      go_enter Tryd.func26, Tryd.ntmps26
      go_wp2_with fail
      refine (rrun_any _ _).mono ?_
      rintro e w' ⟨rfl, rfl⟩
      rw [H1.out]
      go_wp2_with fail
      rw [← hw3]
      simp only [CV]
      clear hw3 CV
      go_wp2_with fail
      refine IN.out.mono ?_
      rintro e w' ⟨rfl, rfl⟩
      have x0 : w3.cell? ⟨w.heap.size, 0, none⟩ = some (.int .i64 0) := BX3.out.cell 0
      have x1 : w3.cell? ⟨w.heap.size, 1, none⟩ = some (.int .i64 0) := BX3.out.cell 1
      have x2 : w3.cell? ⟨w.heap.size, 2, none⟩ = some (.string ⟨#[]⟩) := BX3.out.cell 2
      have f0 := BX3.out.frozen 0
      have f1 := BX3.out.frozen 1
      have f2 := BX3.out.frozen 2
      have lb := BX3.out.lt
      go_wp2_with fail
      rw [HO.out]
      exact ends26 rfl rfl rfl rfl BX3 B3 (.inr ⟨by simp [badO], rfl⟩)
/-- the document's one -/
theorem rone_any (s : ByteArray) (at_ : Nat) (w : World) (hs : s.size ≤ maxLen) (h : at_ < s.size) : Calls Tryd.prog 26 #[.string s, .int .i64 at_] w (ROneR (oneL ((bs s).drop at_)) at_ w) := by
  cases h1 : runI (s[at_].toNat : Int)
  · cases h2 : capI (s[at_].toNat : Int)
    · by_cases h3 : (s[at_].toNat : Int) = 34
      · exact rone_quote s at_ w hs h h1 h3
      · by_cases h5 : (s[at_].toNat : Int) = 60 ∨ (s[at_].toNat : Int) = 62
        · have h4 : sgI (s[at_].toNat : Int) = false := by rcases h5 with h5 | h5 <;> rw [h5] <;> decide
          by_cases h6 : at_ + 1 < s.size
          · by_cases h7 : s[at_ + 1] = 61
            · exact rone_double s at_ w hs h h1 h2 h3 h5 h6 h7
            · exact rone_none2 s at_ w hs h h1 h2 h3 h4 h5 h6 h7
          · exact rone_none1 s at_ w hs h h1 h2 h3 h4 h5 (by omega)
        · cases h4 : sgI (s[at_].toNat : Int)
          · exact rone_none0 s at_ w hs h h1 h2 h3 h4 h5
          · exact rone_single s at_ w hs h h1 h2 h3 h4 h5
    · exact rone_cap s at_ w hs h h1 h2
  · by_cases hd : spanN digI (((bs s).drop at_).take (spanN runI ((bs s).drop at_))) = spanN runI ((bs s).drop at_)
    · by_cases hz : 1 < spanN runI ((bs s).drop at_) ∧ (((bs s).drop at_).take (spanN runI ((bs s).drop at_))).head? = some 48
      · exact rone_d1 s at_ w hs h h1 hd hz
      · cases ha : aboveL (((bs s).drop at_).take (spanN runI ((bs s).drop at_)))
        · exact rone_d3 s at_ w hs h h1 hd hz ha
        · exact rone_d2 s at_ w hs h h1 hd hz ha
    · cases hc : tbl.contains (((bs s).drop at_).take (spanN runI ((bs s).drop at_)))
      · by_cases hl : spanN runI ((bs s).drop at_) ≤ 16
        · exact rone_n s at_ w hs h h1 hd hc hl
        · exact rone_l s at_ w hs h h1 hd hc (by omega)
      · exact rone_w s at_ w hs h h1 hd hc
end Go.Proofs.YtnffnkmghghmlaaDoor
