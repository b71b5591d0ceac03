/- The walk of the document's one. Conditions: a place within the text. -/
import Derived.Test.YtnffnkmghghmlaaDoorRefSmall
import Derived.Laws.IdiomStrings
namespace Go.Proofs.YtnffnkmghghmlaaDoor
open Go.RowKit
set_option linter.unusedVariables false
set_option linter.unusedSimpArgs false
def FrontA (p : Int → Bool) (s : ByteArray) (a k : Nat) : Prop := ∀ i c, a ≤ i → i < k → (bs s)[i]? = some c → on p c = true
section
variable {p : Int → Bool} {s : ByteArray} {a k : Nat}
theorem FrontA.next (h : FrontA p s a k) (hk : k < s.size) (hp : p (s[k].toNat : Int) = true) : FrontA p s a (k + 1) := by
  intro i c ha hi hc
  rcases Nat.lt_or_ge i k with h' | h'
  · exact h i c ha h' hc
  · obtain rfl : i = k := by omega
    rw [bs_get hk] at hc
    cases hc
    exact hp
theorem FrontA.one (hk : a < s.size) (hp : p (s[a].toNat : Int) = true) : FrontA p s a (a + 1) := FrontA.next (fun i c h1 h2 _ => by omega) hk hp
theorem FrontA.span (h : FrontA p s a k) (hak : a ≤ k) (hk : k ≤ s.size) (hs : ∀ c, (bs s)[k]? = some c → on p c = false) : spanN p ((bs s).drop a) = k - a := by
  refine spanN_eq _ _ (by rw [List.length_drop, bs_len]; omega) (fun i c hi hc => ?_) fun c hc => ?_
  · rw [List.getElem?_drop] at hc
    exact h (a + i) c (by omega) (by omega) hc
  · rw [List.getElem?_drop, show a + (k - a) = k by omega] at hc
    exact hs c hc
theorem FrontA.stop (h : FrontA p s a k) (hak : a ≤ k) (hk : k < s.size) (hp : p (s[k].toNat : Int) = false) : spanN p ((bs s).drop a) = k - a :=
  h.span hak (Nat.le_of_lt hk) fun c hc => by
    rw [bs_get hk] at hc
    cases hc
    exact hp
theorem FrontA.end_ (h : FrontA p s a s.size) (hak : a ≤ s.size) : spanN p ((bs s).drop a) = s.size - a :=
  h.span hak (Nat.le_refl _) fun c hc => by
    have := (List.getElem?_eq_some_iff.1 hc).1
    rw [bs_len] at this
    omega
end
/-- what the document's one tells -/
def ROneR (o : One) (at_ : Nat) (w : World) (e : Ending) (w' : World) : Prop :=
  ((o.err = 0 ∧ e = .returned (.tuple #[.agg #[.int .i64 o.kind, .int .i64 at_, .string (str o.text)], .int .i64 (at_ + o.n : Nat), .int .i64 0])) ∨ (o.err ≠ 0 ∧ e = .returned (.tuple #[.agg #[.int .i64 0, .int .i64 0, .string ⟨#[]⟩], .int .i64 at_, .int .i64 o.err]))) ∧ Below w.heap.size w w'
set_option maxRecDepth 100000 in
theorem ends26 {w w3 : World} {a : Act} {k at_ n e : Int} {t : ByteArray} (h2 : a.tmps[4]?.getD undef = .pointer (some ⟨w.heap.size, 0, none⟩)) (h3 : a.tmps[5]?.getD undef = .int .i64 n) (h4 : a.tmps[6]?.getD undef = .int .i64 e) (hd : a.defers = [])
    (BX : Hid (Blk w3 w.heap.size 31 #[.int .i64 0, .int .i64 0, .string ⟨#[]⟩])) (B3 : Hid (Below w.heap.size w w3)) {o : One} {m : Nat}
    (hv : (o.err = 0 ∧ Ending.returned (.tuple #[.agg #[.int .i64 k, .int .i64 at_, .string t], .int .i64 n, .int .i64 e]) = .returned (.tuple #[.agg #[.int .i64 o.kind, .int .i64 m, .string (str o.text)], .int .i64 (m + o.n : Nat), .int .i64 0])) ∨
      (o.err ≠ 0 ∧ Ending.returned (.tuple #[.agg #[.int .i64 k, .int .i64 at_, .string t], .int .i64 n, .int .i64 e]) = .returned (.tuple #[.agg #[.int .i64 0, .int .i64 0, .string ⟨#[]⟩], .int .i64 m, .int .i64 o.err]))) :
    bodyPost Tryd.prog Tryd.f26 (ROneR o m w) Exit.ret a
      (((w3.setCell ⟨w.heap.size, 0, none⟩ (.int .i64 k)).setCell ⟨w.heap.size, 1, none⟩ (.int .i64 at_)).setCell ⟨w.heap.size, 2, none⟩ (.string t)) := by
  obtain ⟨w4, hw4⟩ : ∃ w4, w4 = ((w3.setCell ⟨w.heap.size, 0, none⟩ (.int .i64 k)).setCell ⟨w.heap.size, 1, none⟩ (.int .i64 at_)).setCell ⟨w.heap.size, 2, none⟩ (.string t) := ⟨_, rfl⟩
  have B4 : Blk w4 w.heap.size 31 #[.int .i64 k, .int .i64 at_, .string t] := by rw [hw4]; exact ((BX.out.set_ 0 _).set_ 1 _).set_ 2 _
  have L4 : Below w.heap.size w w4 := by rw [hw4]; exact ((B3.out.setCell (p := ⟨w.heap.size, 0, none⟩) (Nat.le_refl _) _).setCell (p := ⟨w.heap.size, 1, none⟩) (Nat.le_refl _) _).setCell (p := ⟨w.heap.size, 2, none⟩) (Nat.le_refl _) _
  rw [← hw4]
  have c0 : w4.cell? ⟨w.heap.size, 0, none⟩ = some (.int .i64 k) := B4.cell 0
  have c1 : w4.cell? ⟨w.heap.size, 1, none⟩ = some (.int .i64 at_) := B4.cell 1
  have c2 : w4.cell? ⟨w.heap.size, 2, none⟩ = some (.string t) := B4.cell 2
  have lt := B4.lt
  clear hw4 BX B3
  exact bodyPost_ret (v := .tuple #[.agg #[.int .i64 k, .int .i64 at_, .string t], .int .i64 n, .int .i64 e]) (by simp [results, Tryd.results26, go_sem, h2, h3, h4, c0, c1, c2]) hd ⟨hv, L4⟩
theorem ret_tok {k k' a a' n n' e e' : Int} {t t' : ByteArray} (h1 : k' = k) (h2 : a' = a) (h3 : t' = t) (h4 : n' = n) (h5 : e' = e) :
    Ending.returned (.tuple #[.agg #[.int .i64 k, .int .i64 a, .string t], .int .i64 n, .int .i64 e]) = .returned (.tuple #[.agg #[.int .i64 k', .int .i64 a', .string t'], .int .i64 n', .int .i64 e']) := by rw [h1, h2, h3, h4, h5]
theorem head_at {s : ByteArray} {a : Nat} (h : a < s.size) : headC ((bs s).drop a) = s[a].toNat := by
  unfold headC
  rw [List.headD_eq_head?_getD, List.head?_drop, bs_get h]
  rfl
theorem ext_at {s : ByteArray} {a n : Nat} {l : Bs} (h : ((bs s).drop a).take n = l) : s.extract a (a + n) = str l := ext_str (by rw [← h, List.drop_take]; simp)
set_option maxRecDepth 100000 in
set_option maxHeartbeats 4000000 in
theorem rone_d1 (s : ByteArray) (at_ : Nat) (w : World) (hs : s.size ≤ maxLen) (h : at_ < s.size) (h1 : runI (s[at_].toNat : Int) = true) (hd : spanN digI (((bs s).drop at_).take (spanN runI ((bs s).drop at_))) = spanN runI ((bs s).drop at_)) (hz : 1 < spanN runI ((bs s).drop at_) ∧ (((bs s).drop at_).take (spanN runI ((bs s).drop at_))).head? = some 48) : Calls Tryd.prog 26 #[.string s, .int .i64 at_] w (ROneR (oneL ((bs s).drop at_)) at_ w) := by
  have hI : (at_ : Int) < s.size := by omega
  have W1 : IntKind.i64.wrap ((at_ : Int) + 1) = at_ + 1 := IntWalk.i64_in _ (by unfold maxLen at hs; omega)
  obtain ⟨n, hn⟩ : ∃ n, n = spanN runI ((bs s).drop at_) := ⟨_, rfl⟩
  have hle : at_ + n ≤ s.size := by
    have := spanN_le (p := runI) ((bs s).drop at_)
    rw [List.length_drop, bs_len] at this
    omega
  have hn1 : 1 ≤ n := by
    rcases Nat.eq_zero_or_pos n with h0 | h0
    · have := spanN_stop (p := runI) ((bs s).drop at_) s[at_] (by rw [← hn, h0, List.getElem?_drop]; exact bs_get h)
      unfold on at this
      rw [h1] at this
      cases this
    · exact h0
  obtain ⟨t, ht⟩ : ∃ t, t = ((bs s).drop at_).take n := ⟨_, rfl⟩
  have hx := Lib.hid (show s.extract at_ (at_ + n) = str t from ext_at ht.symm)
  have htl : t.length = n := by rw [ht, List.length_take, List.length_drop, bs_len]; omega
  have tsz : (str t).size = n := by rw [str_size, htl]
  have HO : Hid (oneL ((bs s).drop at_) = ⟨(runC t).1, t, n, (runC t).2⟩) := by
    show _ = _
    unfold oneL
    rw [head_at h, if_pos h1, ht, hn]
  have DG := Lib.hid fun w => digits_any (str t) w (by rw [tsz]; exact Nat.le_trans (by omega) hs)
  have AB := Lib.hid fun w => above_any (str t) w (by rw [tsz]; exact Nat.le_trans (by omega) hs)
  have IN := Lib.hid fun (A : Option Addr) (c : Nat) w (hr : StrR w A tbl) => in_any tbl A c (str t) w hr (by decide)
  rw [bs_str, tsz] at DG
  rw [bs_str] at AB IN
  have T0 : Hid ((str t).size = n) := tsz
  have F1 := Lib.hid (FrontA.one h h1)
  have H1 := Lib.hid h1
  have HN0 := Lib.hid hn
  rw [← hn, ← ht] at hd
  have HD : Hid (decide (spanN digI t = n) = true) := decide_eq_true hd
  rw [← hn, ← ht] at hz
  have HR : Hid (runC t = (2, 2)) := by
    show _ = _
    unfold runC
    rw [if_pos (by rw [htl]; exact hd), amt_above (by rw [htl]; exact hd), if_pos ⟨by rw [htl]; exact hz.1, hz.2⟩]
  have q0 : 0 < (str t).size := by rw [tsz]; omega
  have q1 : ((((str t)[0]'q0).toNat : Int) == 48) = true := by
    have := bs_head q0
    rw [bs_str, hz.2] at this
    rw [← Option.some.inj this]
    rfl
  have q2 : (1 : Int) < n := by have := hz.1; omega
  have q3 : (1 : Int) < (str t).size := by rw [tsz]; exact q2
  clear hd hz
  rw [HO.out]
  simp only [HR.out]
  unfold maxLen at hs
  clear h1 hn ht htl tsz HO HR
  go_enter Tryd.func26, Tryd.ntmps26
  go_wp2_with fail
  refine (rrun_any _ _).mono ?_
  rintro e w' ⟨rfl, rfl⟩
  rw [H1.out]
  go_wp2_with fail
  obtain ⟨w1, hw1⟩ : ∃ w1, w1 = w.alloc (.cells #[.int .i64 0, .int .i64 0, .string ⟨#[]⟩] 31) := ⟨_, rfl⟩
  have BX := Lib.hid (show Blk w1 w.heap.size 31 #[.int .i64 0, .int .i64 0, .string ⟨#[]⟩] by rw [hw1]; exact Blk.new w 31 _)
  have B1 := Lib.hid (show Below w.heap.size w w1 by rw [hw1]; exact (Below.refl _ _).alloc (Nat.le_refl _) _)
  rw [← hw1]
  clear hw1
  go_loopw [8] (fun i v => ∃ k : Nat, at_ + 1 ≤ k ∧ k ≤ s.size ∧ i = .int .i64 k ∧ Hid (FrontA runI s at_ k) ∧ w1 = v) (fun i _ => s.size - (intOf i).toNat)
  case atStart => exact ⟨at_ + 1, Nat.le_refl _, h, by go_num, F1.out, rfl⟩
  case round =>
    obtain ⟨k, hk0, hk, rfl, ha, rfl⟩ := hrel
    by_cases hlt : k < s.size
    · cases hb : runI (s[k].toNat : Int)
      · have HB := Lib.hid hb
        have HN := Lib.hid (ha.out.stop (by omega) hlt hb)
        clear hb
        go_wp2_with fail
        refine (rrun_any _ _).mono ?_
        rintro e w' ⟨rfl, rfl⟩
        rw [HB.out]
        have x0 : w1.cell? ⟨w.heap.size, 0, none⟩ = some (.int .i64 0) := BX.out.cell 0
        have x1 : w1.cell? ⟨w.heap.size, 1, none⟩ = some (.int .i64 0) := BX.out.cell 1
        have x2 : w1.cell? ⟨w.heap.size, 2, none⟩ = some (.string ⟨#[]⟩) := BX.out.cell 2
        have f0 := BX.out.frozen 0
        have f1 := BX.out.frozen 1
        have f2 := BX.out.frozen 2
        have lb := BX.out.lt
        have hk9 : k = at_ + n := by have := HN.out; have := HN0.out; omega
        subst hk9
        go_wp2_with fail
        rw [hx.out]
        refine (DG.out _).mono ?_
        rintro e w' ⟨rfl, rfl⟩
        rw [HD.out]
        go_wp2_with fail
        exact ends26 rfl rfl rfl rfl BX B1 (.inr ⟨by simp, rfl⟩)
      · have HB := Lib.hid hb
        clear hb
        go_wp2_with fail
        refine (rrun_any _ _).mono ?_
        rintro e w' ⟨rfl, rfl⟩
        rw [HB.out]
        go_wp2_with fail
        go_roundw
        case rel => exact ⟨k + 1, by omega, by omega, by go_num, ha.out.next hlt HB.out, trivial⟩
        case measure => simp [intOf]; omega
    · have hge : (s.size : Int) ≤ k := by omega
      have HN : Hid (spanN runI ((bs s).drop at_) = k - at_) := by
        show _ = _
        obtain rfl : k = s.size := by omega
        exact ha.out.end_ (by omega)
      clear hlt
      have x0 : w1.cell? ⟨w.heap.size, 0, none⟩ = some (.int .i64 0) := BX.out.cell 0
      have x1 : w1.cell? ⟨w.heap.size, 1, none⟩ = some (.int .i64 0) := BX.out.cell 1
      have x2 : w1.cell? ⟨w.heap.size, 2, none⟩ = some (.string ⟨#[]⟩) := BX.out.cell 2
      have f0 := BX.out.frozen 0
      have f1 := BX.out.frozen 1
      have f2 := BX.out.frozen 2
      have lb := BX.out.lt
      have hk9 : k = at_ + n := by have := HN.out; have := HN0.out; omega
      subst hk9
      go_wp2_with fail
      rw [hx.out]
      refine (DG.out _).mono ?_
      rintro e w' ⟨rfl, rfl⟩
      rw [HD.out]
      go_wp2_with fail
      exact ends26 rfl rfl rfl rfl BX B1 (.inr ⟨by simp, rfl⟩)
set_option maxRecDepth 100000 in
set_option maxHeartbeats 4000000 in
theorem rone_d2 (s : ByteArray) (at_ : Nat) (w : World) (hs : s.size ≤ maxLen) (h : at_ < s.size) (h1 : runI (s[at_].toNat : Int) = true) (hd : spanN digI (((bs s).drop at_).take (spanN runI ((bs s).drop at_))) = spanN runI ((bs s).drop at_)) (hz : ¬ (1 < spanN runI ((bs s).drop at_) ∧ (((bs s).drop at_).take (spanN runI ((bs s).drop at_))).head? = some 48)) (ha : aboveL (((bs s).drop at_).take (spanN runI ((bs s).drop at_))) = true) : Calls Tryd.prog 26 #[.string s, .int .i64 at_] w (ROneR (oneL ((bs s).drop at_)) at_ w) := by
  have hI : (at_ : Int) < s.size := by omega
  have W1 : IntKind.i64.wrap ((at_ : Int) + 1) = at_ + 1 := IntWalk.i64_in _ (by unfold maxLen at hs; omega)
  obtain ⟨n, hn⟩ : ∃ n, n = spanN runI ((bs s).drop at_) := ⟨_, rfl⟩
  have hle : at_ + n ≤ s.size := by
    have := spanN_le (p := runI) ((bs s).drop at_)
    rw [List.length_drop, bs_len] at this
    omega
  have hn1 : 1 ≤ n := by
    rcases Nat.eq_zero_or_pos n with h0 | h0
    · have := spanN_stop (p := runI) ((bs s).drop at_) s[at_] (by rw [← hn, h0, List.getElem?_drop]; exact bs_get h)
      unfold on at this
      rw [h1] at this
      cases this
    · exact h0
  obtain ⟨t, ht⟩ : ∃ t, t = ((bs s).drop at_).take n := ⟨_, rfl⟩
  have hx := Lib.hid (show s.extract at_ (at_ + n) = str t from ext_at ht.symm)
  have htl : t.length = n := by rw [ht, List.length_take, List.length_drop, bs_len]; omega
  have tsz : (str t).size = n := by rw [str_size, htl]
  have HO : Hid (oneL ((bs s).drop at_) = ⟨(runC t).1, t, n, (runC t).2⟩) := by
    show _ = _
    unfold oneL
    rw [head_at h, if_pos h1, ht, hn]
  have DG := Lib.hid fun w => digits_any (str t) w (by rw [tsz]; exact Nat.le_trans (by omega) hs)
  have AB := Lib.hid fun w => above_any (str t) w (by rw [tsz]; exact Nat.le_trans (by omega) hs)
  have IN := Lib.hid fun (A : Option Addr) (c : Nat) w (hr : StrR w A tbl) => in_any tbl A c (str t) w hr (by decide)
  rw [bs_str, tsz] at DG
  rw [bs_str] at AB IN
  have T0 : Hid ((str t).size = n) := tsz
  have F1 := Lib.hid (FrontA.one h h1)
  have H1 := Lib.hid h1
  have HN0 := Lib.hid hn
  rw [← hn, ← ht] at hd
  have HD : Hid (decide (spanN digI t = n) = true) := decide_eq_true hd
  rw [← hn, ← ht] at hz ha
  have AM := amt_above (l := t) (by rw [htl]; exact hd)
  rw [if_neg (by rw [htl]; exact hz)] at AM
  have q0 : 0 < (str t).size := by rw [tsz]; omega
  have q9 : n ≤ 1 ∨ (1 < n ∧ ((((str t)[0]'q0).toNat : Int) == 48) = false) := by
    rcases Nat.lt_or_ge 1 n with h' | h'
    · refine .inr ⟨h', ?_⟩
      have := bs_head q0
      rw [bs_str] at this
      have hne : ((str t)[0]'q0) ≠ 48 := fun e => hz ⟨h', by rw [this, e]⟩
      have : (((str t)[0]'q0).toNat : Int) ≠ 48 := fun e => hne ((u8_eq (n := 48) rfl).2 e)
      simpa using this
    · exact .inl h'
  have HR : Hid (runC t = (2, 3)) := by
    show _ = _
    unfold runC
    rw [if_pos (by rw [htl]; exact hd), AM, if_pos ha]
  have HA : Hid (aboveL t = true) := ha
  clear hd hz AM ha
  rw [HO.out]
  simp only [HR.out]
  unfold maxLen at hs
  clear h1 hn ht htl tsz HO HR
  go_enter Tryd.func26, Tryd.ntmps26
  go_wp2_with fail
  refine (rrun_any _ _).mono ?_
  rintro e w' ⟨rfl, rfl⟩
  rw [H1.out]
  go_wp2_with fail
  obtain ⟨w1, hw1⟩ : ∃ w1, w1 = w.alloc (.cells #[.int .i64 0, .int .i64 0, .string ⟨#[]⟩] 31) := ⟨_, rfl⟩
  have BX := Lib.hid (show Blk w1 w.heap.size 31 #[.int .i64 0, .int .i64 0, .string ⟨#[]⟩] by rw [hw1]; exact Blk.new w 31 _)
  have B1 := Lib.hid (show Below w.heap.size w w1 by rw [hw1]; exact (Below.refl _ _).alloc (Nat.le_refl _) _)
  rw [← hw1]
  clear hw1
  go_loopw [8] (fun i v => ∃ k : Nat, at_ + 1 ≤ k ∧ k ≤ s.size ∧ i = .int .i64 k ∧ Hid (FrontA runI s at_ k) ∧ w1 = v) (fun i _ => s.size - (intOf i).toNat)
  case atStart => exact ⟨at_ + 1, Nat.le_refl _, h, by go_num, F1.out, rfl⟩
  case round =>
    obtain ⟨k, hk0, hk, rfl, ha, rfl⟩ := hrel
    by_cases hlt : k < s.size
    · cases hb : runI (s[k].toNat : Int)
      · have HB := Lib.hid hb
        have HN := Lib.hid (ha.out.stop (by omega) hlt hb)
        clear hb
        go_wp2_with fail
        refine (rrun_any _ _).mono ?_
        rintro e w' ⟨rfl, rfl⟩
        rw [HB.out]
        have x0 : w1.cell? ⟨w.heap.size, 0, none⟩ = some (.int .i64 0) := BX.out.cell 0
        have x1 : w1.cell? ⟨w.heap.size, 1, none⟩ = some (.int .i64 0) := BX.out.cell 1
        have x2 : w1.cell? ⟨w.heap.size, 2, none⟩ = some (.string ⟨#[]⟩) := BX.out.cell 2
        have f0 := BX.out.frozen 0
        have f1 := BX.out.frozen 1
        have f2 := BX.out.frozen 2
        have lb := BX.out.lt
        have hk9 : k = at_ + n := by have := HN.out; have := HN0.out; omega
        subst hk9
        go_wp2_with fail
        rw [hx.out]
        refine (DG.out _).mono ?_
        rintro e w' ⟨rfl, rfl⟩
        rw [HD.out]
        rcases q9 with q9 | ⟨q9, q9'⟩
        · have q3 : ((str t).size : Int) ≤ 1 := by rw [T0.out]; omega
          go_wp2_with fail
          refine (AB.out _).mono ?_
          rintro e w' ⟨rfl, rfl⟩
          rw [HA.out]
          go_wp2_with fail
          exact ends26 rfl rfl rfl rfl BX B1 (.inr ⟨by simp, rfl⟩)
        · have q3 : (1 : Int) < (str t).size := by rw [T0.out]; omega
          go_wp2_with fail
          refine (AB.out _).mono ?_
          rintro e w' ⟨rfl, rfl⟩
          rw [HA.out]
          go_wp2_with fail
          exact ends26 rfl rfl rfl rfl BX B1 (.inr ⟨by simp, rfl⟩)
      · have HB := Lib.hid hb
        clear hb
        go_wp2_with fail
        refine (rrun_any _ _).mono ?_
        rintro e w' ⟨rfl, rfl⟩
        rw [HB.out]
        go_wp2_with fail
        go_roundw
        case rel => exact ⟨k + 1, by omega, by omega, by go_num, ha.out.next hlt HB.out, trivial⟩
        case measure => simp [intOf]; omega
    · have hge : (s.size : Int) ≤ k := by omega
      have HN : Hid (spanN runI ((bs s).drop at_) = k - at_) := by
        show _ = _
        obtain rfl : k = s.size := by omega
        exact ha.out.end_ (by omega)
      clear hlt
      have x0 : w1.cell? ⟨w.heap.size, 0, none⟩ = some (.int .i64 0) := BX.out.cell 0
      have x1 : w1.cell? ⟨w.heap.size, 1, none⟩ = some (.int .i64 0) := BX.out.cell 1
      have x2 : w1.cell? ⟨w.heap.size, 2, none⟩ = some (.string ⟨#[]⟩) := BX.out.cell 2
      have f0 := BX.out.frozen 0
      have f1 := BX.out.frozen 1
      have f2 := BX.out.frozen 2
      have lb := BX.out.lt
      have hk9 : k = at_ + n := by have := HN.out; have := HN0.out; omega
      subst hk9
      go_wp2_with fail
      rw [hx.out]
      refine (DG.out _).mono ?_
      rintro e w' ⟨rfl, rfl⟩
      rw [HD.out]
      rcases q9 with q9 | ⟨q9, q9'⟩
      · have q3 : ((str t).size : Int) ≤ 1 := by rw [T0.out]; omega
        go_wp2_with fail
        refine (AB.out _).mono ?_
        rintro e w' ⟨rfl, rfl⟩
        rw [HA.out]
        go_wp2_with fail
        exact ends26 rfl rfl rfl rfl BX B1 (.inr ⟨by simp, rfl⟩)
      · have q3 : (1 : Int) < (str t).size := by rw [T0.out]; omega
        go_wp2_with fail
        refine (AB.out _).mono ?_
        rintro e w' ⟨rfl, rfl⟩
        rw [HA.out]
        go_wp2_with fail
        exact ends26 rfl rfl rfl rfl BX B1 (.inr ⟨by simp, rfl⟩)
set_option maxRecDepth 100000 in
set_option maxHeartbeats 4000000 in
theorem rone_d3 (s : ByteArray) (at_ : Nat) (w : World) (hs : s.size ≤ maxLen) (h : at_ < s.size) (h1 : runI (s[at_].toNat : Int) = true) (hd : spanN digI (((bs s).drop at_).take (spanN runI ((bs s).drop at_))) = spanN runI ((bs s).drop at_)) (hz : ¬ (1 < spanN runI ((bs s).drop at_) ∧ (((bs s).drop at_).take (spanN runI ((bs s).drop at_))).head? = some 48)) (ha : aboveL (((bs s).drop at_).take (spanN runI ((bs s).drop at_))) = false) : Calls Tryd.prog 26 #[.string s, .int .i64 at_] w (ROneR (oneL ((bs s).drop at_)) at_ w) := by
  have hI : (at_ : Int) < s.size := by omega
  have W1 : IntKind.i64.wrap ((at_ : Int) + 1) = at_ + 1 := IntWalk.i64_in _ (by unfold maxLen at hs; omega)
  obtain ⟨n, hn⟩ : ∃ n, n = spanN runI ((bs s).drop at_) := ⟨_, rfl⟩
  have hle : at_ + n ≤ s.size := by
    have := spanN_le (p := runI) ((bs s).drop at_)
    rw [List.length_drop, bs_len] at this
    omega
  have hn1 : 1 ≤ n := by
    rcases Nat.eq_zero_or_pos n with h0 | h0
    · have := spanN_stop (p := runI) ((bs s).drop at_) s[at_] (by rw [← hn, h0, List.getElem?_drop]; exact bs_get h)
      unfold on at this
      rw [h1] at this
      cases this
    · exact h0
  obtain ⟨t, ht⟩ : ∃ t, t = ((bs s).drop at_).take n := ⟨_, rfl⟩
  have hx := Lib.hid (show s.extract at_ (at_ + n) = str t from ext_at ht.symm)
  have htl : t.length = n := by rw [ht, List.length_take, List.length_drop, bs_len]; omega
  have tsz : (str t).size = n := by rw [str_size, htl]
  have HO : Hid (oneL ((bs s).drop at_) = ⟨(runC t).1, t, n, (runC t).2⟩) := by
    show _ = _
    unfold oneL
    rw [head_at h, if_pos h1, ht, hn]
  have DG := Lib.hid fun w => digits_any (str t) w (by rw [tsz]; exact Nat.le_trans (by omega) hs)
  have AB := Lib.hid fun w => above_any (str t) w (by rw [tsz]; exact Nat.le_trans (by omega) hs)
  have IN := Lib.hid fun (A : Option Addr) (c : Nat) w (hr : StrR w A tbl) => in_any tbl A c (str t) w hr (by decide)
  rw [bs_str, tsz] at DG
  rw [bs_str] at AB IN
  have T0 : Hid ((str t).size = n) := tsz
  have F1 := Lib.hid (FrontA.one h h1)
  have H1 := Lib.hid h1
  have HN0 := Lib.hid hn
  rw [← hn, ← ht] at hd
  have HD : Hid (decide (spanN digI t = n) = true) := decide_eq_true hd
  rw [← hn, ← ht] at hz ha
  have AM := amt_above (l := t) (by rw [htl]; exact hd)
  rw [if_neg (by rw [htl]; exact hz)] at AM
  have q0 : 0 < (str t).size := by rw [tsz]; omega
  have q9 : n ≤ 1 ∨ (1 < n ∧ ((((str t)[0]'q0).toNat : Int) == 48) = false) := by
    rcases Nat.lt_or_ge 1 n with h' | h'
    · refine .inr ⟨h', ?_⟩
      have := bs_head q0
      rw [bs_str] at this
      have hne : ((str t)[0]'q0) ≠ 48 := fun e => hz ⟨h', by rw [this, e]⟩
      have : (((str t)[0]'q0).toNat : Int) ≠ 48 := fun e => hne ((u8_eq (n := 48) rfl).2 e)
      simpa using this
    · exact .inl h'
  have HR : Hid (runC t = (2, 0)) := by
    show _ = _
    unfold runC
    rw [if_pos (by rw [htl]; exact hd), AM, if_neg (by rw [ha]; simp)]
  have HA : Hid (aboveL t = false) := ha
  clear hd hz AM ha
  rw [HO.out]
  simp only [HR.out]
  unfold maxLen at hs
  clear h1 hn ht htl tsz HO HR
  go_enter Tryd.func26, Tryd.ntmps26
  go_wp2_with fail
  refine (rrun_any _ _).mono ?_
  rintro e w' ⟨rfl, rfl⟩
  rw [H1.out]
  go_wp2_with fail
  obtain ⟨w1, hw1⟩ : ∃ w1, w1 = w.alloc (.cells #[.int .i64 0, .int .i64 0, .string ⟨#[]⟩] 31) := ⟨_, rfl⟩
  have BX := Lib.hid (show Blk w1 w.heap.size 31 #[.int .i64 0, .int .i64 0, .string ⟨#[]⟩] by rw [hw1]; exact Blk.new w 31 _)
  have B1 := Lib.hid (show Below w.heap.size w w1 by rw [hw1]; exact (Below.refl _ _).alloc (Nat.le_refl _) _)
  rw [← hw1]
  clear hw1
  go_loopw [8] (fun i v => ∃ k : Nat, at_ + 1 ≤ k ∧ k ≤ s.size ∧ i = .int .i64 k ∧ Hid (FrontA runI s at_ k) ∧ w1 = v) (fun i _ => s.size - (intOf i).toNat)
  case atStart => exact ⟨at_ + 1, Nat.le_refl _, h, by go_num, F1.out, rfl⟩
  case round =>
    obtain ⟨k, hk0, hk, rfl, ha, rfl⟩ := hrel
    by_cases hlt : k < s.size
    · cases hb : runI (s[k].toNat : Int)
      · have HB := Lib.hid hb
        have HN := Lib.hid (ha.out.stop (by omega) hlt hb)
        clear hb
        go_wp2_with fail
        refine (rrun_any _ _).mono ?_
        rintro e w' ⟨rfl, rfl⟩
        rw [HB.out]
        have x0 : w1.cell? ⟨w.heap.size, 0, none⟩ = some (.int .i64 0) := BX.out.cell 0
        have x1 : w1.cell? ⟨w.heap.size, 1, none⟩ = some (.int .i64 0) := BX.out.cell 1
        have x2 : w1.cell? ⟨w.heap.size, 2, none⟩ = some (.string ⟨#[]⟩) := BX.out.cell 2
        have f0 := BX.out.frozen 0
        have f1 := BX.out.frozen 1
        have f2 := BX.out.frozen 2
        have lb := BX.out.lt
        have hk9 : k = at_ + n := by have := HN.out; have := HN0.out; omega
        subst hk9
        go_wp2_with fail
        rw [hx.out]
        refine (DG.out _).mono ?_
        rintro e w' ⟨rfl, rfl⟩
        rw [HD.out]
        rcases q9 with q9 | ⟨q9, q9'⟩
        · have q3 : ((str t).size : Int) ≤ 1 := by rw [T0.out]; omega
          go_wp2_with fail
          refine (AB.out _).mono ?_
          rintro e w' ⟨rfl, rfl⟩
          rw [HA.out]
          go_wp2_with fail
          exact ends26 rfl rfl rfl rfl BX B1 (.inl ⟨rfl, ret_tok rfl rfl rfl (Int.natCast_add _ _) rfl⟩)
        · have q3 : (1 : Int) < (str t).size := by rw [T0.out]; omega
          go_wp2_with fail
          refine (AB.out _).mono ?_
          rintro e w' ⟨rfl, rfl⟩
          rw [HA.out]
          go_wp2_with fail
          exact ends26 rfl rfl rfl rfl BX B1 (.inl ⟨rfl, ret_tok rfl rfl rfl (Int.natCast_add _ _) rfl⟩)
      · have HB := Lib.hid hb
        clear hb
        go_wp2_with fail
        refine (rrun_any _ _).mono ?_
        rintro e w' ⟨rfl, rfl⟩
        rw [HB.out]
        go_wp2_with fail
        go_roundw
        case rel => exact ⟨k + 1, by omega, by omega, by go_num, ha.out.next hlt HB.out, trivial⟩
        case measure => simp [intOf]; omega
    · have hge : (s.size : Int) ≤ k := by omega
      have HN : Hid (spanN runI ((bs s).drop at_) = k - at_) := by
        show _ = _
        obtain rfl : k = s.size := by omega
        exact ha.out.end_ (by omega)
      clear hlt
      have x0 : w1.cell? ⟨w.heap.size, 0, none⟩ = some (.int .i64 0) := BX.out.cell 0
      have x1 : w1.cell? ⟨w.heap.size, 1, none⟩ = some (.int .i64 0) := BX.out.cell 1
      have x2 : w1.cell? ⟨w.heap.size, 2, none⟩ = some (.string ⟨#[]⟩) := BX.out.cell 2
      have f0 := BX.out.frozen 0
      have f1 := BX.out.frozen 1
      have f2 := BX.out.frozen 2
      have lb := BX.out.lt
      have hk9 : k = at_ + n := by have := HN.out; have := HN0.out; omega
      subst hk9
      go_wp2_with fail
      rw [hx.out]
      refine (DG.out _).mono ?_
      rintro e w' ⟨rfl, rfl⟩
      rw [HD.out]
      rcases q9 with q9 | ⟨q9, q9'⟩
      · have q3 : ((str t).size : Int) ≤ 1 := by rw [T0.out]; omega
        go_wp2_with fail
        refine (AB.out _).mono ?_
        rintro e w' ⟨rfl, rfl⟩
        rw [HA.out]
        go_wp2_with fail
        exact ends26 rfl rfl rfl rfl BX B1 (.inl ⟨rfl, ret_tok rfl rfl rfl (Int.natCast_add _ _) rfl⟩)
      · have q3 : (1 : Int) < (str t).size := by rw [T0.out]; omega
        go_wp2_with fail
        refine (AB.out _).mono ?_
        rintro e w' ⟨rfl, rfl⟩
        rw [HA.out]
        go_wp2_with fail
        exact ends26 rfl rfl rfl rfl BX B1 (.inl ⟨rfl, ret_tok rfl rfl rfl (Int.natCast_add _ _) rfl⟩)
set_option maxRecDepth 100000 in
set_option maxHeartbeats 4000000 in
theorem rone_w (s : ByteArray) (at_ : Nat) (w : World) (hs : s.size ≤ maxLen) (h : at_ < s.size) (h1 : runI (s[at_].toNat : Int) = true) (hd : spanN digI (((bs s).drop at_).take (spanN runI ((bs s).drop at_))) ≠ spanN runI ((bs s).drop at_)) (hc : tbl.contains (((bs s).drop at_).take (spanN runI ((bs s).drop at_))) = true) : Calls Tryd.prog 26 #[.string s, .int .i64 at_] w (ROneR (oneL ((bs s).drop at_)) at_ w) := by
  have hI : (at_ : Int) < s.size := by omega
  have W1 : IntKind.i64.wrap ((at_ : Int) + 1) = at_ + 1 := IntWalk.i64_in _ (by unfold maxLen at hs; omega)
  obtain ⟨n, hn⟩ : ∃ n, n = spanN runI ((bs s).drop at_) := ⟨_, rfl⟩
  have hle : at_ + n ≤ s.size := by
    have := spanN_le (p := runI) ((bs s).drop at_)
    rw [List.length_drop, bs_len] at this
    omega
  have hn1 : 1 ≤ n := by
    rcases Nat.eq_zero_or_pos n with h0 | h0
    · have := spanN_stop (p := runI) ((bs s).drop at_) s[at_] (by rw [← hn, h0, List.getElem?_drop]; exact bs_get h)
      unfold on at this
      rw [h1] at this
      cases this
    · exact h0
  obtain ⟨t, ht⟩ : ∃ t, t = ((bs s).drop at_).take n := ⟨_, rfl⟩
  have hx := Lib.hid (show s.extract at_ (at_ + n) = str t from ext_at ht.symm)
  have htl : t.length = n := by rw [ht, List.length_take, List.length_drop, bs_len]; omega
  have tsz : (str t).size = n := by rw [str_size, htl]
  have HO : Hid (oneL ((bs s).drop at_) = ⟨(runC t).1, t, n, (runC t).2⟩) := by
    show _ = _
    unfold oneL
    rw [head_at h, if_pos h1, ht, hn]
  have DG := Lib.hid fun w => digits_any (str t) w (by rw [tsz]; exact Nat.le_trans (by omega) hs)
  have AB := Lib.hid fun w => above_any (str t) w (by rw [tsz]; exact Nat.le_trans (by omega) hs)
  have IN := Lib.hid fun (A : Option Addr) (c : Nat) w (hr : StrR w A tbl) => in_any tbl A c (str t) w hr (by decide)
  rw [bs_str, tsz] at DG
  rw [bs_str] at AB IN
  have T0 : Hid ((str t).size = n) := tsz
  have F1 := Lib.hid (FrontA.one h h1)
  have H1 := Lib.hid h1
  have HN0 := Lib.hid hn
  rw [← hn, ← ht] at hd
  rw [← hn, ← ht] at hc
  have HD : Hid (decide (spanN digI t = n) = false) := decide_eq_false hd
  have HR : Hid (runC t = (0, 0)) := by
    show _ = _
    unfold runC
    rw [if_neg (by rw [htl]; exact hd), if_pos hc]
  have HC : Hid (tbl.contains t = true) := hc
  clear hd hc
  rw [HO.out]
  simp only [HR.out]
  unfold maxLen at hs
  clear h1 hn ht htl tsz HO HR
  go_enter Tryd.func26, Tryd.ntmps26
  go_wp2_with fail
  refine (rrun_any _ _).mono ?_
  rintro e w' ⟨rfl, rfl⟩
  rw [H1.out]
  go_wp2_with fail
  obtain ⟨w1, hw1⟩ : ∃ w1, w1 = w.alloc (.cells #[.int .i64 0, .int .i64 0, .string ⟨#[]⟩] 31) := ⟨_, rfl⟩
  have BX := Lib.hid (show Blk w1 w.heap.size 31 #[.int .i64 0, .int .i64 0, .string ⟨#[]⟩] by rw [hw1]; exact Blk.new w 31 _)
  have B1 := Lib.hid (show Below w.heap.size w w1 by rw [hw1]; exact (Below.refl _ _).alloc (Nat.le_refl _) _)
  rw [← hw1]
  clear hw1
  go_loopw [8] (fun i v => ∃ k : Nat, at_ + 1 ≤ k ∧ k ≤ s.size ∧ i = .int .i64 k ∧ Hid (FrontA runI s at_ k) ∧ w1 = v) (fun i _ => s.size - (intOf i).toNat)
  case atStart => exact ⟨at_ + 1, Nat.le_refl _, h, by go_num, F1.out, rfl⟩
  case round =>
    obtain ⟨k, hk0, hk, rfl, ha, rfl⟩ := hrel
    by_cases hlt : k < s.size
    · cases hb : runI (s[k].toNat : Int)
      · have HB := Lib.hid hb
        have HN := Lib.hid (ha.out.stop (by omega) hlt hb)
        clear hb
        go_wp2_with fail
        refine (rrun_any _ _).mono ?_
        rintro e w' ⟨rfl, rfl⟩
        rw [HB.out]
        have hk9 : k = at_ + n := by have := HN.out; have := HN0.out; omega
        subst hk9
        go_wp2_with fail
        rw [hx.out]
        refine (DG.out _).mono ?_
        rintro e w' ⟨rfl, rfl⟩
        rw [HD.out]
        go_wp2_with fail
        refine (rwords_any w1).mono ?_
        rintro e w3 ⟨A, c, rfl, hwr, hb3⟩
        have B3 := Lib.hid (below_trans B1.out hb3)
        have BX3 := Lib.hid (BX.out.below hb3 BX.out.lt)
        have HW := Lib.hid hwr
        have x0 : w3.cell? ⟨w.heap.size, 0, none⟩ = some (.int .i64 0) := BX3.out.cell 0
        have x1 : w3.cell? ⟨w.heap.size, 1, none⟩ = some (.int .i64 0) := BX3.out.cell 1
        have x2 : w3.cell? ⟨w.heap.size, 2, none⟩ = some (.string ⟨#[]⟩) := BX3.out.cell 2
        have f0 := BX3.out.frozen 0
        have f1 := BX3.out.frozen 1
        have f2 := BX3.out.frozen 2
        have lb := BX3.out.lt
        clear hb3 hwr
        go_wp2_with fail
        refine (IN.out A c w3 HW.out).mono ?_
        rintro e w' ⟨rfl, rfl⟩
        rw [HC.out]
        go_wp2_with fail
        exact ends26 rfl rfl rfl rfl BX3 B3 (.inl ⟨rfl, ret_tok rfl rfl rfl (Int.natCast_add _ _) rfl⟩)
      · have HB := Lib.hid hb
        clear hb
        go_wp2_with fail
        refine (rrun_any _ _).mono ?_
        rintro e w' ⟨rfl, rfl⟩
        rw [HB.out]
        go_wp2_with fail
        go_roundw
        case rel => exact ⟨k + 1, by omega, by omega, by go_num, ha.out.next hlt HB.out, trivial⟩
        case measure => simp [intOf]; omega
    · have hge : (s.size : Int) ≤ k := by omega
      have HN : Hid (spanN runI ((bs s).drop at_) = k - at_) := by
        show _ = _
        obtain rfl : k = s.size := by omega
        exact ha.out.end_ (by omega)
      clear hlt
      have hk9 : k = at_ + n := by have := HN.out; have := HN0.out; omega
      subst hk9
      go_wp2_with fail
      rw [hx.out]
      refine (DG.out _).mono ?_
      rintro e w' ⟨rfl, rfl⟩
      rw [HD.out]
      go_wp2_with fail
      refine (rwords_any w1).mono ?_
      rintro e w3 ⟨A, c, rfl, hwr, hb3⟩
      have B3 := Lib.hid (below_trans B1.out hb3)
      have BX3 := Lib.hid (BX.out.below hb3 BX.out.lt)
      have HW := Lib.hid hwr
      have x0 : w3.cell? ⟨w.heap.size, 0, none⟩ = some (.int .i64 0) := BX3.out.cell 0
      have x1 : w3.cell? ⟨w.heap.size, 1, none⟩ = some (.int .i64 0) := BX3.out.cell 1
      have x2 : w3.cell? ⟨w.heap.size, 2, none⟩ = some (.string ⟨#[]⟩) := BX3.out.cell 2
      have f0 := BX3.out.frozen 0
      have f1 := BX3.out.frozen 1
      have f2 := BX3.out.frozen 2
      have lb := BX3.out.lt
      clear hb3 hwr
      go_wp2_with fail
      refine (IN.out A c w3 HW.out).mono ?_
      rintro e w' ⟨rfl, rfl⟩
      rw [HC.out]
      go_wp2_with fail
      exact ends26 rfl rfl rfl rfl BX3 B3 (.inl ⟨rfl, ret_tok rfl rfl rfl (Int.natCast_add _ _) rfl⟩)
set_option maxRecDepth 100000 in
set_option maxHeartbeats 4000000 in
theorem rone_n (s : ByteArray) (at_ : Nat) (w : World) (hs : s.size ≤ maxLen) (h : at_ < s.size) (h1 : runI (s[at_].toNat : Int) = true) (hd : spanN digI (((bs s).drop at_).take (spanN runI ((bs s).drop at_))) ≠ spanN runI ((bs s).drop at_)) (hc : tbl.contains (((bs s).drop at_).take (spanN runI ((bs s).drop at_))) = false) (hl : spanN runI ((bs s).drop at_) ≤ 16) : Calls Tryd.prog 26 #[.string s, .int .i64 at_] w (ROneR (oneL ((bs s).drop at_)) at_ w) := by
  have hI : (at_ : Int) < s.size := by omega
  have W1 : IntKind.i64.wrap ((at_ : Int) + 1) = at_ + 1 := IntWalk.i64_in _ (by unfold maxLen at hs; omega)
  obtain ⟨n, hn⟩ : ∃ n, n = spanN runI ((bs s).drop at_) := ⟨_, rfl⟩
  have hle : at_ + n ≤ s.size := by
    have := spanN_le (p := runI) ((bs s).drop at_)
    rw [List.length_drop, bs_len] at this
    omega
  have hn1 : 1 ≤ n := by
    rcases Nat.eq_zero_or_pos n with h0 | h0
    · have := spanN_stop (p := runI) ((bs s).drop at_) s[at_] (by rw [← hn, h0, List.getElem?_drop]; exact bs_get h)
      unfold on at this
      rw [h1] at this
      cases this
    · exact h0
  obtain ⟨t, ht⟩ : ∃ t, t = ((bs s).drop at_).take n := ⟨_, rfl⟩
  have hx := Lib.hid (show s.extract at_ (at_ + n) = str t from ext_at ht.symm)
  have htl : t.length = n := by rw [ht, List.length_take, List.length_drop, bs_len]; omega
  have tsz : (str t).size = n := by rw [str_size, htl]
  have HO : Hid (oneL ((bs s).drop at_) = ⟨(runC t).1, t, n, (runC t).2⟩) := by
    show _ = _
    unfold oneL
    rw [head_at h, if_pos h1, ht, hn]
  have DG := Lib.hid fun w => digits_any (str t) w (by rw [tsz]; exact Nat.le_trans (by omega) hs)
  have AB := Lib.hid fun w => above_any (str t) w (by rw [tsz]; exact Nat.le_trans (by omega) hs)
  have IN := Lib.hid fun (A : Option Addr) (c : Nat) w (hr : StrR w A tbl) => in_any tbl A c (str t) w hr (by decide)
  rw [bs_str, tsz] at DG
  rw [bs_str] at AB IN
  have T0 : Hid ((str t).size = n) := tsz
  have F1 := Lib.hid (FrontA.one h h1)
  have H1 := Lib.hid h1
  have HN0 := Lib.hid hn
  rw [← hn, ← ht] at hd
  rw [← hn, ← ht] at hc
  have HD : Hid (decide (spanN digI t = n) = false) := decide_eq_false hd
  have HR : Hid (runC t = (1, 0)) := by
    show _ = _
    unfold runC
    rw [if_neg (by rw [htl]; exact hd), if_neg (by rw [hc]; simp), if_pos (by rw [htl, hn]; exact hl)]
  have HC : Hid (tbl.contains t = false) := hc
  have q1 : ((str t).size : Int) ≤ 16 := by rw [tsz]; omega
  clear hd hc
  rw [HO.out]
  simp only [HR.out]
  unfold maxLen at hs
  clear h1 hn ht htl tsz HO HR
  go_enter Tryd.func26, Tryd.ntmps26
  go_wp2_with fail
  refine (rrun_any _ _).mono ?_
  rintro e w' ⟨rfl, rfl⟩
  rw [H1.out]
  go_wp2_with fail
  obtain ⟨w1, hw1⟩ : ∃ w1, w1 = w.alloc (.cells #[.int .i64 0, .int .i64 0, .string ⟨#[]⟩] 31) := ⟨_, rfl⟩
  have BX := Lib.hid (show Blk w1 w.heap.size 31 #[.int .i64 0, .int .i64 0, .string ⟨#[]⟩] by rw [hw1]; exact Blk.new w 31 _)
  have B1 := Lib.hid (show Below w.heap.size w w1 by rw [hw1]; exact (Below.refl _ _).alloc (Nat.le_refl _) _)
  rw [← hw1]
  clear hw1
  go_loopw [8] (fun i v => ∃ k : Nat, at_ + 1 ≤ k ∧ k ≤ s.size ∧ i = .int .i64 k ∧ Hid (FrontA runI s at_ k) ∧ w1 = v) (fun i _ => s.size - (intOf i).toNat)
  case atStart => exact ⟨at_ + 1, Nat.le_refl _, h, by go_num, F1.out, rfl⟩
  case round =>
    obtain ⟨k, hk0, hk, rfl, ha, rfl⟩ := hrel
    by_cases hlt : k < s.size
    · cases hb : runI (s[k].toNat : Int)
      · have HB := Lib.hid hb
        have HN := Lib.hid (ha.out.stop (by omega) hlt hb)
        clear hb
        go_wp2_with fail
        refine (rrun_any _ _).mono ?_
        rintro e w' ⟨rfl, rfl⟩
        rw [HB.out]
        have hk9 : k = at_ + n := by have := HN.out; have := HN0.out; omega
        subst hk9
        go_wp2_with fail
        rw [hx.out]
        refine (DG.out _).mono ?_
        rintro e w' ⟨rfl, rfl⟩
        rw [HD.out]
        go_wp2_with fail
        refine (rwords_any w1).mono ?_
        rintro e w3 ⟨A, c, rfl, hwr, hb3⟩
        have B3 := Lib.hid (below_trans B1.out hb3)
        have BX3 := Lib.hid (BX.out.below hb3 BX.out.lt)
        have HW := Lib.hid hwr
        have x0 : w3.cell? ⟨w.heap.size, 0, none⟩ = some (.int .i64 0) := BX3.out.cell 0
        have x1 : w3.cell? ⟨w.heap.size, 1, none⟩ = some (.int .i64 0) := BX3.out.cell 1
        have x2 : w3.cell? ⟨w.heap.size, 2, none⟩ = some (.string ⟨#[]⟩) := BX3.out.cell 2
        have f0 := BX3.out.frozen 0
        have f1 := BX3.out.frozen 1
        have f2 := BX3.out.frozen 2
        have lb := BX3.out.lt
        clear hb3 hwr
        go_wp2_with fail
        refine (IN.out A c w3 HW.out).mono ?_
        rintro e w' ⟨rfl, rfl⟩
        rw [HC.out]
        go_wp2_with fail
        exact ends26 rfl rfl rfl rfl BX3 B3 (.inl ⟨rfl, ret_tok rfl rfl rfl (Int.natCast_add _ _) rfl⟩)
      · have HB := Lib.hid hb
        clear hb
        go_wp2_with fail
        refine (rrun_any _ _).mono ?_
        rintro e w' ⟨rfl, rfl⟩
        rw [HB.out]
        go_wp2_with fail
        go_roundw
        case rel => exact ⟨k + 1, by omega, by omega, by go_num, ha.out.next hlt HB.out, trivial⟩
        case measure => simp [intOf]; omega
    · have hge : (s.size : Int) ≤ k := by omega
      have HN : Hid (spanN runI ((bs s).drop at_) = k - at_) := by
        show _ = _
        obtain rfl : k = s.size := by omega
        exact ha.out.end_ (by omega)
      clear hlt
      have hk9 : k = at_ + n := by have := HN.out; have := HN0.out; omega
      subst hk9
      go_wp2_with fail
      rw [hx.out]
      refine (DG.out _).mono ?_
      rintro e w' ⟨rfl, rfl⟩
      rw [HD.out]
      go_wp2_with fail
      refine (rwords_any w1).mono ?_
      rintro e w3 ⟨A, c, rfl, hwr, hb3⟩
      have B3 := Lib.hid (below_trans B1.out hb3)
      have BX3 := Lib.hid (BX.out.below hb3 BX.out.lt)
      have HW := Lib.hid hwr
      have x0 : w3.cell? ⟨w.heap.size, 0, none⟩ = some (.int .i64 0) := BX3.out.cell 0
      have x1 : w3.cell? ⟨w.heap.size, 1, none⟩ = some (.int .i64 0) := BX3.out.cell 1
      have x2 : w3.cell? ⟨w.heap.size, 2, none⟩ = some (.string ⟨#[]⟩) := BX3.out.cell 2
      have f0 := BX3.out.frozen 0
      have f1 := BX3.out.frozen 1
      have f2 := BX3.out.frozen 2
      have lb := BX3.out.lt
      clear hb3 hwr
      go_wp2_with fail
      refine (IN.out A c w3 HW.out).mono ?_
      rintro e w' ⟨rfl, rfl⟩
      rw [HC.out]
      go_wp2_with fail
      exact ends26 rfl rfl rfl rfl BX3 B3 (.inl ⟨rfl, ret_tok rfl rfl rfl (Int.natCast_add _ _) rfl⟩)
set_option maxRecDepth 100000 in
set_option maxHeartbeats 4000000 in
theorem rone_l (s : ByteArray) (at_ : Nat) (w : World) (hs : s.size ≤ maxLen) (h : at_ < s.size) (h1 : runI (s[at_].toNat : Int) = true) (hd : spanN digI (((bs s).drop at_).take (spanN runI ((bs s).drop at_))) ≠ spanN runI ((bs s).drop at_)) (hc : tbl.contains (((bs s).drop at_).take (spanN runI ((bs s).drop at_))) = false) (hl : 16 < spanN runI ((bs s).drop at_)) : Calls Tryd.prog 26 #[.string s, .int .i64 at_] w (ROneR (oneL ((bs s).drop at_)) at_ w) := by
  have hI : (at_ : Int) < s.size := by omega
  have W1 : IntKind.i64.wrap ((at_ : Int) + 1) = at_ + 1 := IntWalk.i64_in _ (by unfold maxLen at hs; omega)
  obtain ⟨n, hn⟩ : ∃ n, n = spanN runI ((bs s).drop at_) := ⟨_, rfl⟩
  have hle : at_ + n ≤ s.size := by
    have := spanN_le (p := runI) ((bs s).drop at_)
    rw [List.length_drop, bs_len] at this
    omega
  have hn1 : 1 ≤ n := by
    rcases Nat.eq_zero_or_pos n with h0 | h0
    · have := spanN_stop (p := runI) ((bs s).drop at_) s[at_] (by rw [← hn, h0, List.getElem?_drop]; exact bs_get h)
      unfold on at this
      rw [h1] at this
      cases this
    · exact h0
  obtain ⟨t, ht⟩ : ∃ t, t = ((bs s).drop at_).take n := ⟨_, rfl⟩
  have hx := Lib.hid (show s.extract at_ (at_ + n) = str t from ext_at ht.symm)
  have htl : t.length = n := by rw [ht, List.length_take, List.length_drop, bs_len]; omega
  have tsz : (str t).size = n := by rw [str_size, htl]
  have HO : Hid (oneL ((bs s).drop at_) = ⟨(runC t).1, t, n, (runC t).2⟩) := by
    show _ = _
    unfold oneL
    rw [head_at h, if_pos h1, ht, hn]
  have DG := Lib.hid fun w => digits_any (str t) w (by rw [tsz]; exact Nat.le_trans (by omega) hs)
  have AB := Lib.hid fun w => above_any (str t) w (by rw [tsz]; exact Nat.le_trans (by omega) hs)
  have IN := Lib.hid fun (A : Option Addr) (c : Nat) w (hr : StrR w A tbl) => in_any tbl A c (str t) w hr (by decide)
  rw [bs_str, tsz] at DG
  rw [bs_str] at AB IN
  have T0 : Hid ((str t).size = n) := tsz
  have F1 := Lib.hid (FrontA.one h h1)
  have H1 := Lib.hid h1
  have HN0 := Lib.hid hn
  rw [← hn, ← ht] at hd
  rw [← hn, ← ht] at hc
  have HD : Hid (decide (spanN digI t = n) = false) := decide_eq_false hd
  have HR : Hid (runC t = (1, 2)) := by
    show _ = _
    unfold runC
    rw [if_neg (by rw [htl]; exact hd), if_neg (by rw [hc]; simp), if_neg (by rw [htl, hn]; omega)]
  have HC : Hid (tbl.contains t = false) := hc
  have q1 : (16 : Int) < (str t).size := by rw [tsz]; omega
  clear hd hc
  rw [HO.out]
  simp only [HR.out]
  unfold maxLen at hs
  clear h1 hn ht htl tsz HO HR
  go_enter Tryd.func26, Tryd.ntmps26
  go_wp2_with fail
  refine (rrun_any _ _).mono ?_
  rintro e w' ⟨rfl, rfl⟩
  rw [H1.out]
  go_wp2_with fail
  obtain ⟨w1, hw1⟩ : ∃ w1, w1 = w.alloc (.cells #[.int .i64 0, .int .i64 0, .string ⟨#[]⟩] 31) := ⟨_, rfl⟩
  have BX := Lib.hid (show Blk w1 w.heap.size 31 #[.int .i64 0, .int .i64 0, .string ⟨#[]⟩] by rw [hw1]; exact Blk.new w 31 _)
  have B1 := Lib.hid (show Below w.heap.size w w1 by rw [hw1]; exact (Below.refl _ _).alloc (Nat.le_refl _) _)
  rw [← hw1]
  clear hw1
  go_loopw [8] (fun i v => ∃ k : Nat, at_ + 1 ≤ k ∧ k ≤ s.size ∧ i = .int .i64 k ∧ Hid (FrontA runI s at_ k) ∧ w1 = v) (fun i _ => s.size - (intOf i).toNat)
  case atStart => exact ⟨at_ + 1, Nat.le_refl _, h, by go_num, F1.out, rfl⟩
  case round =>
    obtain ⟨k, hk0, hk, rfl, ha, rfl⟩ := hrel
    by_cases hlt : k < s.size
    · cases hb : runI (s[k].toNat : Int)
      · have HB := Lib.hid hb
        have HN := Lib.hid (ha.out.stop (by omega) hlt hb)
        clear hb
        go_wp2_with fail
        refine (rrun_any _ _).mono ?_
        rintro e w' ⟨rfl, rfl⟩
        rw [HB.out]
        have hk9 : k = at_ + n := by have := HN.out; have := HN0.out; omega
        subst hk9
        go_wp2_with fail
        rw [hx.out]
        refine (DG.out _).mono ?_
        rintro e w' ⟨rfl, rfl⟩
        rw [HD.out]
        go_wp2_with fail
        refine (rwords_any w1).mono ?_
        rintro e w3 ⟨A, c, rfl, hwr, hb3⟩
        have B3 := Lib.hid (below_trans B1.out hb3)
        have BX3 := Lib.hid (BX.out.below hb3 BX.out.lt)
        have HW := Lib.hid hwr
        have x0 : w3.cell? ⟨w.heap.size, 0, none⟩ = some (.int .i64 0) := BX3.out.cell 0
        have x1 : w3.cell? ⟨w.heap.size, 1, none⟩ = some (.int .i64 0) := BX3.out.cell 1
        have x2 : w3.cell? ⟨w.heap.size, 2, none⟩ = some (.string ⟨#[]⟩) := BX3.out.cell 2
        have f0 := BX3.out.frozen 0
        have f1 := BX3.out.frozen 1
        have f2 := BX3.out.frozen 2
        have lb := BX3.out.lt
        clear hb3 hwr
        go_wp2_with fail
        refine (IN.out A c w3 HW.out).mono ?_
        rintro e w' ⟨rfl, rfl⟩
        rw [HC.out]
        go_wp2_with fail
        exact ends26 rfl rfl rfl rfl BX3 B3 (.inr ⟨by simp, rfl⟩)
      · have HB := Lib.hid hb
        clear hb
        go_wp2_with fail
        refine (rrun_any _ _).mono ?_
        rintro e w' ⟨rfl, rfl⟩
        rw [HB.out]
        go_wp2_with fail
        go_roundw
        case rel => exact ⟨k + 1, by omega, by omega, by go_num, ha.out.next hlt HB.out, trivial⟩
        case measure => simp [intOf]; omega
    · have hge : (s.size : Int) ≤ k := by omega
      have HN : Hid (spanN runI ((bs s).drop at_) = k - at_) := by
        show _ = _
        obtain rfl : k = s.size := by omega
        exact ha.out.end_ (by omega)
      clear hlt
      have hk9 : k = at_ + n := by have := HN.out; have := HN0.out; omega
      subst hk9
      go_wp2_with fail
      rw [hx.out]
      refine (DG.out _).mono ?_
      rintro e w' ⟨rfl, rfl⟩
      rw [HD.out]
      go_wp2_with fail
      refine (rwords_any w1).mono ?_
      rintro e w3 ⟨A, c, rfl, hwr, hb3⟩
      have B3 := Lib.hid (below_trans B1.out hb3)
      have BX3 := Lib.hid (BX.out.below hb3 BX.out.lt)
      have HW := Lib.hid hwr
      have x0 : w3.cell? ⟨w.heap.size, 0, none⟩ = some (.int .i64 0) := BX3.out.cell 0
      have x1 : w3.cell? ⟨w.heap.size, 1, none⟩ = some (.int .i64 0) := BX3.out.cell 1
      have x2 : w3.cell? ⟨w.heap.size, 2, none⟩ = some (.string ⟨#[]⟩) := BX3.out.cell 2
      have f0 := BX3.out.frozen 0
      have f1 := BX3.out.frozen 1
      have f2 := BX3.out.frozen 2
      have lb := BX3.out.lt
      clear hb3 hwr
      go_wp2_with fail
      refine (IN.out A c w3 HW.out).mono ?_
      rintro e w' ⟨rfl, rfl⟩
      rw [HC.out]
      go_wp2_with fail
      exact ends26 rfl rfl rfl rfl BX3 B3 (.inr ⟨by simp, rfl⟩)
end Go.Proofs.YtnffnkmghghmlaaDoor
