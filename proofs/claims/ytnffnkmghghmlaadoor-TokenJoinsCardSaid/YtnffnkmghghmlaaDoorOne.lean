/- The walk of one. Conditions: where the words lie; a text that is not empty. -/
import Derived.Test.YtnffnkmghghmlaaDoorRun
namespace Go.Proofs.YtnffnkmghghmlaaDoor
open Go.RowKit
set_option linter.unusedVariables false
set_option linter.unusedSimpArgs false
theorem bs_extract (s : ByteArray) (i j : Nat) : bs (s.extract i j) = ((bs s).take j).drop i := by
  unfold bs
  rw [ByteArray.data_extract, Array.toList_extract, List.extract_eq_take_drop, List.drop_take]
theorem ext_size {s : ByteArray} {i j : Nat} (h : j ≤ s.size) : (s.extract i j).size = j - i := by
  rw [← bs_len, bs_extract, List.length_drop, List.length_take, bs_len]
  omega
theorem ext_from (s : ByteArray) (i : Nat) : bs (s.extract i s.size) = (bs s).drop i := by
  rw [bs_extract, ← bs_len, List.take_length]
theorem ext_str {s : ByteArray} {i j : Nat} {l : Bs} (h : ((bs s).take j).drop i = l) : s.extract i j = str l := bs_inj (by rw [bs_extract, bs_str, h])
set_option maxRecDepth 100000 in
theorem ends25 {w w3 : World} {a : Act} {k n e : Int} {t : ByteArray} (h2 : a.tmps[2]?.getD undef = .pointer (some ⟨w.heap.size, 0, none⟩)) (h3 : a.tmps[3]?.getD undef = .int .i64 n) (h4 : a.tmps[4]?.getD undef = .int .i64 e) (hd : a.defers = [])
    (BX : Blk w3 w.heap.size 31 #[.int .i64 0, .int .i64 0, .string ⟨#[]⟩]) (B3 : Below w.heap.size w w3) :
    bodyPost Tryd.prog Tryd.f25 (fun e' w' => e' = .returned (.tuple #[.agg #[.int .i64 k, .int .i64 0, .string t], .int .i64 n, .int .i64 e]) ∧ Below w.heap.size w w') Exit.ret a
      (((w3.setCell ⟨w.heap.size, 0, none⟩ (.int .i64 k)).setCell ⟨w.heap.size, 1, none⟩ (.int .i64 0)).setCell ⟨w.heap.size, 2, none⟩ (.string t)) := by
  obtain ⟨w4, hw4⟩ : ∃ w4, w4 = ((w3.setCell ⟨w.heap.size, 0, none⟩ (.int .i64 k)).setCell ⟨w.heap.size, 1, none⟩ (.int .i64 0)).setCell ⟨w.heap.size, 2, none⟩ (.string t) := ⟨_, rfl⟩
  have B4 : Blk w4 w.heap.size 31 #[.int .i64 k, .int .i64 0, .string t] := by rw [hw4]; exact ((BX.set_ 0 _).set_ 1 _).set_ 2 _
  have L4 : Below w.heap.size w w4 := by rw [hw4]; exact ((B3.setCell (p := ⟨w.heap.size, 0, none⟩) (Nat.le_refl _) _).setCell (p := ⟨w.heap.size, 1, none⟩) (Nat.le_refl _) _).setCell (p := ⟨w.heap.size, 2, none⟩) (Nat.le_refl _) _
  rw [← hw4]
  have c0 : w4.cell? ⟨w.heap.size, 0, none⟩ = some (.int .i64 k) := B4.cell 0
  have c1 : w4.cell? ⟨w.heap.size, 1, none⟩ = some (.int .i64 0) := B4.cell 1
  have c2 : w4.cell? ⟨w.heap.size, 2, none⟩ = some (.string t) := B4.cell 2
  have lt := B4.lt
  clear hw4 BX B3
  refine bodyPost_ret (v := .tuple #[.agg #[.int .i64 k, .int .i64 0, .string t], .int .i64 n, .int .i64 e]) (by simp [results, Tryd.results25, go_sem, h2, h3, h4, c0, c1, c2]) hd ⟨rfl, L4⟩
/-- what one tells -/
def OneR (o : One) (w : World) (e : Ending) (w' : World) : Prop :=
  e = .returned (.tuple #[.agg #[.int .i64 o.kind, .int .i64 0, .string (str o.text)], .int .i64 o.n, .int .i64 o.err]) ∧ Below w.heap.size w w'
theorem ret_one {k k' n n' e e' : Int} {t t' : ByteArray} (h1 : k' = k) (h2 : t' = t) (h3 : n' = n) (h4 : e' = e) :
    Ending.returned (.tuple #[.agg #[.int .i64 k, .int .i64 0, .string t], .int .i64 n, .int .i64 e]) = .returned (.tuple #[.agg #[.int .i64 k', .int .i64 0, .string t'], .int .i64 n', .int .i64 e']) := by rw [h1, h2, h3, h4]
theorem head_bs {s : ByteArray} (h : 0 < s.size) : headC (bs s) = s[0].toNat := by
  have := bs_head h
  unfold headC
  rw [List.headD_eq_head?_getD, this]
  rfl
theorem bs_ne {s : ByteArray} (h : 0 < s.size) : bs s ≠ [] := by
  intro e
  have := bs_len s
  rw [e] at this
  simp at this
  omega
theorem spanN_take {p : Int → Bool} (l : Bs) : spanN p (l.take (spanN p l)) = spanN p l :=
  spanN_same (fun i hi => by rw [List.getElem?_take, if_pos hi]) fun c hc => by
    rw [List.getElem?_take, if_neg (by omega)] at hc
    cases hc
set_option maxRecDepth 100000 in
set_option maxHeartbeats 2000000 in
theorem one_run (s : ByteArray) (w : World) {b o c : Nat} (T : Tab w b o c) (hs : s.size ≤ maxLen) (h0 : 0 < s.size) (h1 : runI (s[0].toNat : Int) = true) : Calls Tryd.prog 25 #[.string s] w (OneR (oneL (bs s)) w) := by
  have HO : Hid (oneL (bs s) = ⟨(runC ((bs s).take (spanN runI (bs s)))).1, (bs s).take (spanN runI (bs s)), spanN runI (bs s), (runC ((bs s).take (spanN runI (bs s)))).2⟩) := by
    show _ = _
    unfold oneL
    rw [head_bs h0, if_pos h1]
  have hle : spanN runI (bs s) ≤ s.size := by rw [← bs_len]; exact spanN_le _
  have h1n : 1 ≤ spanN runI (bs s) := by
    rcases Nat.eq_zero_or_pos (spanN runI (bs s)) with h | h
    · have := spanN_stop (p := runI) (bs s) s[0] (by rw [h]; exact bs_get h0)
      unfold on at this
      rw [h1] at this
      cases this
    · exact h
  have hx : s.extract 0 (spanN runI (bs s)) = str ((bs s).take (spanN runI (bs s))) := ext_str (by rw [List.drop_zero])
  have SP := Lib.hid fun w => span_any runI 34 ent_run running_any s w hs
  have hsz : (str ((bs s).take (spanN runI (bs s)))).size = spanN runI (bs s) := by rw [str_size, List.length_take, bs_len]; omega
  have RU := Lib.hid fun (w : World) (T : Tab w b o c) => run_any (str ((bs s).take (spanN runI (bs s)))) w T (by rw [hsz]; exact Nat.le_trans hle hs) (by rw [hsz]; exact h1n) (by rw [hsz, bs_str, spanN_take])
  rw [bs_str] at RU
  unfold OneR
  rw [HO.out]
  have H1 := Lib.hid h1
  have HT := Lib.hid T
  have BA := Lib.hid (show Below w.heap.size w (w.alloc (.cells #[.int .i64 0, .int .i64 0, .string ⟨#[]⟩] 31)) from (Below.refl _ _).alloc (Nat.le_refl _) _)
  have hleI : (spanN runI (bs s) : Int) ≤ s.size := by omega
  have HX := Lib.hid hx
  simp only
  generalize runC ((bs s).take (spanN runI (bs s))) = rc at *
  generalize str ((bs s).take (spanN runI (bs s))) = tt at *
  generalize spanN runI (bs s) = n at *
  obtain ⟨rk, re⟩ := rc
  unfold maxLen at hs
  clear h1 T hx HO
  go_enter Tryd.func25, Tryd.ntmps25
  go_wp2_with fail
  refine (running_any _ _).mono ?_
  rintro e w' ⟨rfl, rfl⟩
  rw [H1.out]
  go_wp2_with fail
  refine (SP.out _).mono ?_
  rintro e w' ⟨rfl, rfl⟩
  go_wp2_with fail
  rw [HX.out]
  refine (RU.out _ (HT.out.below BA.out)).mono ?_
  rintro e w3 ⟨rfl, hb3⟩
  have B3 := Lib.hid (below_trans BA.out hb3)
  have BX : Blk w3 w.heap.size 31 #[.int .i64 0, .int .i64 0, .string ⟨#[]⟩] := (Blk.new w 31 _).below hb3 (by simp)
  have x0 : w3.cell? ⟨w.heap.size, 0, none⟩ = some (.int .i64 0) := BX.cell 0
  have x1 : w3.cell? ⟨w.heap.size, 1, none⟩ = some (.int .i64 0) := BX.cell 1
  have x2 : w3.cell? ⟨w.heap.size, 2, none⟩ = some (.string ⟨#[]⟩) := BX.cell 2
  have f0 := BX.frozen 0
  have f1 := BX.frozen 1
  have f2 := BX.frozen 2
  have lb := BX.lt
  clear hb3 BA
  go_wp2_with fail
  rw [HX.out]
  exact ends25 rfl rfl rfl rfl BX B3.out
set_option maxRecDepth 100000 in
theorem endsA {w : World} {a : Act} {k n e : Int} {t : ByteArray} (h2 : a.tmps[2]?.getD undef = .pointer (some ⟨w.heap.size, 0, none⟩)) (h3 : a.tmps[3]?.getD undef = .int .i64 n) (h4 : a.tmps[4]?.getD undef = .int .i64 e) (hd : a.defers = []) :
    bodyPost Tryd.prog Tryd.f25 (fun e' w' => e' = .returned (.tuple #[.agg #[.int .i64 k, .int .i64 0, .string t], .int .i64 n, .int .i64 e]) ∧ Below w.heap.size w w') Exit.ret a
      (w.alloc (.cells #[.int .i64 k, .int .i64 0, .string t] 31)) := by
  have B4 : Blk (w.alloc (.cells #[.int .i64 k, .int .i64 0, .string t] 31)) w.heap.size 31 #[.int .i64 k, .int .i64 0, .string t] := Blk.new w 31 _
  have L4 : Below w.heap.size w (w.alloc (.cells #[.int .i64 k, .int .i64 0, .string t] 31)) := (Below.refl _ _).alloc (Nat.le_refl _) _
  generalize w.alloc (.cells #[.int .i64 k, .int .i64 0, .string t] 31) = w4 at *
  have c0 : w4.cell? ⟨w.heap.size, 0, none⟩ = some (.int .i64 k) := B4.cell 0
  have c1 : w4.cell? ⟨w.heap.size, 1, none⟩ = some (.int .i64 0) := B4.cell 1
  have c2 : w4.cell? ⟨w.heap.size, 2, none⟩ = some (.string t) := B4.cell 2
  have lt := B4.lt
  refine bodyPost_ret (v := .tuple #[.agg #[.int .i64 k, .int .i64 0, .string t], .int .i64 n, .int .i64 e]) (by simp [results, Tryd.results25, go_sem, h2, h3, h4, c0, c1, c2]) hd ⟨rfl, L4⟩
set_option maxRecDepth 100000 in
set_option maxHeartbeats 2000000 in
theorem one_cap (s : ByteArray) (w : World) (hs : s.size ≤ maxLen) (h0 : 0 < s.size) (h1 : runI (s[0].toNat : Int) = false) (h2 : capI (s[0].toNat : Int) = true) : Calls Tryd.prog 25 #[.string s] w (OneR (oneL (bs s)) w) := by
  have HO : Hid (oneL (bs s) = if spanN capI (bs s) = 3 then ⟨4, (bs s).take 3, 3, 0⟩ else badO) := by
    show _ = _
    unfold oneL
    rw [head_bs h0, if_neg (by simp [h1]), if_pos h2]
  have SP := Lib.hid fun w => span_any capI 36 ent_cap capital_any s w hs
  have H1 := Lib.hid h1
  have H2 := Lib.hid h2
  have hle : spanN capI (bs s) ≤ s.size := by rw [← bs_len]; exact spanN_le _
  by_cases h3 : spanN capI (bs s) = 3
  · rw [h3] at SP hle
    have hx := Lib.hid (show s.extract 0 3 = str ((bs s).take 3) from ext_str (by rw [List.drop_zero]))
    rw [if_pos h3] at HO
    unfold OneR
    rw [HO.out]
    unfold maxLen at hs
    have hle' : (3 : Int) ≤ s.size := by omega
    clear h1 h2 h3 HO
    generalize str ((bs s).take 3) = tt at *
    go_enter Tryd.func25, Tryd.ntmps25
    go_wp2_with fail
    refine (running_any _ _).mono ?_
    rintro e w' ⟨rfl, rfl⟩
    rw [H1.out]
    go_wp2_with fail
    refine (capital_any _ _).mono ?_
    rintro e w' ⟨rfl, rfl⟩
    rw [H2.out]
    go_wp2_with fail
    refine (SP.out _).mono ?_
    rintro e w' ⟨rfl, rfl⟩
    go_wp2_with fail
    rw [hx.out]
    exact endsA rfl rfl rfl rfl
  · have hne : ((spanN capI (bs s) : Int) == 3) = false := by simp; omega
    have hne' : ((spanN capI (bs s) : Int) != 3) = true := by simp; omega
    rw [if_neg h3] at HO
    unfold OneR
    rw [HO.out]
    unfold maxLen at hs
    generalize spanN capI (bs s) = n at *
    clear h1 h2 h3 HO
    go_enter Tryd.func25, Tryd.ntmps25
    go_wp2_with fail
    refine (running_any _ _).mono ?_
    rintro e w' ⟨rfl, rfl⟩
    rw [H1.out]
    go_wp2_with fail
    refine (capital_any _ _).mono ?_
    rintro e w' ⟨rfl, rfl⟩
    rw [H2.out]
    go_wp2_with fail
    refine (SP.out _).mono ?_
    rintro e w' ⟨rfl, rfl⟩
    go_wp2_with fail
    exact endsA rfl rfl rfl rfl
set_option maxRecDepth 100000 in
set_option maxHeartbeats 2000000 in
theorem one_quote (s : ByteArray) (w : World) (hs : s.size ≤ maxLen) (h0 : 0 < s.size) (h1 : runI (s[0].toNat : Int) = false) (h2 : capI (s[0].toNat : Int) = false) (h3 : (s[0].toNat : Int) = 34) : Calls Tryd.prog 25 #[.string s] w (OneR (oneL (bs s)) w) := by
  have HO : Hid (oneL (bs s) = if (bs s).tail[spanN plI (bs s).tail]? = some 34 then ⟨3, (bs s).tail.take (spanN plI (bs s).tail), spanN plI (bs s).tail + 2, 0⟩ else badO) := by
    show _ = _
    unfold oneL
    rw [head_bs h0, if_neg (by simp [h1]), if_neg (by simp [h2]), if_pos h3]
  have ht : bs (s.extract 1 s.size) = (bs s).tail := by rw [ext_from, List.drop_one]
  have SP := Lib.hid fun w => span_any plI 37 ent_pl plain_any (s.extract 1 s.size) w (by rw [ext_size (Nat.le_refl _)]; omega)
  rw [ht] at SP
  have H1 := Lib.hid h1
  have H2 := Lib.hid h2
  have e3 : ((s[0].toNat : Int) == 34) = true := by rw [h3]; rfl
  have hle : spanN plI (bs s).tail + 1 ≤ s.size := by
    have := spanN_le (p := plI) (bs s).tail
    rw [List.length_tail, bs_len] at this
    omega
  have hg : ∀ j (h : j + 1 < s.size), (bs s).tail[j]? = some s[j + 1] := fun j h => by rw [List.getElem?_tail]; exact bs_get h
  by_cases h4 : (bs s).tail[spanN plI (bs s).tail]? = some 34
  · rw [if_pos h4] at HO
    have hlt : spanN plI (bs s).tail + 1 < s.size := by
      have := (List.getElem?_eq_some_iff.1 h4).1
      rw [List.length_tail, bs_len] at this
      omega
    have hx := Lib.hid (show s.extract 1 (spanN plI (bs s).tail + 1) = str ((bs s).tail.take (spanN plI (bs s).tail)) from ext_str (by rw [← List.drop_one, List.drop_take]; rfl))
    have hq : s[spanN plI (bs s).tail + 1].toNat = 34 := by
      rw [hg _ hlt] at h4
      rw [Option.some.inj h4]
      rfl
    unfold OneR
    rw [HO.out]
    unfold maxLen at hs
    generalize str ((bs s).tail.take (spanN plI (bs s).tail)) = tt at *
    clear h1 h2 h3 h4 HO ht
    generalize spanN plI (bs s).tail = n at *
    have hlt' : 1 + (n : Int) < s.size := by omega
    have W1 : IntKind.i64.wrap (1 + (n : Int)) = 1 + (n : Int) := IntWalk.i64_in _ (by omega)
    have e4 : ((1 + (n : Int)) == s.size) = false := by simp; omega
    have e5 : (1 + (n : Int)).toNat = n + 1 := by omega
    have q1 : ((s[n + 1].toNat : Int) != 34) = false := by rw [hq]; rfl
    go_enter Tryd.func25, Tryd.ntmps25
    go_wp2_with fail
    refine (running_any _ _).mono ?_
    rintro e w' ⟨rfl, rfl⟩
    rw [H1.out]
    go_wp2_with fail
    refine (capital_any _ _).mono ?_
    rintro e w' ⟨rfl, rfl⟩
    rw [H2.out]
    go_wp2_with fail
    refine (SP.out _).mono ?_
    rintro e w' ⟨rfl, rfl⟩
    go_wp2_with fail
    rw [hx.out]
    exact endsA rfl (congrArg (Value.int .i64) (by omega)) rfl rfl
  · rw [if_neg h4] at HO
    unfold OneR
    rw [HO.out]
    unfold maxLen at hs
    by_cases h5 : spanN plI (bs s).tail + 1 = s.size
    · clear h1 h2 h3 h4 HO ht
      generalize spanN plI (bs s).tail = n at *
      have W1 : IntKind.i64.wrap (1 + (n : Int)) = 1 + (n : Int) := IntWalk.i64_in _ (by omega)
      have e4 : ((1 + (n : Int)) == s.size) = true := by simp; omega
      go_enter Tryd.func25, Tryd.ntmps25
      go_wp2_with fail
      refine (running_any _ _).mono ?_
      rintro e w' ⟨rfl, rfl⟩
      rw [H1.out]
      go_wp2_with fail
      refine (capital_any _ _).mono ?_
      rintro e w' ⟨rfl, rfl⟩
      rw [H2.out]
      go_wp2_with fail
      refine (SP.out _).mono ?_
      rintro e w' ⟨rfl, rfl⟩
      go_wp2_with fail
      exact endsA rfl rfl rfl rfl
    · have hlt : spanN plI (bs s).tail + 1 < s.size := by omega
      have hq : s[spanN plI (bs s).tail + 1].toNat ≠ 34 := fun e => h4 (by rw [hg _ hlt]; congr 1; exact (u8_eq (n := 34) rfl).2 (by omega))
      clear h1 h2 h3 h4 HO ht
      generalize spanN plI (bs s).tail = n at *
      have W1 : IntKind.i64.wrap (1 + (n : Int)) = 1 + (n : Int) := IntWalk.i64_in _ (by omega)
      have e4 : ((1 + (n : Int)) == s.size) = false := by simp; omega
      have e5 : (1 + (n : Int)).toNat = n + 1 := by omega
      have q1 : ((s[n + 1].toNat : Int) != 34) = true := by simp; omega
      go_enter Tryd.func25, Tryd.ntmps25
      go_wp2_with fail
      refine (running_any _ _).mono ?_
      rintro e w' ⟨rfl, rfl⟩
      rw [H1.out]
      go_wp2_with fail
      refine (capital_any _ _).mono ?_
      rintro e w' ⟨rfl, rfl⟩
      rw [H2.out]
      go_wp2_with fail
      refine (SP.out _).mono ?_
      rintro e w' ⟨rfl, rfl⟩
      go_wp2_with fail
      exact endsA rfl rfl rfl rfl
theorem idx_all : ∀ n : Fin 256, decide (0 ≤ Lib.indexByte [40, 41, 44, 59, 58, 46, 61, 126] n.1.toUInt8) = sgI n.1 ∧ decide (0 ≤ Lib.indexByte [60, 62] n.1.toUInt8) = decide ((n.1 : Int) = 60 ∨ (n.1 : Int) = 62) := by decide +kernel
theorem idx_sg (c : UInt8) : decide (0 ≤ Lib.indexByte [40, 41, 44, 59, 58, 46, 61, 126] (c.toNat : Int).toNat.toUInt8) = sgI c.toNat := (idx_all ⟨c.toNat, c.toNat_lt⟩).1
theorem idx_db (c : UInt8) : decide (0 ≤ Lib.indexByte [60, 62] (c.toNat : Int).toNat.toUInt8) = decide ((c.toNat : Int) = 60 ∨ (c.toNat : Int) = 62) := (idx_all ⟨c.toNat, c.toNat_lt⟩).2
set_option maxRecDepth 100000 in
set_option maxHeartbeats 2000000 in
theorem one_single (s : ByteArray) (w : World) (hs : s.size ≤ maxLen) (h0 : 0 < s.size) (h1 : runI (s[0].toNat : Int) = false) (h2 : capI (s[0].toNat : Int) = false) (h3 : (s[0].toNat : Int) ≠ 34) (h4 : sgI (s[0].toNat : Int) = true) : Calls Tryd.prog 25 #[.string s] w (OneR (oneL (bs s)) w) := by
  have HO : Hid (oneL (bs s) = ⟨5, (bs s).take 1, 1, 0⟩) := by
    show _ = _
    unfold oneL
    rw [head_bs h0, if_neg (by simp [h1]), if_neg (by simp [h2]), if_neg h3, if_pos h4]
  have SI := Lib.hid fun w => Tryd.strings_IndexByte ⟨#[40, 41, 44, 59, 58, 46, 61, 126]⟩ (s[0].toNat : Int) w
  have hI : 0 ≤ Lib.indexByte [40, 41, 44, 59, 58, 46, 61, 126] (s[0].toNat : Int).toNat.toUInt8 := by
    have := idx_sg s[0]
    rw [h4] at this
    simpa using this
  have H1 := Lib.hid h1
  have H2 := Lib.hid h2
  have e3 : ((s[0].toNat : Int) == 34) = false := by simpa using h3
  have hx := Lib.hid (show s.extract 0 1 = str ((bs s).take 1) from ext_str (by rw [List.drop_zero]))
  simp only at SI
  generalize Lib.indexByte [40, 41, 44, 59, 58, 46, 61, 126] (s[0].toNat : Int).toNat.toUInt8 = I at *
  unfold OneR
  rw [HO.out]
  unfold maxLen at hs
  have hle' : (1 : Int) ≤ s.size := by omega
  clear h1 h2 h3 h4 HO
  generalize str ((bs s).take 1) = tt at *
  go_enter Tryd.func25, Tryd.ntmps25
  go_wp2_with fail
  refine (running_any _ _).mono ?_
  rintro e w' ⟨rfl, rfl⟩
  rw [H1.out]
  go_wp2_with fail
  refine (capital_any _ _).mono ?_
  rintro e w' ⟨rfl, rfl⟩
  rw [H2.out]
  go_wp2_with fail
  refine (SI.out _).mono ?_
  rintro e w' ⟨rfl, rfl⟩
  go_wp2_with fail
  rw [hx.out]
  exact endsA rfl rfl rfl rfl
set_option maxRecDepth 100000 in
set_option maxHeartbeats 2000000 in
theorem one_double (s : ByteArray) (w : World) (hs : s.size ≤ maxLen) (h0 : 0 < s.size) (h1 : runI (s[0].toNat : Int) = false) (h2 : capI (s[0].toNat : Int) = false) (h3 : (s[0].toNat : Int) ≠ 34) (h4 : sgI (s[0].toNat : Int) = false) (h5 : (s[0].toNat : Int) = 60 ∨ (s[0].toNat : Int) = 62) (h6 : 1 < s.size) (h7 : s[1] = 61) : Calls Tryd.prog 25 #[.string s] w (OneR (oneL (bs s)) w) := by
  have HO : Hid (oneL (bs s) = ⟨5, (bs s).take 2, 2, 0⟩) := by
    show _ = _
    unfold oneL
    rw [head_bs h0, if_neg (by simp [h1]), if_neg (by simp [h2]), if_neg h3, if_neg (by simp [h4]), if_pos ⟨h5, by rw [bs_get h6, h7]⟩]
  have SI := Lib.hid fun w => Tryd.strings_IndexByte ⟨#[40, 41, 44, 59, 58, 46, 61, 126]⟩ (s[0].toNat : Int) w
  have DI := Lib.hid fun w => Tryd.strings_IndexByte ⟨#[60, 62]⟩ (s[0].toNat : Int) w
  have hI : Lib.indexByte [40, 41, 44, 59, 58, 46, 61, 126] (s[0].toNat : Int).toNat.toUInt8 < 0 := by
    have := idx_sg s[0]
    rw [h4] at this
    simpa using this
  have hJ : 0 ≤ Lib.indexByte [60, 62] (s[0].toNat : Int).toNat.toUInt8 := by
    have := idx_db s[0]
    rw [decide_eq_true h5] at this
    simpa using this
  have h6' : (1 : Int) < s.size := by omega
  have h6'' : (2 : Int) ≤ s.size := by omega
  have e7 : ((s[1].toNat : Int) == 61) = true := by rw [h7]; rfl
  have H1 := Lib.hid h1
  have H2 := Lib.hid h2
  have e3 : ((s[0].toNat : Int) == 34) = false := by simpa using h3
  have hx := Lib.hid (show s.extract 0 2 = str ((bs s).take 2) from ext_str (by rw [List.drop_zero]))
  simp only at SI DI
  generalize Lib.indexByte [40, 41, 44, 59, 58, 46, 61, 126] (s[0].toNat : Int).toNat.toUInt8 = I at *
  generalize Lib.indexByte [60, 62] (s[0].toNat : Int).toNat.toUInt8 = J at *
  unfold OneR
  rw [HO.out]
  unfold maxLen at hs
  clear h1 h2 h3 h4 h5 h7 HO
  generalize str ((bs s).take 2) = tt at *
  go_enter Tryd.func25, Tryd.ntmps25
  go_wp2_with fail
  refine (running_any _ _).mono ?_
  rintro e w' ⟨rfl, rfl⟩
  rw [H1.out]
  go_wp2_with fail
  refine (capital_any _ _).mono ?_
  rintro e w' ⟨rfl, rfl⟩
  rw [H2.out]
  go_wp2_with fail
  refine (SI.out _).mono ?_
  rintro e w' ⟨rfl, rfl⟩
  go_wp2_with fail
  refine (DI.out _).mono ?_
  rintro e w' ⟨rfl, rfl⟩
  go_wp2_with fail
  rw [hx.out]
  exact endsA rfl rfl rfl rfl
set_option maxRecDepth 100000 in
set_option maxHeartbeats 2000000 in
theorem one_none0 (s : ByteArray) (w : World) (hs : s.size ≤ maxLen) (h0 : 0 < s.size) (h1 : runI (s[0].toNat : Int) = false) (h2 : capI (s[0].toNat : Int) = false) (h3 : (s[0].toNat : Int) ≠ 34) (h4 : sgI (s[0].toNat : Int) = false) (hJ0 : ¬ ((s[0].toNat : Int) = 60 ∨ (s[0].toNat : Int) = 62)) : Calls Tryd.prog 25 #[.string s] w (OneR (oneL (bs s)) w) := by
  have HO : Hid (oneL (bs s) = badO) := by
    show _ = _
    unfold oneL
    rw [head_bs h0, if_neg (by simp [h1]), if_neg (by simp [h2]), if_neg h3, if_neg (by simp [h4]), if_neg (fun h => hJ0 h.1)]
  have SI := Lib.hid fun w => Tryd.strings_IndexByte ⟨#[40, 41, 44, 59, 58, 46, 61, 126]⟩ (s[0].toNat : Int) w
  have DI := Lib.hid fun w => Tryd.strings_IndexByte ⟨#[60, 62]⟩ (s[0].toNat : Int) w
  have hI : Lib.indexByte [40, 41, 44, 59, 58, 46, 61, 126] (s[0].toNat : Int).toNat.toUInt8 < 0 := by
    have := idx_sg s[0]
    rw [h4] at this
    simpa using this
  have hJ : Lib.indexByte [60, 62] (s[0].toNat : Int).toNat.toUInt8 < 0 := by
    have := idx_db s[0]
    rw [decide_eq_false hJ0] at this
    simpa using this
  clear hJ0
  have H1 := Lib.hid h1
  have H2 := Lib.hid h2
  have e3 : ((s[0].toNat : Int) == 34) = false := by simpa using h3
  have hx := Lib.hid (show s.extract 0 2 = str ((bs s).take 2) from ext_str (by rw [List.drop_zero]))
  simp only at SI DI
  generalize Lib.indexByte [40, 41, 44, 59, 58, 46, 61, 126] (s[0].toNat : Int).toNat.toUInt8 = I at *
  generalize Lib.indexByte [60, 62] (s[0].toNat : Int).toNat.toUInt8 = J at *
  unfold OneR
  rw [HO.out]
  unfold maxLen at hs
  clear h1 h2 h3 h4 HO
  generalize str ((bs s).take 2) = tt at *
  go_enter Tryd.func25, Tryd.ntmps25
  go_wp2_with fail
  refine (running_any _ _).mono ?_
  rintro e w' ⟨rfl, rfl⟩
  rw [H1.out]
  go_wp2_with fail
  refine (capital_any _ _).mono ?_
  rintro e w' ⟨rfl, rfl⟩
  rw [H2.out]
  go_wp2_with fail
  refine (SI.out _).mono ?_
  rintro e w' ⟨rfl, rfl⟩
  go_wp2_with fail
  refine (DI.out _).mono ?_
  rintro e w' ⟨rfl, rfl⟩
  go_wp2_with fail
  exact endsA rfl rfl rfl rfl
set_option maxRecDepth 100000 in
set_option maxHeartbeats 2000000 in
theorem one_none1 (s : ByteArray) (w : World) (hs : s.size ≤ maxLen) (h0 : 0 < s.size) (h1 : runI (s[0].toNat : Int) = false) (h2 : capI (s[0].toNat : Int) = false) (h3 : (s[0].toNat : Int) ≠ 34) (h4 : sgI (s[0].toNat : Int) = false) (h5 : (s[0].toNat : Int) = 60 ∨ (s[0].toNat : Int) = 62) (h6 : s.size ≤ 1) : Calls Tryd.prog 25 #[.string s] w (OneR (oneL (bs s)) w) := by
  have HO : Hid (oneL (bs s) = badO) := by
    show _ = _
    unfold oneL
    rw [head_bs h0, if_neg (by simp [h1]), if_neg (by simp [h2]), if_neg h3, if_neg (by simp [h4]), if_neg (fun h => by have := (List.getElem?_eq_some_iff.1 h.2).1; rw [bs_len] at this; omega)]
  have SI := Lib.hid fun w => Tryd.strings_IndexByte ⟨#[40, 41, 44, 59, 58, 46, 61, 126]⟩ (s[0].toNat : Int) w
  have DI := Lib.hid fun w => Tryd.strings_IndexByte ⟨#[60, 62]⟩ (s[0].toNat : Int) w
  have hI : Lib.indexByte [40, 41, 44, 59, 58, 46, 61, 126] (s[0].toNat : Int).toNat.toUInt8 < 0 := by
    have := idx_sg s[0]
    rw [h4] at this
    simpa using this
  have hJ : 0 ≤ Lib.indexByte [60, 62] (s[0].toNat : Int).toNat.toUInt8 := by
    have := idx_db s[0]
    rw [decide_eq_true h5] at this
    simpa using this
  have h6' : (s.size : Int) ≤ 1 := by omega
  clear h5
  have H1 := Lib.hid h1
  have H2 := Lib.hid h2
  have e3 : ((s[0].toNat : Int) == 34) = false := by simpa using h3
  have hx := Lib.hid (show s.extract 0 2 = str ((bs s).take 2) from ext_str (by rw [List.drop_zero]))
  simp only at SI DI
  generalize Lib.indexByte [40, 41, 44, 59, 58, 46, 61, 126] (s[0].toNat : Int).toNat.toUInt8 = I at *
  generalize Lib.indexByte [60, 62] (s[0].toNat : Int).toNat.toUInt8 = J at *
  unfold OneR
  rw [HO.out]
  unfold maxLen at hs
  clear h1 h2 h3 h4 HO
  generalize str ((bs s).take 2) = tt at *
  go_enter Tryd.func25, Tryd.ntmps25
  go_wp2_with fail
  refine (running_any _ _).mono ?_
  rintro e w' ⟨rfl, rfl⟩
  rw [H1.out]
  go_wp2_with fail
  refine (capital_any _ _).mono ?_
  rintro e w' ⟨rfl, rfl⟩
  rw [H2.out]
  go_wp2_with fail
  refine (SI.out _).mono ?_
  rintro e w' ⟨rfl, rfl⟩
  go_wp2_with fail
  refine (DI.out _).mono ?_
  rintro e w' ⟨rfl, rfl⟩
  go_wp2_with fail
  exact endsA rfl rfl rfl rfl
set_option maxRecDepth 100000 in
set_option maxHeartbeats 2000000 in
theorem one_none2 (s : ByteArray) (w : World) (hs : s.size ≤ maxLen) (h0 : 0 < s.size) (h1 : runI (s[0].toNat : Int) = false) (h2 : capI (s[0].toNat : Int) = false) (h3 : (s[0].toNat : Int) ≠ 34) (h4 : sgI (s[0].toNat : Int) = false) (h5 : (s[0].toNat : Int) = 60 ∨ (s[0].toNat : Int) = 62) (h6 : 1 < s.size) (h7 : s[1] ≠ 61) : Calls Tryd.prog 25 #[.string s] w (OneR (oneL (bs s)) w) := by
  have HO : Hid (oneL (bs s) = badO) := by
    show _ = _
    unfold oneL
    rw [head_bs h0, if_neg (by simp [h1]), if_neg (by simp [h2]), if_neg h3, if_neg (by simp [h4]), if_neg (fun h => h7 (Option.some.inj ((bs_get h6).symm.trans h.2)))]
  have SI := Lib.hid fun w => Tryd.strings_IndexByte ⟨#[40, 41, 44, 59, 58, 46, 61, 126]⟩ (s[0].toNat : Int) w
  have DI := Lib.hid fun w => Tryd.strings_IndexByte ⟨#[60, 62]⟩ (s[0].toNat : Int) w
  have hI : Lib.indexByte [40, 41, 44, 59, 58, 46, 61, 126] (s[0].toNat : Int).toNat.toUInt8 < 0 := by
    have := idx_sg s[0]
    rw [h4] at this
    simpa using this
  have hJ : 0 ≤ Lib.indexByte [60, 62] (s[0].toNat : Int).toNat.toUInt8 := by
    have := idx_db s[0]
    rw [decide_eq_true h5] at this
    simpa using this
  have h6' : (1 : Int) < s.size := by omega
  have e7 : ((s[1].toNat : Int) == 61) = false := by
    have : (s[1].toNat : Int) ≠ 61 := fun e => h7 ((u8_eq (n := 61) rfl).2 e)
    simpa using this
  clear h5 h7
  have H1 := Lib.hid h1
  have H2 := Lib.hid h2
  have e3 : ((s[0].toNat : Int) == 34) = false := by simpa using h3
  have hx := Lib.hid (show s.extract 0 2 = str ((bs s).take 2) from ext_str (by rw [List.drop_zero]))
  simp only at SI DI
  generalize Lib.indexByte [40, 41, 44, 59, 58, 46, 61, 126] (s[0].toNat : Int).toNat.toUInt8 = I at *
  generalize Lib.indexByte [60, 62] (s[0].toNat : Int).toNat.toUInt8 = J at *
  unfold OneR
  rw [HO.out]
  unfold maxLen at hs
  clear h1 h2 h3 h4 HO
  generalize str ((bs s).take 2) = tt at *
  go_enter Tryd.func25, Tryd.ntmps25
  go_wp2_with fail
  refine (running_any _ _).mono ?_
  rintro e w' ⟨rfl, rfl⟩
  rw [H1.out]
  go_wp2_with fail
  refine (capital_any _ _).mono ?_
  rintro e w' ⟨rfl, rfl⟩
  rw [H2.out]
  go_wp2_with fail
  refine (SI.out _).mono ?_
  rintro e w' ⟨rfl, rfl⟩
  go_wp2_with fail
  refine (DI.out _).mono ?_
  rintro e w' ⟨rfl, rfl⟩
  go_wp2_with fail
  exact endsA rfl rfl rfl rfl
/-- one: the token that a text begins with -/
theorem one_any (s : ByteArray) (w : World) {b o c : Nat} (T : Tab w b o c) (hs : s.size ≤ maxLen) (h0 : 0 < s.size) : Calls Tryd.prog 25 #[.string s] w (OneR (oneL (bs s)) w) := by
  cases h1 : runI (s[0].toNat : Int)
  · cases h2 : capI (s[0].toNat : Int)
    · by_cases h3 : (s[0].toNat : Int) = 34
      · exact one_quote s w hs h0 h1 h2 h3
      · cases h4 : sgI (s[0].toNat : Int)
        · by_cases h5 : (s[0].toNat : Int) = 60 ∨ (s[0].toNat : Int) = 62
          · by_cases h6 : 1 < s.size
            · by_cases h7 : s[1] = 61
              · exact one_double s w hs h0 h1 h2 h3 h4 h5 h6 h7
              · exact one_none2 s w hs h0 h1 h2 h3 h4 h5 h6 h7
            · exact one_none1 s w hs h0 h1 h2 h3 h4 h5 (by omega)
          · exact one_none0 s w hs h0 h1 h2 h3 h4 h5
        · exact one_single s w hs h0 h1 h2 h3 h4
    · exact one_cap s w hs h0 h1 h2
  · exact one_run s w T hs h0 h1
end Go.Proofs.YtnffnkmghghmlaaDoor
