/- The walk of Scan. Conditions: where the words lie; fewer than 4096 tokens. -/
import Derived.Test.YtnffnkmghghmlaaDoorToks
namespace Go.Proofs.YtnffnkmghghmlaaDoor
open Go.RowKit
set_option linter.unusedVariables false
set_option linter.unusedSimpArgs false
/-- the same; the tokens lie in a row of the call's own -/
def ScanW (r : List Tk × Nat × Int) (w : World) (e : Ending) (w' : World) : Prop :=
  ∃ A c, e = .returned (.tuple #[.slice A r.1.length c, .int .i64 r.2.1, .int .i64 r.2.2]) ∧ Row w' w.heap.size 31 3 A r.1.length c (flatT r.1) ∧ Below w.heap.size w w'
/-- the same; the tokens lie in new memory -/
def ScanF (r : List Tk × Nat × Int) (w : World) (e : Ending) (w' : World) : Prop :=
  ∃ A c, e = .returned (.tuple #[.slice A r.1.length c, .int .i64 r.2.1, .int .i64 r.2.2]) ∧ TokR w' A r.1 ∧ Below w.heap.size w w' ∧ ∀ k, blockOf A k → w.heap.size ≤ k
set_option maxRecDepth 100000 in
set_option maxHeartbeats 4000000 in
theorem scan_row (s : ByteArray) (w : World) {b o c : Nat} (T : Tab w b o c) (hs : s.size ≤ maxLen) (hf : (lex 0 (bs s)).1.length < 4096) : Calls Tryd.prog 11 #[.string s] w (ScanW (scan (bs s)) w) := by
  obtain ⟨i0, hi, hz0, hz1, hz2⟩ := info_parts info31
  have HI := Lib.hid hi
  have Z0 := Lib.hid hz0
  have Z1 := Lib.hid hz1
  have Z2 := Lib.hid hz2
  clear hi hz0 hz1 hz2
  have HT := Lib.hid T
  have HF := Lib.hid hf
  have HS := Lib.hid hs
  have SP := Lib.hid fun (k : Nat) w => span_any blI 24 ent_bl blank_any (s.extract k s.size) w (by rw [ext_size (Nat.le_refl _)]; omega)
  have ON := Lib.hid fun (k : Nat) (hk : k < s.size) w (T : Tab w b o c) => one_any (s.extract k s.size) w T (by rw [ext_size (Nat.le_refl _)]; omega) (by rw [ext_size (Nat.le_refl _)]; omega)
  simp only [ext_from] at SP ON
  unfold ScanW
  unfold maxLen at hs
  clear T hf
  go_enter Tryd.func11, Tryd.ntmps11
  go_wp2_with fail
  go_loopw [5, 6] (fun a i v => ∃ (k : Nat) (l : List Tk) (A : Option Addr) (c' : Nat), k ≤ s.size ∧ a = .slice A l.length c' ∧ i = .int .i64 k ∧ Hid (Midway (bs s) k l) ∧ Hid (Row v w.heap.size 31 3 A l.length c' (flatT l)) ∧ Hid (Below w.heap.size w v)) (fun _ i _ => s.size + 1 - (intOf i).toNat)
  case atStart => exact ⟨0, [], none, 0, Nat.zero_le _, rfl, rfl, Midway.start _, Row.nil _ _ _ _, Lib.hid (Below.refl _ _)⟩
  case round =>
    obtain ⟨k, l, A, c', hk, rfl, rfl, hm, hr, hb⟩ := hrel
    have hle : k + spanN blI ((bs s).drop k) ≤ s.size := by
      have := spanN_le (p := blI) ((bs s).drop k)
      rw [List.length_drop, bs_len] at this
      omega
    have hlen : l.length < 4096 := Nat.lt_of_le_of_lt hm.out.len HF.out
    have SPk := Lib.hid (SP.out k wr)
    obtain ⟨m, hmk⟩ : ∃ m, m = k + spanN blI ((bs s).drop k) := ⟨_, rfl⟩
    have MK := Lib.hid hmk
    have hkm : (k : Int) + (spanN blI ((bs s).drop k) : Int) = m := by omega
    have W1 : IntKind.i64.wrap ((k : Int) + (spanN blI ((bs s).drop k) : Int)) = m := by rw [hkm]; exact IntWalk.i64_in _ (by omega)
    have hkI : (k : Int) ≤ s.size := by omega
    rw [← hmk] at hle
    by_cases hend : m = s.size
    · have HD := Lib.hid (hm.out.done (by rw [← hmk]; exact List.drop_eq_nil_of_le (by rw [bs_len]; omega)))
      have e1 : ((m : Int) == s.size) = true := by simp; omega
      clear hend hmk hkm
      go_wp2_with fail
      refine SPk.out.mono ?_
      rintro e w' ⟨rfl, rfl⟩
      go_wp2_with fail
      go_ret3
      exact ⟨A, c', by rw [HD.out, MK.out]; rfl, by rw [HD.out]; exact hr.out, hb.out⟩
    · have hlt : m < s.size := by omega
      have e1 : ((m : Int) == s.size) = false := by simp; omega
      have hne : (bs s).drop m ≠ [] := by
        intro h
        have := congrArg List.length h
        rw [List.length_drop, bs_len] at this
        simp at this
        omega
      have ONm := Lib.hid fun w T => ON.out m hlt w T
      have HNX := Lib.hid hm.out.next
      have HBD := Lib.hid hm.out.bad
      rw [← hmk] at HNX HBD
      have ok := fun h => one_ok hne h
      rw [List.length_drop, bs_len] at ok
      obtain ⟨q, hq⟩ : ∃ q, q = oneL ((bs s).drop m) := ⟨_, rfl⟩
      rw [← hq] at ONm HNX HBD ok
      have e2 : ((l.length : Int) == 4096) = false := by simp; omega
      have hmI : (m : Int) ≤ s.size := by omega
      unfold OneR at ONm
      clear hend hmk hkm hq
      by_cases he : q.err = 0
      · have N := Lib.hid (HNX.out hne he)
        obtain ⟨o1, o2, o3⟩ := ok he
        obtain ⟨qk, qt, qn, qe⟩ := q
        simp only at he ONm N o1 o2 o3
        subst he
        clear ok HNX HBD hne
        go_wp2_with fail
        refine SPk.out.mono ?_
        rintro e w' ⟨rfl, rfl⟩
        go_wp2_with fail
        refine (ONm.out _ (HT.out.below hb.out)).mono ?_
        rintro e w3 ⟨rfl, hb3⟩
        have B3 := Lib.hid (below_trans hb.out hb3)
        have R3 := Lib.hid (hr.out.below hb3)
        clear hb3
        go_wp2_with (at_builtin; refine wpList_append_row _ rfl (.tmp 40) (.tmp 42) 23 rfl w.heap.size 31 i0 (.agg #[.int .i64 0, .int .i64 0, .string ⟨#[]⟩]) 3 32 Tryd.underlying23 HI.out Z0.out Z1.out Z2.out rfl (by decide) A l.length c' (flatT l) rfl ((R3.out.alloc _).alloc _) (by have := B3.out.size; simp; omega) ⟨w3.heap.size + 1, 0, none⟩ 1 1 (by omega) (flatT [⟨qk, m, qt⟩]) rfl ((lit_readsN _ #[.int .i64 qk, .int .i64 m, .string (str qt)] 31 (w3.heap.size + 1) 3 1 _ (by simp) rfl rfl).more (by simp)) (flatF_one tk_one _) (by unfold maxLen; omega) (by omega) ?_)
        intro A' c2 w4 hrow hch hfr
        have HR : Hid (Row w4 w.heap.size 31 3 A' (l ++ [Tk.mk qk m qt]).length c2 (flatT (l ++ [Tk.mk qk m qt]))) := by
          show Row w4 _ _ _ _ _ _ _
          rw [flatT_push, List.length_append]
          exact hrow
        have HB4 : Hid (Below w.heap.size w w4) := by
          have h1 : Below w.heap.size w ((w3.alloc (.cells #[.int .i64 qk, .int .i64 m, .string (str qt)] 31)).alloc (.cells #[.int .i64 qk, .int .i64 m, .string (str qt)] 31)) := (B3.out.alloc B3.out.size _).alloc (by have := B3.out.size; simp; omega) _
          exact h1.trans (hch.below h1.size fun j hj => (R3.out.lt hj).1)
        have W2 : IntKind.i64.wrap ((m : Int) + qn) = (m : Int) + qn := IntWalk.i64_in _ (by omega)
        clear hrow hch hfr
        go_wp2_with fail
        go_roundw
        case rel => exact ⟨m + qn, l ++ [⟨qk, m, qt⟩], A', c2, by omega, by simp, by go_num, N, HR, HB4⟩
        case measure => have := MK.out; simp [intOf]; omega
      · have N := Lib.hid (HBD.out hne he)
        have e3 : (q.err != 0) = true := by simpa using he
        obtain ⟨qk, qt, qn, qe⟩ := q
        simp only at he ONm N e3
        clear ok HNX HBD hne he
        go_wp2_with fail
        refine SPk.out.mono ?_
        rintro e w' ⟨rfl, rfl⟩
        go_wp2_with fail
        refine (ONm.out _ (HT.out.below hb.out)).mono ?_
        rintro e w3 ⟨rfl, hb3⟩
        have B3 := Lib.hid (below_trans hb.out hb3)
        clear hb3
        go_wp2_with fail
        go_ret3
        exact ⟨none, 0, by rw [N.out]; rfl, by rw [N.out]; exact Row.nil _ _ _ _, by exact (B3.out.alloc B3.out.size _)⟩
theorem scan_fresh (s : ByteArray) (w : World) {b o c : Nat} (T : Tab w b o c) (hs : s.size ≤ maxLen) (hf : (lex 0 (bs s)).1.length < 4096) : Calls Tryd.prog 11 #[.string s] w (ScanF (scan (bs s)) w) :=
  (scan_row s w T hs hf).mono fun e w' ⟨A, c, h1, h2, h3⟩ => ⟨A, c, h1, h2.reads, h3, fun j hj => (h2.lt hj).1⟩
theorem scan_any (s : ByteArray) (w : World) {b o c : Nat} (T : Tab w b o c) (hs : s.size ≤ maxLen) (hf : (lex 0 (bs s)).1.length < 4096) : Calls Tryd.prog 11 #[.string s] w (ScanR (scan (bs s)) w) :=
  (scan_fresh s w T hs hf).mono fun e w' ⟨A, c, h1, h2, h3, _⟩ => ⟨A, c, h1, h2, h3⟩
end Go.Proofs.YtnffnkmghghmlaaDoor
