/- The walk of the document's Scan. Condition: fewer than 4096 tokens. -/
import Derived.Test.YtnffnkmghghmlaaDoorROneC
import Derived.Deep.Cut
namespace Go.Proofs.YtnffnkmghghmlaaDoor
open Go.RowKit
set_option linter.unusedVariables false
set_option linter.unusedSimpArgs false
/-- a blank ahead, or none -/
theorem Midway.blank {S : Bs} {k : Nat} {l : List Tk} (h : Midway S k l) {c : UInt8} (hc : S[k]? = some c) (hb : on blI c = true) : Midway S (k + 1) l := by
  have e : S.drop k = c :: S.drop (k + 1) := by
    have hk : k < S.length := (List.getElem?_eq_some_iff.1 hc).1
    rw [List.drop_eq_getElem_cons hk]
    congr 1
    exact (List.getElem?_eq_some_iff.1 hc).2
  have es : spanN blI (S.drop k) = spanN blI (S.drop (k + 1)) + 1 := by rw [e]; conv => lhs; unfold spanN; rw [if_pos hb]
  have ed : (S.drop k).drop (spanN blI (S.drop k)) = (S.drop (k + 1)).drop (spanN blI (S.drop (k + 1))) := by rw [es, e, List.drop_succ_cons]
  unfold Midway at h ⊢
  rw [h, lex_eq k, lex_eq (k + 1), ed, es]
  rw [show k + (spanN blI (S.drop (k + 1)) + 1) = k + 1 + spanN blI (S.drop (k + 1)) by omega]
theorem no_blank {S : Bs} {k : Nat} {c : UInt8} (hc : S[k]? = some c) (hb : on blI c = false) : spanN blI (S.drop k) = 0 := by
  have e : S.drop k = c :: S.drop (k + 1) := by
    have hk : k < S.length := (List.getElem?_eq_some_iff.1 hc).1
    rw [List.drop_eq_getElem_cons hk]
    congr 1
    exact (List.getElem?_eq_some_iff.1 hc).2
  rw [e]
  unfold spanN
  rw [if_neg (by simp [hb])]
theorem Row.empty_new (w : World) (e size : Nat) : Row (w.alloc (.cells #[] e)) w.heap.size e size (some ⟨w.heap.size, 0, none⟩) 0 0 [] :=
  ⟨by simp, .inr ⟨w.heap.size, #[], rfl, Nat.le_refl _, Blk.new w e #[], Nat.le_refl _, by unfold maxLen; omega, by simp, by simp, .inl (by simp)⟩⟩
set_option maxRecDepth 100000 in
set_option maxHeartbeats 4000000 in
theorem rscan_any (s : ByteArray) (w : World) (hs : s.size ≤ maxLen) (hf : (lex 0 (bs s)).1.length < 4096) : Calls Tryd.prog 12 #[.string s] w (ScanR (scan (bs s)) w) := by
  obtain ⟨i0, hi, hz0, hz1, hz2⟩ := info_parts info31
  have HI := Lib.hid hi
  have Z0 := Lib.hid hz0
  have Z1 := Lib.hid hz1
  have Z2 := Lib.hid hz2
  clear hi hz0 hz1 hz2
  have HF := Lib.hid hf
  have ON := Lib.hid fun (k : Nat) (hk : k < s.size) w => rone_any s k w hs hk
  unfold ScanR
  unfold maxLen at hs
  clear hf
  go_enter Tryd.func12, Tryd.ntmps12
  go_wp2_with fail
  go_loopw [5, 6] (fun a i v => ∃ (k : Nat) (l : List Tk) (A : Option Addr) (c' : Nat), k ≤ s.size ∧ a = .slice A l.length c' ∧ i = .int .i64 k ∧ Hid (Midway (bs s) k l) ∧ Hid (Row v w.heap.size 31 3 A l.length c' (flatT l)) ∧ Hid (Below w.heap.size w v)) (fun _ i _ => s.size + 1 - (intOf i).toNat)
  case atStart => exact ⟨0, [], _, _, Nat.zero_le _, rfl, rfl, Midway.start _, Row.empty_new w 31 3, Lib.hid ((Below.refl _ _).alloc (Nat.le_refl _) _)⟩
  case round =>
    obtain ⟨k, l, A, c', hk, rfl, rfl, hm, hr, hb⟩ := hrel
    have hlen : l.length < 4096 := Nat.lt_of_le_of_lt hm.out.len HF.out
    obtain ⟨wo, rfl⟩ : ∃ wo, wo = wr := ⟨_, rfl⟩
    have M0 := hm
    clear hm
    go_wp2_with fail
    go_loopw [6] (fun i v => ∃ (m : Nat), k ≤ m ∧ m ≤ s.size ∧ i = .int .i64 m ∧ Hid (Midway (bs s) m l) ∧ wo = v) (fun i _ => s.size - (intOf i).toNat)
    case atStart => exact ⟨k, Nat.le_refl _, hk, rfl, M0, rfl⟩
    case round =>
      obtain ⟨m, hkm, hm2, rfl, hm, rfl⟩ := hrel
      by_cases hlt : m < s.size
      · by_cases h32 : (s[m].toNat : Int) = 32
        · have e1 : ((s[m].toNat : Int) == 32) = true := by rw [h32]; rfl
          have NX := Lib.hid (hm.out.blank (bs_get hlt) (by simp [on, blI, h32]))
          clear h32
          go_wp2_with fail
          go_roundw
          case rel => exact ⟨m + 1, by omega, by omega, by go_num, NX, trivial⟩
          case measure => simp [intOf]; omega
        · have e1 : ((s[m].toNat : Int) == 32) = false := by simpa using h32
          by_cases h10 : (s[m].toNat : Int) = 10
          · have e2 : ((s[m].toNat : Int) == 10) = true := by rw [h10]; rfl
            have NX := Lib.hid (hm.out.blank (bs_get hlt) (by simp [on, blI, h10]))
            clear h32 h10
            go_wp2_with fail
            go_roundw
            case rel => exact ⟨m + 1, by omega, by omega, by go_num, NX, trivial⟩
            case measure => simp [intOf]; omega
          · have e2 : ((s[m].toNat : Int) == 10) = false := by simpa using h10
            have h0 := no_blank (S := bs s) (bs_get hlt) (by simp [on, blI, h32, h10])
            have ONm := Lib.hid fun w => ON.out m hlt w
            have hne : (bs s).drop (m + spanN blI ((bs s).drop m)) ≠ [] := by
              rw [h0]
              intro h
              have := congrArg List.length h
              rw [List.length_drop, bs_len] at this
              simp at this
              omega
            have HNX := Lib.hid hm.out.next
            have HBD := Lib.hid hm.out.bad
            rw [h0] at HNX HBD hne
            simp only [Nat.add_zero] at HNX HBD hne
            have ok := fun h => one_ok hne h
            rw [List.length_drop, bs_len] at ok
            obtain ⟨q, hq⟩ : ∃ q, q = oneL ((bs s).drop m) := ⟨_, rfl⟩
            rw [← hq] at ONm HNX HBD ok
            have e3 : ((m : Int) == s.size) = false := by simp; omega
            have e4 : (l.length : Int) < 4096 := by omega
            unfold ROneR at ONm
            clear h32 h10 h0 hq
            by_cases he : q.err = 0
            · have N := Lib.hid (HNX.out hne he)
              obtain ⟨o1, o2, o3⟩ := ok he
              obtain ⟨qk, qt, qn, qe⟩ := q
              simp only at he ONm N o1 o2 o3
              subst he
              clear ok HNX HBD hne
              go_wp2_with fail
              refine (ONm.out _).mono ?_
              rintro e w3 ⟨hor, hb3⟩
              rcases hor with ⟨_, rfl⟩ | ⟨hno, _⟩
              rotate_left
              · exact absurd rfl hno
              have B3 := Lib.hid (below_trans hb.out hb3)
              have R3 := Lib.hid (hr.out.below hb3)
              clear hb3
              go_wp2_with (at_builtin; refine wpList_append_row _ rfl (.tmp 50) (.tmp 52) 23 rfl w.heap.size 31 i0 (.agg #[.int .i64 0, .int .i64 0, .string ⟨#[]⟩]) 3 32 Tryd.underlying23 HI.out Z0.out Z1.out Z2.out rfl (by decide) A l.length c' (flatT l) rfl ((R3.out.alloc _).alloc _) (by have := B3.out.size; simp; omega) ⟨w3.heap.size + 1, 0, none⟩ 1 1 (by omega) (flatT [⟨qk, m, qt⟩]) rfl ((lit_readsN _ #[.int .i64 qk, .int .i64 m, .string (str qt)] 31 (w3.heap.size + 1) 3 1 _ (by simp) rfl rfl).more (by simp)) (flatF_one tk_one _) (by unfold maxLen; omega) (by omega) ?_)
              intro A' c2 w4 hrow hch hfr
              have HR : Hid (Row w4 w.heap.size 31 3 A' (l ++ [Tk.mk qk m qt]).length c2 (flatT (l ++ [Tk.mk qk m qt]))) := by
                show Row w4 _ _ _ _ _ _ _
                rw [flatT_push, List.length_append]
                exact hrow
              have HB4 : Hid (Below w.heap.size w w4) := by
                have h1 : Below w.heap.size w ((w3.alloc (.cells #[.int .i64 qk, .int .i64 m, .string (str qt)] 31)).alloc (.cells #[.int .i64 qk, .int .i64 m, .string (str qt)] 31)) := (B3.out.alloc B3.out.size _).alloc (by have := B3.out.size; simp; omega) _
                exact h1.trans (hch.below h1.size fun j hj => (R3.out.lt hj).1)
              clear hrow hch hfr
              go_wp2_with fail
              go_roundw
              case rel => exact ⟨m + qn, l ++ [Tk.mk qk m qt], A', c2, by omega, by simp, by go_num, N, HR, HB4⟩
              case measure => simp [intOf]; omega
            · have N := Lib.hid (HBD.out hne he)
              have e5 : (q.err != 0) = true := by simpa using he
              obtain ⟨qk, qt, qn, qe⟩ := q
              simp only at he ONm N e5
              clear ok HNX HBD hne
              go_wp2_with fail
              refine (ONm.out _).mono ?_
              rintro e w3 ⟨hor, hb3⟩
              rcases hor with ⟨hno, _⟩ | ⟨_, rfl⟩
              · exact absurd hno he
              have B3 := Lib.hid (below_trans hb.out hb3)
              clear hb3 he
              go_wp2_with fail
              go_ret3
              exact ⟨none, 0, by rw [N.out]; rfl, by rw [N.out]; exact TokR.nil _, by exact (B3.out.alloc B3.out.size _)⟩
      · have hge : (s.size : Int) ≤ m := by omega
        have e3 : ((m : Int) == s.size) = true := by simp; omega
        have hend : (bs s).drop m = [] := List.drop_eq_nil_of_le (by rw [bs_len]; omega)
        have HD : Hid (scan (bs s) = (l, m, 0)) := by
          have := hm.out.done (by rw [hend]; exact hend)
          rw [hend] at this
          exact this
        clear hlt hend
        go_wp2_with fail
        go_ret3
        exact ⟨A, c', by rw [HD.out]; rfl, by rw [HD.out]; exact hr.out.reads, hb.out⟩
end Go.Proofs.YtnffnkmghghmlaaDoor
