/- TokenBlanks' walk. Condition: where the words lie; both numbers are bytes. -/
import Derived.Test.YtnffnkmghghmlaaDoorAwake
import Derived.Test.YtnffnkmghghmlaaDoorRefSmall
import Derived.Laws.IdiomStrings
import Derived.Deep.Cut
namespace Go.Proofs.YtnffnkmghghmlaaDoor
open Go.RowKit
set_option linter.unusedVariables false
set_option linter.unusedSimpArgs false
theorem lex_nil_blank : ∀ a l, (lex a l).2.2 = 0 → (lex a l).1 = [] → ∀ c ∈ l, on blI c = true := by
  apply lex_ind
  · intro a l h _ _ c hc
    obtain ⟨i, hi⟩ := List.mem_iff_getElem?.1 hc
    have h' : l.length ≤ spanN blI l := by simpa using h
    exact spanN_get l i c (by have := (List.getElem?_eq_some_iff.1 hi).1; omega) hi
  · intro a l h he h0
    rw [lex_bad h he] at h0
    exact absurd h0 he
  · intro a l h he ih h0 h1
    rw [lex_tok h he] at h1
    cases h1
theorem lex_blanks {l : Bs} (h : ∀ c ∈ l, on blI c = true) (a : Nat) : (lex a l).2.2 = 0 := by
  have hs : spanN blI l = l.length := spanN_all h
  rw [lex_end (by rw [hs]; simp)]
/-- what comes of two texts with blanks between -/
theorem blanks_plain (S G R : Bs) (hG : ∀ c ∈ G, on blI c = true) (h32 : G.head? = some 32) :
    ((scan S).2.2 ≠ 0 → (scan (S ++ G ++ R)).2.2 ≠ 0 ∨ 0 < (scan (S ++ G ++ R)).1.length) ∧
    ((scan S).2.2 = 0 → (scan R).2.2 ≠ 0 → (scan (S ++ G ++ R)).2.2 ≠ 0) ∧
    ((scan S).2.2 = 0 → (scan R).2.2 = 0 → (scan (S ++ G ++ R)).2.2 = 0 ∧ (scan (S ++ G ++ R)).1 = (scan S).1 ++ (scan R).1.map (mv (S.length + G.length))) := by
  have ser : ∀ l, (scan l).2.2 = (lex 0 l).2.2 := fun l => by unfold scan; split <;> rfl
  have sok : ∀ l, (scan l).2.2 = 0 → (scan l).1 = (lex 0 l).1 := fun l h => by
    rw [ser] at h
    unfold scan
    rw [if_pos h]
  refine ⟨fun h => ?_, fun h1 h2 => ?_, fun h1 h2 => ?_⟩
  · by_cases he : (scan (S ++ G ++ R)).2.2 = 0
    · right
      rw [sok _ he]
      rw [ser] at he h
      rcases Nat.eq_zero_or_pos (lex 0 (S ++ G ++ R)).1.length with h0 | h0
      · exfalso
        have hb := lex_nil_blank 0 _ he (List.length_eq_zero_iff.1 h0)
        exact h (lex_blanks (fun c hc => hb c (by simp [hc])) 0)
      · exact h0
    · exact .inl he
  · rw [ser] at h1 h2 ⊢
    rw [lex_append R 0 S h1 G hG h32]
    have := lex_mv (0 + S.length + G.length) 0 R
    rw [Nat.zero_add] at this
    simp only
    rw [this]
    exact h2
  · have e1 := sok _ h1
    have e2 := sok _ h2
    rw [ser] at h1 h2
    have ap := lex_append R 0 S h1 G hG h32
    have m := lex_mv (0 + S.length + G.length) 0 R
    rw [Nat.zero_add] at m
    have he : (scan (S ++ G ++ R)).2.2 = 0 := by
      rw [ser, ap]
      simp only
      rw [m]
      exact h2
    refine ⟨he, ?_⟩
    rw [sok _ he, ap, e1, e2]
    simp only
    rw [m, Nat.zero_add]
theorem bs_app (a b : ByteArray) : bs (a ++ b) = bs a ++ bs b := by unfold bs; simp
theorem str_app (a b : Bs) : str a ++ str b = str (a ++ b) := bs_inj (by rw [bs_app, bs_str, bs_str, bs_str])
/-- blanks and line feeds -/
def gapL (i j : Nat) : Bs := 32 :: (List.replicate i 32 ++ List.replicate j 10)
theorem gap_i (i : Nat) : gapL i 0 ++ [32] = gapL (i + 1) 0 := by
  unfold gapL
  simp [List.replicate_succ']
theorem gap_j (i j : Nat) : gapL i j ++ [10] = gapL i (j + 1) := by
  unfold gapL
  simp [List.replicate_succ']
theorem gap_blank (i j : Nat) : ∀ c ∈ gapL i j, on blI c = true := by
  intro c hc
  unfold gapL at hc
  simp at hc
  rcases hc with rfl | ⟨_, rfl⟩ | ⟨_, rfl⟩ <;> rfl
theorem gap_len (i j : Nat) : (gapL i j).length = 1 + i + j := by unfold gapL; simp; omega
/-- a part of the tokens -/
theorem TokR.cut_ {w : World} {a : Addr} {l m : List Tk} (h : TokR w (some a) (l ++ m)) : TokR w (some a) l := by
  refine ⟨by rw [flatT, flatF_len tk_len], fun hn => ?_⟩
  obtain ⟨a', ha, hb, hc⟩ := h.2 (by simp; omega)
  cases ha
  refine ⟨a, rfl, hb, fun j u hu => hc j u ?_⟩
  unfold flatT at hu ⊢
  rw [flatF_append, List.getElem?_append_left (List.getElem?_eq_some_iff.1 hu).1]
  exact hu
theorem TokR.tail_ {w : World} {a : Addr} {l m : List Tk} (h : TokR w (some a) (l ++ m)) : TokR w (some (a.add (l.length * 3))) m := by
  refine ⟨by rw [flatT, flatF_len tk_len], fun hn => ?_⟩
  obtain ⟨a', ha, hb, hc⟩ := h.2 (by simp; omega)
  cases ha
  refine ⟨_, rfl, by rw [block_of_add]; exact hb, fun j u hu => ?_⟩
  rw [add_of_add]
  refine hc _ u ?_
  unfold flatT at hu ⊢
  rw [flatF_append, List.getElem?_append_right (by rw [flatF_len tk_len]; omega), flatF_len tk_len, Nat.add_sub_cancel_left]
  exact hu
theorem TokR.zero (w : World) (A : Option Addr) : TokR w A [] := ⟨by simp [flatT, flatF], fun h => absurd h (by simp)⟩
theorem lex_at : ∀ a l, ∀ x ∈ (lex a l).1, x.at_ ≤ a + l.length := by
  apply lex_ind
  · intro a l h x hx
    rw [lex_end h] at hx
    cases hx
  · intro a l h he x hx
    rw [lex_bad h he] at hx
    cases hx
  · intro a l h he ih x hx
    rw [lex_tok h he] at hx
    have ok := one_ok h he
    have := spanN_le (p := blI) l
    simp only [List.mem_cons, List.length_drop] at hx ok
    rcases hx with rfl | hx
    · simp only; omega
    · have := ih x hx
      simp only [List.length_drop] at this
      omega
theorem scan_at (l : Bs) : ∀ x ∈ (scan l).1, x.at_ ≤ l.length := by
  intro x hx
  unfold scan at hx
  split at hx
  · have := lex_at 0 l x hx; omega
  · cases hx
theorem scan_le (l : Bs) : (scan l).1.length ≤ l.length := by
  unfold scan
  split
  · exact (lex_len 0 l).1
  · simp
set_option maxRecDepth 100000 in
set_option maxHeartbeats 8000000 in
theorem blanksLaw_str (S R : Bs) (p q : Int) (w : World) (hp : (Lit.int .u8 p).wf = true) (hq : (Lit.int .u8 q).wf = true) {b o c : Nat} (T : Tab w b o c) (hs : (str S).size ≤ maxLen) (ht : (str R).size ≤ maxLen) : Calls Tryd.prog 4 #[.string (str S), .string (str R), .int .u8 p, .int .u8 q] w fun e w' => e = .returned (.bool true) ∧ Below w.heap.size w w' := by
  have HT := Lib.hid T
  have AW := Lib.hid (awake_any w T)
  have szS := Lib.hid (str_size S)
  have szR := Lib.hid (str_size R)
  by_cases h1 : 1000 < (str S).size
  · have h1' : (1000 : Int) < (str S).size := by omega
    clear h1 T
    unfold maxLen at hs ht
    go_enter Tryd.func4, Tryd.ntmps4
    go_wp2_with fail
    refine AW.out.mono ?_
    rintro e w1 ⟨rfl, hb1⟩
    have B1 := Lib.hid hb1
    clear hb1
    go_wp2_with fail
    go_ret
    exact ⟨rfl, B1.out⟩
  have h1' : ((str S).size : Int) ≤ 1000 := by omega
  by_cases h2 : 1000 < (str R).size
  · have h2' : (1000 : Int) < (str R).size := by omega
    clear h1 h2 T
    unfold maxLen at hs ht
    go_enter Tryd.func4, Tryd.ntmps4
    go_wp2_with fail
    refine AW.out.mono ?_
    rintro e w1 ⟨rfl, hb1⟩
    have B1 := Lib.hid hb1
    clear hb1
    go_wp2_with fail
    go_ret
    exact ⟨rfl, B1.out⟩
  have h2' : ((str R).size : Int) ≤ 1000 := by omega
  have few : ∀ L : Bs, L.length ≤ 3000 → (lex 0 L).1.length < 4096 := fun L hL => by
    have := (lex_len 0 L).1
    omega
  have SC := Lib.hid fun (L : Bs) (hL : L.length ≤ 3000) w T => by
    have := scan_row (b := b) (o := o) (c := c) (str L) w T (by rw [str_size]; unfold maxLen; omega) (by rw [bs_str]; exact few L hL)
    rwa [bs_str] at this
  have pb : 0 ≤ p ∧ p ≤ 255 := by
    have h1 : IntKind.u8.min = 0 := by decide
    have h2 : IntKind.u8.max = 255 := by decide
    simp only [Lit.wf, h1, h2, Bool.and_eq_true, decide_eq_true_eq] at hp
    exact hp
  have qb : 0 ≤ q ∧ q ≤ 255 := by
    have h1 : IntKind.u8.min = 0 := by decide
    have h2 : IntKind.u8.max = 255 := by decide
    simp only [Lit.wf, h1, h2, Bool.and_eq_true, decide_eq_true_eq] at hq
    exact hq
  unfold maxLen at hs ht
  clear h1 h2 T few hp hq
  go_enter Tryd.func4, Tryd.ntmps4
  go_wp2_with fail
  refine AW.out.mono ?_
  rintro e w1 ⟨rfl, hb1⟩
  have B1 := Lib.hid hb1
  clear hb1
  go_wp2_with fail
  obtain ⟨w2, hw2⟩ : ∃ w2, w2 = w1.alloc (.cells #[.int .u8 32] 5) := ⟨_, rfl⟩
  have B2 : Hid (Below w.heap.size w w2) := by show Below _ _ _; rw [hw2]; exact B1.out.alloc B1.out.size _
  have CV : (convert 29 9 (.slice (some ⟨w1.heap.size, 0, none⟩) 1 1)).run Tryd.prog w2 = .ok (.string (str (gapL 0 0))) w2 := by
    have := run_convert_bytes_back (P := Tryd.prog) w2 29 9 5 ⟨w1.heap.size, 0, none⟩ 1 [32] Tryd.underlying29 Tryd.underlying5 Tryd.underlying9 (fun j hj => by
      obtain rfl : j = 0 := by simpa using hj
      rw [hw2]
      simp [Addr.add])
    exact this
  rw [← hw2]
  simp only [CV]
  clear hw2 CV
  go_wp2_with fail
  go_loopw [9, 10] (fun g i v => ∃ (k : Nat), k ≤ 9 ∧ g = .string (str (gapL k 0)) ∧ i = .int .i64 k ∧ w2 = v) (fun _ i _ => 9 - (intOf i).toNat)
  case atStart => exact ⟨0, by omega, rfl, rfl, rfl⟩
  case round =>
    obtain ⟨k, hk, rfl, rfl, rfl⟩ := hrel
    have gsz : (str (gapL k 0)).size = 1 + k := by rw [str_size, gap_len]; omega
    by_cases hlt : (k : Int) < p % 9
    · have HG := Lib.hid (show str (gapL k 0) ++ ⟨#[32]⟩ = str (gapL (k + 1) 0) by rw [← gap_i]; exact str_app _ [32])
      go_wp2_with fail
      go_roundw
      case rel => exact ⟨k + 1, by omega, by rw [← HG.out], by go_num, trivial⟩
      case measure => simp [intOf]; omega
    · have hge : p % 9 ≤ (k : Int) := by omega
      clear hlt gsz
      go_wp2_with fail
      go_loopw [9, 11] (fun g i v => ∃ (j : Nat), j ≤ 9 ∧ g = .string (str (gapL k j)) ∧ i = .int .i64 j ∧ w2 = v) (fun _ i _ => 9 - (intOf i).toNat)
      case atStart => exact ⟨0, by omega, rfl, rfl, rfl⟩
      case round =>
        obtain ⟨j, hj, rfl, rfl, rfl⟩ := hrel
        have gsz : (str (gapL k j)).size = 1 + k + j := by rw [str_size, gap_len]
        by_cases hlt : (j : Int) < q % 9
        · have HG := Lib.hid (show str (gapL k j) ++ ⟨#[10]⟩ = str (gapL k (j + 1)) by rw [← gap_j]; exact str_app _ [10])
          go_wp2_with fail
          go_roundw
          case rel => exact ⟨j + 1, by omega, by rw [← HG.out], by go_num, trivial⟩
          case measure => simp [intOf]; omega
        · have hge2 : q % 9 ≤ (j : Int) := by omega
          have hG := Lib.hid (blanks_plain S (gapL k j) R (gap_blank k j) rfl)
          have GL := Lib.hid (gap_len k j)
          have SA := Lib.hid (scan_at R)
          have SL := Lib.hid (scan_le S)
          have SR := Lib.hid (scan_le R)
          have SS := Lib.hid (SC.out S (by have := szS.out; omega))
          have SRr := Lib.hid (SC.out R (by have := szR.out; omega))
          have SSR := Lib.hid (SC.out (S ++ gapL k j ++ R) (by simp only [List.length_append, gap_len]; have := szS.out; have := szR.out; omega))
          unfold ScanW at SS SRr SSR
          generalize gapL k j = G at *
          generalize scan S = rs at *
          generalize scan R = rr at *
          obtain ⟨l, asx, es⟩ := rs
          obtain ⟨m, ar, er⟩ := rr
          simp only at hG SS SRr SA SL SR
          clear hlt
          go_wp2_with fail
          refine (SS.out w2 (HT.out.below B2.out)).mono ?_
          rintro e w3 ⟨A1, c1, rfl, hl1, hb3⟩
          have B3 := Lib.hid (below_trans B2.out hb3)
          have L3 : Hid (TokR w3 A1 l) := hl1.reads
          clear hb3 hl1
          go_wp2_with fail
          refine (SRr.out w3 (HT.out.below B3.out)).mono ?_
          rintro e w4 ⟨A2, c2, rfl, hl2, hb4⟩
          have B4 := Lib.hid (below_trans B3.out hb4)
          have L4 := Lib.hid (L3.out.up hb4)
          have M4 : Hid (TokR w4 A2 m) := hl2.reads
          clear hb4 hl2
          go_wp2_with fail
          rw [str_app, str_app]
          refine (SSR.out w4 (HT.out.below B4.out)).mono ?_
          generalize scan (S ++ G ++ R) = rc at *
          obtain ⟨n, ac, ec⟩ := rc
          simp only at hG
          rintro e w5 ⟨A3, c3, rfl, hl3, hb5⟩
          have B5 := Lib.hid (below_trans B4.out hb5)
          have L5 := Lib.hid (L4.out.up hb5)
          have M5 := Lib.hid (M4.out.up hb5)
          have N5 : Hid (TokR w5 A3 n) := hl3.reads
          have cap := hl3.le
          clear hb5 hl3 SS SRr SSR
          by_cases hes : es = 0
          · by_cases her : er = 0
            · obtain ⟨hec, hn⟩ := hG.out.2.2 hes her
              subst hes her hec hn
              have hlen : (l ++ m.map (mv (S.length + G.length))).length = l.length + m.length := by simp
              rw [hlen]
              have HLen := Lib.hid hlen
              have bl : l.length ≤ 1000 := by have := SL.out; have := szS.out; omega
              have bm : m.length ≤ 1000 := by have := SR.out; have := szR.out; omega
              have W1 : IntKind.i64.wrap ((l.length : Int) + m.length) = (l.length : Int) + m.length := IntWalk.i64_in _ (by omega)
              rw [hlen] at cap
              have k1 : (l.length : Int) ≤ c3 := by omega
              have k2 : (l.length : Int) + m.length ≤ c3 := by omega
              have k3 : l.length ≤ c3 := by omega
              clear hG hlen
              have LN : Hid (TokR w5 A3 l) := by
                cases A3 with
                | none =>
                  have : l = [] := by
                    cases l with
                    | nil => rfl
                    | cons x l => obtain ⟨_, h, _⟩ := N5.out.2 (by simp); cases h
                  subst this
                  exact TokR.zero _ _
                | some a => exact N5.out.cut_
              by_cases hcc : c3 = l.length
              · obtain rfl : m = [] := List.length_eq_zero_iff.1 (by omega)
                subst hcc
                have HL2 : Hid ((l ++ ([] : List Tk).map (mv (S.length + G.length))).length = l.length) := by show _ = _; simp
                simp only [List.length_nil, Nat.add_zero] at *
                clear W1 k2 bm cap
                go_wp2_with fail
                refine (same_any l A3 A1 l.length c1 w5 LN.out L5.out (by omega)).mono ?_
                rintro e w6 ⟨rfl, hb6⟩
                have B6 := Lib.hid (below_trans B5.out hb6)
                have M6 := Lib.hid (M5.out.up hb6)
                clear hb6
                go_wp2_with fail
                have AL := Lib.hid (alike_any [] [] A3 A2 0 c2 w6 (TokR.zero _ _) (TokR.zero _ _) (by simp) rfl)
                simp only [List.length_nil] at AL
                refine AL.out.mono ?_
                rintro e w7 ⟨rfl, hb7⟩
                have B7 := Lib.hid (below_trans B6.out hb7)
                clear hb7 AL
                go_wp2_with fail
                go_loopw [21] (fun i v => i = .int .i64 0 ∧ w7 = v) (fun i _ => 0)
                case atStart => exact ⟨rfl, rfl⟩
                case round =>
                  obtain ⟨rfl, rfl⟩ := hrel
                  go_wp2_with fail
                  go_ret
                  exact ⟨rfl, B7.out⟩
              · have hcc2 : ¬ (c3 - l.length = 0) := by omega
                go_wp2_with fail
                refine (same_any l A3 A1 c3 c1 w5 LN.out L5.out (by omega)).mono ?_
                rintro e w6 ⟨rfl, hb6⟩
                have B6 := Lib.hid (below_trans B5.out hb6)
                have M6 := Lib.hid (M5.out.up hb6)
                have N6 := Lib.hid (N5.out.up hb6)
                clear hb6
                have TL : Hid (TokR w6 (Option.map (fun x => x.add (l.length * 3)) A3) (m.map (mv (S.length + G.length)))) := by
                  show TokR _ _ _
                  cases A3 with
                  | none =>
                    have : m = [] := by
                      cases m with
                      | nil => rfl
                      | cons x m => obtain ⟨_, h, _⟩ := N6.out.2 (by simp; omega); cases h
                    subst this
                    exact TokR.zero _ _
                  | some a => exact N6.out.tail_
                have AL := Lib.hid fun c4 => alike_any (m.map (mv (S.length + G.length))) m (Option.map (fun x => x.add (l.length * 3)) A3) A2 c4 c2 w6 TL.out M6.out (by simp; omega) (by rw [List.map_map]; rfl)
                simp only [List.length_map] at AL
                go_wp2_with fail
                refine (AL.out _).mono ?_
                rintro e w7 ⟨rfl, hb7⟩
                have B7 := Lib.hid (below_trans B6.out hb7)
                have M7 := Lib.hid (M6.out.up hb7)
                have N7 := Lib.hid (N6.out.up hb7)
                clear hb7 TL AL
                have szG : (str G).size ≤ 1000 := by rw [str_size, GL.out]; omega
                go_wp2_with fail
                go_loopw [21] (fun i v => ∃ (z : Nat), z ≤ m.length ∧ i = .int .i64 z ∧ Hid (Below w7.heap.size w7 v)) (fun i _ => m.length - (intOf i).toNat)
                case atStart => exact ⟨0, Nat.zero_le _, rfl, Lib.hid (Below.refl _ _)⟩
                case round =>
                  obtain ⟨z, hz, rfl, hbz⟩ := hrel
                  by_cases hzl : z < m.length
                  · obtain ⟨a2, y, rfl, hy, hblk, d0, d1, d2⟩ := (M7.out.up hbz.out).at_ hzl
                    obtain ⟨a3, x, rfl, hx, hblk3, f0, f1, f2⟩ := (N7.out.up hbz.out).at_ (k := l.length + z) (by rw [HLen.out]; omega)
                    have hyb := SA.out y (List.mem_of_getElem? hy)
                    have hxy : x = mv (S.length + G.length) y := by
                      rw [List.getElem?_append_right (Nat.le_add_right _ _), Nat.add_sub_cancel_left, List.getElem?_map, hy] at hx
                      exact (Option.some.inj hx).symm
                    have hyb2 : y.at_ ≤ 1000 := by have := szR.out; omega
                    subst hxy
                    have f1' : wr.cell? ⟨(a3.add ((l.length + z) * 3)).block, (a3.add ((l.length + z) * 3)).off + 1, none⟩ = some (.int .i64 ((y.at_ : Int) + (str S).size + (str G).size)) := by
                      rw [f1]
                      unfold mv
                      simp only
                      congr 2
                      rw [szS.out, str_size]
                      omega
                    have W4 : IntKind.i64.wrap ((l.length : Int) + z) = ((l.length + z : Nat) : Int) := by rw [show ((l.length : Int) + z) = ((l.length + z : Nat) : Int) by omega]; exact IntWalk.i64_in _ (by omega)
                    have W5 : IntKind.i64.wrap ((y.at_ : Int) + (str S).size) = (y.at_ : Int) + (str S).size := IntWalk.i64_in _ (by omega)
                    have W6 : IntKind.i64.wrap ((y.at_ : Int) + (str S).size + (str G).size) = (y.at_ : Int) + (str S).size + (str G).size := IntWalk.i64_in _ (by omega)
                    have k5 : ((l.length + z : Nat) : Int) < (l.length : Int) + m.length := by omega
                    clear hx hy hyb f0 f1 f2 d0 d2
                    go_wp2_with fail
                    go_quiet (fail)
                    go_wp2_with fail
                    go_roundw
                    case rel => exact ⟨z + 1, by omega, by go_num, below_drewN' hbz.out _⟩
                    case measure => simp [intOf]; omega
                  · have hzg : (m.length : Int) ≤ z := by omega
                    clear hzl
                    go_wp2_with fail
                    go_ret
                    exact ⟨rfl, below_trans B7.out hbz.out⟩
            · have e2 : (er != 0) = true := by simpa using her
              have hec := hG.out.2.1 hes her
              have e3 : (ec != 0) = true := by simpa using hec
              subst hes
              clear hG her hec
              go_wp2_with fail
              go_ret
              exact ⟨by simp [e3], B5.out⟩
          · have e1 : (es != 0) = true := by simpa using hes
            rcases hG.out.1 hes with hec | hec
            · have e3 : (ec != 0) = true := by simpa using hec
              clear hG hes hec
              go_wp2_with fail
              go_ret
              exact ⟨rfl, B5.out⟩
            · have e3 : (0 : Int) < n.length := by omega
              clear hG hes
              by_cases hec2 : ec = 0
              · subst hec2
                go_wp2_with fail
                go_ret
                exact ⟨by simp [e3], B5.out⟩
              · have e4 : (ec != 0) = true := by simpa using hec2
                clear hec2
                go_wp2_with fail
                go_ret
                exact ⟨rfl, B5.out⟩
theorem blanksLaw_any (s t : ByteArray) (p q : Int) (w : World) (hp : (Lit.int .u8 p).wf = true) (hq : (Lit.int .u8 q).wf = true) {b o c : Nat} (T : Tab w b o c) (hs : s.size ≤ maxLen) (ht : t.size ≤ maxLen) : Calls Tryd.prog 4 #[.string s, .string t, .int .u8 p, .int .u8 q] w fun e w' => e = .returned (.bool true) ∧ Below w.heap.size w w' := by
  have := blanksLaw_str (bs s) (bs t) p q w hp hq T (by rw [str_bs]; exact hs) (by rw [str_bs]; exact ht)
  rwa [str_bs, str_bs] at this
end Go.Proofs.YtnffnkmghghmlaaDoor
