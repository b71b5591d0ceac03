/- term.Bearer's contract over hands of which To and Day alone are told. Condition: the table ('Tab'). -/
import Derived.Test.YtkjebkdecakceaaDoorNames
namespace Go.Proofs.YtkjebkdecakceaaDoor
open Go.RowKit

/-- hands, by To and Day -/
def hand (x : ByteArray × Int) : List Value := [.string ⟨#[]⟩, .string ⟨#[]⟩, .string x.1, .string ⟨#[]⟩, .int .i64 x.2]
def hands (l : List (ByteArray × Int)) : List Value := l.flatMap hand
theorem hands_len (l : List (ByteArray × Int)) : (hands l).length = l.length * 5 := by
  induction l with
  | nil => rfl
  | cons x l ih => simp only [hands, List.flatMap_cons, List.length_append, List.length_cons] at ih ⊢; rw [ih]; simp [hand]; omega
theorem hands_get (l : List (ByteArray × Int)) (k j : Nat) (x : ByteArray × Int) (h : l[k]? = some x) (hj : j < 5) : (hands l)[k * 5 + j]? = (hand x)[j]? := by
  induction l generalizing k with
  | nil => simp at h
  | cons y l ih =>
    cases k with
    | zero =>
      obtain rfl : y = x := by simpa using h
      simp only [hands, List.flatMap_cons, Nat.zero_mul, Nat.zero_add]
      rw [List.getElem?_append_left (by simp [hand]; omega)]
    | succ k =>
      have := ih k (by simpa using h)
      simp only [hands, List.flatMap_cons] at this ⊢
      rw [List.getElem?_append_right (by simp [hand]; omega)]
      rw [← this]
      congr 1
      simp [hand]
      omega
def lastW (l : List (ByteArray × Int)) (D : Int) : Option ByteArray := l.foldl (fun o x => if x.2 ≤ D then some x.1 else o) none
theorem lastW_snoc (l : List (ByteArray × Int)) (x : ByteArray × Int) (D : Int) : lastW (l ++ [x]) D = if x.2 ≤ D then some x.1 else lastW l D := by
  simp [lastW, List.foldl_append]
theorem take_snoc' {α : Type} (l : List α) (k : Nat) (x : α) (h : l[k]? = some x) : l.take (k + 1) = l.take k ++ [x] := by
  obtain ⟨hk, rfl⟩ := List.getElem?_eq_some_iff.1 h
  rw [List.take_succ_eq_append_getElem hk]

theorem hands_at {w : World} {B n k : Nat} {A : Option Addr} {l : List (ByteArray × Int)} (h : Reads w B 5 A n (hands l)) (hk : k < n) :
    ∃ a x, A = some a ∧ l[k]? = some x ∧ a.block < B ∧ w.cell? (a.add (k * 5)) = some (.string ⟨#[]⟩) ∧ w.cell? ⟨(a.add (k * 5)).block, (a.add (k * 5)).off + 1, none⟩ = some (.string ⟨#[]⟩) ∧ w.cell? ⟨(a.add (k * 5)).block, (a.add (k * 5)).off + 2, none⟩ = some (.string x.1) ∧
      w.cell? ⟨(a.add (k * 5)).block, (a.add (k * 5)).off + 3, none⟩ = some (.string ⟨#[]⟩) ∧ w.cell? ⟨(a.add (k * 5)).block, (a.add (k * 5)).off + 4, none⟩ = some (.int .i64 x.2) := by
  obtain ⟨a, e, hb, hc⟩ := h.2 (by omega)
  have hl : l.length = n := by have := h.1; rw [hands_len] at this; omega
  have hx : l[k]? = some (l[k]'(by omega)) := List.getElem?_eq_getElem (by omega)
  have g := fun j (hj : j < 5) => hands_get l k j _ hx hj
  refine ⟨a, _, e, hx, hb, ?_, ?_, ?_, ?_, ?_⟩
  · exact hc (k * 5) _ (g 0 (by omega))
  · exact (congrArg w.cell? (add_of_add a (k * 5) 1)).trans (hc (k * 5 + 1) _ (g 1 (by omega)))
  · exact (congrArg w.cell? (add_of_add a (k * 5) 2)).trans (hc (k * 5 + 2) _ (g 2 (by omega)))
  · exact (congrArg w.cell? (add_of_add a (k * 5) 3)).trans (hc (k * 5 + 3) _ (g 3 (by omega)))
  · exact (congrArg w.cell? (add_of_add a (k * 5) 4)).trans (hc (k * 5 + 4) _ (g 4 (by omega)))

/-- the stage of a box -/
def stg (who frm to : ByteArray) : Int := if who = frm then 0 else if who = to then 7 else 3
set_option maxHeartbeats 400000 in
theorem stageOf_any (who frm to : ByteArray) (w : World) :
    Calls Tryd.prog 30 #[.string who, .string frm, .string to] w fun e w' => e = .returned (.int .i64 (stg who frm to)) ∧ w = w' := by
  unfold stg
  by_cases h1 : who = frm
  · subst h1
    have q := str_same who
    rw [if_pos rfl]
    go_enter Tryd.func30, Tryd.ntmps30
    go_wp2
    go_ret
    exact ⟨rfl, rfl⟩
  · have q1 := str_ne h1
    rw [if_neg h1]
    by_cases h2 : who = to
    · subst h2
      have q := str_same who
      rw [if_pos rfl]
      go_enter Tryd.func30, Tryd.ntmps30
      go_wp2
      go_ret
      exact ⟨rfl, rfl⟩
    · have q2 := str_ne h2
      rw [if_neg h2]
      go_enter Tryd.func30, Tryd.ntmps30
      go_wp2
      go_ret
      exact ⟨rfl, rfl⟩
theorem stg_bd (who frm to : ByteArray) : 0 ≤ stg who frm to ∧ stg who frm to ≤ 7 := by
  unfold stg
  split
  · decide
  · split <;> decide

/-- what Bearer tells, where o has the box as of that day -/
def bearerV (t : Nat) (o : Option ByteArray) (frm to : ByteArray) : Value :=
  match o with
  | none => .tuple #[.string ⟨#[]⟩, .bool false]
  | some who => .tuple #[.string (if stg who frm to < tRisk t then frm else to), .bool true]
set_option maxHeartbeats 800000 in
theorem bearer_any (t : Nat) (ht : t < 8) (l : List (ByteArray × Int)) (D : Int) (frm to : ByteArray) (hne : frm ≠ to) {W : World} {PA : Nat → Addr} {cp : Nat → Nat} (T : Tab W PA cp) (w : World) (hW : Below W.heap.size W w)
    (A : Option Addr) (n c : Nat) (hn : n ≤ 1000) (hr : Reads w w.heap.size 5 A n (hands l)) (o : Option ByteArray) (ho : lastW l D = o) :
    Calls Tryd.prog 25 #[.int .i64 t, .slice A n c, .int .i64 D, .string frm, .string to] w fun e w' => e = .returned (bearerV t o frm to) ∧ Below w.heap.size w w' := by
  have qne := str_ne hne
  have hl : l.length = n := by have := hr.1; rw [hands_len] at this; omega
  have Hlw := Lib.hid ho
  clear ho
  cases o with
  | none =>
    show Calls _ _ _ _ fun e w' => e = .returned (.tuple #[.string ⟨#[]⟩, .bool false]) ∧ _
    go_enter Tryd.func25, Tryd.ntmps25
    go_wp2
    go_loopw [12, 13, 15, 20] (fun who any _ i wr => ∃ k : Nat, k ≤ n ∧ i = .int .i64 k ∧ who = .string ((lastW (l.take k) D).getD ⟨#[]⟩) ∧ any = .bool (lastW (l.take k) D).isSome ∧ Below w.heap.size w wr) (fun _ _ _ i _ => n - (intOf i).toNat)
    case atStart => exact ⟨0, by omega, rfl, rfl, rfl, Below.refl _ _⟩
    case round =>
      obtain ⟨k, hk, rfl, rfl, rfl, hb⟩ := hrel
      by_cases hlt : k < n
      · obtain ⟨a, x, rfl, hx, hbk, c0, c1, c2, c3, c4⟩ := hands_at ((hr.below hb).more hb.size) hlt
        have S := Lib.hid (show lastW (l.take (k + 1)) D = if x.2 ≤ D then some x.1 else lastW (l.take k) D by rw [take_snoc' l k x hx, lastW_snoc])
        clear hx
        by_cases hx : x.2 ≤ D
        · go_wp2
          go_roundw
          case rel => exact ⟨k + 1, by omega, by go_num, by rw [S.out, if_pos hx]; rfl, by rw [S.out, if_pos hx]; rfl, hb.alloc hb.size _⟩
          case measure => simp [intOf]; omega
        · go_wp2
          go_roundw
          case rel => exact ⟨k + 1, by omega, by go_num, by rw [S.out, if_neg hx], by rw [S.out, if_neg hx], hb.alloc hb.size _⟩
          case measure => simp [intOf]; omega
      · obtain rfl : k = n := by omega
        have e : l.take k = l := List.take_of_length_le (by omega)
        rw [e, Hlw.out]
        clear e hr
        have hWr := below_trans hW hb
        simp only [Option.getD_none, Option.isSome_none]
        go_wp2_with (go_at_call 27; refine (of_in t ht wr (tb T _ hWr)).mono ?_; rintro e w' ⟨rfl, hb2⟩)
        go_wp2
        go_ret2
        exact ⟨rfl, (below_trans hb hb2).alloc (below_trans hb hb2).size _⟩
  | some who =>
    have sb := stg_bd who frm to
    rcases sd_cases (stg who frm to) (tRisk t) with ⟨h1, e1⟩ | ⟨h1, e1⟩
    · have hv : bearerV t (some who) frm to = .tuple #[.string frm, .bool true] := by simp only [bearerV, if_pos h1]
      rw [hv]
      clear hv
      have s1 := sb1
      go_enter Tryd.func25, Tryd.ntmps25
      go_wp2
      go_loopw [12, 13, 15, 20] (fun who any _ i wr => ∃ k : Nat, k ≤ n ∧ i = .int .i64 k ∧ who = .string ((lastW (l.take k) D).getD ⟨#[]⟩) ∧ any = .bool (lastW (l.take k) D).isSome ∧ Below w.heap.size w wr) (fun _ _ _ i _ => n - (intOf i).toNat)
      case atStart => exact ⟨0, by omega, rfl, rfl, rfl, Below.refl _ _⟩
      case round =>
        obtain ⟨k, hk, rfl, rfl, rfl, hb⟩ := hrel
        by_cases hlt : k < n
        · obtain ⟨a, x, rfl, hx, hbk, c0, c1, c2, c3, c4⟩ := hands_at ((hr.below hb).more hb.size) hlt
          have S := Lib.hid (show lastW (l.take (k + 1)) D = if x.2 ≤ D then some x.1 else lastW (l.take k) D by rw [take_snoc' l k x hx, lastW_snoc])
          clear hx
          by_cases hx : x.2 ≤ D
          · go_wp2
            go_roundw
            case rel => exact ⟨k + 1, by omega, by go_num, by rw [S.out, if_pos hx]; rfl, by rw [S.out, if_pos hx]; rfl, hb.alloc hb.size _⟩
            case measure => simp [intOf]; omega
          · go_wp2
            go_roundw
            case rel => exact ⟨k + 1, by omega, by go_num, by rw [S.out, if_neg hx], by rw [S.out, if_neg hx], hb.alloc hb.size _⟩
            case measure => simp [intOf]; omega
        · obtain rfl : k = n := by omega
          have e : l.take k = l := List.take_of_length_le (by omega)
          rw [e, Hlw.out]
          clear e hr
          have hWr := below_trans hW hb
          simp only [Option.getD_some, Option.isSome_some]
          go_wp2_with (first | (go_at_call 27; refine (of_in t ht wr (tb T _ hWr)).mono ?_; rintro e w' ⟨rfl, hb2⟩; have hb3 := (below_trans hb hb2).alloc (below_trans hb hb2).size (.cells #[.string (tName t), .int .i64 (tCost t), .int .i64 (tRisk t), .slice (some (PA t)) (tPapers t).length (cp t)] 48)) | (go_at_call 30; refine (stageOf_any _ _ _ _).mono ?_; rintro e w' ⟨rfl, rfl⟩) | (go_at_call 12; refine (risk_any (T.below hW) _ hb3 t ht _ sb.1 sb.2).mono ?_; rintro e w' ⟨rfl, hb4⟩))
          go_ret2
          exact ⟨rfl, hb4⟩
    · have hv : bearerV t (some who) frm to = .tuple #[.string to, .bool true] := by simp only [bearerV, if_neg (Int.not_lt.2 h1)]
      rw [hv]
      clear hv
      have s3 := sb3
      go_enter Tryd.func25, Tryd.ntmps25
      go_wp2
      go_loopw [12, 13, 15, 20] (fun who any _ i wr => ∃ k : Nat, k ≤ n ∧ i = .int .i64 k ∧ who = .string ((lastW (l.take k) D).getD ⟨#[]⟩) ∧ any = .bool (lastW (l.take k) D).isSome ∧ Below w.heap.size w wr) (fun _ _ _ i _ => n - (intOf i).toNat)
      case atStart => exact ⟨0, by omega, rfl, rfl, rfl, Below.refl _ _⟩
      case round =>
        obtain ⟨k, hk, rfl, rfl, rfl, hb⟩ := hrel
        by_cases hlt : k < n
        · obtain ⟨a, x, rfl, hx, hbk, c0, c1, c2, c3, c4⟩ := hands_at ((hr.below hb).more hb.size) hlt
          have S := Lib.hid (show lastW (l.take (k + 1)) D = if x.2 ≤ D then some x.1 else lastW (l.take k) D by rw [take_snoc' l k x hx, lastW_snoc])
          clear hx
          by_cases hx : x.2 ≤ D
          · go_wp2
            go_roundw
            case rel => exact ⟨k + 1, by omega, by go_num, by rw [S.out, if_pos hx]; rfl, by rw [S.out, if_pos hx]; rfl, hb.alloc hb.size _⟩
            case measure => simp [intOf]; omega
          · go_wp2
            go_roundw
            case rel => exact ⟨k + 1, by omega, by go_num, by rw [S.out, if_neg hx], by rw [S.out, if_neg hx], hb.alloc hb.size _⟩
            case measure => simp [intOf]; omega
        · obtain rfl : k = n := by omega
          have e : l.take k = l := List.take_of_length_le (by omega)
          rw [e, Hlw.out]
          clear e hr
          have hWr := below_trans hW hb
          simp only [Option.getD_some, Option.isSome_some]
          go_wp2_with (first | (go_at_call 27; refine (of_in t ht wr (tb T _ hWr)).mono ?_; rintro e w' ⟨rfl, hb2⟩; have hb3 := (below_trans hb hb2).alloc (below_trans hb hb2).size (.cells #[.string (tName t), .int .i64 (tCost t), .int .i64 (tRisk t), .slice (some (PA t)) (tPapers t).length (cp t)] 48)) | (go_at_call 30; refine (stageOf_any _ _ _ _).mono ?_; rintro e w' ⟨rfl, rfl⟩) | (go_at_call 12; refine (risk_any (T.below hW) _ hb3 t ht _ sb.1 sb.2).mono ?_; rintro e w' ⟨rfl, hb4⟩))
          go_ret2
          exact ⟨rfl, hb4⟩
end Go.Proofs.YtkjebkdecakceaaDoor
