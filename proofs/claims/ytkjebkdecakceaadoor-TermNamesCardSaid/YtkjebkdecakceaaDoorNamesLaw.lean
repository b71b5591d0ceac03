/- TermNames's walk: whatever the number and the text, the law's text returns true and changes nothing that was there. Conditions: the table ('Tab'), its block whole, the stages' names. -/
import Derived.Test.YtkjebkdecakceaaDoorNames
namespace Go.Proofs.YtkjebkdecakceaaDoor
open Go.RowKit

def Full (w : World) (PA : Nat → Addr) (cp : Nat → Nat) : Prop := (∃ ty fr, w.heap[0]? = some (.cells (tabRow PA cp) ty fr)) ∧ Reads w w.heap.size 1 (some ⟨1, 0, none⟩) 8 (strs stL)
theorem Full.below {w w' : World} {PA cp} (h : Full w PA cp) (hz : 0 < w.heap.size) (hb : Below w.heap.size w w') : Full w' PA cp := by
  obtain ⟨⟨ty, fr, h1⟩, h2⟩ := h
  exact ⟨⟨ty, fr, (hb.block 0 hz).trans h1⟩, (h2.below hb).more hb.size⟩

theorem name_in' {W : World} {PA : Nat → Addr} {cp : Nat → Nat} (T : Tab W PA cp) (w : World) (hW : Below W.heap.size W w) (t : Nat) (ht : t < 8) : Calls Tryd.prog 24 #[.int .i64 t] w fun e w' => e = .returned (.string (tName t)) ∧ Below W.heap.size W w' :=
  (name_in t ht w (tb T w hW)).mono fun _ _ ⟨he, hb⟩ => ⟨he, below_trans hW hb⟩
theorem findN (s : ByteArray) : (∃ i, i < 8 ∧ s = tName i) ∨ ∀ k, k < 8 → tName k ≠ s := by
  by_cases h : ∃ i, i < 8 ∧ s = tName i
  · exact .inl h
  · exact .inr fun k hk e => h ⟨k, hk, e.symm⟩
theorem findS (s : ByteArray) : (∃ i, i < 8 ∧ s = sName i) ∨ ∀ k, k < 8 → sName k ≠ s := by
  by_cases h : ∃ i, i < 8 ∧ s = sName i
  · exact .inl h
  · exact .inr fun k hk e => h ⟨k, hk, e.symm⟩

section
variable {W : World} {PA : Nat → Addr} {cp : Nat → Nat} (T : Tab W PA cp) (F : Full W PA cp) (w : World) (hW : Below W.heap.size W w)
include T F hW
theorem parse_yes' (i : Nat) (hi : i < 8) : Calls Tryd.prog 19 #[.string (tName i)] w fun e w' => e = .returned (.tuple #[.int .i64 i, .bool true]) ∧ Below W.heap.size W w' :=
  (parse_yes (F.below T.sz hW).1 i hi).mono fun _ _ ⟨he, hb⟩ => ⟨he, below_trans hW hb⟩
theorem parse_no' (s : ByteArray) (hs : ∀ k, k < 8 → tName k ≠ s) : Calls Tryd.prog 19 #[.string s] w fun e w' => e = .returned (.tuple #[.int .i64 0, .bool false]) ∧ Below W.heap.size W w' :=
  (parse_no (F.below T.sz hW).1 s hs).mono fun _ _ ⟨he, hb⟩ => ⟨he, below_trans hW hb⟩
theorem stage_yes' (i : Nat) (hi : i < 8) : Calls Tryd.prog 20 #[.string (sName i)] w fun e w' => e = .returned (.tuple #[.int .i64 i, .bool true]) ∧ w = w' :=
  stage_yes w (F.below T.sz hW).2 i hi
theorem stage_no' (s : ByteArray) (hs : ∀ k, k < 8 → sName k ≠ s) : Calls Tryd.prog 20 #[.string s] w fun e w' => e = .returned (.tuple #[.int .i64 0, .bool false]) ∧ w = w' :=
  stage_no w (F.below T.sz hW).2 s fun x hx e => by
    obtain ⟨k, hk⟩ := List.mem_iff_getElem?.1 hx
    obtain ⟨h8, rfl⟩ := stL_at k x hk
    exact hs k h8 e
end
theorem name_out' {W : World} (w : World) (hW : Below W.heap.size W w) (t : Int) (h : t < 0 ∨ 8 ≤ t) : Calls Tryd.prog 24 #[.int .i64 t] w fun e w' => e = .returned (.string ⟨#[]⟩) ∧ Below W.heap.size W w' :=
  (name_out t h w).mono fun _ _ ⟨he, hb⟩ => ⟨he, below_trans hW hb⟩

/-- the place of a text among eight others, as the reference tells it -/
def at8 (o : Option Nat) : Int := match o with | some i => (i : Int) | none => -1
def IsN (nm : Nat → ByteArray) (s : ByteArray) (o : Option Nat) : Prop := match o with | some i => i < 8 ∧ s = nm i | none => ∀ k, k < 8 → nm k ≠ s
theorem find_names (A : Option Addr) (c : Nat) (w : World) (h : Reads w w.heap.size 1 A 8 (strs nameL)) (s : ByteArray) (o : Option Nat) (ho : IsN tName s o) :
    Calls Tryd.prog 21 #[.slice A 8 c, .string s] w fun e w' => e = .returned (.int .i64 (at8 o)) ∧ w = w' := by
  cases o with
  | some i =>
    obtain ⟨hi, rfl⟩ := ho
    exact find_yes A 8 c nameL w h (by omega) _ i hi (nameL_get i hi) fun j x hj hx => by rw [(nameL_at j x hx).2]; exact tName_apart i j hi hj
  | none =>
    exact find_no A 8 c nameL w h (by omega) s fun x hx e => by
      obtain ⟨k, hk⟩ := List.mem_iff_getElem?.1 hx
      obtain ⟨h8, rfl⟩ := nameL_at k x hk
      exact ho k h8 e
theorem find_stages (A : Option Addr) (c : Nat) (w : World) (h : Reads w w.heap.size 1 A 8 (strs stL)) (s : ByteArray) (o : Option Nat) (ho : IsN sName s o) :
    Calls Tryd.prog 21 #[.slice A 8 c, .string s] w fun e w' => e = .returned (.int .i64 (at8 o)) ∧ w = w' := by
  cases o with
  | some i =>
    obtain ⟨hi, rfl⟩ := ho
    exact find_yes A 8 c stL w h (by omega) _ i hi (stL_get i hi) fun j x hj hx => by rw [(stL_at j x hx).2]; exact sName_apart i j hi hj
  | none =>
    exact find_no A 8 c stL w h (by omega) s fun x hx e => by
      obtain ⟨k, hk⟩ := List.mem_iff_getElem?.1 hx
      obtain ⟨h8, rfl⟩ := stL_at k x hk
      exact ho k h8 e

/-- what Parse, and Stage, tell -/
def tell (o : Option Nat) : Value := match o with | some i => .tuple #[.int .i64 i, .bool true] | none => .tuple #[.int .i64 0, .bool false]
section
variable {W : World} {PA : Nat → Addr} {cp : Nat → Nat} (T : Tab W PA cp) (F : Full W PA cp) (w : World) (hW : Below W.heap.size W w)
include T F hW
theorem parse_any (s : ByteArray) (o : Option Nat) (ho : IsN tName s o) : Calls Tryd.prog 19 #[.string s] w fun e w' => e = .returned (tell o) ∧ Below W.heap.size W w' := by
  cases o with
  | some i => obtain ⟨hi, rfl⟩ := ho; exact parse_yes' T F w hW i hi
  | none => exact parse_no' T F w hW s ho
theorem stage_any (s : ByteArray) (o : Option Nat) (ho : IsN sName s o) : Calls Tryd.prog 20 #[.string s] w fun e w' => e = .returned (tell o) ∧ w = w' := by
  cases o with
  | some i => obtain ⟨hi, rfl⟩ := ho; exact stage_yes' T F w hW i hi
  | none => exact stage_no' T F w hW s ho
end

set_option maxHeartbeats 1000000 in
theorem namesLaw (t : Int) (s : ByteArray) (hlen : s.size ≤ 1000) {w : World} {PA : Nat → Addr} {cp : Nat → Nat} (T : Tab w PA cp) (F : Full w PA cp) (o p : Option Nat) (ho : IsN tName s o) (hp : IsN sName s p) :
    Calls Tryd.prog 7 #[.int .i64 t, .string s] w fun e w' => e = .returned (.bool true) ∧ Below w.heap.size w w' := by
  have hB := Below.refl w.heap.size w
  have ho' := Lib.hid ho
  have hp' := Lib.hid hp
  by_cases h : t < 0 ∨ 8 ≤ t
  · cases o <;> cases p <;> clear ho hp <;>
    · go_enter Tryd.func7, Tryd.ntmps7
      go_wp2_with (first | (go_at_call 9; refine (awake_any T _ (by assumption)).mono ?_; rintro e w' ⟨rfl, hb⟩) | (go_at_call 19; refine (parse_any T F _ (by assumption) _ _ ho'.out).mono ?_; rintro e w' ⟨rfl, hb⟩; simp only [tell]) | (go_at_call 20; refine (stage_any T F _ (by assumption) _ _ hp'.out).mono ?_; rintro e w' ⟨rfl, rfl⟩; simp only [tell]) | (go_at_call 22; refine (names_call _).mono ?_; rintro e wA ⟨A1, c1, rfl, hr1, hb⟩; have hbb := below_trans (by assumption) hb; clear hb) | (go_at_call 23; refine (stages_call _).mono ?_; rintro e wB ⟨A2, c2, rfl, hr2, hb⟩; have hbb2 := below_trans (by assumption) hb; clear hb) | (go_at_call_of 21 (Value.slice A1 8 c1); refine (find_names _ _ _ hr1 _ _ ho'.out).mono ?_; rintro e w' ⟨rfl, rfl⟩; simp only [at8]) | (go_at_call 21; refine (find_stages _ _ _ hr2 _ _ hp'.out).mono ?_; rintro e w' ⟨rfl, rfl⟩; simp only [at8]) | (go_at_call 10; refine (is_no _ _ (by omega)).mono ?_; rintro e w' ⟨rfl, rfl⟩) | (go_at_call 24; refine (name_out' _ (by assumption) _ h).mono ?_; rintro e w' ⟨rfl, hb⟩))
      go_ret
      exact ⟨rfl, by assumption⟩
  · obtain ⟨t', rfl⟩ := Int.eq_ofNat_of_zero_le (show 0 ≤ t by omega)
    have ht : t' < 8 := by omega
    have q0 := str_same (tName t')
    have q1 : ((t' : Int) == (t' : Int)) = true := by simp
    have hg := nameL_get t' ht
    have HG := Lib.hid hg
    clear h hg
    cases o <;> cases p <;> clear ho hp <;>
    · go_enter Tryd.func7, Tryd.ntmps7
      go_wp2_with (first | (go_at_call 9; refine (awake_any T _ (by assumption)).mono ?_; rintro e w' ⟨rfl, hb⟩) | (go_at_call_of 19 (tName t'); refine (parse_yes' T F _ (by assumption) _ ht).mono ?_; rintro e w' ⟨rfl, hb⟩) | (go_at_call 19; refine (parse_any T F _ (by assumption) _ _ ho'.out).mono ?_; rintro e w' ⟨rfl, hb⟩; simp only [tell]) | (go_at_call 20; refine (stage_any T F _ (by assumption) _ _ hp'.out).mono ?_; rintro e w' ⟨rfl, rfl⟩; simp only [tell]) | (go_at_call 22; have hfst := hbb2; refine (names_call _).mono ?_; rintro e wA ⟨A3, c3, rfl, hr3, hb⟩; obtain ⟨a3, x3, rfl, hx3, hc3, _⟩ := strs_at hr3 ht; obtain rfl := Option.some.inj (HG.out.symm.trans hx3); clear hx3; have hbb3 := below_trans (by assumption) hb; clear hb) | (go_at_call 22; refine (names_call _).mono ?_; rintro e wA ⟨A1, c1, rfl, hr1, hb⟩; have hbb := below_trans (by assumption) hb; clear hb) | (go_at_call 23; refine (stages_call _).mono ?_; rintro e wB ⟨A2, c2, rfl, hr2, hb⟩; have hbb2 := below_trans (by assumption) hb; clear hb) | (go_at_call_of 21 (Value.slice A1 8 c1); refine (find_names _ _ _ hr1 _ _ ho'.out).mono ?_; rintro e w' ⟨rfl, rfl⟩; simp only [at8]) | (go_at_call 21; refine (find_stages _ _ _ hr2 _ _ hp'.out).mono ?_; rintro e w' ⟨rfl, rfl⟩; simp only [at8]) | (go_at_call 10; refine (is_yes _ _ (by omega) (by omega)).mono ?_; rintro e w' ⟨rfl, rfl⟩) | (go_at_call 24; refine (name_in' T _ (by assumption) _ ht).mono ?_; rintro e w' ⟨rfl, hb⟩))
      go_ret
      exact ⟨rfl, by assumption⟩

set_option maxHeartbeats 400000 in
theorem names_long (t : Int) (s : ByteArray) (hlen : 1000 < s.size) {w : World} {PA : Nat → Addr} {cp : Nat → Nat} (T : Tab w PA cp) :
    Calls Tryd.prog 7 #[.int .i64 t, .string s] w fun e w' => e = .returned (.bool true) ∧ Below w.heap.size w w' := by
  have hB := Below.refl w.heap.size w
  have hl : (1000 : Int) < (s.size : Int) := by omega
  go_enter Tryd.func7, Tryd.ntmps7
  go_wp2_with (go_at_call 9; refine (awake_any T _ (by assumption)).mono ?_; rintro e w' ⟨rfl, hb⟩)
  go_ret
  exact ⟨rfl, by assumption⟩
theorem names_any (t : Int) (s : ByteArray) {w : World} {PA : Nat → Addr} {cp : Nat → Nat} (T : Tab w PA cp) (F : Full w PA cp) :
    Calls Tryd.prog 7 #[.int .i64 t, .string s] w fun e w' => e = .returned (.bool true) ∧ Below w.heap.size w w' := by
  by_cases hlen : s.size ≤ 1000
  · have ho : ∃ o, IsN tName s o := by
      rcases findN s with ⟨i, h⟩ | h
      · exact ⟨some i, h⟩
      · exact ⟨none, h⟩
    have hp : ∃ o, IsN sName s o := by
      rcases findS s with ⟨i, h⟩ | h
      · exact ⟨some i, h⟩
      · exact ⟨none, h⟩
    obtain ⟨o, ho⟩ := ho
    obtain ⟨p, hp⟩ := hp
    exact namesLaw t s hlen T F o p ho hp
  · exact names_long t s (by omega) T
end Go.Proofs.YtkjebkdecakceaaDoor
