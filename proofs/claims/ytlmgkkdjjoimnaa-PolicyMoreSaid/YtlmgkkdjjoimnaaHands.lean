/- Slices of hands, and the walks of IndexFunc and of at. Condition: how the hands lie. -/
import Derived.Test.YtlmgkkdjjoimnaaAwake
namespace Go.Proofs.Ytlmgkkdjjoimnaa
open Go.RowKit
set_option linter.unusedVariables false
set_option linter.unusedSimpArgs false

structure Hand where
  box : ByteArray
  fr : ByteArray
  to_ : ByteArray
  place : ByteArray
  day : Int
def Hand.cells (h : Hand) : List Value := [.string h.box, .string h.fr, .string h.to_, .string h.place, .int .i64 h.day]
def flat (l : List Hand) : List Value := l.flatMap Hand.cells
theorem flat_len (l : List Hand) : (flat l).length = l.length * 5 := by
  induction l with
  | nil => rfl
  | cons s l ih =>
    have : flat (s :: l) = s.cells ++ flat l := by simp [flat]
    rw [this, List.length_append, ih, List.length_cons]
    simp [Hand.cells]
    omega
theorem flat_get (l : List Hand) : ∀ (k : Nat) (s : Hand) (j : Nat) (v : Value), l[k]? = some s → s.cells[j]? = some v → (flat l)[k * 5 + j]? = some v := by
  induction l with
  | nil => intro k s j v h; simp at h
  | cons x l ih =>
    intro k s j v h hv
    have e : flat (x :: l) = x.cells ++ flat l := by simp [flat]
    have hl : ∀ y : Hand, y.cells.length = 5 := fun y => rfl
    rw [e]
    cases k with
    | zero =>
      cases h
      have := (List.getElem?_eq_some_iff.1 hv).1
      rw [List.getElem?_append_left (by rw [hl] at this ⊢; omega)]
      simpa using hv
    | succ k =>
      have := ih k s j v (by simpa using h) hv
      rw [List.getElem?_append_right (by rw [hl]; omega), hl, show (k + 1) * 5 + j - 5 = k * 5 + j by omega]
      exact this
def Hs (w : World) (B : Nat) (A : Option Addr) (n : Nat) (l : List Hand) : Prop := l.length = n ∧ n ≤ maxLen ∧ Reads w B 5 A n (flat l)
section
variable {w w' : World} {B B' n : Nat} {A : Option Addr} {l : List Hand}
theorem Hs.below (h : Hs w B A n l) (hb : Below B w w') : Hs w' B A n l := ⟨h.1, h.2.1, h.2.2.below hb⟩
theorem Hs.up (h : Hs w w.heap.size A n l) (hb : Below w.heap.size w w') : Hs w' w'.heap.size A n l := ⟨h.1, h.2.1, (h.2.2.below hb).more hb.size⟩
theorem Hs.drewN (h : Hs w B A n l) (k : Nat) : Hs (w.drewN k) B A n l := h
theorem Hs.at_ (h : Hs w B A n l) {k : Nat} (hk : k < n) : ∃ (a : Addr) (s : Hand), A = some a ∧ l[k]? = some s ∧ (a.add (k * 5)).block < B ∧
    w.cell? (a.add (k * 5)) = some (.string s.box) ∧ w.cell? ⟨(a.add (k * 5)).block, (a.add (k * 5)).off + 1, none⟩ = some (.string s.fr) ∧ w.cell? ⟨(a.add (k * 5)).block, (a.add (k * 5)).off + 2, none⟩ = some (.string s.to_) ∧
    w.cell? ⟨(a.add (k * 5)).block, (a.add (k * 5)).off + 3, none⟩ = some (.string s.place) ∧ w.cell? ⟨(a.add (k * 5)).block, (a.add (k * 5)).off + 4, none⟩ = some (.int .i64 s.day) := by
  obtain ⟨hl, _, hr⟩ := h
  obtain ⟨s, hs⟩ : ∃ s, l[k]? = some s := ⟨_, List.getElem?_eq_getElem (by omega)⟩
  obtain ⟨a, rfl, hb, hc⟩ := hr.2 (by omega)
  have e : ∀ j, 0 < j → (a.add (k * 5)).add j = ⟨(a.add (k * 5)).block, (a.add (k * 5)).off + j, none⟩ := fun j hj => by
    generalize a.add (k * 5) = b
    unfold Addr.add
    rw [if_neg (by omega)]
  have g := fun j v hv => hc _ _ (flat_get l k s j v hs hv)
  refine ⟨a, s, rfl, hs, by rw [block_of_add]; exact hb, g 0 _ rfl, ?_, ?_, ?_, ?_⟩
  · rw [← e 1 (by omega), add_of_add]; exact g 1 _ rfl
  · rw [← e 2 (by omega), add_of_add]; exact g 2 _ rfl
  · rw [← e 3 (by omega), add_of_add]; exact g 3 _ rfl
  · rw [← e 4 (by omega), add_of_add]; exact g 4 _ rfl
/-- without the first ones -/
theorem Hs.tail (h : Hs w B A n l) {k c : Nat} (hk : k ≤ n) (hc : n ≤ c) : Hs w B (if c = k then A else A.map (·.add (k * 5))) (n - k) (l.drop k) := by
  refine ⟨by rw [List.length_drop, h.1], by have := h.2.1; omega, ?_⟩
  have hd : flat (l.drop k) = (flat l).drop (k * 5) := by
    have h1 : flat (l.take k ++ l.drop k) = flat (l.take k) ++ flat (l.drop k) := by simp only [flat, List.flatMap_append]
    rw [List.take_append_drop] at h1
    have h2 : (flat (l.take k)).length = k * 5 := by rw [flat_len, List.length_take, h.1, Nat.min_eq_left hk]
    rw [h1, ← h2, List.drop_left]
  rw [hd]
  exact h.2.2.cut hk hc
end
def NoneTo (l : List Hand) (s : ByteArray) (k : Nat) : Prop := ∀ j h, j < k → l[j]? = some h → h.place ≠ s
def first (l : List Hand) (s : ByteArray) : Option Nat := l.findIdx? fun h => decide (h.place = s)
theorem first_some {l : List Hand} {s : ByteArray} {k : Nat} {h : Hand} (hk : l[k]? = some h) (hp : h.place = s) (hn : NoneTo l s k) : first l s = some k := by
  unfold first
  rw [List.findIdx?_eq_some_iff_getElem]
  obtain ⟨hlt, rfl⟩ := List.getElem?_eq_some_iff.1 hk
  refine ⟨hlt, by simpa using hp, fun j hj => ?_⟩
  have := hn j _ hj (List.getElem?_eq_getElem (by omega))
  simpa using this
theorem first_none {l : List Hand} {s : ByteArray} (hn : NoneTo l s l.length) : first l s = none := by
  unfold first
  rw [List.findIdx?_eq_none_iff]
  intro h hh
  obtain ⟨j, hj⟩ := List.mem_iff_getElem?.1 hh
  have := hn j h (List.getElem?_eq_some_iff.1 hj).1 hj
  simpa using this
theorem NoneTo.next {l : List Hand} {s : ByteArray} {k : Nat} {h : Hand} (hn : NoneTo l s k) (hk : l[k]? = some h) (hp : h.place ≠ s) : NoneTo l s (k + 1) := fun j x hj hx => by
  rcases Nat.lt_or_ge j k with h' | h'
  · exact hn j x h' hx
  · obtain rfl : j = k := by omega
    obtain rfl := Option.some.inj (hk.symm.trans hx)
    exact hp
theorem Blk.one_ {w : World} {g : Nat} {t : TypeId} {a : Value} (h : Blk w g t #[a]) : w.cell? ⟨g, 0, none⟩ = some a := h.cell 0
set_option maxHeartbeats 1000000 in
theorem at1_any (h : Hand) (g : Nat) (s : ByteArray) (w : World) (hg : Blk w g 9 #[.string s]) :
    Calls Try.prog 55 #[.agg #[.string h.box, .string h.fr, .string h.to_, .string h.place, .int .i64 h.day], .pointer (some ⟨g, 0, none⟩)] w fun e w' => e = .returned (.bool (decide (h.place = s))) ∧ Below w.heap.size w w' := by
  have c0 := hg.one_
  have l0 := hg.lt
  obtain ⟨hx, hf, ht, hp, hd⟩ := h
  simp only
  have hb : Below w.heap.size w (w.alloc (.cells #[.string hx, .string hf, .string ht, .string hp, .int .i64 hd] 65)) := (Below.refl _ _).alloc (Nat.le_refl _) _
  by_cases e : hp = s
  · subst e
    have q := str_same hp
    rw [decide_eq_true rfl]
    go_enter Try.func55, Try.ntmps55
    go_wp2_with fail
    go_ret
    exact ⟨rfl, hb⟩
  · have q := str_ne e
    rw [decide_eq_false e]
    clear e
    go_enter Try.func55, Try.ntmps55
    go_wp2_with fail
    go_ret
    exact ⟨rfl, hb⟩
theorem at_any (s : ByteArray) (w : World) : Calls Try.prog 50 #[.string s] w fun e w' => e = .returned (.func (.func 55) #[] #[.pointer (some ⟨w.heap.size, 0, none⟩)]) ∧ Blk w' w.heap.size 9 #[.string s] ∧ Below w.heap.size w w' := by
  go_enter Try.func50, Try.ntmps50
  go_wp2_with fail
  go_ret
  exact ⟨rfl, Blk.new w 9 _, (Below.refl _ _).alloc (Nat.le_refl _) _⟩
theorem ret_i {a b : Int} (h : b = a) : Ending.returned (.int .i64 a) = .returned (.int .i64 b) := by rw [h]
def idxI (o : Option Nat) : Int := match o with | none => -1 | some k => k
set_option maxRecDepth 100000 in
set_option maxHeartbeats 2000000 in
theorem index_any (A : Option Addr) (n c : Nat) (l : List Hand) (g : Nat) (s : ByteArray) (w : World) (h : Hs w w.heap.size A n l) (hg : Blk w g 9 #[.string s]) :
    Calls Try.prog 49 #[.slice A n c, .func (.func 55) #[] #[.pointer (some ⟨g, 0, none⟩)]] w fun e w' => e = .returned (.int .i64 (idxI (first l s))) ∧ Below w.heap.size w w' := by
  have hm := h.2.1
  unfold maxLen at hm
  have H := Lib.hid h
  have HG := Lib.hid hg
  clear h hg
  go_enter Try.func49, Try.ntmps49
  go_wp2_with fail
  go_loopw [5, 8] (fun _ i v => ∃ k : Nat, k ≤ n ∧ i = .int .i64 k ∧ Hid (NoneTo l s k) ∧ Below w.heap.size w v) (fun _ i _ => n - (intOf i).toNat)
  case atStart => exact ⟨0, by omega, rfl, fun j x hj => by omega, Below.refl _ _⟩
  case round =>
    obtain ⟨k, hk, rfl, hn, hb⟩ := hrel
    by_cases hlt : k < n
    · obtain ⟨a, x, hA, hx, hab, x0, x1, x2, x3, x4⟩ := (H.out.below hb).at_ hlt
      subst hA
      have HX := Lib.hid hx
      have HB := Lib.hid hb
      have HG1 := Lib.hid (HG.out.below hb HG.out.lt)
      clear hx hb
      by_cases hp : x.place = s
      · have HF := Lib.hid (first_some HX.out hp hn.out)
        have HD := Lib.hid (decide_eq_true hp)
        clear hp
        go_wp2_with fail
        refine (at1_any x g s wr HG1.out).mono ?_
        rintro e w2 ⟨rfl, hb2⟩
        rw [HD.out]
        have HB2 := Lib.hid (below_trans HB.out hb2)
        clear hb2
        go_wp2_with fail
        go_ret
        exact ⟨ret_i (by rw [HF.out]; rfl), HB2.out⟩
      · have HN := Lib.hid (hn.out.next HX.out hp)
        have HD := Lib.hid (decide_eq_false hp)
        clear hp
        go_wp2_with fail
        refine (at1_any x g s wr HG1.out).mono ?_
        rintro e w2 ⟨rfl, hb2⟩
        rw [HD.out]
        have HB2 := Lib.hid (below_trans HB.out hb2)
        clear hb2
        go_wp2_with fail
        go_roundw
        case rel => exact ⟨k + 1, by omega, by go_num, HN.out, HB2.out⟩
        case measure => simp [intOf]; omega
    · obtain rfl : k = n := by omega
      have HF := Lib.hid (first_none (by rw [H.out.1]; exact hn.out))
      have HB := Lib.hid hb
      clear hb
      go_wp2_with fail
      go_ret
      exact ⟨ret_i (by rw [HF.out]; rfl), HB.out⟩
end Go.Proofs.Ytlmgkkdjjoimnaa
