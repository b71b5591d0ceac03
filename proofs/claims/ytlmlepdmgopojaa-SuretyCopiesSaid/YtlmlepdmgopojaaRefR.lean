/- The reference's readers: Asked, Left, Expired, right, open. Condition: how its two slices lie. -/
import Derived.Test.YtlmlepdmgopojaaDo
namespace Go.Proofs.Ytlmlepdmgopojaa
open Go.RowKit
set_option linter.unusedVariables false
set_option linter.unusedSimpArgs false
def Sur.rcells (s : Sur) (D : Option Addr) (d : Nat) (C : Option Addr) (c : Nat) : Array Value :=
  #[.string s.b.num, .string s.b.gua, .string s.b.for_, .string s.b.to_, .string s.b.cur, .int .i64 s.b.amt, .int .i64 s.b.exp, .int .i64 s.exp, .slice D s.dem.length d, .slice C s.cuts.length c]
def refV (s : Sur) (D : Option Addr) (d : Nat) (C : Option Addr) (c : Nat) : Value := .agg (s.rcells D d C c)
/-- a surety of the reference: its two slices -/
structure RefAt (w : World) (s : Sur) (D C : Option Addr) : Prop where
  rd : DemR w D s.dem
  rc : CutR w C s.cuts
theorem RefAt.up {w w' : World} {s : Sur} {D C : Option Addr} (h : RefAt w s D C) (hb : Below w.heap.size w w') : RefAt w' s D C := ⟨h.rd.up hb, h.rc.up hb⟩
section
variable (s : Sur) (d c : Nat) (D C : Option Addr) (w : World) (h : RefAt w s D C) {K : Nat} (ok : s.ok K) (hK : K ≤ 4096)
include h ok hK
set_option maxRecDepth 100000 in
set_option maxHeartbeats 2000000 in
theorem rasked_any : Calls Try.prog 66 #[refV s D d C c] w fun e w' => e = .returned (.int .i64 (asked s.dem)) ∧ Below w.heap.size w w' := by
  have HB := Lib.hid (show Below w.heap.size w (w.alloc (.cells (s.rcells D d C c) 52)) from (Below.refl _ _).alloc (Nat.le_refl _) _)
  have hd := h.rd
  have len : s.dem.length ≤ 4096 := by have := ok.dl; omega
  have OK := Lib.hid ok.dok
  have hd1 := hd.up HB.out
  unfold refV
  unfold Sur.rcells at HB hd1 ⊢
  generalize s.dem = l at *
  have HD1 := Lib.hid hd1
  clear h ok hd hd1
  go_enter Try.func66, Try.ntmps66
  go_wp2_with fail
  go_loopw [3, 4] (fun n i v => ∃ (k : Nat) (m : Int), k ≤ l.length ∧ n = .int .i64 m ∧ i = .int .i64 k ∧ Hid (m = asked (l.take k)) ∧ (w.alloc (.cells #[.string s.b.num, .string s.b.gua, .string s.b.for_, .string s.b.to_, .string s.b.cur, .int .i64 s.b.amt, .int .i64 s.b.exp, .int .i64 s.exp, .slice D l.length d, .slice C s.cuts.length c] 52)) = v) (fun _ i _ => l.length - (intOf i).toNat)
  case atStart => exact ⟨0, 0, Nat.zero_le _, rfl, rfl, Lib.hid rfl, rfl⟩
  case round =>
    obtain ⟨k, m, hk, rfl, rfl, hm, rfl⟩ := hrel
    have bm : 0 ≤ m ∧ m ≤ 4503599627370496 := by rw [hm.out]; exact asked_bnd OK.out len k
    by_cases hlt : k < l.length
    · obtain ⟨a, x, rfl, hx, hblk, c0, c1, c2⟩ := HD1.out.at_ hlt
      have bx := (OK.out x (List.mem_of_getElem? hx)).1
      have HE := Lib.hid (asked_take hx)
      have HX := Lib.hid hx
      clear hx
      by_cases h2 : x.st = 2
      · rw [h2] at c2
        have H2 := Lib.hid h2
        clear h2
        go_wp2_with fail
        go_roundw
        case rel => exact ⟨k + 1, m, by omega, rfl, by go_num, Lib.hid (by rw [HE.out, ← hm.out, if_pos H2.out]; omega), trivial⟩
        case measure => simp [intOf]; omega
      · have h2' : (x.st != 2) = true := by simpa using h2
        have H2 := Lib.hid h2
        clear h2
        go_wp2_with fail
        go_roundw
        case rel => exact ⟨k + 1, m + x.amt, by omega, rfl, by go_num, Lib.hid (by rw [HE.out, ← hm.out, if_neg H2.out]), trivial⟩
        case measure => simp [intOf]; omega
    · have hge : (l.length : Int) ≤ k := by omega
      have hge' : l.length ≤ k := by omega
      rw [List.take_of_length_le (by omega)] at hm
      clear hlt
      go_wp2_with fail
      go_ret
      exact ⟨ret_int hm.out, HB.out⟩
set_option maxRecDepth 100000 in
set_option maxHeartbeats 2000000 in
theorem rexpired_any (day : Int) : Calls Try.prog 49 #[refV s D d C c, .int .i64 day] w fun e w' => e = .returned (.bool (s.expired day)) ∧ Below w.heap.size w w' := by
  have HB := Lib.hid (show Below w.heap.size w (w.alloc (.cells (s.rcells D d C c) 52)) from (Below.refl _ _).alloc (Nat.le_refl _) _)
  have hd := h.rd
  have len : s.dem.length ≤ 4096 := by have := ok.dl; omega
  have hd1 := hd.up HB.out
  unfold refV Sur.expired
  unfold Sur.rcells at HB hd1 ⊢
  generalize s.dem = l at *
  have HD1 := Lib.hid hd1
  clear h ok hd hd1
  go_enter Try.func49, Try.ntmps49
  go_wp2_with fail
  go_loopw [5] (fun i v => ∃ (k : Nat), k ≤ l.length ∧ i = .int .i64 k ∧ Hid (∀ x ∈ l.take k, x.st ≠ 0) ∧ (w.alloc (.cells #[.string s.b.num, .string s.b.gua, .string s.b.for_, .string s.b.to_, .string s.b.cur, .int .i64 s.b.amt, .int .i64 s.b.exp, .int .i64 s.exp, .slice D l.length d, .slice C s.cuts.length c] 52)) = v) (fun i _ => l.length - (intOf i).toNat)
  case atStart => exact ⟨0, Nat.zero_le _, rfl, fun x hx => by simp at hx, rfl⟩
  case round =>
    obtain ⟨k, hk, rfl, hz, rfl⟩ := hrel
    by_cases hlt : k < l.length
    · obtain ⟨a, x, rfl, hx, hblk, c0, c1, c2⟩ := HD1.out.at_ hlt
      have HX := Lib.hid hx
      clear hx
      by_cases h0 : x.st = 0
      · have HN : Hid ((l.all fun d => decide (d.st ≠ 0)) = false) := by
          show _ = false
          rw [List.all_eq_false]
          exact ⟨x, List.mem_of_getElem? HX.out, by simp [h0]⟩
        rw [h0] at c2
        clear h0
        go_wp2_with fail
        go_ret
        exact ⟨ret_bool (by rw [HN.out, Bool.and_false]), HB.out⟩
      · have h0' : (x.st == 0) = false := by simpa using h0
        have H0 := Lib.hid h0
        clear h0
        go_wp2_with fail
        go_roundw
        case rel =>
          refine ⟨k + 1, by omega, by go_num, ?_, trivial⟩
          intro y hy
          rw [List.take_add_one, HX.out] at hy
          simp only [Option.toList_some, List.mem_append, List.mem_singleton] at hy
          rcases hy with hy | rfl
          · exact hz.out y hy
          · exact H0.out
        case measure => simp [intOf]; omega
    · have hge : (l.length : Int) ≤ k := by omega
      have hge' : l.length ≤ k := by omega
      rw [List.take_of_length_le (by omega)] at hz
      have HN : Hid ((l.all fun d => decide (d.st ≠ 0)) = true) := by
        show _ = true
        rw [List.all_eq_true]
        exact fun x hx => by simpa using hz.out x hx
      clear hlt hz
      go_wp2_with fail
      go_ret
      exact ⟨ret_bool (by rw [HN.out, Bool.and_true]), HB.out⟩
set_option maxRecDepth 100000 in
set_option maxHeartbeats 4000000 in
theorem rleft_any (day : Int) : Calls Try.prog 48 #[refV s D d C c, .int .i64 day] w fun e w' => e = .returned (.int .i64 (s.left day)) ∧ Below w.heap.size w w' := by
  have HB := Lib.hid (show Below w.heap.size w (w.alloc (.cells (s.rcells D d C c) 52)) from (Below.refl _ _).alloc (Nat.le_refl _) _)
  have RA := Lib.hid fun v (hv : Below w.heap.size w v) => rasked_any s d c D C v (h.up hv) ok hK
  obtain ⟨b1, b2⟩ := left_bnd ok hK day
  have ba := ok.amt
  have hc := h.rc
  have len : s.cuts.length ≤ 4096 := by have := ok.cl; omega
  have OK := Lib.hid ok.cok
  have e : s.left day = max (s.b.amt - cutTo day s.cuts - asked s.dem) 0 := rfl
  rw [e]
  generalize asked s.dem = n at *
  generalize hct : cutTo day s.cuts = M at *
  have HCT := Lib.hid hct
  unfold refV at RA ⊢
  have HC := Lib.hid hc
  have S0 : ∀ v, Blk v w.heap.size 52 (s.rcells D d C c) → v.cell? ⟨w.heap.size, 0, none⟩ = some (.string s.b.num) ∧ v.cell? ⟨w.heap.size, 1, none⟩ = some (.string s.b.gua) ∧ v.cell? ⟨w.heap.size, 2, none⟩ = some (.string s.b.for_) ∧ v.cell? ⟨w.heap.size, 3, none⟩ = some (.string s.b.to_) ∧ v.cell? ⟨w.heap.size, 4, none⟩ = some (.string s.b.cur) ∧ v.cell? ⟨w.heap.size, 5, none⟩ = some (.int .i64 s.b.amt) ∧ v.cell? ⟨w.heap.size, 6, none⟩ = some (.int .i64 s.b.exp) ∧ v.cell? ⟨w.heap.size, 7, none⟩ = some (.int .i64 s.exp) ∧ v.cell? ⟨w.heap.size, 8, none⟩ = some (.slice D s.dem.length d) ∧ v.cell? ⟨w.heap.size, 9, none⟩ = some (.slice C s.cuts.length c) :=
    fun v hv => ⟨hv.cell 0, hv.cell 1, hv.cell 2, hv.cell 3, hv.cell 4, hv.cell 5, hv.cell 6, hv.cell 7, hv.cell 8, hv.cell 9⟩
  have HS0 := Lib.hid S0
  have BX0 := Lib.hid (Blk.new w 52 (s.rcells D d C c))
  unfold Sur.rcells at HB RA BX0 HS0 ⊢
  clear h ok hc e S0 hct
  go_enter Try.func48, Try.ntmps48
  go_wp2_with fail
  obtain ⟨w1, hw1⟩ : ∃ w1, w1 = w.alloc (.cells #[.string s.b.num, .string s.b.gua, .string s.b.for_, .string s.b.to_, .string s.b.cur, .int .i64 s.b.amt, .int .i64 s.b.exp, .int .i64 s.exp, .slice D s.dem.length d, .slice C s.cuts.length c] 52) := ⟨_, rfl⟩
  rw [← hw1] at HB BX0 ⊢
  have B0 : Hid (Below w.heap.size w w1.drew) := HB.out.drew
  have BXd : Hid (Blk w1.drew w.heap.size 52 #[.string s.b.num, .string s.b.gua, .string s.b.for_, .string s.b.to_, .string s.b.cur, .int .i64 s.b.amt, .int .i64 s.b.exp, .int .i64 s.exp, .slice D s.dem.length d, .slice C s.cuts.length c]) := BX0.out.drew
  obtain ⟨q0, q1, q2, q3, q4, q5, q6, q7, q8, q9⟩ := HS0.out _ BX0.out
  have W0 : IntKind.i64.wrap (s.b.amt - n) = s.b.amt - n := IntWalk.i64_in _ (by omega)
  clear hw1
  go_region_held3 (fun v => v.cell? ⟨w.heap.size, 0, none⟩ = some (.string s.b.num) ∧ v.cell? ⟨w.heap.size, 1, none⟩ = some (.string s.b.gua) ∧ v.cell? ⟨w.heap.size, 2, none⟩ = some (.string s.b.for_) ∧ v.cell? ⟨w.heap.size, 3, none⟩ = some (.string s.b.to_) ∧ v.cell? ⟨w.heap.size, 4, none⟩ = some (.string s.b.cur) ∧ v.cell? ⟨w.heap.size, 5, none⟩ = some (.int .i64 s.b.amt) ∧ v.cell? ⟨w.heap.size, 6, none⟩ = some (.int .i64 s.b.exp) ∧ v.cell? ⟨w.heap.size, 7, none⟩ = some (.int .i64 s.exp) ∧ v.cell? ⟨w.heap.size, 8, none⟩ = some (.slice D s.dem.length d) ∧ v.cell? ⟨w.heap.size, 9, none⟩ = some (.slice C s.cuts.length c)) (go_keep) (first | (go_at_call 66; refine (RA.out _ B0.out).mono ?_; rintro e v66 ⟨rfl, hb66⟩; have B66 : Hid (Below w.heap.size w v66) := below_trans B0.out hb66; have BX66 := Lib.hid (BXd.out.below hb66 BXd.out.lt); obtain ⟨r0, r1, r2, r3, r4, r5, r6, r7, r8, r9⟩ := HS0.out _ BX66.out; clear hb66))
  all_goals
    have hc1 : CutR v66 C s.cuts := HC.out.up B66.out
    have HC1 := Lib.hid hc1
    clear hc1 q0 q1 q2 q3 q4 q5 q6 q7 q8 q9
    generalize s.cuts = l at *
    go_wp2_with fail
    go_loopw [5, 6] (fun nn i v => ∃ (k : Nat) (m : Int), k ≤ l.length ∧ nn = .int .i64 (s.b.amt - n - m) ∧ i = .int .i64 k ∧ Hid (m = cutTo day (l.take k)) ∧ v66 = v) (fun _ i _ => l.length - (intOf i).toNat)
    case atStart => exact ⟨0, 0, Nat.zero_le _, by rw [Int.sub_zero], rfl, Lib.hid rfl, rfl⟩
    case round =>
      obtain ⟨k, m, hk, rfl, rfl, hm, rfl⟩ := hrel
      have bm : 0 ≤ m ∧ m ≤ 4503599627370496 := by rw [hm.out]; exact cutTo_bnd OK.out len day k
      by_cases hlt : k < l.length
      · obtain ⟨a, x, rfl, hx, hblk, c0, c1⟩ := HC1.out.at_ hlt
        have bx := (OK.out x (List.mem_of_getElem? hx)).1
        have HE := Lib.hid (cutTo_take day hx)
        clear hx
        by_cases h2 : x.day ≤ day
        · have H2 := Lib.hid h2
          have WW : s.b.amt - n - m - x.amt = s.b.amt - n - (m + x.amt) := by omega
          have WX : IntKind.i64.wrap (s.b.amt - n - m - x.amt) = s.b.amt - n - (m + x.amt) := by rw [WW]; exact IntWalk.i64_in _ (by omega)
          have HWW := Lib.hid WW
          clear WW
          go_wp2_with fail
          go_roundw
          case rel => exact ⟨k + 1, m + x.amt, by omega, by first | rfl | rw [HWW.out], by go_num, Lib.hid (by rw [HE.out, ← hm.out, if_pos H2.out]), trivial⟩
          case measure => simp [intOf]; omega
        · have h2' : day < x.day := by omega
          have H2 := Lib.hid h2
          clear h2
          go_wp2_with fail
          go_roundw
          case rel => exact ⟨k + 1, m, by omega, rfl, by go_num, Lib.hid (by rw [HE.out, ← hm.out, if_neg H2.out]; omega), trivial⟩
          case measure => simp [intOf]; omega
      · have hge : (l.length : Int) ≤ k := by omega
        have hge' : l.length ≤ k := by omega
        rw [List.take_of_length_le (by omega)] at hm
        clear hlt
        by_cases hneg : s.b.amt - n - m < 0
        · go_wp2_with fail
          go_ret
          exact ⟨ret_int (by have := hm.out; have := HCT.out; omega), B66.out⟩
        · have hneg' : 0 ≤ s.b.amt - n - m := by omega
          clear hneg
          go_wp2_with fail
          go_ret
          exact ⟨ret_int (by have := hm.out; have := HCT.out; omega), B66.out⟩
set_option maxRecDepth 100000 in
set_option maxHeartbeats 2000000 in
theorem ropen_any (n : Int) : Calls Try.prog 64 #[refV s D d C c, .int .i64 n] w fun e w' => e = .returned (.int .i64 (s.open_ n)) ∧ Below w.heap.size w w' := by
  have HB := Lib.hid (show Below w.heap.size w (w.alloc (.cells (s.rcells D d C c) 52)) from (Below.refl _ _).alloc (Nat.le_refl _) _)
  have hd1 := h.rd.up HB.out
  have len : s.dem.length ≤ 4096 := by have := ok.dl; omega
  have HD1 := Lib.hid hd1
  unfold refV
  unfold Sur.rcells at HB HD1 ⊢
  by_cases h0 : n < 0
  · rw [show s.open_ n = 4 by unfold Sur.open_; rw [if_pos (Or.inl h0)]]
    clear h ok hd1
    go_enter Try.func64, Try.ntmps64
    go_wp2_with fail
    go_ret
    exact ⟨rfl, HB.out⟩
  by_cases h1 : (s.dem.length : Int) ≤ n
  · rw [show s.open_ n = 4 by unfold Sur.open_; rw [if_pos (Or.inr h1)]]
    have h0' : 0 ≤ n := by omega
    clear h ok hd1 h0
    go_enter Try.func64, Try.ntmps64
    go_wp2_with fail
    go_ret
    exact ⟨rfl, HB.out⟩
  obtain ⟨k, rfl⟩ := Int.eq_ofNat_of_zero_le (show 0 ≤ n by omega)
  have hk : k < s.dem.length := by omega
  have hkI : (k : Int) < s.dem.length := by omega
  obtain ⟨a, x, rfl, hx, hblk, c0, c1, c2⟩ := HD1.out.at_ hk
  rw [open_in hx]
  generalize s.dem.length = len at *
  by_cases h2 : x.st = 0
  · rw [if_pos h2]
    rw [h2] at c2
    clear h ok hd1 h0 h1 hx h2 HD1
    go_enter Try.func64, Try.ntmps64
    go_wp2_with fail
    go_ret
    exact ⟨rfl, HB.out⟩
  · rw [if_neg h2]
    have h2' : (x.st != 0) = true := by simpa using h2
    clear h ok hd1 h0 h1 hx h2 HD1
    go_enter Try.func64, Try.ntmps64
    go_wp2_with fail
    go_ret
    exact ⟨rfl, HB.out⟩
end
theorem rright_any (sum day : Int) (w : World) : Calls Try.prog 63 #[.int .i64 sum, .int .i64 day] w fun e w' => e = .returned (.bool (right sum day)) ∧ w = w' := by
  have no : ∀ {p : Prop}, p → (p → right sum day = false) → right sum day = false := fun h f => f h
  by_cases h0 : 1 ≤ sum
  rotate_left
  · rw [show right sum day = false by unfold right; simp; omega]
    have h0' : sum < 1 := by omega
    go_enter Try.func63, Try.ntmps63
    go_wp2
    go_ret
    exact ⟨rfl, rfl⟩
  by_cases h1 : sum ≤ 1099511627776
  rotate_left
  · rw [show right sum day = false by unfold right; simp; omega]
    have h1' : 1099511627776 < sum := by omega
    go_enter Try.func63, Try.ntmps63
    go_wp2
    go_ret
    exact ⟨rfl, rfl⟩
  by_cases h2 : 0 ≤ day
  rotate_left
  · rw [show right sum day = false by unfold right; simp; omega]
    have h2' : day < 0 := by omega
    go_enter Try.func63, Try.ntmps63
    go_wp2
    go_ret
    exact ⟨rfl, rfl⟩
  by_cases h3 : day ≤ 1048576
  · rw [show right sum day = true by unfold right; simp; omega]
    go_enter Try.func63, Try.ntmps63
    go_wp2
    go_ret
    exact ⟨rfl, rfl⟩
  · rw [show right sum day = false by unfold right; simp; omega]
    have h3' : 1048576 < day := by omega
    go_enter Try.func63, Try.ntmps63
    go_wp2
    go_ret
    exact ⟨rfl, rfl⟩
end Go.Proofs.Ytlmlepdmgopojaa
