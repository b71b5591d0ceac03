/- The walks of run, Used, Expires, Money. Condition: how the stretches lie. -/
import Derived.Test.YtlmnbdepklcfpaaTake
namespace Go.Proofs.Ytlmnbdepklcfpaa
open Go.RowKit
set_option linter.unusedVariables false
set_option linter.unusedSimpArgs false

theorem chain_take {a : Int} {l : List Str} (h : Chain a l) (k : Nat) : Chain a (l.take k) := by
  have := (chain_append a (l.take k) (l.drop k)).1 (by rw [List.take_append_drop]; exact h)
  exact this.1
theorem run_bd {F a : Int} {l : List Str} (h : Chain a l) (ha : 0 ≤ a) : 0 ≤ (Clk.run F l).used ∧ (Clk.run F l).used ≤ 2097152 := by
  obtain ⟨h1, h2, h3⟩ := chain_hours l a h
  rw [run_used h ha]
  have g1 := fold_le F (hours l) 0 fun x hx => (h1 x hx).1
  have g2 := fold_bd F (hours l) 0 fun x hx => (h1 x hx).2
  cases l with
  | nil => simp [hours, fold]
  | cons s l =>
    have hs := h.2.1
    have hf := h.1
    unfold Str.ok at hs
    have := chain_last (s :: l) a h ha (by omega)
    omega
theorem run_next {F : Int} {l : List Str} {k : Nat} {s : Str} (h : l[k]? = some s) : Clk.run F (l.take (k + 1)) = (Clk.run F (l.take k)).take F s := by
  unfold Clk.run
  rw [List.take_add_one, h]
  simp
set_option maxRecDepth 100000 in
set_option maxHeartbeats 2000000 in
theorem each_any (g : Nat) (F a : Int) (A : Option Addr) (n c : Nat) (l : List Str) (w : World) (B : Nat) (hB : B ≤ g) (h : Strs w B A n l) (hn : n ≤ maxLen) (hc : Chain a l) (ha : 0 ≤ a) (hF : 0 ≤ F) (hF2 : F ≤ 4194304) (hk : Ck w g F ⟨0, -1⟩) :
    Calls Try.prog 29 #[.slice A n c, .func (.func 33) #[.pointer (some ⟨g, 0, none⟩)] #[]] w fun e w' => e = .returned (.tuple #[]) ∧ Ticked g F (Clk.run F l) w w' := by
  have hm := hn
  unfold maxLen at hm
  have HK := Lib.hid hk
  have hg := hk.lt
  clear hk
  go_enter Try.func29, Try.ntmps29
  go_wp2_with fail
  go_loopw [5, 8] (fun _ i v => ∃ k : Nat, k ≤ n ∧ i = .int .i64 k ∧ Ck v g F (Clk.run F (l.take k)) ∧ Chg (· = g) w v) (fun _ i _ => n - (intOf i).toNat)
  case atStart => exact ⟨0, by omega, rfl, HK.out, Chg.refl _ _⟩
  case round =>
    obtain ⟨k, hk, rfl, hck, hch⟩ := hrel
    clear HK
    by_cases hlt : k < n
    · have hbel : Below B w wr := hch.below (by omega) fun x hx => by omega
      obtain ⟨a', s, hA, hs, hab, x0, x1, x2⟩ := (h.below hbel).at_ hlt
      subst hA
      have hok : Hid s.ok := (chain_get l a hc).1 k s hs
      have hbd := run_bd (F := F) (chain_take hc k) ha
      have hnx := Lib.hid (run_next (F := F) hs)
      have HC := Lib.hid (hck.alloc (.cells #[.int .i64 s.f, .int .i64 s.t, .int .i64 s.h] 44))
      have HCh := Lib.hid hch
      clear hs hck hch hbel
      go_wp2_with fail
      refine (take_any g F _ s hok.out _ HC.out hF hF2 hbd.1 (by omega)).mono ?_
      rintro e w2 ⟨rfl, hT, hC2⟩
      have HT := Lib.hid hT
      have HC2 := Lib.hid hC2
      clear hT hC2 hbd
      go_wp2_with fail
      go_roundw
      case rel => exact ⟨k + 1, by omega, by go_num, by rw [hnx.out]; exact HT.out, (HCh.out.alloc _).trans HC2.out⟩
      case measure => simp [intOf]; omega
    · obtain rfl : k = n := by omega
      have HC : Hid (Ck wr g F (Clk.run F l)) := by rw [List.take_of_length_le (by rw [h.1]; exact Nat.le_refl _)] at hck; exact hck
      have HCh := Lib.hid hch
      clear hck hch
      go_wp2_with fail
      go_end0
      exact ⟨rfl, HC.out, HCh.out⟩
theorem start_any (a b c : Int) (ha : 0 ≤ a) (ha2 : a ≤ 1048576) (w : World) : Calls Try.prog 32 #[layV a b c] w fun e w' => e = .returned (.pointer (some ⟨w.heap.size + 1, 0, none⟩)) ∧ Ck w' (w.heap.size + 1) (2 * a) ⟨0, -1⟩ ∧ Below w.heap.size w w' := by
  unfold layV
  go_enter Try.func32, Try.ntmps32
  go_wp2
  go_ret
  refine ⟨rfl, ?_, ((Below.refl _ _).alloc (Nat.le_refl _) _).alloc (by simp) _⟩
  have := Blk.new (w.alloc (.cells #[.int .i64 a, .int .i64 b, .int .i64 c] 23)) 54 #[.int .i64 (2 * a), .int .i64 0, .int .i64 (-1)]
  simpa [Ck] using this
/-- run's clock lies at a new block -/
def Ran (W w : World) (g : Nat) (F : Int) (k : Clk) : Prop := Ck w g F k ∧ Below W.heap.size W w
set_option maxHeartbeats 1000000 in
theorem run_any (a b c : Int) (ha : 0 ≤ a) (ha2 : a ≤ 1048576) (A : Option Addr) (n k : Nat) (l : List Str) (w : World) (h : Strs w w.heap.size A n l) (hn : n ≤ maxLen) (f : Int) (hc : Chain f l) (hf : 0 ≤ f) :
    Calls Try.prog 27 #[layV a b c, .slice A n k] w fun e w' => e = .returned (.pointer (some ⟨w.heap.size + 1 + 1, 0, none⟩)) ∧ Ran w w' (w.heap.size + 1 + 1) (2 * a) (Clk.run (2 * a) l) := by
  unfold layV
  have hb1 : Below w.heap.size w (w.alloc (.cells #[.int .i64 a, .int .i64 b, .int .i64 c] 23)) := (Below.refl _ _).alloc (Nat.le_refl _) _
  have HB1 := Lib.hid hb1
  clear hb1
  go_enter Try.func27, Try.ntmps27
  go_wp2_with fail
  refine (start_any a b c ha ha2 _).mono ?_
  rintro e w1 ⟨rfl, hck, hb⟩
  have hb01 := below_trans HB1.out hb
  simp only [World.size_alloc] at hck
  have hs1 := h.below hb01
  have HB := Lib.hid hb01
  have HK := Lib.hid hck
  clear hb hck hb01
  go_wp2_with fail
  refine (each_any (w.heap.size + 1 + 1) (2 * a) f A n k l w1 w.heap.size (by omega) hs1 hn hc hf (by omega) (by omega) HK.out).mono ?_
  rintro e w2 ⟨rfl, hT, hC⟩
  have HT := Lib.hid hT
  have HC := Lib.hid hC
  clear hT hC
  go_wp2_with fail
  go_ret
  exact ⟨rfl, HT.out, HB.out.trans (HC.out.below HB.out.size fun x hx => by omega)⟩
end Go.Proofs.Ytlmnbdepklcfpaa
