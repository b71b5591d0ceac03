/- A store in a law's own memory: each method's contract, as the laws take them; the laws' own example. Condition: that the store lies there ('Live'). -/
import Derived.Test.YtffljpchkdhbhaaCrash
namespace Go.Proofs.Ytffljpchkdhbhaa
open Go.RowKit

/-- behind W nothing that was there has turned, and block g is a store that stands so -/
def Live (W w : World) (g : Nat) (σ : SS) : Prop := Below W.heap.size W w ∧ σ.ok ∧ ∃ A, St w W.heap.size g A σ
theorem Live.go {W w w' : World} {g : Nat} {σ σ' : SS} {A : Option Addr} (hb : Below W.heap.size W w) (hSt : St w W.heap.size g A σ) (hok : σ'.ok) (h : Wrote W.heap.size g A σ' w w') : Live W w' g σ' := by
  obtain ⟨A', h1, h2, h3⟩ := h
  exact ⟨hb.trans (h2.below hb.size hSt.le), hok, A', h1⟩
theorem Live.below {W w w' : World} {g : Nat} {σ : SS} (h : Live W w g σ) (hb : Below w.heap.size w w') : Live W w' g σ := by
  obtain ⟨h1, h2, A, h3⟩ := h
  exact ⟨below_trans h1 hb, h2, A, h3.below hb⟩

section
variable {W w : World} {g : Nat} {σ : SS} (hL : Live W w g σ)
include hL
theorem write_l (s : ByteArray) : Calls Try.prog 12 #[.pointer (some ⟨g, 0, none⟩), .string s] w fun e w' => e = .returned (.int .i64 (σ.wcode s)) ∧ Live W w' g (σ.write s) := by
  obtain ⟨hb, hok, A, hSt⟩ := hL
  exact (write_any g σ hok A w _ hSt hb.size s).mono fun _ _ ⟨he, h⟩ => ⟨he, Live.go hb hSt (write_ok hok s) h⟩
theorem sync_l : Calls Try.prog 13 #[.pointer (some ⟨g, 0, none⟩)] w fun e w' => e = .returned (.int .i64 σ.scode) ∧ Live W w' g σ.sync := by
  obtain ⟨hb, hok, A, hSt⟩ := hL
  exact (sync_any g σ hok A w _ hSt).mono fun _ _ ⟨he, h⟩ => ⟨he, Live.go hb hSt (sync_ok hok) h⟩
theorem crash_l (k : Int) : Calls Try.prog 15 #[.pointer (some ⟨g, 0, none⟩), .int .i64 k] w fun e w' => e = .returned (.tuple #[]) ∧ Live W w' g (σ.crash k) := by
  obtain ⟨hb, hok, A, hSt⟩ := hL
  exact (crash_all g σ hok A w _ hSt k).mono fun _ _ ⟨he, h⟩ => ⟨he, Live.go hb hSt (crash_ok hok k) h⟩
theorem arm_l (n : Int) (hn : n ≤ 9223372036854775807) : Calls Try.prog 22 #[.pointer (some ⟨g, 0, none⟩), .int .i64 n] w fun e w' => e = .returned (.tuple #[]) ∧ Live W w' g (σ.arm n) := by
  obtain ⟨hb, hok, A, hSt⟩ := hL
  exact (arm_any g σ A w _ hSt n).mono fun _ _ ⟨he, h⟩ => ⟨he, Live.go hb hSt (arm_ok hok n hn) h⟩
theorem len_l : Calls Try.prog 16 #[.pointer (some ⟨g, 0, none⟩)] w fun e w' => e = .returned (.int .i64 σ.l.length) ∧ w = w' := by
  obtain ⟨hb, hok, A, hSt⟩ := hL
  exact len_any g σ A w _ hSt
theorem lasting_l : Calls Try.prog 14 #[.pointer (some ⟨g, 0, none⟩)] w fun e w' => e = .returned (.int .i64 σ.last) ∧ w = w' := by
  obtain ⟨hb, hok, A, hSt⟩ := hL
  exact lasting_any g σ A w _ hSt
theorem down_l : Calls Try.prog 23 #[.pointer (some ⟨g, 0, none⟩)] w fun e w' => e = .returned (.bool σ.down) ∧ w = w' := by
  obtain ⟨hb, hok, A, hSt⟩ := hL
  exact down_any g σ A w _ hSt
theorem read_l (i : Int) : Calls Try.prog 17 #[.pointer (some ⟨g, 0, none⟩), .int .i64 i] w fun e w' => e = .returned (σ.read i) ∧ w = w' := by
  obtain ⟨hb, hok, A, hSt⟩ := hL
  exact read_any g σ A w _ hSt i
end
theorem new_l {W w : World} (hW : Below W.heap.size W w) : Calls Try.prog 11 #[] w fun e w' => e = .returned (.pointer (some ⟨w.heap.size, 0, none⟩)) ∧ Live W w' w.heap.size SS.new :=
  (new_any w W.heap.size hW.size).mono fun _ _ ⟨he, h1, h2, _⟩ => ⟨he, below_trans hW h2, new_ok, none, h1⟩

/-- how the example's store stands in the end -/
def exS : SS := ((((SS.new.write ⟨#[97]⟩).sync).write ⟨#[98]⟩).write ⟨#[99]⟩).crash 1
set_option maxRecDepth 100000 in
set_option maxHeartbeats 1000000 in
theorem awake_any (W w : World) (hW : Below W.heap.size W w) : Calls Try.prog 10 #[] w fun e w' => e = .returned (.bool true) ∧ Below W.heap.size W w' := by
  have c1 : SS.wcode SS.new ⟨#[97]⟩ = 0 := by decide
  have c2 : SS.scode (SS.new.write ⟨#[97]⟩) = 0 := by decide
  have c3 : SS.wcode (SS.new.write ⟨#[97]⟩).sync ⟨#[98]⟩ = 0 := by decide
  have c4 : SS.wcode ((SS.new.write ⟨#[97]⟩).sync.write ⟨#[98]⟩) ⟨#[99]⟩ = 0 := by decide
  have c5 : SS.read exS 1 = .tuple #[.string ⟨#[98]⟩, .int .i64 0] := by kernel_rfl
  have c6 : (exS.l.length : Int) = 2 := by decide
  have c7 : exS.last = 2 := by decide
  have C1 := Lib.hid c1
  have C2 := Lib.hid c2
  have C3 := Lib.hid c3
  have C4 := Lib.hid c4
  have C5 := Lib.hid c5
  have C6 := Lib.hid c6
  have C7 := Lib.hid c7
  clear c1 c2 c3 c4 c5 c6 c7
  go_enter Try.func10, Try.ntmps10
  go_wp2_with fail
  refine (new_l hW).mono ?_
  rintro e w1 ⟨rfl, h1⟩
  go_wp2_with fail
  refine (write_l h1 _).mono ?_
  rintro e w2 ⟨rfl, h2⟩
  rw [C1.out]
  go_wp2_with fail
  refine (sync_l h2).mono ?_
  rintro e w3 ⟨rfl, h3⟩
  rw [C2.out]
  go_wp2_with fail
  refine (write_l h3 _).mono ?_
  rintro e w4 ⟨rfl, h4⟩
  rw [C3.out]
  go_wp2_with fail
  refine (write_l h4 _).mono ?_
  rintro e w5 ⟨rfl, h5⟩
  rw [C4.out]
  go_wp2_with fail
  refine (crash_l h5 1).mono ?_
  rintro e w6 ⟨rfl, h6⟩
  go_wp2_with fail
  refine (read_l h6 1).mono ?_
  rintro e w7 ⟨rfl, rfl⟩
  rw [show (((((SS.new.write ⟨#[97]⟩).sync).write ⟨#[98]⟩).write ⟨#[99]⟩).crash 1).read 1 = .tuple #[.string ⟨#[98]⟩, .int .i64 0] from C5.out]
  go_wp2_with fail
  refine (len_l h6).mono ?_
  rintro e w7 ⟨rfl, rfl⟩
  rw [show ((((((SS.new.write ⟨#[97]⟩).sync).write ⟨#[98]⟩).write ⟨#[99]⟩).crash 1).l.length : Int) = 2 from C6.out]
  go_wp2_with fail
  refine (lasting_l h6).mono ?_
  rintro e w7 ⟨rfl, rfl⟩
  rw [show (((((SS.new.write ⟨#[97]⟩).sync).write ⟨#[98]⟩).write ⟨#[99]⟩).crash 1).last = 2 from C7.out]
  go_wp2
  go_ret
  exact ⟨rfl, h6.1⟩
end Go.Proofs.Ytffljpchkdhbhaa
