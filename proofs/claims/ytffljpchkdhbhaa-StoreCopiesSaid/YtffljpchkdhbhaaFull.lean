/- StoreFull's walk. No condition but that the numbers fit their kind. -/
import Derived.Test.YtffljpchkdhbhaaFuse
namespace Go.Proofs.Ytffljpchkdhbhaa
open Go.RowKit

theorem mk_zeros16 (n : Nat) (hn : n ≤ 100000) (W : World) : (Instr.makeSlice 36 (.int .u16 (n : Int)) (.int .u16 (n : Int))).run Try.prog W = .ok (.slice (some ⟨W.heap.size, 0, none⟩) n n) (W.alloc (.cells (zc n) 5)) := by
  obtain ⟨i0, hi, hz0, hz1, hz2⟩ := info_parts info5
  have h := run_make (P := Try.prog) W 36 5 i0 (.int .u8 0) Try.underlying36 hi hz0 .u16 .u16 n n (by omega) (Int.le_refl _) (by rw [hz2]; omega) (by omega)
  simp only [Int.toNat_natCast, hz1, Nat.mul_one] at h
  exact h
theorem tick_neg {σ : SS} (hf : σ.fuse = -1) : σ.tick = σ := if_neg (by omega)

set_option maxRecDepth 100000 in
set_option maxHeartbeats 2000000 in
theorem full_main (la ke sz : Nat) (h1 : la ≤ 65535) (h2 : ke ≤ 65535) (h3 : sz ≤ 65535) (w : World) :
    Calls Try.prog 4 #[.int .u16 la, .int .u16 ke, .int .u16 sz] w fun e w' => e = .returned (.bool true) ∧ Below w.heap.size w w' := by
  have hmk := mk_zeros16 sz (by omega)
  have hcv := cv_zeros sz
  have hzs := zs_size sz
  have code : ∃ c : Int, SS.wcode SS.new (zs sz) = c ∧ ((c == 0) == decide ((sz : Int) ≤ 4096)) = true := by
    by_cases h : sz ≤ 4096
    · refine ⟨0, (w_ok (σ := SS.new) rfl (by rw [hzs]; exact h) (by decide) (by decide)).1, ?_⟩
      have : (sz : Int) ≤ 4096 := by omega
      simp [this]
    · refine ⟨1, (w_big (σ := SS.new) rfl (by rw [hzs]; omega)).1, ?_⟩
      have : ¬ (sz : Int) ≤ 4096 := by omega
      simp [this]
  obtain ⟨cd, hcd, hq⟩ := code
  have HC := Lib.hid hcd
  clear hcd hzs
  go_enter Try.func4, Try.ntmps4
  go_wp2_with fail
  refine (awake_any w _ (Below.refl _ _)).mono ?_
  rintro e w1 ⟨rfl, hb⟩
  go_wp2_with fail
  refine (new_l hb).mono ?_
  rintro e w2 ⟨rfl, g2⟩
  go_wp2_with fail
  refine (write_l (g2.below ((Below.refl _ _).alloc (Nat.le_refl _) _)) (zs sz)).mono ?_
  rintro e w3 ⟨rfl, g3⟩
  rw [HC.out]
  go_wp2_with fail
  refine (new_l g3.1).mono ?_
  rintro e w4 ⟨rfl, g4⟩
  clear hmk hcv hq g2
  go_wp2_with fail
  go_loopw [8] (fun i wr => ∃ (k : Nat) (σ : SS), k ≤ 4096 ∧ i = .int .i64 k ∧ Live w wr w3.heap.size σ ∧ σ.down = false ∧ σ.fuse = -1 ∧ σ.l.length = k) (fun i _ => 4096 - (intOf i).toNat)
  case atStart => exact ⟨0, _, by omega, rfl, g4, rfl, rfl, rfl⟩
  case round =>
    obtain ⟨k, σ, hk, rfl, hL, hd, hfu, hll⟩ := hrel
    clear g4 g3
    by_cases hlt : k < 4096
    · have Ok := Lib.hid (w_ok (σ := σ) (s := ⟨#[]⟩) hd (by decide) (by omega) (by omega))
      have Tk := Lib.hid (tick_neg hfu)
      have Sok := Lib.hid (s_ok (σ := { σ with l := σ.l ++ [⟨#[]⟩] }) hd (by simp only; omega))
      have Tk2 := Lib.hid (tick_neg (σ := { σ with l := σ.l ++ [⟨#[]⟩] }) hfu)
      have Hd := Lib.hid hd
      have Hf := Lib.hid hfu
      have Hl : Hid ((σ.l ++ [(⟨#[]⟩ : ByteArray)]).length = k + 1) := by show (σ.l ++ [(⟨#[]⟩ : ByteArray)]).length = k + 1; rw [List.length_append, hll]; rfl
      clear hd hfu hll
      by_cases hkl : k = la
      · have q : ((k : Int) == (la : Int)) = true := by simp; omega
        clear hkl
        go_wp2_with (first | (go_at_call 12; refine (write_l hL _).mono ?_; rintro e w5 ⟨rfl, hx⟩; rw [Ok.out.1]; rw [Ok.out.2, Tk.out] at hx) | (go_at_call 13; refine (sync_l hx).mono ?_; rintro e w6 ⟨rfl, hy⟩; rw [Sok.out.1]; rw [Sok.out.2, Tk2.out] at hy))
        go_roundw
        case rel => exact ⟨k + 1, _, by omega, by go_num, hy, Hd.out, Hf.out, Hl.out⟩
        case measure => simp [intOf]; omega
      · have q : ((k : Int) == (la : Int)) = false := by simp; omega
        clear hkl
        go_wp2_with (go_at_call 12; refine (write_l hL _).mono ?_; rintro e w5 ⟨rfl, hx⟩; rw [Ok.out.1]; rw [Ok.out.2, Tk.out] at hx)
        go_roundw
        case rel => exact ⟨k + 1, _, by omega, by go_num, hx, Hd.out, Hf.out, Hl.out⟩
        case measure => simp [intOf]; omega
    · obtain rfl : k = 4096 := by omega
      have Fu := Lib.hid (w_full (σ := σ) (s := ⟨#[]⟩) hd (by decide) hll)
      have Sok := Lib.hid (s_ok (σ := σ) hd (by omega))
      have Tk := Lib.hid (tick_neg hfu)
      have Hl : Hid ((σ.l.length : Int) = 4096) := by show (σ.l.length : Int) = 4096; omega
      have Cr : Hid ((SS.crash { σ with last := σ.l.length } ke).l.length = 4096) := by
        show ((σ.l.take (SS.keep { σ with last := σ.l.length } ke)).length = 4096)
        have : SS.keep { σ with last := σ.l.length } ke = 4096 := by
          unfold SS.keep
          simp only [hll]
          omega
        rw [this, List.length_take, hll]
        rfl
      have Fu2 := Lib.hid (w_full (σ := SS.crash { σ with last := σ.l.length } ke) (s := ⟨#[120]⟩) rfl (by decide) Cr.out)
      clear hd hfu hll hlt
      go_wp2_with fail
      refine (write_l hL _).mono ?_
      rintro e w5 ⟨rfl, hx⟩
      rw [Fu.out.1]
      rw [Fu.out.2] at hx
      go_wp2_with fail
      refine (len_l hx).mono ?_
      rintro e w6 ⟨rfl, rfl⟩
      rw [Hl.out]
      go_wp2_with fail
      refine (sync_l hx).mono ?_
      rintro e w6 ⟨rfl, hy⟩
      rw [Sok.out.1]
      rw [Sok.out.2, Tk.out] at hy
      go_wp2_with fail
      refine (crash_l hy _).mono ?_
      rintro e w7 ⟨rfl, hz⟩
      go_wp2_with fail
      refine (len_l hz).mono ?_
      rintro e w8 ⟨rfl, rfl⟩
      rw [show ((SS.crash { σ with last := σ.l.length } ke).l.length : Int) = 4096 by rw [Cr.out]; rfl]
      go_wp2_with fail
      refine (write_l hz _).mono ?_
      rintro e w9 ⟨rfl, hu⟩
      rw [Fu2.out.1]
      go_wp2
      go_ret
      exact ⟨rfl, hu.1⟩
theorem full_any (la ke sz : Int) (h1 : 0 ≤ la ∧ la ≤ 65535) (h2 : 0 ≤ ke ∧ ke ≤ 65535) (h3 : 0 ≤ sz ∧ sz ≤ 65535) (w : World) :
    Calls Try.prog 4 #[.int .u16 la, .int .u16 ke, .int .u16 sz] w fun e w' => e = .returned (.bool true) ∧ Below w.heap.size w w' := by
  obtain ⟨a, rfl⟩ := Int.eq_ofNat_of_zero_le h1.1
  obtain ⟨b, rfl⟩ := Int.eq_ofNat_of_zero_le h2.1
  obtain ⟨c, rfl⟩ := Int.eq_ofNat_of_zero_le h3.1
  exact full_main a b c (by omega) (by omega) (by omega) w
end Go.Proofs.Ytffljpchkdhbhaa
