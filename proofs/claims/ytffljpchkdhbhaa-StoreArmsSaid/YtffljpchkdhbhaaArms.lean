/- StoreArms's walk. No condition but that the numbers fit their kinds. -/
import Derived.Test.YtffljpchkdhbhaaFull
namespace Go.Proofs.Ytffljpchkdhbhaa
open Go.RowKit

theorem crash_thousand {σ : SS} (hla : σ.last = 0) (hl : σ.l.length ≤ 300) : (σ.crash 1000).l = σ.l ∧ (σ.crash 1000).last = σ.l.length ∧ (σ.crash 1000).down = false ∧ (σ.crash 1000).fuse = -1 := by
  have hk : σ.keep 1000 = σ.l.length := by
    unfold SS.keep
    rw [hla]
    omega
  unfold SS.crash
  rw [hk]
  exact ⟨List.take_of_length_le (Nat.le_refl _), rfl, rfl, rfl⟩
theorem read_down {σ : SS} (h : σ.down = true) (i : Int) : σ.read i = .tuple #[.string ⟨#[]⟩, .int .i64 14] := by
  unfold SS.read
  rw [if_pos h]

theorem read_form (σ : SS) (i : Int) : ∃ x c, σ.read i = .tuple #[.string x, .int .i64 c] := by
  unfold SS.read
  split
  · exact ⟨_, _, rfl⟩
  · split <;> exact ⟨_, _, rfl⟩
set_option maxRecDepth 100000 in
set_option maxHeartbeats 2000000 in
theorem arms_free (f : Int) (hf : -128 ≤ f) (hf' : f < 0) (n : Nat) (hn : n ≤ 255) (s : ByteArray) (hs : s.size ≤ 200) (w : World) :
    Calls Try.prog 7 #[.int .i8 f, .int .u8 n, .string s] w fun e w' => e = .returned (.bool true) ∧ Below w.heap.size w w' := by
  have qs : (s.size : Int) ≤ 200 := by omega
  go_enter Try.func7, Try.ntmps7
  go_wp2_with (first | (go_at_call 10; refine (awake_any w _ (Below.refl _ _)).mono ?_; rintro e w1 ⟨rfl, hb⟩) | (go_at_call 11; refine (new_l hb).mono ?_; rintro e w2 ⟨rfl, h2⟩) | (go_at_call 22; refine (arm_l h2 _ (by omega)).mono ?_; rintro e w3 ⟨rfl, h3⟩))
  go_loopw [8, 9, 10] (fun i _ _ wr => ∃ (k : Nat) (σ : SS), k ≤ n ∧ i = .int .i64 k ∧ Live w wr w1.heap.size σ ∧ σ.down = false ∧ σ.fuse = -1 ∧ σ.last = 0 ∧ σ.l.length = k) (fun i _ _ _ => n - (intOf i).toNat)
  case atStart => exact ⟨0, _, by omega, rfl, h3, rfl, by show max f (-1) = _; omega, rfl, rfl⟩
  case round =>
    obtain ⟨k, σ, hk, rfl, hL, hd, hfu, hla, hll⟩ := hrel
    clear h3 h2
    by_cases hlt : k < n
    · have Ok := Lib.hid (w_ok (σ := σ) (s := s) hd (by omega) (by omega) (by omega))
      have Tk := Lib.hid (tick_neg hfu)
      have Hd := Lib.hid hd
      have Hf := Lib.hid hfu
      have Hla := Lib.hid hla
      have Hl : Hid ((σ.l ++ [s]).length = k + 1) := by show (σ.l ++ [s]).length = k + 1; rw [List.length_append, hll]; rfl
      clear hd hfu hll hla
      go_wp2_with (go_at_call 12; refine (write_l hL _).mono ?_; rintro e w5 ⟨rfl, hx⟩; rw [Ok.out.1]; rw [Ok.out.2, Tk.out] at hx)
      go_roundw
      case rel => exact ⟨k + 1, _, by omega, by go_num, hx, Hd.out, Hf.out, Hla.out, Hl.out⟩
      case measure => simp [intOf]; omega
    · obtain rfl : k = n := by omega
      have Hd := Lib.hid hd
      have Cr := Lib.hid (crash_thousand hla (by omega))
      have Hl := Lib.hid hll
      clear hd hfu hla hll hlt
      have qn : ((k : Int) == (k : Int)) = true := by simp
      obtain ⟨x, c, hrd⟩ := read_form σ 0
      have Rd := Lib.hid hrd
      clear hrd
      go_wp2_with fail
      refine (read_l hL 0).mono ?_
      rintro e w5 ⟨rfl, rfl⟩
      rw [Rd.out]
      go_wp2_with fail
      refine (down_l hL).mono ?_
      rintro e w6 ⟨rfl, rfl⟩
      rw [Hd.out]
      go_wp2_with fail
      refine (crash_l hL _).mono ?_
      rintro e w7 ⟨rfl, hz⟩
      go_wp2_with fail
      refine (down_l hz).mono ?_
      rintro e w8 ⟨rfl, rfl⟩
      rw [Cr.out.2.2.1]
      go_wp2_with fail
      refine (len_l hz).mono ?_
      rintro e w8 ⟨rfl, rfl⟩
      rw [Cr.out.1, Hl.out]
      go_wp2_with fail
      refine (lasting_l hz).mono ?_
      rintro e w8 ⟨rfl, rfl⟩
      rw [Cr.out.2.1, Hl.out]
      go_wp2_with fail
      refine (sync_l hz).mono ?_
      rintro e w8 ⟨rfl, hu⟩
      rw [(s_ok Cr.out.2.2.1 (by rw [Cr.out.2.2.2]; omega)).1]
      go_wp2
      go_ret
      exact ⟨rfl, hu.1⟩

set_option maxRecDepth 100000 in
set_option maxHeartbeats 4000000 in
theorem arms_fuse (f : Nat) (hf : f ≤ 127) (n : Nat) (hn : n ≤ 255) (s : ByteArray) (hs : s.size ≤ 200) (w : World) :
    Calls Try.prog 7 #[.int .i8 f, .int .u8 n, .string s] w fun e w' => e = .returned (.bool true) ∧ Below w.heap.size w w' := by
  have qs : (s.size : Int) ≤ 200 := by omega
  go_enter Try.func7, Try.ntmps7
  go_wp2_with (first | (go_at_call 10; refine (awake_any w _ (Below.refl _ _)).mono ?_; rintro e w1 ⟨rfl, hb⟩) | (go_at_call 11; refine (new_l hb).mono ?_; rintro e w2 ⟨rfl, h2⟩) | (go_at_call 22; refine (arm_l h2 _ (by omega)).mono ?_; rintro e w3 ⟨rfl, h3⟩))
  go_loopw [8, 9, 10] (fun i _ _ wr => ∃ (k : Nat) (σ : SS), k ≤ n ∧ i = .int .i64 k ∧ Live w wr w1.heap.size σ ∧ σ.last = 0 ∧ ((k ≤ f ∧ σ.down = false ∧ σ.fuse = (f : Int) - k ∧ σ.l.length = k) ∨ (f < k ∧ σ.down = true ∧ σ.l.length = f))) (fun i _ _ _ => n - (intOf i).toNat)
  case atStart => exact ⟨0, _, by omega, rfl, h3, rfl, .inl ⟨by omega, rfl, by show max (f : Int) (-1) = _; omega, rfl⟩⟩
  case round =>
    obtain ⟨k, σ, hk, rfl, hL, hla, hcase⟩ := hrel
    clear h3 h2
    by_cases hlt : k < n
    · rcases hcase with ⟨hkf, hd, hfu, hll⟩ | ⟨hkf, hd, hll⟩
      · by_cases hkf' : k < f
        · have Ok := Lib.hid (w_ok (σ := σ) (s := s) hd (by omega) (by omega) (by omega))
          have Tf : Hid (σ.tick.fuse = (f : Int) - (k + 1 : Nat)) := by
            show σ.tick.fuse = _
            unfold SS.tick
            rw [if_pos (by omega)]
            simp only
            omega
          have Td := Lib.hid ((tick_down σ).trans hd)
          have Tl := Lib.hid ((tick_last σ).trans hla)
          have Hl : Hid ((σ.l ++ [s]).length = k + 1) := by show (σ.l ++ [s]).length = k + 1; rw [List.length_append, hll]; rfl
          clear hd hfu hll hla
          go_wp2_with (go_at_call 12; refine (write_l hL _).mono ?_; rintro e w5 ⟨rfl, hx⟩; rw [Ok.out.1]; rw [Ok.out.2] at hx)
          go_roundw
          case rel => exact ⟨k + 1, _, by omega, by go_num, hx, Tl.out, .inl ⟨by omega, Td.out, Tf.out, Hl.out⟩⟩
          case measure => simp [intOf]; omega
        · obtain rfl : k = f := by omega
          have Bl := Lib.hid (w_blown (σ := σ) (s := s) hd (by omega) (by omega) (by omega))
          have Hl := Lib.hid hll
          have Hla := Lib.hid hla
          clear hd hfu hll hla
          go_wp2_with (go_at_call 12; refine (write_l hL _).mono ?_; rintro e w5 ⟨rfl, hx⟩; rw [Bl.out.1]; rw [Bl.out.2] at hx)
          go_roundw
          case rel => exact ⟨k + 1, _, by omega, by go_num, hx, Hla.out, .inr ⟨by omega, rfl, Hl.out⟩⟩
          case measure => simp [intOf]; omega
      · have Bl := Lib.hid (w_down (σ := σ) (s := s) hd)
        have Hd := Lib.hid hd
        have Hl := Lib.hid hll
        have Hla := Lib.hid hla
        clear hd hll hla
        go_wp2_with (go_at_call 12; refine (write_l hL _).mono ?_; rintro e w5 ⟨rfl, hx⟩; rw [Bl.out.1]; rw [Bl.out.2] at hx)
        go_roundw
        case rel => exact ⟨k + 1, _, by omega, by go_num, hx, Hla.out, .inr ⟨by omega, Hd.out, Hl.out⟩⟩
        case measure => simp [intOf]; omega
    · obtain rfl : k = n := by omega
      rcases hcase with ⟨hkf, hd, hfu, hll⟩ | ⟨hkf, hd, hll⟩
      · have Hd := Lib.hid hd
        have Cr := Lib.hid (crash_thousand hla (by omega))
        have Hl := Lib.hid hll
        have qn : ((k : Int) == (k : Int)) = true := by simp
        obtain ⟨x, c, hrd⟩ := read_form σ 0
        have Rd := Lib.hid hrd
        clear hd hfu hla hll hlt hrd
        go_wp2_with fail
        refine (read_l hL 0).mono ?_
        rintro e w5 ⟨rfl, rfl⟩
        rw [Rd.out]
        go_wp2_with fail
        refine (down_l hL).mono ?_
        rintro e w6 ⟨rfl, rfl⟩
        rw [Hd.out]
        go_wp2_with fail
        refine (crash_l hL _).mono ?_
        rintro e w7 ⟨rfl, hz⟩
        go_wp2_with fail
        refine (down_l hz).mono ?_
        rintro e w8 ⟨rfl, rfl⟩
        rw [Cr.out.2.2.1]
        go_wp2_with fail
        refine (len_l hz).mono ?_
        rintro e w8 ⟨rfl, rfl⟩
        rw [Cr.out.1, Hl.out]
        go_wp2_with fail
        refine (lasting_l hz).mono ?_
        rintro e w8 ⟨rfl, rfl⟩
        rw [Cr.out.2.1, Hl.out]
        go_wp2_with fail
        refine (sync_l hz).mono ?_
        rintro e w8 ⟨rfl, hu⟩
        rw [(s_ok Cr.out.2.2.1 (by rw [Cr.out.2.2.2]; omega)).1]
        go_wp2
        go_ret
        exact ⟨rfl, hu.1⟩
      · have Hd := Lib.hid hd
        have Cr := Lib.hid (crash_thousand hla (by omega))
        have Hl := Lib.hid hll
        have qn : ((f : Int) == (f : Int)) = true := by simp
        have Rd := Lib.hid (read_down hd 0)
        have Sd := Lib.hid (s_down hd)
        clear hd hla hll hlt
        go_wp2_with fail
        refine (read_l hL 0).mono ?_
        rintro e w5 ⟨rfl, rfl⟩
        rw [Rd.out]
        go_wp2_with fail
        refine (down_l hL).mono ?_
        rintro e w6 ⟨rfl, rfl⟩
        rw [Hd.out]
        go_wp2_with fail
        refine (sync_l hL).mono ?_
        rintro e w6 ⟨rfl, hL⟩
        rw [Sd.out.1]
        rw [Sd.out.2] at hL
        go_wp2_with fail
        refine (crash_l hL _).mono ?_
        rintro e w7 ⟨rfl, hz⟩
        go_wp2_with fail
        refine (down_l hz).mono ?_
        rintro e w8 ⟨rfl, rfl⟩
        rw [Cr.out.2.2.1]
        go_wp2_with fail
        refine (len_l hz).mono ?_
        rintro e w8 ⟨rfl, rfl⟩
        rw [Cr.out.1, Hl.out]
        go_wp2_with fail
        refine (lasting_l hz).mono ?_
        rintro e w8 ⟨rfl, rfl⟩
        rw [Cr.out.2.1, Hl.out]
        go_wp2_with fail
        refine (sync_l hz).mono ?_
        rintro e w8 ⟨rfl, hu⟩
        rw [(s_ok Cr.out.2.2.1 (by rw [Cr.out.2.2.2]; omega)).1]
        go_wp2
        go_ret
        exact ⟨rfl, hu.1⟩

set_option maxHeartbeats 400000 in
theorem arms_long (f n : Int) (s : ByteArray) (hs : 200 < s.size) (w : World) :
    Calls Try.prog 7 #[.int .i8 f, .int .u8 n, .string s] w fun e w' => e = .returned (.bool true) ∧ Below w.heap.size w w' := by
  have qs : (200 : Int) < (s.size : Int) := by omega
  go_enter Try.func7, Try.ntmps7
  go_wp2_with (go_at_call 10; refine (awake_any w _ (Below.refl _ _)).mono ?_; rintro e w1 ⟨rfl, hb⟩)
  go_ret
  exact ⟨rfl, hb⟩
theorem arms_any (f n : Int) (s : ByteArray) (hf : -128 ≤ f ∧ f ≤ 127) (hn : 0 ≤ n ∧ n ≤ 255) (w : World) :
    Calls Try.prog 7 #[.int .i8 f, .int .u8 n, .string s] w fun e w' => e = .returned (.bool true) ∧ Below w.heap.size w w' := by
  by_cases hs : s.size ≤ 200
  · obtain ⟨m, rfl⟩ := Int.eq_ofNat_of_zero_le hn.1
    by_cases h : f < 0
    · exact arms_free f hf.1 h m (by omega) s hs w
    · obtain ⟨k, rfl⟩ := Int.eq_ofNat_of_zero_le (show 0 ≤ f by omega)
      exact arms_fuse k (by omega) m (by omega) s hs w
  · exact arms_long f n s (by omega) w
end Go.Proofs.Ytffljpchkdhbhaa
