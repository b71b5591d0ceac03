/- StoreFuse's walk. Condition: how the slice of bools lies. -/
import Derived.Test.YtffljpchkdhbhaaLive
namespace Go.Proofs.Ytffljpchkdhbhaa
open Go.RowKit

theorem w_big {σ : SS} {s : ByteArray} (hd : σ.down = false) (hs : 4096 < s.size) : σ.wcode s = 1 ∧ σ.write s = σ := by
  unfold SS.wcode SS.write
  simp [hd, hs]
theorem w_ok {σ : SS} {s : ByteArray} (hd : σ.down = false) (hs : s.size ≤ 4096) (hl : σ.l.length ≠ 4096) (hf : σ.fuse ≠ 0) : σ.wcode s = 0 ∧ σ.write s = { σ.tick with l := σ.l ++ [s] } := by
  unfold SS.wcode SS.write
  simp [hd, hl, hf, show ¬ 4096 < s.size by omega]
theorem w_down {σ : SS} {s : ByteArray} (hd : σ.down = true) : σ.wcode s = 14 ∧ σ.write s = σ := by
  unfold SS.wcode SS.write
  simp [hd]
theorem w_full {σ : SS} {s : ByteArray} (hd : σ.down = false) (hs : s.size ≤ 4096) (hl : σ.l.length = 4096) : σ.wcode s = 7 ∧ σ.write s = σ := by
  unfold SS.wcode SS.write
  simp [hd, hl, show ¬ 4096 < s.size by omega]
theorem w_blown {σ : SS} {s : ByteArray} (hd : σ.down = false) (hs : s.size ≤ 4096) (hl : σ.l.length ≠ 4096) (hf : σ.fuse = 0) : σ.wcode s = 14 ∧ σ.write s = σ.fuseDown := by
  unfold SS.wcode SS.write
  simp [hd, hl, hf, show ¬ 4096 < s.size by omega]
theorem s_ok {σ : SS} (hd : σ.down = false) (hf : σ.fuse ≠ 0) : σ.scode = 0 ∧ σ.sync = { σ.tick with last := σ.l.length } := by
  unfold SS.scode SS.sync
  simp [hd, hf]
theorem s_blown {σ : SS} (hd : σ.down = false) (hf : σ.fuse = 0) : σ.scode = 14 ∧ σ.sync = σ.fuseDown := by
  unfold SS.scode SS.sync
  simp [hd, hf]
theorem s_down {σ : SS} (hd : σ.down = true) : σ.scode = 14 ∧ σ.sync = σ := by
  unfold SS.scode SS.sync
  simp [hd]

/-- so many bytes of nought -/
def zc (n : Nat) : Array Value := madeCells #[.int .u8 0] n
def zs (n : Nat) : ByteArray := ⟨(List.replicate n 0).toArray⟩
theorem zs_size (n : Nat) : (zs n).size = n := by
  show (List.replicate n (0 : UInt8)).toArray.size = n
  rw [List.size_toArray, List.length_replicate]
theorem info5 : (Try.prog.info? 5).map (fun i => (i.zero, i.size, i.bytes)) = some (some (.int .u8 0), 1, 1) := by kernel_rfl
theorem mk_zeros (n : Nat) (hn : n ≤ 100000) (W : World) : (Instr.makeSlice 36 (.int .i64 (n : Int)) (.int .i64 (n : Int))).run Try.prog W = .ok (.slice (some ⟨W.heap.size, 0, none⟩) n n) (W.alloc (.cells (zc n) 5)) := by
  obtain ⟨i0, hi, hz0, hz1, hz2⟩ := info_parts info5
  have h := run_make (P := Try.prog) W 36 5 i0 (.int .u8 0) Try.underlying36 hi hz0 .i64 .i64 n n (by omega) (Int.le_refl _) (by rw [hz2]; omega) (by omega)
  simp only [Int.toNat_natCast, hz1, Nat.mul_one] at h
  exact h
theorem cv_zeros (n : Nat) (W : World) : (convert 36 9 (.slice (some ⟨W.heap.size, 0, none⟩) n n)).run Try.prog (W.alloc (.cells (zc n) 5)) = .ok (.string (zs n)) (W.alloc (.cells (zc n) 5)) := by
  have h := run_convert_bytes_back (P := Try.prog) (W.alloc (.cells (zc n) 5)) 36 9 5 ⟨W.heap.size, 0, none⟩ n (List.replicate n 0) Try.underlying36 Try.underlying5 Try.underlying9 (fun j hj => by
    have hj' : j < n := by simpa using hj
    have h0 : (⟨W.heap.size, 0, none⟩ : Addr).add j = ⟨W.heap.size, j, none⟩ := by unfold Addr.add; split <;> simp_all
    rw [h0, Blk.cell (Blk.new W 5 (zc n)) j, ← Array.getElem?_toList, zc, toList_madeCells_one, List.getElem?_replicate, if_pos hj', List.getElem_replicate]
    rfl)
  rw [List.length_replicate] at h
  exact h

set_option maxRecDepth 100000 in
set_option maxHeartbeats 1000000 in
theorem fuse_main (f : Nat) (hf : f ≤ 255) (n c : Nat) (A : Option Addr) (bs : List Bool) (hn : n ≤ 100) (w : World) (hr : Reads w w.heap.size 1 A n (bs.map Value.bool)) :
    Calls Try.prog 8 #[.int .u8 f, .slice A n c] w fun e w' => e = .returned (.bool true) ∧ Below w.heap.size w w' := by
  have q : (n : Int) ≤ 100 := by omega
  have hmk : ∀ W, (Instr.makeSlice 36 (.int .i64 4097) (.int .i64 4097)).run Try.prog W = .ok (.slice (some ⟨W.heap.size, 0, none⟩) 4097 4097) (W.alloc (.cells (zc 4097) 5)) := fun W => mk_zeros 4097 (by omega) W
  have hcv := cv_zeros 4097
  go_enter Try.func8, Try.ntmps8
  go_wp2_with (first | (go_at_call 10; refine (awake_any w _ (Below.refl _ _)).mono ?_; rintro e w1 ⟨rfl, hb⟩) | (go_at_call 11; refine (new_l hb).mono ?_; rintro e w2 ⟨rfl, h2⟩) | (go_at_call 22; refine (arm_l h2 _ (by omega)).mono ?_; rintro e w3 ⟨rfl, h3⟩))
  have h4 : Live w (w3.alloc (.cells (zc 4097) 5)) w1.heap.size (SS.new.arm f) := h3.below ((Below.refl _ _).alloc (Nat.le_refl _) _)
  have hlong : 4096 < (zs 4097).size := by rw [zs_size]; omega
  clear hmk hcv
  go_loopw [7] (fun i wr => ∃ (k : Nat) (σ : SS), k ≤ n ∧ k ≤ f ∧ i = .int .i64 k ∧ Live w wr w1.heap.size σ ∧ σ.down = false ∧ σ.fuse = (f : Int) - k ∧ σ.l.length ≤ k) (fun i _ => n - (intOf i).toNat)
  case atStart => exact ⟨0, _, by omega, by omega, rfl, h4, rfl, by show max (f : Int) (-1) = _; omega, Nat.zero_le _⟩
  case round =>
    obtain ⟨k, σ, hk, hkf, rfl, hL, hd, hfu, hll⟩ := hrel
    clear h4
    have Big := Lib.hid (w_big (s := zs 4097) hd hlong)
    by_cases hlt : k < n
    · by_cases hkf' : k < f
      · obtain ⟨a, u, rfl, hbk, hu, hc⟩ := hr.at_ hlt
        simp only [List.getElem?_map, Option.map_eq_some_iff] at hu
        obtain ⟨b, hb', rfl⟩ := hu
        have Ok := Lib.hid (w_ok (σ := σ) (s := ⟨#[97]⟩) hd (by decide) (by omega) (by omega))
        have Sok := Lib.hid (s_ok (σ := σ) hd (by omega))
        have Tl := Lib.hid (tick_l σ)
        have Td := Lib.hid ((tick_down σ).trans hd)
        have Tf : Hid (σ.tick.fuse = (f : Int) - (k + 1 : Nat)) := by
          show σ.tick.fuse = _
          unfold SS.tick
          rw [if_pos (by omega)]
          simp only
          omega
        have qf : ¬ (f : Int) ≤ (k : Int) := by omega
        have qf' : k < f := hkf'
        clear hb' hd hfu
        cases b
        · go_wp2_with (first | (go_at_call_of 12 (zs 4097); refine (write_l hL _).mono ?_; rintro e w4 ⟨rfl, hx⟩; rw [Big.out.1]; rw [Big.out.2] at hx; have hc4 : w4.cell? (a.add k) = some (.bool false) := (hx.1.cell (by rw [block_of_add]; exact hbk)).trans hc) | (go_at_call 13; refine (sync_l hx).mono ?_; rintro e w5 ⟨rfl, hy⟩; rw [Sok.out.1]; rw [Sok.out.2] at hy))
          go_roundw
          case rel => exact ⟨k + 1, _, by omega, by omega, by go_num, hy, Td.out, Tf.out, by show σ.tick.l.length ≤ _; rw [Tl.out]; omega⟩
          case measure => simp [intOf]; omega
        · go_wp2_with (first | (go_at_call_of 12 (zs 4097); refine (write_l hL _).mono ?_; rintro e w4 ⟨rfl, hx⟩; rw [Big.out.1]; rw [Big.out.2] at hx; have hc4 : w4.cell? (a.add k) = some (.bool true) := (hx.1.cell (by rw [block_of_add]; exact hbk)).trans hc) | (go_at_call 12; refine (write_l hx _).mono ?_; rintro e w5 ⟨rfl, hy⟩; rw [Ok.out.1]; rw [Ok.out.2] at hy))
          go_roundw
          case rel => exact ⟨k + 1, _, by omega, by omega, by go_num, hy, Td.out, Tf.out, by show (σ.l ++ _).length ≤ _; rw [List.length_append]; simp; omega⟩
          case measure => simp [intOf]; omega
      · have Sb := Lib.hid (s_blown (σ := σ) hd (by omega))
        have Wd := Lib.hid (w_down (σ := σ.fuseDown) (s := zs 4097) rfl)
        have qf : (f : Int) ≤ (k : Int) := by omega
        have qf' : f ≤ k := by omega
        clear hd hfu
        go_wp2_with fail
        refine (write_l hL _).mono ?_
        rintro e w4 ⟨rfl, hx⟩
        rw [Big.out.1]
        rw [Big.out.2] at hx
        go_wp2_with fail
        refine (sync_l hx).mono ?_
        rintro e w5 ⟨rfl, hy⟩
        rw [Sb.out.1]
        rw [Sb.out.2] at hy
        go_wp2_with fail
        refine (write_l hy _).mono ?_
        rintro e w6 ⟨rfl, hz⟩
        rw [Wd.out.1]
        go_wp2
        go_ret
        exact ⟨rfl, hz.1⟩
    · have Hd := Lib.hid hd
      clear hd hfu
      go_wp2_with (go_at_call 23; refine (down_l hL).mono ?_; rintro e w5 ⟨rfl, rfl⟩; rw [Hd.out])
      go_ret
      exact ⟨rfl, hL.1⟩

set_option maxHeartbeats 400000 in
theorem fuse_long (f : Int) (n c : Nat) (A : Option Addr) (hn : 100 < n) (w : World) :
    Calls Try.prog 8 #[.int .u8 f, .slice A n c] w fun e w' => e = .returned (.bool true) ∧ Below w.heap.size w w' := by
  have q : (100 : Int) < (n : Int) := by omega
  go_enter Try.func8, Try.ntmps8
  go_wp2_with (go_at_call 10; refine (awake_any w _ (Below.refl _ _)).mono ?_; rintro e w1 ⟨rfl, hb⟩)
  go_ret
  exact ⟨rfl, hb⟩
theorem fuse_any (f : Int) (hf : 0 ≤ f ∧ f ≤ 255) (n c : Nat) (A : Option Addr) (bs : List Bool) (w : World) (hr : Reads w w.heap.size 1 A n (bs.map Value.bool)) :
    Calls Try.prog 8 #[.int .u8 f, .slice A n c] w fun e w' => e = .returned (.bool true) ∧ Below w.heap.size w w' := by
  by_cases hn : n ≤ 100
  · obtain ⟨f', rfl⟩ := Int.eq_ofNat_of_zero_le hf.1
    exact fuse_main f' (by omega) n c A bs hn w hr
  · exact fuse_long f n c A (by omega) w
end Go.Proofs.Ytffljpchkdhbhaa
