/- A store that is up and has no fuse, as two laws take it. Condition: that it stands so ('Up'). -/
import Derived.Test.YtffljpchkdhbhaaFull
namespace Go.Proofs.Ytffljpchkdhbhaa
open Go.RowKit

/-- block g is a store with these writes, of which the first n last; it is up and has no fuse -/
def Up (W w : World) (g : Nat) (l : List ByteArray) (n : Int) : Prop := ∃ σ, Live W w g σ ∧ σ.down = false ∧ σ.fuse = -1 ∧ σ.l = l ∧ σ.last = n
theorem Up.bel {W w : World} {g : Nat} {l : List ByteArray} {n : Int} (h : Up W w g l n) : Below W.heap.size W w := h.choose_spec.1.1
theorem take_next {l : List ByteArray} {k : Nat} {s : ByteArray} (h : l[k]? = some s) : l.take (k + 1) = l.take k ++ [s] := by
  rw [List.take_add_one, h]
  rfl
section
variable {W w : World} {g : Nat} {l : List ByteArray} {n : Int} (hU : Up W w g l n)
include hU
theorem Up.ok : 0 ≤ n ∧ n ≤ l.length ∧ l.length ≤ 4096 := by
  obtain ⟨σ, hL, _, _, rfl, rfl⟩ := hU
  exact ⟨hL.2.1.1, hL.2.1.2.1, hL.2.1.2.2.1⟩
theorem up_write (s : ByteArray) (hs : s.size ≤ 4096) (hl : l.length < 4096) : Calls Try.prog 12 #[.pointer (some ⟨g, 0, none⟩), .string s] w fun e w' => e = .returned (.int .i64 0) ∧ Up W w' g (l ++ [s]) n := by
  obtain ⟨σ, hL, hd, hf, rfl, rfl⟩ := hU
  refine (write_l hL s).mono ?_
  rintro e w' ⟨rfl, hx⟩
  have h := w_ok (s := s) hd hs (by omega) (by omega)
  rw [h.2, tick_neg hf] at hx
  rw [h.1]
  exact ⟨rfl, _, hx, hd, hf, rfl, rfl⟩
theorem up_sync : Calls Try.prog 13 #[.pointer (some ⟨g, 0, none⟩)] w fun e w' => e = .returned (.int .i64 0) ∧ Up W w' g l l.length := by
  obtain ⟨σ, hL, hd, hf, rfl, rfl⟩ := hU
  refine (sync_l hL).mono ?_
  rintro e w' ⟨rfl, hx⟩
  have h := s_ok hd (show σ.fuse ≠ 0 by omega)
  rw [h.2, tick_neg hf] at hx
  rw [h.1]
  exact ⟨rfl, _, hx, hd, hf, rfl, rfl⟩
theorem up_len {m : Int} (hm : (l.length : Int) = m) : Calls Try.prog 16 #[.pointer (some ⟨g, 0, none⟩)] w fun e w' => e = .returned (.int .i64 m) ∧ w = w' := by
  obtain ⟨σ, hL, hd, hf, rfl, rfl⟩ := hU
  rw [← hm]
  exact len_l hL
theorem up_lasting : Calls Try.prog 14 #[.pointer (some ⟨g, 0, none⟩)] w fun e w' => e = .returned (.int .i64 n) ∧ w = w' := by
  obtain ⟨σ, hL, hd, hf, rfl, rfl⟩ := hU
  exact lasting_l hL
theorem up_crash (k : Int) (m : Nat) (hm : (m : Int) = n + min (max k 0) (l.length - n)) : Calls Try.prog 15 #[.pointer (some ⟨g, 0, none⟩), .int .i64 k] w fun e w' => e = .returned (.tuple #[]) ∧ Up W w' g (l.take m) m := by
  obtain ⟨σ, hL, hd, hf, rfl, rfl⟩ := hU
  refine (crash_l hL k).mono ?_
  rintro e w' ⟨rfl, hx⟩
  have : m = σ.keep k := by
    unfold SS.keep
    omega
  exact ⟨rfl, _, hx, rfl, rfl, by rw [this]; rfl, by rw [this]; rfl⟩
theorem up_read {k : Nat} {s : ByteArray} (hk : l[k]? = some s) : Calls Try.prog 17 #[.pointer (some ⟨g, 0, none⟩), .int .i64 k] w fun e w' => e = .returned (.tuple #[.string s, .int .i64 0]) ∧ w = w' := by
  obtain ⟨σ, hL, hd, hf, rfl, rfl⟩ := hU
  have hlt := (List.getElem?_eq_some_iff.1 hk).1
  have : σ.read k = .tuple #[.string s, .int .i64 0] := by
    unfold SS.read
    rw [if_neg (by simp [hd]), if_neg (by omega), Int.toNat_natCast, List.getD_eq_getElem?_getD, hk]
    rfl
  rw [← this]
  exact read_l hL k
theorem up_past {k : Nat} (hk : l.length ≤ k) : Calls Try.prog 17 #[.pointer (some ⟨g, 0, none⟩), .int .i64 k] w fun e w' => e = .returned (.tuple #[.string ⟨#[]⟩, .int .i64 3]) ∧ w = w' := by
  obtain ⟨σ, hL, hd, hf, rfl, rfl⟩ := hU
  have : σ.read k = .tuple #[.string ⟨#[]⟩, .int .i64 3] := by
    unfold SS.read
    rw [if_neg (by simp [hd]), if_pos (by omega)]
  rw [← this]
  exact read_l hL k
end
theorem up_new {W w : World} (hW : Below W.heap.size W w) : Calls Try.prog 11 #[] w fun e w' => e = .returned (.pointer (some ⟨w.heap.size, 0, none⟩)) ∧ Up W w' w.heap.size [] 0 :=
  (new_l hW).mono fun _ _ ⟨he, h⟩ => ⟨he, _, h, rfl, rfl, rfl, rfl⟩
end Go.Proofs.Ytffljpchkdhbhaa
