/- The walk of isOpen. Condition: where the surety lies. -/
import Derived.Test.YtlmlepdmgopojaaLooks
namespace Go.Proofs.Ytlmlepdmgopojaa
open Go.RowKit
set_option linter.unusedVariables false
set_option linter.unusedSimpArgs false
/-- several blocks more -/
def allocs (w : World) : List (Array Value × TypeId) → World
  | [] => w
  | x :: l => allocs (w.alloc (.cells x.1 x.2)) l
theorem allocs_size (w : World) (l : List (Array Value × TypeId)) : (allocs w l).heap.size = w.heap.size + l.length := by
  induction l generalizing w with
  | nil => rfl
  | cons x l ih => simp only [allocs, ih, World.size_alloc, List.length_cons]; omega
theorem allocs_below (w : World) (l : List (Array Value × TypeId)) : Below w.heap.size w (allocs w l) := by
  induction l generalizing w with
  | nil => exact Below.refl _ _
  | cons x l ih => exact below_trans ((Below.refl _ _).alloc (Nat.le_refl _) _) (ih _)
theorem allocs_blk (w : World) (l : List (Array Value × TypeId)) : ∀ (i : Nat) (cs : Array Value) (t : TypeId), l[i]? = some (cs, t) → Blk (allocs w l) (w.heap.size + i) t cs := by
  induction l generalizing w with
  | nil => intro i cs t h; simp at h
  | cons x l ih =>
    intro i cs t h
    cases i with
    | zero =>
      simp at h
      subst h
      have := (Blk.new w t cs).below (allocs_below (w.alloc (.cells cs t)) l) (by simp)
      exact this
    | succ i =>
      have := ih (w.alloc (.cells x.1 x.2)) i cs t (by simpa using h)
      rw [World.size_alloc] at this
      rw [show w.heap.size + (i + 1) = w.heap.size + 1 + i by omega]
      exact this
theorem Ent32 : Enters Try.prog 32 := enters_of Try.func32 (by kernel_rfl) rfl
theorem Ent33 : Enters Try.prog 33 := enters_of Try.func33 (by kernel_rfl) rfl
theorem Ent34 : Enters Try.prog 34 := enters_of Try.func34 (by kernel_rfl) rfl
theorem Ent35 : Enters Try.prog 35 := enters_of Try.func35 (by kernel_rfl) rfl
theorem Ent36 : Enters Try.prog 36 := enters_of Try.func36 (by kernel_rfl) rfl
theorem Ent37 : Enters Try.prog 37 := enters_of Try.func37 (by kernel_rfl) rfl
theorem Ent39 : Enters Try.prog 39 := enters_of Try.func39 (by kernel_rfl) rfl
theorem Ent50 : Enters Try.prog 50 := enters_of Try.func50 (by kernel_rfl) rfl
theorem Ent51 : Enters Try.prog 51 := enters_of Try.func51 (by kernel_rfl) rfl
theorem Ent52 : Enters Try.prog 52 := enters_of Try.func52 (by kernel_rfl) rfl
theorem Ent59 : Enters Try.prog 59 := enters_of Try.func59 (by kernel_rfl) rfl
theorem Ent60 : Enters Try.prog 60 := enters_of Try.func60 (by kernel_rfl) rfl
theorem Ent61 : Enters Try.prog 61 := enters_of Try.func61 (by kernel_rfl) rfl
/-- a function value that unless has made -/
theorem unl_look {w : World} {g h kk : Nat} {cap : Array Value} {e0 : Int} {b : Bool} (hg : Blk w g 26 #[.func (.func kk) #[] cap]) (hh : Blk w h 29 #[.int .i64 e0]) (hE : Enters Try.prog kk)
    (hC : ∀ v, Below w.heap.size w v → Calls Try.prog kk cap v fun e v' => e = .returned (.bool b) ∧ Below v.heap.size v v') :
    Look.ok w ⟨59, #[.pointer (some ⟨g, 0, none⟩), .pointer (some ⟨h, 0, none⟩)], if b then 0 else e0⟩ :=
  ⟨Ent59, fun v hv => unl_any g h kk cap e0 b v ((hg.below hv hg.lt).cell 0) ((hh.below hv hh.lt).cell 0) hE (hC v hv)⟩
theorem Blk.c0 {w v : World} {g : Nat} {t : TypeId} {x : Value} (h : Blk w g t #[x]) (hv : Below w.heap.size w v) : v.cell? ⟨g, 0, none⟩ = some x := (h.below hv h.lt).cell 0
theorem open_in {s : Sur} {k : Nat} {x : Dem} (hx : s.dem[k]? = some x) : s.open_ (k : Int) = if x.st = 0 then 0 else 9 := by
  have hl : k < s.dem.length := (List.getElem?_eq_some_iff.1 hx).1
  have hn : ¬ ((k : Int) < 0 ∨ (s.dem.length : Int) ≤ (k : Int)) := by omega
  unfold Sur.open_
  rw [if_neg hn, Int.toNat_natCast, hx]
theorem open_out {s : Sur} {n : Int} (h : ¬ (0 ≤ n ∧ n < s.dem.length)) : s.open_ n = 4 := by
  have hn : n < 0 ∨ (s.dem.length : Int) ≤ n := by omega
  unfold Sur.open_
  rw [if_pos hn]
set_option maxRecDepth 100000 in
set_option maxHeartbeats 4000000 in
theorem isOpen_any (s : Sur) (g c d : Nat) (C D : Option Addr) (w : World) (h : SA w g s C c D d) {K : Nat} (ok : s.ok K) (hK : K ≤ 4096) (n : Int) :
    Calls Try.prog 38 #[.pointer (some ⟨g, 0, none⟩), .int .i64 n] w fun e w' => e = .returned (.int .i64 (s.open_ n)) ∧ Below w.heap.size w w' := by
  obtain ⟨H, hH⟩ : ∃ H, H = w.heap.size := ⟨_, rfl⟩
  let S : Value := .pointer (some ⟨H, 0, none⟩)
  let N : Value := .pointer (some ⟨H + 1, 0, none⟩)
  let F1 : Value := .func (.func 59) #[] #[.pointer (some ⟨H + 3, 0, none⟩), .pointer (some ⟨H + 2, 0, none⟩)]
  let F2 : Value := .func (.func 59) #[] #[.pointer (some ⟨H + 5, 0, none⟩), .pointer (some ⟨H + 4, 0, none⟩)]
  let L : List (Array Value × TypeId) := [(#[.pointer (some ⟨g, 0, none⟩)], 28), (#[.int .i64 n], 3), (#[.int .i64 4], 29), (#[.func (.func 60) #[] #[N, S]], 26), (#[.int .i64 9], 29), (#[.func (.func 61) #[] #[S, N]], 26), (#[F1, F2], 70)]
  have key : ∃ L1 : List Look, L1.map Look.val = [F1, F2] ∧ firstC L1 = s.open_ n ∧ ∀ (i : Nat) (x : Look), L1[i]? = some x → (∀ j, j < i → ∀ y : Look, L1[j]? = some y → y.code = 0) → Look.ok (allocs w L) x := by
    have hb := allocs_below w L
    have hs : Blk (allocs w L) H 28 #[.pointer (some ⟨g, 0, none⟩)] := by rw [hH]; exact allocs_blk w L 0 _ _ rfl
    have hn : Blk (allocs w L) (H + 1) 3 #[.int .i64 n] := by rw [hH]; exact allocs_blk w L 1 _ _ rfl
    have h2 : Blk (allocs w L) (H + 2) 29 #[.int .i64 4] := by rw [hH]; exact allocs_blk w L 2 _ _ rfl
    have h3 : Blk (allocs w L) (H + 3) 26 #[.func (.func 60) #[] #[N, S]] := by rw [hH]; exact allocs_blk w L 3 _ _ (by simp [L, hH])
    have h4 : Blk (allocs w L) (H + 4) 29 #[.int .i64 9] := by rw [hH]; exact allocs_blk w L 4 _ _ rfl
    have h5 : Blk (allocs w L) (H + 5) 26 #[.func (.func 61) #[] #[S, N]] := by rw [hH]; exact allocs_blk w L 5 _ _ (by simp [L, hH])
    have l1 : Look.ok (allocs w L) ⟨59, #[.pointer (some ⟨H + 3, 0, none⟩), .pointer (some ⟨H + 2, 0, none⟩)], if decide (0 ≤ n ∧ n < s.dem.length) then 0 else 4⟩ :=
      unl_look h3 h2 Ent60 fun v hv => op1_any s g c d C D v (h.below (below_trans hb hv)) (H + 1) H n (hn.c0 hv) (hs.c0 hv)
    by_cases hr : 0 ≤ n ∧ n < s.dem.length
    · obtain ⟨k, rfl⟩ := Int.eq_ofNat_of_zero_le hr.1
      have hk : k < s.dem.length := by omega
      obtain ⟨x, hx⟩ : ∃ x, s.dem[k]? = some x := ⟨_, List.getElem?_eq_getElem hk⟩
      have l2 : Look.ok (allocs w L) ⟨59, #[.pointer (some ⟨H + 5, 0, none⟩), .pointer (some ⟨H + 4, 0, none⟩)], if x.st == 0 then 0 else 9⟩ :=
        unl_look h5 h4 Ent61 fun v hv => op2_any s g c d C D v (h.below (below_trans hb hv)) H (H + 1) k x (hs.c0 hv) (hn.c0 hv) hx
      refine ⟨[⟨59, #[.pointer (some ⟨H + 3, 0, none⟩), .pointer (some ⟨H + 2, 0, none⟩)], if decide (0 ≤ (k : Int) ∧ (k : Int) < s.dem.length) then 0 else 4⟩, ⟨59, #[.pointer (some ⟨H + 5, 0, none⟩), .pointer (some ⟨H + 4, 0, none⟩)], if x.st == 0 then 0 else 9⟩], rfl, ?_, ?_⟩
      rotate_left
      · intro i y hy hj
        match i, hy with
        | 0, hy => cases hy; exact l1
        | 1, hy => cases hy; exact l2
      · rw [open_in hx, show decide (0 ≤ (k : Int) ∧ (k : Int) < s.dem.length) = true from decide_eq_true hr]
        by_cases h0 : x.st = 0 <;> simp [firstC, h0]
    · refine ⟨[⟨59, #[.pointer (some ⟨H + 3, 0, none⟩), .pointer (some ⟨H + 2, 0, none⟩)], if decide (0 ≤ n ∧ n < s.dem.length) then 0 else 4⟩, ⟨59, #[.pointer (some ⟨H + 5, 0, none⟩), .pointer (some ⟨H + 4, 0, none⟩)], 0⟩], rfl, ?_, ?_⟩
      rotate_left
      · intro i y hy hj
        match i, hy with
        | 0, hy => cases hy; exact l1
        | 1, hy =>
          have := hj 0 (by omega) _ rfl
          simp [hr] at this
      · rw [open_out hr, decide_eq_false hr]
        simp [firstC]
  obtain ⟨L1, hL1, hF, hK1⟩ := key
  have hlen : L1.length = 2 := by
    have := congrArg List.length hL1
    simpa using this
  have hrd : Reads (allocs w L) (allocs w L).heap.size 1 (some ⟨H + 6, 0, none⟩) L1.length (L1.map Look.val) := by
    rw [hL1, hlen]
    refine ⟨rfl, fun _ => ⟨_, rfl, by rw [allocs_size, hH]; simp [L], fun j u hu => ?_⟩⟩
    have hb : Blk (allocs w L) (H + 6) 70 #[F1, F2] := by rw [hH]; exact allocs_blk w L 6 _ _ (by simp [L, hH])
    have h0 : (⟨H + 6, 0, none⟩ : Addr).add j = ⟨H + 6, j, none⟩ := by unfold Addr.add; split <;> simp_all
    rw [h0, hb.cell j]
    simpa using hu
  have HC := Lib.hid (first_any L1 (some ⟨H + 6, 0, none⟩) 2 (allocs w L) hrd (by rw [hlen]; unfold maxLen; omega) hK1)
  rw [hF, hlen] at HC
  have HB := Lib.hid (allocs_below w L)
  simp only [allocs, L, F1, F2, N, S] at HC HB
  subst hH
  clear hrd hK1 hF hlen hL1 L1 h ok L F1 F2 S N
  go_enter Try.func38, Try.ntmps38
  go_wp2_with fail
  refine (unless_any _ _ _ _).mono ?_
  rintro e w' ⟨rfl, rfl⟩
  go_wp2_with fail
  refine (unless_any _ _ _ _).mono ?_
  rintro e w' ⟨rfl, rfl⟩
  go_wp2_with fail
  refine HC.out.mono ?_
  rintro e w' ⟨rfl, hb⟩
  have HB1 := Lib.hid (below_trans HB.out hb)
  clear hb
  go_wp2_with fail
  go_ret
  exact ⟨rfl, HB1.out⟩
end Go.Proofs.Ytlmlepdmgopojaa
