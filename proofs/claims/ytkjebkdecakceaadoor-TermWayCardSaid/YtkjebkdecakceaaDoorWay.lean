/- TermWay's walk. Conditions: the table ('Tab'), and how the two slices lie. -/
import Derived.Test.YtkjebkdecakceaaDoorWayPlain
import Derived.Deep.RegionHeld3
namespace Go.Proofs.YtkjebkdecakceaaDoor
open Go.RowKit

theorem info41 : (Tryd.prog.info? 41).map (fun i => (i.zero, i.size, i.bytes)) = some (some (.agg #[.string ⟨#[]⟩, .string ⟨#[]⟩, .string ⟨#[]⟩, .string ⟨#[]⟩, .int .i64 0]), 5, 72) := by kernel_rfl
theorem hands_one (l : List (ByteArray × Int)) : ∀ u ∈ hands l, u.oneCell' = true := by
  intro u hu
  simp only [hands, List.mem_flatMap] at hu
  obtain ⟨x, _, hx⟩ := hu
  simp only [hand, List.mem_cons, List.not_mem_nil, or_false] at hx
  rcases hx with rfl | rfl | rfl | rfl | rfl <;> rfl
theorem hands_snoc (l : List (ByteArray × Int)) (x : ByteArray × Int) : hands l ++ hand x = hands (l ++ [x]) := by simp [hands]

/-- the chain behind k others -/
def chainP (sel : ByteArray) (os : List ByteArray) (ds : List Int) (k : Nat) : List (ByteArray × Int) := (sel, ds.getD 0 0) :: (List.range k).map fun i => (os.getD i ⟨#[]⟩, ds.getD (i + 1) 0)
theorem chainP_step (sel : ByteArray) (os : List ByteArray) (ds : List Int) (k : Nat) : chainP sel os ds (k + 1) = chainP sel os ds k ++ [(os.getD k ⟨#[]⟩, ds.getD (k + 1) 0)] := by
  simp [chainP, List.range_succ]
theorem chainP_len (sel : ByteArray) (os : List ByteArray) (ds : List Int) (k : Nat) : (chainP sel os ds k).length = k + 1 := by simp [chainP]

set_option maxRecDepth 100000 in
set_option maxHeartbeats 1000000 in
theorem way_main (t : Nat) (ht : t < 8) (os : List ByteArray) (ds : List Int) (m : Nat) (hm : m ≤ 20) (hlo : os.length = m) (hld : ds.length = m + 2) (sel buy : ByteArray) (hne : sel ≠ buy) (hs : sel.size ≤ 100) (hbz : buy.size ≤ 100) (D E : Int) (hDE : D ≤ E)
    {w : World} {PA : Nat → Addr} {cp : Nat → Nat} (T : Tab w PA cp) (A1 A2 : Option Addr) (c1 c2 : Nat) (r1 : Reads w w.heap.size 1 A1 m (strs os)) (r2 : Reads w w.heap.size 1 A2 (m + 2) (ints ds)) :
    Calls Tryd.prog 8 #[.int .i64 t, .slice A1 m c1, .slice A2 ((m + 2 : Nat)) c2, .string sel, .string buy, .int .i64 D, .int .i64 E] w fun e w' => e = .returned (.bool true) ∧ Below w.heap.size w w' := by
  have hB := Below.refl w.heap.size w
  have qne := str_ne hne
  have q1 : (((m + 2 : Nat) : Int) != (m : Int) + 2) = false := by simp
  have q2 : (m : Int) ≤ 20 := by omega
  have q3 : (sel.size : Int) ≤ 100 := by omega
  have q4 : (buy.size : Int) ≤ 100 := by omega
  obtain ⟨i0, hi, hz0, hz1, hz2⟩ := info_parts info41
  obtain ⟨d0, hd0⟩ : ∃ d, ds[0]? = some d := ⟨_, List.getElem?_eq_getElem (by omega)⟩
  obtain ⟨a2, rfl, hc20, hbk2⟩ := reads_at r2 hd0
  have hc20' : w.cell? a2 = some (.int .i64 d0) := by simpa [Addr.add] using hc20
  have Hd0 := Lib.hid hd0
  clear hd0 hc20
  go_enter Tryd.func8, Tryd.ntmps8
  go_wp2_with (first | (go_at_call 9; refine (awake_any T _ (by assumption)).mono ?_; rintro e w1 ⟨rfl, hb⟩; have k0 : w1.cell? a2 = some (.int .i64 d0) := (hb.cell hbk2).trans hc20') | (go_at_call 10; refine (is_yes _ _ (by omega) (by omega)).mono ?_; rintro e w' ⟨rfl, rfl⟩))
  have own0 : (w1.alloc (.cells #[.string ⟨#[]⟩, .string ⟨#[]⟩, .string sel, .string ⟨#[]⟩, .int .i64 d0] 41)).ownsRow w.heap.size 41 5 (.slice (some ⟨w1.heap.size, 0, none⟩) 1 1) 1 (hands (chainP sel os ds 0)) := by
    have e : ds.getD 0 0 = d0 := by rw [List.getD_eq_getElem?_getD, Hd0.out]; rfl
    have := World.ownsRow_lit (size := 5) (e := 41) w1 #[.string ⟨#[]⟩, .string ⟨#[]⟩, .string sel, .string ⟨#[]⟩, .int .i64 d0] 1 hb.size (by unfold maxLen; omega) rfl
    rw [show hands (chainP sel os ds 0) = [.string ⟨#[]⟩, .string ⟨#[]⟩, .string sel, .string ⟨#[]⟩, .int .i64 (ds.getD 0 0)] from rfl, e]
    exact this
  go_loopw [15, 16] (fun v i wr => ∃ (k : Nat) (A : Option Addr) (c : Nat), k ≤ m ∧ i = .int .i64 k ∧ v = .slice A ((k + 1 : Nat)) c ∧ wr.ownsRow w.heap.size 41 5 (.slice A (k + 1) c) (k + 1) (hands (chainP sel os ds k)) ∧ (∀ j x, j < k → os[j]? = some x → x ≠ sel ∧ x ≠ buy) ∧ Below w.heap.size w wr) (fun _ i _ => m - (intOf i).toNat)
  case atStart => exact ⟨0, _, _, by omega, rfl, rfl, own0, fun _ _ h => absurd h (by omega), hb.alloc hb.size _⟩
  case round =>
    obtain ⟨k, A, c, hk, rfl, rfl, hown, hos, hbr⟩ := hrel
    clear own0 k0 hb
    by_cases hlt : k < m
    · obtain ⟨a1, x, rfl, hx, hcx', hbk1⟩ := strs_at r1 hlt
      obtain ⟨dk, hdk⟩ : ∃ d, ds[k + 1]? = some d := ⟨_, List.getElem?_eq_getElem (by omega)⟩
      obtain ⟨a2', e2', hcd', _⟩ := reads_at r2 hdk
      obtain rfl := Option.some.inj e2'
      have hcx : wr.cell? (a1.add k) = some (.string x) := (hbr.cell (by rw [block_of_add]; exact hbk1)).trans hcx'
      have hcd : wr.cell? ⟨a2.block, a2.off + (k + 1), none⟩ = some (.int .i64 dk) := (hbr.cell (p := ⟨a2.block, a2.off + (k + 1), none⟩) hbk2).trans (by simpa [Addr.add] using hcd')
      have hfar : ∀ a : Addr, a.block < w.heap.size → some a.block ≠ (Value.slice A (k + 1) c).ownBlock := fun a ha he => by have := (hown.lt _ he.symm).1; omega
      clear hcx' hcd'
      clear e2'
      have Hx := Lib.hid hx
      have Hdk := Lib.hid hdk
      have Hos := Lib.hid hos
      clear hx hdk hos Hd0
      by_cases hx1 : 100 < x.size
      · have q : (100 : Int) < (x.size : Int) := by omega
        go_wp2
        go_ret
        exact ⟨rfl, hbr⟩
      · have q : (x.size : Int) ≤ 100 := by omega
        by_cases hx2 : x = sel
        · subst hx2
          have qq := str_same x
          go_wp2
          go_ret
          exact ⟨rfl, hbr⟩
        · have qx2 := str_ne hx2
          by_cases hx3 : x = buy
          · subst hx3
            have qq := str_same x
            go_wp2
            go_ret
            exact ⟨rfl, hbr⟩
          · have qx3 := str_ne hx3
            have W1 : IntKind.i64.wrap ((k : Int) + 1) = (k : Int) + 1 := IntWalk.i64_in _ (by omega)
            have W2 : (0 : Int) ≤ (k : Int) + 1 := by omega
            have W3 : ((k : Int) + 1).toNat = k + 1 := by omega
            have W4 : (k : Int) + 1 < (m : Int) + 2 := by omega
            go_wp2_with fail
            go_region_held3 (fun w' => w'.cell? (a1.add k) = some (.string x) ∧ w'.cell? ⟨a2.block, a2.off + (k + 1), none⟩ = some (.int .i64 dk))
              (first
                | go_keep
                | (go_split_ands
                   refine ⟨?_, ?_⟩
                   · (rw [hg1.cell_far _ (by rw [block_of_add]; have := hbr.size; simp; omega) (by rw [block_of_add]; exact hfar _ hbk1)]; assumption)
                   · (rw [hg1.cell_far ⟨a2.block, a2.off + (k + 1), none⟩ (by have := hbr.size; simp; omega) (hfar _ hbk2)]; assumption)))
              ((refine step_append_any _ (by rfl) _ _ 42 (by rfl) w.heap.size 41 i0 _ 5 72 Tryd.underlying42 hi hz0 hz1 hz2 rfl (by decide) (.slice A (k + 1) c) (k + 1) (hands (chainP sel os ds k)) (by rfl) ((hown.alloc _).drew) _ _ 1 1 (hand (x, dk)) (by rfl) (lit_readsN wr _ 41 _ 5 1 (hand (x, dk)) (by simp) (by rfl) (by rfl)).drew (by intro u hu; exact hands_one [(x, dk)] u (by simpa [hands] using hu)) (by unfold maxLen; omega) (by omega) (by have := hbr.size; simp; omega) ?_; intro v1 w2 hown1 hg1 _))
            obtain ⟨A', c', rfl, _⟩ := own_form hown1
            have hb1 := below_own ((hbr.alloc hbr.size _).drew) ((hown.alloc _).drew) (Nat.le_refl _) hg1
            have hs1 : hands (chainP sel os ds k) ++ hand (x, dk) = hands (chainP sel os ds (k + 1)) := by
              rw [chainP_step, ← hands_snoc, List.getD_eq_getElem?_getD, Hx.out, List.getD_eq_getElem?_getD, Hdk.out]
              rfl
            rw [hs1] at hown1
            have hos1 : ∀ j x, j < k + 1 → os[j]? = some x → x ≠ sel ∧ x ≠ buy := fun j y hj hy => by
              rcases Nat.lt_succ_iff_lt_or_eq.1 hj with hj | rfl
              · exact Hos.out j y hj hy
              · obtain rfl := Option.some.inj (Hx.out.symm.trans hy)
                exact ⟨hx2, hx3⟩
            clear hg1 hs1 hcx hcd hfar W1 W2 W3 W4
            go_wp2
            go_roundw
            case rel => exact ⟨k + 1, A', c', by omega, by go_num, rfl, hown1, hos1, hb1⟩
            case measure => simp [intOf]; omega
    · obtain rfl : k = m := by omega
      obtain ⟨dk, hdk⟩ : ∃ d, ds[k + 1]? = some d := ⟨_, List.getElem?_eq_getElem (by omega)⟩
      obtain ⟨a2', e2', hcd', _⟩ := reads_at r2 hdk
      obtain rfl := Option.some.inj e2'
      have hcd : wr.cell? ⟨a2.block, a2.off + (k + 1), none⟩ = some (.int .i64 dk) := (hbr.cell (p := ⟨a2.block, a2.off + (k + 1), none⟩) hbk2).trans (by simpa [Addr.add] using hcd')
      have Hdk := Lib.hid hdk
      have Hos := Lib.hid hos
      clear hcd' hdk hos e2' hlt hk
      have W1 : (k : Int) + 2 - 1 = (k : Int) + 1 := by omega
      go_wp2_with (at_builtin; refine wpList_append_any _ rfl (.tmp 107) (.tmp 116) 42 rfl w.heap.size 41 i0 _ 5 72 Tryd.underlying42 hi hz0 hz1 hz2 rfl (by decide) (.slice A (k + 1) c) (k + 1) (hands (chainP sel os ds k)) rfl (hown.alloc _) _ _ 1 1 (hand (buy, dk)) rfl (lit_readsN wr _ 41 _ 5 1 (hand (buy, dk)) (by simp) (by rfl) (by rfl)) (by intro u hu; exact hands_one [(buy, dk)] u (by simpa [hands] using hu)) (by unfold maxLen; omega) (by omega) (by have := hbr.size; simp; omega) ?_; intro v1 w2 hown1 hg1 _; obtain ⟨A', c', rfl, _⟩ := own_form hown1; have hb1 := below_own (hbr.alloc hbr.size _) (hown.alloc _) (Nat.le_refl _) hg1)
      have hs1 : hands (chainP sel os ds k) ++ hand (buy, dk) = hands (chainF sel buy os ds k) := by
        have e : dk = ds.getD (k + 1) 0 := by rw [List.getD_eq_getElem?_getD, Hdk.out]; rfl
        rw [hands_snoc, e]
        rfl
      rw [hs1] at hown1
      have hrd := Reads.of_own hown1
      have Hd : Hid (ds.getD 0 0 = d0) := by show ds.getD 0 0 = d0; rw [List.getD_eq_getElem?_getD, Hd0.out]; rfl
      clear hg1 hs1 hcd hown hown1 Hdk
      go_loopw [17] (fun i wq => ∃ j : Nat, 1 ≤ j ∧ j ≤ k + 2 ∧ i = .int .i64 j ∧ (∀ i, i + 1 < j → ds.getD i 0 ≤ ds.getD (i + 1) 0) ∧ ∃ d, wq = w2.drewN d) (fun i _ => k + 2 - (intOf i).toNat)
      case atStart => exact ⟨1, by omega, by omega, rfl, fun i hi => absurd hi (by omega), 0, rfl⟩
      case round =>
        obtain ⟨j, hj1, hj2, rfl, hrise, d, rfl⟩ := hrel
        have Hrise := Lib.hid hrise
        clear hrise
        by_cases hlt : j < k + 2
        · obtain ⟨x, hx⟩ : ∃ x, ds[j]? = some x := ⟨_, List.getElem?_eq_getElem (by omega)⟩
          obtain ⟨y, hy⟩ : ∃ y, ds[j - 1]? = some y := ⟨_, List.getElem?_eq_getElem (by omega)⟩
          obtain ⟨a2', e2', hcx', _⟩ := reads_at ((r2.below hb1).more hb1.size) hx
          obtain rfl := Option.some.inj e2'
          obtain ⟨a2', e2'', hcy', _⟩ := reads_at ((r2.below hb1).more hb1.size) hy
          obtain rfl := Option.some.inj e2''
          have Hx := Lib.hid hx
          have Hy := Lib.hid hy
          clear hx hy e2' e2''
          have W1 : IntKind.i64.wrap ((j : Int) - 1) = (j : Int) - 1 := IntWalk.i64_in _ (by omega)
          have W2 : (1 : Int) ≤ (j : Int) := by omega
          have W3 : ((j : Int) - 1).toNat = j - 1 := by omega
          have W4 : (j : Int) - 1 < (k : Int) + 2 := by omega
          have W5 : (j : Int) < (k : Int) + 2 := by omega
          by_cases hxy : x < y
          · go_wp2_with fail
            go_quiet (fail)
            go_wp2
            go_ret
            exact ⟨rfl, below_drewN' (below_drewN' hb1 _) _⟩
          · go_wp2_with fail
            go_quiet (fail)
            go_wp2
            go_roundw
            case rel => exact ⟨j + 1, by omega, by omega, by go_num, fun i hi => by
              rcases Nat.lt_succ_iff_lt_or_eq.1 hi with hi | hi
              · exact Hrise.out i hi
              · have ei : i = j - 1 := by omega
                subst ei
                rw [show j - 1 + 1 = j by omega, List.getD_eq_getElem?_getD, Hy.out, List.getD_eq_getElem?_getD, Hx.out]
                simp only [Option.getD_some]
                omega, _, rfl⟩
            case measure => simp [intOf]; omega
        · obtain rfl : j = k + 2 := by omega
          have qss := str_same sel
          have qbb := str_same buy
          have qbs := str_ne (Ne.symm hne)
          have P := way_plain sel buy os ds k hne (fun i hi => by
            have hio : os[i]? = some (os.getD i ⟨#[]⟩) := by rw [List.getD_eq_getElem?_getD, List.getElem?_eq_getElem (by omega)]; rfl
            exact Hos.out i _ hi hio) Hrise.out D E hDE
          rw [Hd.out] at P
          clear Hd Hos Hrise hlt hj1 hj2
          rcases P with ⟨g1, l1, g2, l2⟩ | ⟨g1, l1, g2, b, l2⟩ | ⟨g1, g2, a, b, l1, l2, hab⟩
          · have l1 := Lib.hid l1
            have l2 := Lib.hid l2
            have f1 : ¬ d0 ≤ D := by omega
            have f2 : ¬ d0 ≤ E := by omega
            go_wp2_with (first | (go_at_call_of 25 D; refine (bearer_any t ht (chainF sel buy os ds k) D sel buy hne T _ (below_drewN' hb1 _) A' (k + 2) c' (by omega) (hrd.drewN _) none l1.out).mono ?_; rintro e w3 ⟨rfl, hb3⟩; have hb4 := below_trans (below_drewN' hb1 _) hb3; have hrd3 := ((hrd.drewN _).below hb3).more hb3.size; simp only [bearerV]) | (go_at_call_of 25 E; refine (bearer_any t ht (chainF sel buy os ds k) E sel buy hne T _ hb4 A' (k + 2) c' (by omega) hrd3 none l2.out).mono ?_; rintro e w4 ⟨rfl, hb5⟩; have hb6 := below_trans hb4 hb5; have k4 : w4.cell? a2 = some (.int .i64 d0) := (hb6.cell hbk2).trans hc20'; simp only [bearerV]))
            go_ret
            exact ⟨rfl, hb6⟩
          · have l1 := Lib.hid l1
            have l2 := Lib.hid l2
            have f1 : ¬ d0 ≤ D := by omega
            rcases sd_cases (stg b sel buy) (tRisk t) with ⟨h2, _⟩ | ⟨h2, _⟩
            · go_wp2_with (first | (go_at_call_of 25 D; refine (bearer_any t ht (chainF sel buy os ds k) D sel buy hne T _ (below_drewN' hb1 _) A' (k + 2) c' (by omega) (hrd.drewN _) none l1.out).mono ?_; rintro e w3 ⟨rfl, hb3⟩; have hb4 := below_trans (below_drewN' hb1 _) hb3; have hrd3 := ((hrd.drewN _).below hb3).more hb3.size; simp only [bearerV]) | (go_at_call_of 25 E; refine (bearer_any t ht (chainF sel buy os ds k) E sel buy hne T _ hb4 A' (k + 2) c' (by omega) hrd3 (some b) l2.out).mono ?_; rintro e w4 ⟨rfl, hb5⟩; have hb6 := below_trans hb4 hb5; have k4 : w4.cell? a2 = some (.int .i64 d0) := (hb6.cell hbk2).trans hc20'; simp only [bearerV]; rw [if_pos h2]))
              go_ret
              exact ⟨rfl, hb6⟩
            · go_wp2_with (first | (go_at_call_of 25 D; refine (bearer_any t ht (chainF sel buy os ds k) D sel buy hne T _ (below_drewN' hb1 _) A' (k + 2) c' (by omega) (hrd.drewN _) none l1.out).mono ?_; rintro e w3 ⟨rfl, hb3⟩; have hb4 := below_trans (below_drewN' hb1 _) hb3; have hrd3 := ((hrd.drewN _).below hb3).more hb3.size; simp only [bearerV]) | (go_at_call_of 25 E; refine (bearer_any t ht (chainF sel buy os ds k) E sel buy hne T _ hb4 A' (k + 2) c' (by omega) hrd3 (some b) l2.out).mono ?_; rintro e w4 ⟨rfl, hb5⟩; have hb6 := below_trans hb4 hb5; have k4 : w4.cell? a2 = some (.int .i64 d0) := (hb6.cell hbk2).trans hc20'; simp only [bearerV]; rw [if_neg (Int.not_lt.2 h2)]))
              go_ret
              exact ⟨rfl, hb6⟩
          · have l1 := Lib.hid l1
            have l2 := Lib.hid l2
            rcases sd_cases (stg a sel buy) (tRisk t) with ⟨h1, _⟩ | ⟨h1, _⟩
            · rcases sd_cases (stg b sel buy) (tRisk t) with ⟨h2, _⟩ | ⟨h2, _⟩
              · go_wp2_with (first | (go_at_call_of 25 D; refine (bearer_any t ht (chainF sel buy os ds k) D sel buy hne T _ (below_drewN' hb1 _) A' (k + 2) c' (by omega) (hrd.drewN _) (some a) l1.out).mono ?_; rintro e w3 ⟨rfl, hb3⟩; have hb4 := below_trans (below_drewN' hb1 _) hb3; have hrd3 := ((hrd.drewN _).below hb3).more hb3.size; simp only [bearerV]; rw [if_pos h1]) | (go_at_call_of 25 E; refine (bearer_any t ht (chainF sel buy os ds k) E sel buy hne T _ hb4 A' (k + 2) c' (by omega) hrd3 (some b) l2.out).mono ?_; rintro e w4 ⟨rfl, hb5⟩; have hb6 := below_trans hb4 hb5; have k4 : w4.cell? a2 = some (.int .i64 d0) := (hb6.cell hbk2).trans hc20'; simp only [bearerV]; rw [if_pos h2]))
                go_ret
                exact ⟨rfl, hb6⟩
              · go_wp2_with (first | (go_at_call_of 25 D; refine (bearer_any t ht (chainF sel buy os ds k) D sel buy hne T _ (below_drewN' hb1 _) A' (k + 2) c' (by omega) (hrd.drewN _) (some a) l1.out).mono ?_; rintro e w3 ⟨rfl, hb3⟩; have hb4 := below_trans (below_drewN' hb1 _) hb3; have hrd3 := ((hrd.drewN _).below hb3).more hb3.size; simp only [bearerV]; rw [if_pos h1]) | (go_at_call_of 25 E; refine (bearer_any t ht (chainF sel buy os ds k) E sel buy hne T _ hb4 A' (k + 2) c' (by omega) hrd3 (some b) l2.out).mono ?_; rintro e w4 ⟨rfl, hb5⟩; have hb6 := below_trans hb4 hb5; have k4 : w4.cell? a2 = some (.int .i64 d0) := (hb6.cell hbk2).trans hc20'; simp only [bearerV]; rw [if_neg (Int.not_lt.2 h2)]))
                go_ret
                exact ⟨rfl, hb6⟩
            · have h2 : tRisk t ≤ stg b sel buy := Int.le_trans h1 hab
              go_wp2_with (first | (go_at_call_of 25 D; refine (bearer_any t ht (chainF sel buy os ds k) D sel buy hne T _ (below_drewN' hb1 _) A' (k + 2) c' (by omega) (hrd.drewN _) (some a) l1.out).mono ?_; rintro e w3 ⟨rfl, hb3⟩; have hb4 := below_trans (below_drewN' hb1 _) hb3; have hrd3 := ((hrd.drewN _).below hb3).more hb3.size; simp only [bearerV]; rw [if_neg (Int.not_lt.2 h1)]) | (go_at_call_of 25 E; refine (bearer_any t ht (chainF sel buy os ds k) E sel buy hne T _ hb4 A' (k + 2) c' (by omega) hrd3 (some b) l2.out).mono ?_; rintro e w4 ⟨rfl, hb5⟩; have hb6 := below_trans hb4 hb5; have k4 : w4.cell? a2 = some (.int .i64 d0) := (hb6.cell hbk2).trans hc20'; simp only [bearerV]; rw [if_neg (Int.not_lt.2 h2)]))
              go_ret
              exact ⟨rfl, hb6⟩
end Go.Proofs.YtkjebkdecakceaaDoor
