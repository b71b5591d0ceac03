/- A region that draws its order, whose last operation waits for all others and may change what the others read. No condition. -/
import Derived.Test.YtlmnbdepklcfpaaView
import Derived.StillTail
import Derived.Deep.RegionHeld3
namespace Go.Proofs.Ytlmnbdepklcfpaa
/-- number z waits for number i, by way of others -/
def waitsB (md : Region.Mode) (ops : Array Oper) : Nat → Nat → Nat → Bool
  | 0, _, _ => false
  | f + 1, z, i => match ops[z]? with
    | some o => o.after.any fun e => Region.binds md e && (e.on == i || waitsB md ops f e.on i)
    | none => false
/-- whatever has come up, has all come up that it waits for -/
def Closed (md : Region.Mode) (ops : Array Oper) (listed : Array Bool) : Prop := ∀ (k : Nat) (o : Oper), ops[k]? = some o → listed.getD k false = true → ∀ e ∈ o.after, Region.binds md e = true → listed.getD e.on false = true
def closedB (md : Region.Mode) (ops : Array Oper) (listed : Array Bool) : Bool :=
  (List.range ops.size).all fun k => match ops[k]? with
    | some o => !listed.getD k false || o.after.all fun e => !Region.binds md e || listed.getD e.on false
    | none => true
theorem closed_of {md : Region.Mode} {ops : Array Oper} {listed : Array Bool} (h : closedB md ops listed = true) : Closed md ops listed := by
  intro k o ho hk e he hb
  unfold closedB at h
  rw [List.all_eq_true] at h
  have hlt : k < ops.size := (Array.getElem?_eq_some_iff.1 ho).1
  have h1 := h k (List.mem_range.2 hlt)
  simp only [ho, hk, Bool.not_true, Bool.false_or] at h1
  have h2 := Array.all_eq_true_iff_forall_mem.1 h1 e he
  simpa [hb] using h2
theorem Closed.next {md : Region.Mode} {ops : Array Oper} {listed : Array Bool} (h : Closed md ops listed) {j : Nat} (hj : j ∈ Region.ready md ops listed) : Closed md ops (listed.setIfInBounds j true) := by
  intro k o ho hk e he hb
  by_cases hjk : j = k
  · subst hjk
    obtain ⟨_, o', ho', hall⟩ := mem_ready.1 hj
    rw [ho] at ho'
    cases ho'
    exact getD_set_true (hall e he hb)
  · rw [getD_set_ne false hjk] at hk
    exact getD_set_true (h k o ho hk e he hb)
theorem waits_un {md : Region.Mode} {ops : Array Oper} {listed : Array Bool} (h : Closed md ops listed) {i : Nat} (hi : listed.getD i false = false) : ∀ (f z : Nat), waitsB md ops f z i = true → ∀ o, ops[z]? = some o → ¬ (∀ e ∈ o.after, Region.binds md e = true → listed.getD e.on false = true) := by
  intro f
  induction f with
  | zero => intro z hz; cases hz
  | succ f ih =>
    intro z hz o ho hall
    simp only [waitsB, ho] at hz
    rw [Array.any_eq_true'] at hz
    obtain ⟨e, he, hh⟩ := hz
    simp only [Bool.and_eq_true, Bool.or_eq_true, beq_iff_eq] at hh
    have h1 := hall e he hh.1
    rcases hh.2 with h2 | h2
    · rw [h2, hi] at h1
      cases h1
    · cases ho2 : ops[e.on]? with
      | none =>
        cases f with
        | zero => cases h2
        | succ f => simp [waitsB, ho2] at h2
      | some o2 => exact ih e.on h2 o2 ho2 (h e.on o2 ho2 h1)
section
variable {P : Program} {ops : Array Oper} {Q : Exit → Act → World → Prop} {md : Region.Mode} {S : World → Prop} {z : Nat}
/-- whatever order is picked; S holds behind each operation but number z -/
def AnyZ (P : Program) (md : Region.Mode) (ops : Array Oper) (Q : Exit → Act → World → Prop) (S : World → Prop) (z : Nat) : Nat → Array Bool → Act → World → Prop
  | 0, listed, a, w => Region.ready md ops listed = [] ∧ Q .normal a w
  | m + 1, listed, a, w => (Region.ready md ops listed = [] → Q .normal a w) ∧
    ∀ i ∈ Region.ready md ops listed, wpOp P ops Q i (fun a' w' => (i ≠ z → S w') ∧ AnyZ P md ops Q S z m (listed.setIfInBounds i true) a' w') a w
theorem AnyZ.any : ∀ (m : Nat) (listed : Array Bool) (a : Act) (w : World), AnyZ P md ops Q S z m listed a w → wpAny P md ops Q m listed a w
  | 0, _, _, _, h => h
  | m + 1, _, _, _, h => ⟨h.1, fun i hi => wpOp_mono (fun a' w' h' => AnyZ.any m _ a' w' h'.2) (h.2 i hi)⟩
theorem AnyZ.first {i : Nat} {oi : Oper} {v : Value} (hi : ops[i]? = some oi) (hsel : ∀ (j : Nat) (o : Oper) cs b, ops[j]? = some o → o.op ≠ .select cs b)
    (hQ : ∀ c a w, Q (.panic c) (a.put oi.dst v) w → Q (.panic c) a w) {f : Nat} (hz : (decide (ops.size ≤ z) || waitsB md ops f z i) = true) :
    ∀ (m : Nat) (listed : Array Bool) (a : Act) (w : World),
      Closed md ops listed → (∀ j oj, ops[j]? = some oj → j ≠ i → listed.getD j true = false → (∀ e ∈ oj.after, Region.binds md e = true → e.on ≠ i) → oi.apart ops oj = true) →
      i ∈ Region.ready md ops listed → YieldsIf P ops S oi v a → S w →
      AnyZ P md ops Q S z m (listed.setIfInBounds i true) (a.put oi.dst v) w → AnyZ P md ops Q S z (m + 1) listed a w := by
  intro m
  induction m with
  | zero =>
    intro listed a w _ _ hr hy hS H
    refine ⟨fun h => (by rw [h] at hr; cases hr), fun j hj => ?_⟩
    by_cases hji : j = i
    · subst hji
      exact hy.wpOp hi hS ⟨fun _ => hS, H⟩
    · have := ready_mono hj hji
      rw [H.1] at this
      cases this
  | succ m ih =>
    intro listed a w hcl hfree hr hy hS H
    refine ⟨fun h => (by rw [h] at hr; cases hr), fun j hj => ?_⟩
    by_cases hji : j = i
    · subst hji
      exact hy.wpOp hi hS ⟨fun _ => hS, H⟩
    · have h1 := H.2 j (ready_mono hj hji)
      obtain ⟨hjun, oj, hoj, hall⟩ := mem_ready.1 hj
      have hnot : ∀ e ∈ oj.after, Region.binds md e = true → e.on ≠ i := fun e he hb heq => by
        have g1 := hall e he hb
        have g0 := (mem_ready.1 hr).1
        rw [heq] at g1
        rcases Nat.lt_or_ge i listed.size with h' | h'
        · simp [h'] at g0 g1
          rw [g0] at g1
          cases g1
        · simp [Array.getElem?_eq_none h'] at g1
      have hjz : j ≠ z := fun e => by
        rw [e] at hoj
        have hlt : z < ops.size := (Array.getElem?_eq_some_iff.1 hoj).1
        have hz' : waitsB md ops f z i = true := by
          rw [decide_eq_false (by omega)] at hz
          simpa using hz
        exact waits_un hcl (getD_both (mem_ready.1 hr).1) f z hz' oj hoj hall
      have h2 := wpOp_putIf hoj (hfree j oj hoj hji hjun hnot) (fun cs b => hsel i oi cs b hi) (fun cs b => hsel j oj cs b hoj) hQ hy h1
      refine wpOp_mono (fun a' w' h3 => ⟨h3.2.1, ih (listed.setIfInBounds j true) a' w' (hcl.next hj) (fun k ok hk hki hun hno => hfree k ok hk hki ?_ hno) (ready_mono hr (Ne.symm hji)) h3.1 (h3.2.1 hjz) ?_⟩) h2
      · by_cases hjk : j = k
        · subst hjk
          exact hjun
        · rw [getD_set_ne true hjk] at hun
          exact hun
      · rw [Array.setIfInBounds_comm _ _ hji]
        exact h3.2.2
theorem AnyZ.take {i : Nat} {oi : Oper} {v : Value} {m : Nat} {listed : Array Bool} {a : Act} {w : World} (hi : ops[i]? = some oi)
    (hs : Region.noSelect ops = true) (hf : Region.free md ops listed i = true) (hr : (Region.ready md ops listed).contains i = true) (hz : (decide (ops.size ≤ z) || waitsB md ops ops.size z i) = true) (hc : closedB md ops listed = true)
    (hQ : ∀ c a w, Q (.panic c) (a.put oi.dst v) w → Q (.panic c) a w) (hw : Region.wanted oi (yielded ops a.tmps) = true) (hy : ∀ w, S w → (execOp a.eval oi).run P w = .ok (.value v) w) (hS : S w)
    (h : AnyZ P md ops Q S z m (listed.setIfInBounds i true) (a.put oi.dst v) w) : AnyZ P md ops Q S z (m + 1) listed a w :=
  AnyZ.first hi (Region.noSelect_spec hs) hQ hz m listed a w (closed_of hc) (Region.free_spec hi hf) (by simpa using hr) (.inl ⟨hw, hy⟩) hS h
theorem AnyZ.skip {i : Nat} {oi : Oper} {m : Nat} {listed : Array Bool} {a : Act} {w : World} (hi : ops[i]? = some oi)
    (hs : Region.noSelect ops = true) (hf : Region.free md ops listed i = true) (hr : (Region.ready md ops listed).contains i = true) (hz : (decide (ops.size ≤ z) || waitsB md ops ops.size z i) = true) (hc : closedB md ops listed = true)
    (hQ : ∀ c a w, Q (.panic c) (a.put oi.dst undef) w → Q (.panic c) a w) (hw : Region.wanted oi (yielded ops a.tmps) = false) (hS : S w)
    (h : AnyZ P md ops Q S z m (listed.setIfInBounds i true) (a.put oi.dst undef) w) : AnyZ P md ops Q S z (m + 1) listed a w :=
  AnyZ.first hi (Region.noSelect_spec hs) hQ hz m listed a w (closed_of hc) (Region.free_spec hi hf) (by simpa using hr) (.inr ⟨hw, rfl⟩) hS h
theorem AnyZ.one {i : Nat} {o : Oper} {m : Nat} {listed : Array Bool} {a : Act} {w : World} (hr : Region.ready md ops listed = [i]) (ho : ops[i]? = some o) (hw : Region.wanted o (yielded ops a.tmps) = true)
    (h : ∀ K : Act → World → Prop, Shut (∀ a w, (i = z ∨ S w) → (S w ∨ i = z → AnyZ P md ops Q S z m (listed.setIfInBounds i true) a w) → K a w) → Oper.wp P o a w K Q) : AnyZ P md ops Q S z (m + 1) listed a w := by
  refine ⟨fun h0 => (by rw [hr] at h0; cases h0), fun j hj => ?_⟩
  rw [hr, List.mem_singleton] at hj
  subst hj
  unfold wpOp
  rw [ho]
  show if Region.wanted o (yielded ops a.tmps) = true then _ else _
  rw [if_pos hw]
  exact .inl (h _ fun a w h1 h2 => ⟨fun hn => h1.resolve_left hn, h2 h1.symm⟩)
theorem AnyZ.done {listed : Array Bool} {a : Act} {w : World} (hr : Region.ready md ops listed = []) (h : Q .normal a w) : ∀ m, AnyZ P md ops Q S z m listed a w
  | 0 => ⟨hr, h⟩
  | _ + 1 => ⟨fun _ => h, by rw [hr]; simp⟩
theorem region_Z {id : Nat} {a : Act} {w : World} (hm : P.follows .mixedOrders = true)
    (h : AnyZ P .any ops Q S z ops.size (Array.replicate ops.size false) a w.drew) : (Code.region id ops true).wp P Q a w := wp_region_any hm (AnyZ.any _ _ _ _ h)
end
end Go.Proofs.Ytlmnbdepklcfpaa
