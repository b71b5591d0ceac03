/- TokenJoins's card: for every input the law returns true; what is read reads as it did; the listed variables start as their initialisers lay them (the tie is given). No condition. -/
import Derived.Test.YtnffnkmghghmlaaDoorCards
import Derived.Test.YtnffnkmghghmlaaDoorTie
import Derived.Test.YtnffnkmghghmlaaDoorJoinsLaw
import Derived.Test.YtnffnkmghghmlaaDoorLaid
import Derived.Test.YtnffnkmghghmlaaDoorTokView
import Derived.Deep.DeepHandedRow
import Derived.Deep.DeepWitnessRowRef
import Derived.Lay
namespace Go.Proofs.YtnffnkmghghmlaaDoor.tokenJoinsRow
open Go.ChangeShapes Go.WideShapes Go.ChangeAt Go.RowKit Go.Deep
open Go.ChangeMaps (open_string shut_string)
set_option linter.unusedVariables false
theorem own : ownKnob Tryd.prog.godebug = none := by kernel_rfl
theorem laidOut : laidOutB Tryd.prog = true := by kernel_rfl
set_option maxRecDepth 100000 in
theorem contract (H : Type) (enc : TypeId × Value → H) (W : World) (base : Nat) (args : Array Value) (ds gs : List (DataW H)) (before : List MemPlace)
    (hval0 : ∀ (j : Nat) t v, Tryd.f9.params[j]? = some t → args[j]? = some v → Value.okWide Tryd.prog W .any base t v)
    (hW : DataW.Whole enc Tryd.prog Tryd.f9.params.toList Rows.tokenJoinsSpec.vars false W args.toList ds gs before) (hL : laidMetH Tryd.prog Rows.tokenJoinsRow.laid W) :
    Calls Tryd.prog 9 args W fun e W' => ∃ v, e = .returned v ∧ Rows.tokenJoinsSpec.post enc Tryd.prog Tryd.f9 false true false false W args v W' := by
  have hval := hval0
  have hW' := hW
  obtain ⟨p, q, hA0, hV, rfl, hfz, hnd⟩ := hW
  have hA : DataW.TrodAll enc Tryd.prog W 0 (fun _ => true) true Tryd.f9.params.toList args.toList ds p := hA0
  rw [Tryd.params9] at hA hval
  obtain ⟨v0, vs0, d0, ds0, p0, q0, hargs, rfl, rfl, h0, r0⟩ := trodAll_cons hA
  obtain ⟨v1, vs1, d1, ds1, p1, q1, rfl, rfl, rfl, h1, r1⟩ := trodAll_cons r0
  obtain ⟨rfl, rfl, rfl⟩ := trodAll_nil r1
  obtain rfl : args = #[v0, v1] := by cases args; simp_all
  obtain ⟨rfl, rfl⟩ := trodVars_none hV
  have k0 := h0
  have lt0 : ∀ x ∈ p0, x.block < W.heap.size := by obtain ⟨m, hm⟩ := k0; exact DataW.trod_lt m _ _ _ hm
  have o0 := hval 0 23 v0 rfl rfl
  obtain ⟨A0, n0, c0, l0, e0, m0⟩ := view_toks o0 h0
  subst e0
  have k1 := h1
  have lt1 : ∀ x ∈ p1, x.block < W.heap.size := by obtain ⟨m, hm⟩ := k1; exact DataW.trod_lt m _ _ _ hm
  have o1 := hval 1 3 v1 rfl rfl
  obtain ⟨a1, e1, _, _, w1⟩ := open_int Tryd.underlying3 o1 h1
  subst e1
  clear hA0 hval0
  obtain ⟨ps, ⟨g1, t1, cs1, fuel1, pp1, qq1, hg1, ht1, hvar1, hd1, ⟨g', t', cs, fuel, pp, qq, hg', ht', hvar, hd, _, _⟩, _⟩, _⟩ := (show laidMet Tryd.prog Rows.tokenJoinsRow.laid W from hL)
  obtain rfl : t1 = 33 := Option.some.inj (ht1.symm.trans (by obtain rfl : g1 = 1 := Option.some.inj (hg1.symm.trans (by kernel_rfl)); kernel_rfl))
  obtain rfl : t' = 33 := Option.some.inj (ht'.symm.trans (by obtain rfl : g' = 0 := Option.some.inj (hg'.symm.trans (by kernel_rfl)); kernel_rfl))
  obtain ⟨b, o, c, T⟩ := tab_of_laid hvar hd
  obtain ⟨b1, o1, c1', K⟩ := kin_of_laid hvar1 hd1
  refine (joinsLaw_any A0 n0 c0 l0 a1 W T K m0).mono fun e W' ⟨he, bel⟩ => ?_
  subst he
  exact ⟨_, rfl, _, _, _, [], _, [], hW', trodAll_mk1 (shut_bool Tryd.underlying4 _), (trodAll_cons_mk (Below.trod laidOut (by kernel_rfl) (of_decide_eq_true (by kernel_rfl)) k0 bel lt0) (trodAll_cons_mk (Below.trod laidOut (by kernel_rfl) (of_decide_eq_true (by kernel_rfl)) k1 bel lt1) trodAll_mk0)), rfl, bel.frame _, fun h => by cases h⟩
set_option maxRecDepth 100000 in
theorem laid_met (os : Os) : laidMet Tryd.prog Rows.tokenJoinsRow.laid ((World.laidAll Tryd.prog os Rows.tokenJoinsRow.laid).forCall (fun _ _ => 0) ⟨#[], #[.slice none 0 0, .int .i64 0], []⟩).memory :=
  laidMet_laidAll #[.slice none 0 0, .int .i64 0] (by kernel_rfl) (by kernel_rfl)
theorem reads (os : Os) {H : Type} (enc : TypeId × Value → H) : (DataW.whole enc Tryd.prog ((World.laidAll Tryd.prog os Rows.tokenJoinsRow.laid).forCall (fun _ _ => 0) ⟨#[], #[.slice none 0 0, .int .i64 0], []⟩).memory Tryd.f9.params.toList Rows.tokenJoinsSpec.vars false #[.slice none 0 0, .int .i64 0].toList 8).map (fun x => (x.1, x.2.1)) = some ([.nil, .lit (.int .i64 0)], []) := by kernel_rfl
set_option maxRecDepth 100000 in
theorem lifted (os : Os) (started : os.Started) (H : Type) (enc : TypeId × Value → H) (F : Stop.Interp) :
    ReturnsInHanded {} Tryd.checked os 9 .any ((OpenSpec.ofChange Rows.tokenJoinsSpec).preRow enc Tryd.prog Tryd.f9 Rows.tokenJoinsRow.domain false Rows.tokenJoinsRow.laid) (((OpenSpec.ofChange Rows.tokenJoinsSpec).at F).post enc Tryd.prog Tryd.f9 false true false false) := by
  obtain ⟨⟨x1, x2, x3⟩, hx, hx1⟩ := Option.map_eq_some_iff.1 (reads os enc)
  simp only [Prod.mk.injEq] at hx1
  obtain ⟨rfl, rfl⟩ := hx1
  refine returnsInHanded_of_row (C := Tryd.checked) (s := (OpenSpec.ofChange Rows.tokenJoinsSpec)) own started (by kernel_rfl) Tryd.func9
    (witness_row_atRef (enc := enc) (C := Tryd.checked) false (World.laidAll Tryd.prog os Rows.tokenJoinsRow.laid) #[.slice none 0 0, .int .i64 0] (World.laidAll_os _ _ _) (by kernel_rfl) (by kernel_rfl) (by kernel_rfl)
      (OpenSpec.preRow_of_cond 8 hx (by kernel_rfl) (fun k hk => by cases hk) (by kernel_rfl) (laid_met os))) ?_
  intro W base args ds gs before hval hW _ hcond _ hL _ _
  exact contract H enc W base args ds gs before hval hW hL
theorem said : Rows.TokenJoinsSaid :=
  OpenClaim.holds_of_cond 9 Tryd.f9 rfl rfl rfl rfl rfl rfl rfl ⟨rfl, rfl, rfl, rfl, rfl⟩ rfl rfl rfl rfl rfl (by kernel_rfl) Tryd.func9 (by kernel_rfl)
    (of_decide_eq_true (by kernel_rfl)) (by unfold Func.isWrapper; rw [if_neg (of_decide_eq_false (by kernel_rfl))]; exact ⟨rfl, rfl⟩)
    (fun os started H enc _ F => by rw [OpenClaim.pre_eq_preRow]; exact lifted os started H enc F)
theorem plain (f : FuncId) (fn : Func) (hf : Tryd.pinned.checked.prog.funcNamed "supercargo/supercargolaw27.TokenJoins" = some f) (hfn : Tryd.pinned.checked.prog.funcs[f]? = some fn) :
    false = Tryd.pinned.checked.prog.looks [] ∧ ∀ (j : Nat) t, fn.params[j]? = some t → Tryd.pinned.checked.prog.wantsStandIn t = false := by
  obtain rfl : f = 9 := Option.some.inj ((show Tryd.prog.funcNamed "supercargo/supercargolaw27.TokenJoins" = some 9 by kernel_rfl).symm.trans hf) |>.symm
  obtain rfl : fn = Tryd.f9 := (Option.some.inj (Tryd.func9.symm.trans hfn)).symm
  refine ⟨by kernel_rfl, fun j t ht => ?_⟩
  rw [Tryd.params9] at ht
  have hm := Array.mem_of_getElem? ht
  have hm' : t = 23 ∨ t = 3 := by simpa using hm
  rcases hm' with rfl | rfl
  · exact (show Tryd.prog.wantsStandIn 23 = false by kernel_rfl)
  · exact (show Tryd.prog.wantsStandIn 3 = false by kernel_rfl)
/-- the tied card -/
theorem card : Rows.TokenJoinsCardSaid :=
  Claim7.holds_tied_plain_at .later [] _ _ _ _ said (fun _ h => by cases h) (by kernel_rfl) (fun _ h => by cases h) tokenJoins_row_tie rfl ⟨rfl, rfl⟩ (by kernel_rfl) rfl plain (by kernel_rfl)
#print axioms card
end Go.Proofs.YtnffnkmghghmlaaDoor.tokenJoinsRow
