/-
  No cell of these rows narrows 'for every input' (looked for: loops, veiled, ifaces, maps, wideKeys, modest, calm, conditions, laid).
  DERIVED. THE GIVEN ROWS OF THIS SEAT. 6 by the template 'for every input the law returns true; each argument reads behind the call as it read before'; 0 by the template 'total and deterministic' (their statements: YtlmnbdepklcfpaaTotals.lean).
  GIVEN WITH THE SEED: the statements are not yours to turn. If you find one false, say at which input.
  Laid BY PROGRAM, IN A SANDBOX (cutbox-rows.mjs): the forced cells as the released guide's own fill.sh prints them over the translation 5e30f5b7a1cbd5fc… (all of the seat's roots in one cut). By AI agents, Wed Nov 11 2026. No macro, syntax, notation, axiom, sorry.
-/
import Derived.Test.YtlmnbdepklcfpaaChecked
import GoSem.Claim
import GoSem.ClaimJoined
import GoSem.ClaimMapViews
import Derived.JoinedTies
import Derived.KernelRfl
namespace Go.Proofs.Ytlmnbdepklcfpaa
/- THE CELL 'sum', in the pinned program and in every row, IS THE sha256 OF THE DUMP (.gsa) THAT YtlmnbdepklcfpaaProg.lean LOADS. Nothing in Lean hashes anything: it is a label: what it is worth is what the hold of that sum in a sandbox is worth. -/
noncomputable def Try.pinned : Pinned := { name := "ytlmnbdepklcfpaa", sum := "5e30f5b7a1cbd5fcbd5532a92ae9983e32516aeba8d58d495d5b9c1d91c910f5", checked := Try.checked }
namespace Rows
def none {H : Type} : Left H := { results := [], args := [] }

/-- 'supercargolaw46.LayUsed': WHATEVER THE INPUT: true; the input reads as it did. -/
def layUsedSpec : ChangeSpec := { name := "layUsed", fn := fun _ => fun
  | [d1, d2] => { results := [.lit (.bool true)], args := [d1, d2] }
  | _ => none }
def layUsedRow : OpenClaim := { program := "ytlmnbdepklcfpaa", sum := "5e30f5b7a1cbd5fcbd5532a92ae9983e32516aeba8d58d495d5b9c1d91c910f5", func := "supercargo/supercargolaw46.LayUsed", spec := "layUsed", unfollowed := true, recurses := true, plainKeys := false, apart := false }
def LayUsedSaid : Prop := layUsedRow.holds Try.pinned (OpenSpec.ofChange layUsedSpec)

/-- ITS FALSE NEIGHBOUR: 'it returns false'. Refute it at one input. -/
def layUsedWrong : ChangeSpec := { name := "layUsed", fn := fun _ => fun
  | [d1, d2] => { results := [.lit (.bool false)], args := [d1, d2] }
  | _ => none }
def LayUsedWrongFalsely : Prop := layUsedRow.holds Try.pinned (OpenSpec.ofChange layUsedWrong)

/-- 'supercargolaw46.LayCuts': WHATEVER THE INPUT: true; the input reads as it did. -/
def layCutsSpec : ChangeSpec := { name := "layCuts", fn := fun _ => fun
  | [d1, d2, d3] => { results := [.lit (.bool true)], args := [d1, d2, d3] }
  | _ => none }
def layCutsRow : OpenClaim := { program := "ytlmnbdepklcfpaa", sum := "5e30f5b7a1cbd5fcbd5532a92ae9983e32516aeba8d58d495d5b9c1d91c910f5", func := "supercargo/supercargolaw46.LayCuts", spec := "layCuts", unfollowed := true, recurses := true, plainKeys := false, apart := false }
def LayCutsSaid : Prop := layCutsRow.holds Try.pinned (OpenSpec.ofChange layCutsSpec)

/-- ITS FALSE NEIGHBOUR: 'it returns false'. Refute it at one input. -/
def layCutsWrong : ChangeSpec := { name := "layCuts", fn := fun _ => fun
  | [d1, d2, d3] => { results := [.lit (.bool false)], args := [d1, d2, d3] }
  | _ => none }
def LayCutsWrongFalsely : Prop := layCutsRow.holds Try.pinned (OpenSpec.ofChange layCutsWrong)

/-- 'supercargolaw46.LayMore': WHATEVER THE INPUT: true; the input reads as it did. -/
def layMoreSpec : ChangeSpec := { name := "layMore", fn := fun _ => fun
  | [d1, d2, d3, d4] => { results := [.lit (.bool true)], args := [d1, d2, d3, d4] }
  | _ => none }
def layMoreRow : OpenClaim := { program := "ytlmnbdepklcfpaa", sum := "5e30f5b7a1cbd5fcbd5532a92ae9983e32516aeba8d58d495d5b9c1d91c910f5", func := "supercargo/supercargolaw46.LayMore", spec := "layMore", unfollowed := true, recurses := true, plainKeys := false, apart := false }
def LayMoreSaid : Prop := layMoreRow.holds Try.pinned (OpenSpec.ofChange layMoreSpec)

/-- ITS FALSE NEIGHBOUR: 'it returns false'. Refute it at one input. -/
def layMoreWrong : ChangeSpec := { name := "layMore", fn := fun _ => fun
  | [d1, d2, d3, d4] => { results := [.lit (.bool false)], args := [d1, d2, d3, d4] }
  | _ => none }
def LayMoreWrongFalsely : Prop := layMoreRow.holds Try.pinned (OpenSpec.ofChange layMoreWrong)

/-- 'supercargolaw46.LaySplits': WHATEVER THE INPUT: true; the input reads as it did. -/
def laySplitsSpec : ChangeSpec := { name := "laySplits", fn := fun _ => fun
  | [d1, d2, d3] => { results := [.lit (.bool true)], args := [d1, d2, d3] }
  | _ => none }
def laySplitsRow : OpenClaim := { program := "ytlmnbdepklcfpaa", sum := "5e30f5b7a1cbd5fcbd5532a92ae9983e32516aeba8d58d495d5b9c1d91c910f5", func := "supercargo/supercargolaw46.LaySplits", spec := "laySplits", unfollowed := true, recurses := true, plainKeys := false, apart := false }
def LaySplitsSaid : Prop := laySplitsRow.holds Try.pinned (OpenSpec.ofChange laySplitsSpec)

/-- ITS FALSE NEIGHBOUR: 'it returns false'. Refute it at one input. -/
def laySplitsWrong : ChangeSpec := { name := "laySplits", fn := fun _ => fun
  | [d1, d2, d3] => { results := [.lit (.bool false)], args := [d1, d2, d3] }
  | _ => none }
def LaySplitsWrongFalsely : Prop := laySplitsRow.holds Try.pinned (OpenSpec.ofChange laySplitsWrong)

/-- 'supercargolaw46.LayStays': WHATEVER THE INPUT: true; the input reads as it did. -/
def layStaysSpec : ChangeSpec := { name := "layStays", fn := fun _ => fun
  | [d1, d2, d3] => { results := [.lit (.bool true)], args := [d1, d2, d3] }
  | _ => none }
def layStaysRow : OpenClaim := { program := "ytlmnbdepklcfpaa", sum := "5e30f5b7a1cbd5fcbd5532a92ae9983e32516aeba8d58d495d5b9c1d91c910f5", func := "supercargo/supercargolaw46.LayStays", spec := "layStays", unfollowed := true, recurses := true, plainKeys := false, apart := false }
def LayStaysSaid : Prop := layStaysRow.holds Try.pinned (OpenSpec.ofChange layStaysSpec)

/-- ITS FALSE NEIGHBOUR: 'it returns false'. Refute it at one input. -/
def layStaysWrong : ChangeSpec := { name := "layStays", fn := fun _ => fun
  | [d1, d2, d3] => { results := [.lit (.bool false)], args := [d1, d2, d3] }
  | _ => none }
def LayStaysWrongFalsely : Prop := layStaysRow.holds Try.pinned (OpenSpec.ofChange layStaysWrong)

/-- 'supercargotop.TopLay': WHATEVER THE INPUT: true; the input reads as it did. -/
def topLaySpec : ChangeSpec := { name := "topLay", fn := fun _ => fun
  | [d1, d2, d3, d4, d5] => { results := [.lit (.bool true)], args := [d1, d2, d3, d4, d5] }
  | _ => none }
def topLayRow : OpenClaim := { program := "ytlmnbdepklcfpaa", sum := "5e30f5b7a1cbd5fcbd5532a92ae9983e32516aeba8d58d495d5b9c1d91c910f5", func := "supercargo/supercargotop.TopLay", spec := "topLay", inPlace := ["internal/bytealg.abigen_runtime_cmpstring"], unfollowed := true, recurses := true, plainKeys := false, apart := false }
def TopLaySaid : Prop := topLayRow.holds Try.pinned (OpenSpec.ofChange topLaySpec)

/-- ITS FALSE NEIGHBOUR: 'it returns false'. Refute it at one input. -/
def topLayWrong : ChangeSpec := { name := "topLay", fn := fun _ => fun
  | [d1, d2, d3, d4, d5] => { results := [.lit (.bool false)], args := [d1, d2, d3, d4, d5] }
  | _ => none }
def TopLayWrongFalsely : Prop := topLayRow.holds Try.pinned (OpenSpec.ofChange topLayWrong)

/- THE SECOND FORM. 'bulk': how many values and letters a reading holds, each counted each time it is reached (what is shared counts as often as it is met; a slice's spare places count too). A statement '..UptoSaid' is the law's where the arguments, and the package variables that the reading takes, are together of bulk at most 1048576: NARROWER than '..Said'. Prove '..Said' where nothing that the law and all that it calls make is longer than what came in: it says more and counts as full. Else prove '..UptoSaid'. A law counts once. -/
mutual
def uptoBulk {H : Type} : DataW H → Nat
  | .lit (.string bytes) => bytes.length + 1
  | .lit _ => 1
  | .nil => 1
  | .ptr d => uptoBulk d + 1
  | .slice elems spare => uptoBulkAll elems + uptoBulkAll spare + 1
  | .agg parts => uptoBulkAll parts + 1
  | .iface _ d => uptoBulk d + 1
  | .map entries => uptoBulkEntries entries + 1
  | .held _ => 1
def uptoBulkAll {H : Type} : List (DataW H) → Nat
  | [] => 0
  | d :: r => uptoBulk d + uptoBulkAll r
def uptoBulkEntries {H : Type} : List (Lit × DataW H) → Nat
  | [] => 0
  | x :: r => uptoBulkEntry x + uptoBulkEntries r
def uptoBulkEntry {H : Type} : Lit × DataW H → Nat
  | (.string bytes, d) => bytes.length + uptoBulk d + 1
  | (_, d) => uptoBulk d + 1
 end
def uptoSmall : (H : Type) → List (DataW H) → Bool := fun _ ds => decide (uptoBulkAll ds ≤ 1048576)
def OpenSpec.upto (s : _root_.Go.ChangeSpec) : _root_.Go.OpenSpec := { _root_.Go.OpenSpec.ofChange s with cond := some uptoSmall }

/-- 'supercargolaw46.LayUsed', WHERE WHAT IT READS IS OF BULK AT MOST 1048576: true; the input reads as it did. -/
def layUsedUptoRow : OpenClaim := { program := "ytlmnbdepklcfpaa", sum := "5e30f5b7a1cbd5fcbd5532a92ae9983e32516aeba8d58d495d5b9c1d91c910f5", func := "supercargo/supercargolaw46.LayUsed", spec := "layUsed", unfollowed := true, recurses := true, plainKeys := false, apart := false, narrowed := true }
def LayUsedUptoSaid : Prop := layUsedUptoRow.holds Try.pinned (OpenSpec.upto layUsedSpec)

/-- 'supercargolaw46.LayCuts', WHERE WHAT IT READS IS OF BULK AT MOST 1048576: true; the input reads as it did. -/
def layCutsUptoRow : OpenClaim := { program := "ytlmnbdepklcfpaa", sum := "5e30f5b7a1cbd5fcbd5532a92ae9983e32516aeba8d58d495d5b9c1d91c910f5", func := "supercargo/supercargolaw46.LayCuts", spec := "layCuts", unfollowed := true, recurses := true, plainKeys := false, apart := false, narrowed := true }
def LayCutsUptoSaid : Prop := layCutsUptoRow.holds Try.pinned (OpenSpec.upto layCutsSpec)

/-- 'supercargolaw46.LayMore', WHERE WHAT IT READS IS OF BULK AT MOST 1048576: true; the input reads as it did. -/
def layMoreUptoRow : OpenClaim := { program := "ytlmnbdepklcfpaa", sum := "5e30f5b7a1cbd5fcbd5532a92ae9983e32516aeba8d58d495d5b9c1d91c910f5", func := "supercargo/supercargolaw46.LayMore", spec := "layMore", unfollowed := true, recurses := true, plainKeys := false, apart := false, narrowed := true }
def LayMoreUptoSaid : Prop := layMoreUptoRow.holds Try.pinned (OpenSpec.upto layMoreSpec)

/-- 'supercargolaw46.LaySplits', WHERE WHAT IT READS IS OF BULK AT MOST 1048576: true; the input reads as it did. -/
def laySplitsUptoRow : OpenClaim := { program := "ytlmnbdepklcfpaa", sum := "5e30f5b7a1cbd5fcbd5532a92ae9983e32516aeba8d58d495d5b9c1d91c910f5", func := "supercargo/supercargolaw46.LaySplits", spec := "laySplits", unfollowed := true, recurses := true, plainKeys := false, apart := false, narrowed := true }
def LaySplitsUptoSaid : Prop := laySplitsUptoRow.holds Try.pinned (OpenSpec.upto laySplitsSpec)

/-- 'supercargolaw46.LayStays', WHERE WHAT IT READS IS OF BULK AT MOST 1048576: true; the input reads as it did. -/
def layStaysUptoRow : OpenClaim := { program := "ytlmnbdepklcfpaa", sum := "5e30f5b7a1cbd5fcbd5532a92ae9983e32516aeba8d58d495d5b9c1d91c910f5", func := "supercargo/supercargolaw46.LayStays", spec := "layStays", unfollowed := true, recurses := true, plainKeys := false, apart := false, narrowed := true }
def LayStaysUptoSaid : Prop := layStaysUptoRow.holds Try.pinned (OpenSpec.upto layStaysSpec)

/-- 'supercargotop.TopLay', WHERE WHAT IT READS IS OF BULK AT MOST 1048576: true; the input reads as it did. -/
def topLayUptoRow : OpenClaim := { program := "ytlmnbdepklcfpaa", sum := "5e30f5b7a1cbd5fcbd5532a92ae9983e32516aeba8d58d495d5b9c1d91c910f5", func := "supercargo/supercargotop.TopLay", spec := "topLay", inPlace := ["internal/bytealg.abigen_runtime_cmpstring"], unfollowed := true, recurses := true, plainKeys := false, apart := false, narrowed := true }
def TopLayUptoSaid : Prop := topLayUptoRow.holds Try.pinned (OpenSpec.upto topLaySpec)

end Rows
end Go.Proofs.Ytlmnbdepklcfpaa
