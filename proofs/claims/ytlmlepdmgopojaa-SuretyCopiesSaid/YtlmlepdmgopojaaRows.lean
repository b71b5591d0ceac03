/-
  No cell of these rows narrows 'for every input' (looked for: loops, veiled, ifaces, maps, wideKeys, modest, calm, conditions, laid).
  DERIVED. THE GIVEN ROWS OF THIS SEAT. 4 by the template 'for every input the law returns true; each argument reads behind the call as it read before'; 0 by the template 'total and deterministic' (their statements: YtlmlepdmgopojaaTotals.lean).
  GIVEN WITH THE SEED: the statements are not yours to turn. If you find one false, say at which input.
  Laid BY PROGRAM, IN A SANDBOX (cutbox-rows.mjs): the forced cells as the released guide's own fill.sh prints them over the translation c353442e5566911e… (all of the seat's roots in one cut). By AI agents, Wed Nov 11 2026. No macro, syntax, notation, axiom, sorry.
-/
import Derived.Test.YtlmlepdmgopojaaChecked
import GoSem.Claim
import GoSem.ClaimJoined
import GoSem.ClaimMapViews
import Derived.JoinedTies
import Derived.KernelRfl
namespace Go.Proofs.Ytlmlepdmgopojaa
/- THE CELL 'sum', in the pinned program and in every row, IS THE sha256 OF THE DUMP (.gsa) THAT YtlmlepdmgopojaaProg.lean LOADS. Nothing in Lean hashes anything: it is a label: what it is worth is what the hold of that sum in a sandbox is worth. -/
noncomputable def Try.pinned : Pinned := { name := "ytlmlepdmgopojaa", sum := "c353442e5566911eb14d50027c5261abd62dc696a73a8ed639cf8d4371863d1c", checked := Try.checked }
namespace Rows
def none {H : Type} : Left H := { results := [], args := [] }

/-- 'supercargolaw40.SuretyMays': WHATEVER THE INPUT: true; the input reads as it did. -/
def suretyMaysSpec : ChangeSpec := { name := "suretyMays", fn := fun _ => fun
  | [d] => { results := [.lit (.bool true)], args := [d] }
  | _ => none }
def suretyMaysRow : OpenClaim := { program := "ytlmlepdmgopojaa", sum := "c353442e5566911eb14d50027c5261abd62dc696a73a8ed639cf8d4371863d1c", func := "supercargo/supercargolaw40.SuretyMays", spec := "suretyMays", unfollowed := true, recurses := true, apart := false }
def SuretyMaysSaid : Prop := suretyMaysRow.holds Try.pinned (OpenSpec.ofChange suretyMaysSpec)

/-- ITS FALSE NEIGHBOUR: 'it returns false'. Refute it at one input. -/
def suretyMaysWrong : ChangeSpec := { name := "suretyMays", fn := fun _ => fun
  | [d] => { results := [.lit (.bool false)], args := [d] }
  | _ => none }
def SuretyMaysWrongFalsely : Prop := suretyMaysRow.holds Try.pinned (OpenSpec.ofChange suretyMaysWrong)

/-- 'supercargolaw40.SuretyExtends': WHATEVER THE INPUT: true; the input reads as it did. -/
def suretyExtendsSpec : ChangeSpec := { name := "suretyExtends", fn := fun _ => fun
  | [d1, d2, d3, d4, d5] => { results := [.lit (.bool true)], args := [d1, d2, d3, d4, d5] }
  | _ => none }
def suretyExtendsRow : OpenClaim := { program := "ytlmlepdmgopojaa", sum := "c353442e5566911eb14d50027c5261abd62dc696a73a8ed639cf8d4371863d1c", func := "supercargo/supercargolaw40.SuretyExtends", spec := "suretyExtends", unfollowed := true, recurses := true, apart := false }
def SuretyExtendsSaid : Prop := suretyExtendsRow.holds Try.pinned (OpenSpec.ofChange suretyExtendsSpec)

/-- ITS FALSE NEIGHBOUR: 'it returns false'. Refute it at one input. -/
def suretyExtendsWrong : ChangeSpec := { name := "suretyExtends", fn := fun _ => fun
  | [d1, d2, d3, d4, d5] => { results := [.lit (.bool false)], args := [d1, d2, d3, d4, d5] }
  | _ => none }
def SuretyExtendsWrongFalsely : Prop := suretyExtendsRow.holds Try.pinned (OpenSpec.ofChange suretyExtendsWrong)

/-- 'supercargolaw40.SuretyNever': WHATEVER THE INPUT: true; the input reads as it did. -/
def suretyNeverSpec : ChangeSpec := { name := "suretyNever", fn := fun _ => fun
  | [d1, d2] => { results := [.lit (.bool true)], args := [d1, d2] }
  | _ => none }
def suretyNeverRow : OpenClaim := { program := "ytlmlepdmgopojaa", sum := "c353442e5566911eb14d50027c5261abd62dc696a73a8ed639cf8d4371863d1c", func := "supercargo/supercargolaw40.SuretyNever", spec := "suretyNever", unfollowed := true, recurses := true, apart := false }
def SuretyNeverSaid : Prop := suretyNeverRow.holds Try.pinned (OpenSpec.ofChange suretyNeverSpec)

/-- ITS FALSE NEIGHBOUR: 'it returns false'. Refute it at one input. -/
def suretyNeverWrong : ChangeSpec := { name := "suretyNever", fn := fun _ => fun
  | [d1, d2] => { results := [.lit (.bool false)], args := [d1, d2] }
  | _ => none }
def SuretyNeverWrongFalsely : Prop := suretyNeverRow.holds Try.pinned (OpenSpec.ofChange suretyNeverWrong)

/-- 'supercargolaw40.SuretyCopies': WHATEVER THE INPUT: true; the input reads as it did. -/
def suretyCopiesSpec : ChangeSpec := { name := "suretyCopies", fn := fun _ => fun
  | [d1, d2, d3, d4] => { results := [.lit (.bool true)], args := [d1, d2, d3, d4] }
  | _ => none }
def suretyCopiesRow : OpenClaim := { program := "ytlmlepdmgopojaa", sum := "c353442e5566911eb14d50027c5261abd62dc696a73a8ed639cf8d4371863d1c", func := "supercargo/supercargolaw40.SuretyCopies", spec := "suretyCopies", unfollowed := true, recurses := true, apart := false }
def SuretyCopiesSaid : Prop := suretyCopiesRow.holds Try.pinned (OpenSpec.ofChange suretyCopiesSpec)

/-- ITS FALSE NEIGHBOUR: 'it returns false'. Refute it at one input. -/
def suretyCopiesWrong : ChangeSpec := { name := "suretyCopies", fn := fun _ => fun
  | [d1, d2, d3, d4] => { results := [.lit (.bool false)], args := [d1, d2, d3, d4] }
  | _ => none }
def SuretyCopiesWrongFalsely : Prop := suretyCopiesRow.holds Try.pinned (OpenSpec.ofChange suretyCopiesWrong)

/- THE SECOND FORM. 'bulk': how many values and letters a reading holds, each counted each time it is reached (what is shared counts as often as it is met; a slice's spare places count too). A statement '..UptoSaid' is the law's where the arguments, and the package variables that the reading takes, are together of bulk at most 1048576: NARROWER than '..Said'. Prove '..Said' where nothing that the law and all that it calls make is longer than what came in: it says more and counts as full. Else prove '..UptoSaid'. A law counts once. -/
mutual
def uptoBulk {H : Type} : DataW H → Nat
  | .lit (.string bytes) => bytes.length + 1
  | .lit _ => 1
  | .nil => 1
  | .ptr d => uptoBulk d + 1
  | .slice elems spare => uptoBulkAll elems + uptoBulkAll spare + 1
  | .agg parts => uptoBulkAll parts + 1
  | .iface _ d => uptoBulk d + 1
  | .map entries => uptoBulkEntries entries + 1
  | .held _ => 1
def uptoBulkAll {H : Type} : List (DataW H) → Nat
  | [] => 0
  | d :: r => uptoBulk d + uptoBulkAll r
def uptoBulkEntries {H : Type} : List (Lit × DataW H) → Nat
  | [] => 0
  | x :: r => uptoBulkEntry x + uptoBulkEntries r
def uptoBulkEntry {H : Type} : Lit × DataW H → Nat
  | (.string bytes, d) => bytes.length + uptoBulk d + 1
  | (_, d) => uptoBulk d + 1
 end
def uptoSmall : (H : Type) → List (DataW H) → Bool := fun _ ds => decide (uptoBulkAll ds ≤ 1048576)
def OpenSpec.upto (s : _root_.Go.ChangeSpec) : _root_.Go.OpenSpec := { _root_.Go.OpenSpec.ofChange s with cond := some uptoSmall }

/-- 'supercargolaw40.SuretyMays', WHERE WHAT IT READS IS OF BULK AT MOST 1048576: true; the input reads as it did. -/
def suretyMaysUptoRow : OpenClaim := { program := "ytlmlepdmgopojaa", sum := "c353442e5566911eb14d50027c5261abd62dc696a73a8ed639cf8d4371863d1c", func := "supercargo/supercargolaw40.SuretyMays", spec := "suretyMays", unfollowed := true, recurses := true, apart := false, narrowed := true }
def SuretyMaysUptoSaid : Prop := suretyMaysUptoRow.holds Try.pinned (OpenSpec.upto suretyMaysSpec)

/-- 'supercargolaw40.SuretyExtends', WHERE WHAT IT READS IS OF BULK AT MOST 1048576: true; the input reads as it did. -/
def suretyExtendsUptoRow : OpenClaim := { program := "ytlmlepdmgopojaa", sum := "c353442e5566911eb14d50027c5261abd62dc696a73a8ed639cf8d4371863d1c", func := "supercargo/supercargolaw40.SuretyExtends", spec := "suretyExtends", unfollowed := true, recurses := true, apart := false, narrowed := true }
def SuretyExtendsUptoSaid : Prop := suretyExtendsUptoRow.holds Try.pinned (OpenSpec.upto suretyExtendsSpec)

/-- 'supercargolaw40.SuretyNever', WHERE WHAT IT READS IS OF BULK AT MOST 1048576: true; the input reads as it did. -/
def suretyNeverUptoRow : OpenClaim := { program := "ytlmlepdmgopojaa", sum := "c353442e5566911eb14d50027c5261abd62dc696a73a8ed639cf8d4371863d1c", func := "supercargo/supercargolaw40.SuretyNever", spec := "suretyNever", unfollowed := true, recurses := true, apart := false, narrowed := true }
def SuretyNeverUptoSaid : Prop := suretyNeverUptoRow.holds Try.pinned (OpenSpec.upto suretyNeverSpec)

/-- 'supercargolaw40.SuretyCopies', WHERE WHAT IT READS IS OF BULK AT MOST 1048576: true; the input reads as it did. -/
def suretyCopiesUptoRow : OpenClaim := { program := "ytlmlepdmgopojaa", sum := "c353442e5566911eb14d50027c5261abd62dc696a73a8ed639cf8d4371863d1c", func := "supercargo/supercargolaw40.SuretyCopies", spec := "suretyCopies", unfollowed := true, recurses := true, apart := false, narrowed := true }
def SuretyCopiesUptoSaid : Prop := suretyCopiesUptoRow.holds Try.pinned (OpenSpec.upto suretyCopiesSpec)

end Rows
end Go.Proofs.Ytlmlepdmgopojaa
