/- The stretches that TopLay makes of its bytes. No program. No condition. -/
import Derived.Test.YtlmnbdepklcfpaaClock
namespace Go.Proofs.Ytlmnbdepklcfpaa
set_option linter.unusedVariables false
def mkS : Int → List Int → List Str
  | _, [] => []
  | h, n :: l => ⟨h, h + 1 + n % 20, n % 3⟩ :: mkS (h + 1 + n % 20) l
theorem mkS_len (h : Int) (l : List Int) : (mkS h l).length = l.length := by
  induction l generalizing h with
  | nil => rfl
  | cons n l ih => simp [mkS, ih]
theorem mkS_snoc (l : List Int) (n : Int) : ∀ h : Int, mkS h (l ++ [n]) = mkS h l ++ [⟨lastTo h (mkS h l), lastTo h (mkS h l) + 1 + n % 20, n % 3⟩] := by
  induction l with
  | nil => intro h; simp [mkS, lastTo]
  | cons m l ih => intro h; simp [mkS, lastTo, ih]
theorem mkS_next {zs : List Int} {k : Nat} {z : Int} (h : zs[k]? = some z) : mkS 0 (zs.take (k + 1)) = mkS 0 (zs.take k) ++ [⟨lastTo 0 (mkS 0 (zs.take k)), lastTo 0 (mkS 0 (zs.take k)) + 1 + z % 20, z % 3⟩] := by
  rw [List.take_add_one, h]
  exact mkS_snoc _ _ _
theorem mkS_last (l : List Int) (hl : ∀ z ∈ l, 0 ≤ z) : ∀ h : Int, h ≤ lastTo h (mkS h l) ∧ lastTo h (mkS h l) ≤ h + 20 * l.length := by
  induction l with
  | nil => intro h; simp [mkS, lastTo]
  | cons n l ih =>
    intro h
    have := ih (fun z hz => hl z (List.mem_cons_of_mem _ hz)) (h + 1 + n % 20)
    have hn := hl n (List.mem_cons_self ..)
    simp only [mkS, lastTo, List.length_cons]
    omega
theorem mkS_chain (l : List Int) (hl : ∀ z ∈ l, 0 ≤ z) : ∀ h : Int, 0 ≤ h → h + 20 * l.length ≤ 1048576 → Chain h (mkS h l) := by
  induction l with
  | nil => intro h _ _; trivial
  | cons n l ih =>
    intro h h0 h1
    have hn := hl n (List.mem_cons_self ..)
    simp only [List.length_cons] at h1
    have := ih (fun z hz => hl z (List.mem_cons_of_mem _ hz)) (h + 1 + n % 20) (by omega) (by omega)
    refine ⟨rfl, ⟨by simpa using h0, by simp; omega, by simp; omega, by simp; omega, by simp; omega⟩, this⟩
end Go.Proofs.Ytlmnbdepklcfpaa
