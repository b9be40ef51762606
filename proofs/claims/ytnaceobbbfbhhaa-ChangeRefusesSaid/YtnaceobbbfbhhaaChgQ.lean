/- Lists of changes: sizes, the law of one step. No program in sight. Conditions: none. -/
import Derived.Test.YtnaceobbbfbhhaaChgP
namespace Go.Proofs.Ytnaceobbbfbhhaa
/-- The size of changes. -/
def sizeC (cs : List Chg) : Nat := (cs.map (fun c => sizeP c.2.1 + sizeP c.2.2)).sum
theorem sizeC_cons (c : Chg) (cs : List Chg) : sizeC (c :: cs) = sizeP c.2.1 + sizeP c.2.2 + sizeC cs := by simp [sizeC]
theorem sizeC_get : ∀ {cs : List Chg} {k : Nat}, k < cs.length → sizeP (cs.getD k (0, [], [])).2.1 + sizeP (cs.getD k (0, [], [])).2.2 ≤ sizeC cs
  | c :: cs, 0, _ => by rw [sizeC_cons]; simp
  | c :: cs, k + 1, h => by
    have := sizeC_get (cs := cs) (k := k) (by simpa using h)
    rw [sizeC_cons]
    simp only [List.getD_cons_succ]
    omega
theorem drop_at {cs : List Chg} {k : Nat} (h : k < cs.length) : cs.drop k = cs.getD k (0, [], []) :: cs.drop (k + 1) := by
  rw [List.drop_eq_getElem_cons h, List.getD_eq_getElem?_getD, List.getElem?_eq_getElem h]
  rfl
/-- One round of many changes. -/
theorem round_ways {M : List ByteArray} {cs : List Chg} {k : Nat} {R : Option (List ByteArray)} (hk : k < cs.length) (hR : applyAll M (cs.drop k) = R) (hs : sizeP M + sizeC (cs.drop k) ≤ 100000) :
    sizeP M + sizeP (cs.getD k (0, [], [])).2.1 + sizeP (cs.getD k (0, [], [])).2.2 ≤ 100000 ∧ ((applyP M (cs.getD k (0, [], [])) = none ∧ R = none) ∨
    ∃ M', applyP M (cs.getD k (0, [], [])) = some M' ∧ applyAll M' (cs.drop (k + 1)) = R ∧ sizeP M' + sizeC (cs.drop (k + 1)) ≤ 100000) := by
  rw [drop_at hk] at hR hs
  rw [sizeC_cons] at hs
  refine ⟨by omega, ?_⟩
  rw [applyAll] at hR
  cases h : applyP M (cs.getD k (0, [], [])) with
  | none => rw [h] at hR; exact .inl ⟨rfl, hR.symm⟩
  | some M' =>
    rw [h] at hR
    have := applyP_size h
    exact .inr ⟨M', rfl, hR, by omega⟩
theorem round_end {M : List ByteArray} {cs : List Chg} {k : Nat} {R : Option (List ByteArray)} (hk : ¬ k < cs.length) (hR : applyAll M (cs.drop k) = R) : R = some M := by
  rw [List.drop_eq_nil_of_le (by omega)] at hR
  exact hR.symm
end Go.Proofs.Ytnaceobbbfbhhaa
