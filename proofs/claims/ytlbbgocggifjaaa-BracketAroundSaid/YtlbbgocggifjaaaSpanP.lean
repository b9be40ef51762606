/- The plain words of ranges: which are valid, which bytes of a line they have. Plain Lean, no program in sight. Conditions: none. -/
import Derived.Test.YtlbbgocggifjaaaPlain
namespace Go.Proofs.Ytlbbgocggifjaaa

/-- May a range be? -/
def validB (L : List ByteArray) (k fl fc tl tc : Int) : Bool :=
  decide (0 ≤ fl) && decide (fl ≤ tl) && decide (tl < (L.length : Int)) && (if k = 0 then plcB L fl fc && plcB L tl tc && !lessB tl tc fl fc else if k = 1 then true else if k = 2 then decide (0 ≤ fc) && decide (fc ≤ tc) else false)
theorem validB_fl {L : List ByteArray} {k fl fc tl tc : Int} (h : fl < 0) : validB L k fl fc tl tc = false := by simp [validB]; omega
theorem validB_tl {L : List ByteArray} {k fl fc tl tc : Int} (h : tl < fl) : validB L k fl fc tl tc = false := by simp [validB]; omega
theorem validB_len {L : List ByteArray} {k fl fc tl tc : Int} (h : (L.length : Int) ≤ tl) : validB L k fl fc tl tc = false := by simp [validB]; omega
theorem validB_char {L : List ByteArray} {fl fc tl tc : Int} (h1 : 0 ≤ fl) (h2 : fl ≤ tl) (h3 : tl < (L.length : Int)) : validB L 0 fl fc tl tc = (plcB L fl fc && plcB L tl tc && !lessB tl tc fl fc) := by simp [validB, h1, h2, h3]
theorem validB_line {L : List ByteArray} {fl fc tl tc : Int} (h1 : 0 ≤ fl) (h2 : fl ≤ tl) (h3 : tl < (L.length : Int)) : validB L 1 fl fc tl tc = true := by simp [validB, h1, h2, h3]
theorem validB_block {L : List ByteArray} {fl fc tl tc : Int} (h1 : 0 ≤ fl) (h2 : fl ≤ tl) (h3 : tl < (L.length : Int)) : validB L 2 fl fc tl tc = (decide (0 ≤ fc) && decide (fc ≤ tc)) := by simp [validB, h1, h2, h3]
theorem validB_other {L : List ByteArray} {k fl fc tl tc : Int} (h0 : k ≠ 0) (h1 : k ≠ 1) (h2 : k ≠ 2) : validB L k fl fc tl tc = false := by simp [validB, h0, h1, h2]

/-- Which bytes of line i (of n bytes) a range has: from, up to. -/
def colsP (n : Nat) (k fl fc tl tc i : Int) : Int × Int :=
  if k = 0 then (if i = fl then fc else 0, if i = tl then tc else n) else if k = 2 then (min fc n, min tc ((n : Int) - 1) + 1) else (0, n)
theorem colsP_ok {L : List ByteArray} {k fl fc tl tc : Int} (h : validB L k fl fc tl tc = true) {i : Int} (h1 : fl ≤ i) (h2 : i ≤ tl) :
    0 ≤ (colsP (L.getD i.toNat .empty).size k fl fc tl tc i).1 ∧ (colsP (L.getD i.toNat .empty).size k fl fc tl tc i).1 ≤ (colsP (L.getD i.toNat .empty).size k fl fc tl tc i).2 ∧
      (colsP (L.getD i.toNat .empty).size k fl fc tl tc i).2 ≤ (L.getD i.toNat .empty).size := by
  simp only [validB, Bool.and_eq_true, decide_eq_true_eq] at h
  obtain ⟨⟨⟨a1, a2⟩, a3⟩, a4⟩ := h
  unfold colsP
  by_cases k0 : k = 0
  · simp only [k0, if_true, Bool.and_eq_true, Bool.not_eq_true'] at a4 ⊢
    obtain ⟨⟨p1, p2⟩, p3⟩ := a4
    have q1 := plcB_spec p1
    have q2 := plcB_spec p2
    simp only [lessB, decide_eq_false_iff_not] at p3
    by_cases e1 : i = fl
    · by_cases e2 : i = tl
      · subst e1; subst e2
        simp only [if_true]; omega
      · subst e1
        simp only [if_true, e2, if_false]; omega
    · by_cases e2 : i = tl
      · subst e2
        simp only [if_true, e1, if_false]; omega
      · simp only [e1, e2, if_false]; omega
  · by_cases k2 : k = 2
    · subst k2
      have a4' : 0 ≤ fc ∧ fc ≤ tc := by simpa using a4
      rw [if_neg (by decide : ¬ (2 : Int) = 0), if_pos rfl]
      simp only
      omega
    · simp only [k0, k2, if_false]; omega
/-- What a range has of line i. -/
def cutL (L : List ByteArray) (k fl fc tl tc : Int) (i : Nat) : ByteArray :=
  (L.getD i .empty).extract (colsP (L.getD i .empty).size k fl fc tl tc i).1.toNat (colsP (L.getD i .empty).size k fl fc tl tc i).2.toNat
/-- What a range has. -/
def spanT (L : List ByteArray) (k fl fc tl tc : Int) : List ByteArray :=
  if validB L k fl fc tl tc = true then (List.range (tl - fl + 1).toNat).map (fun j => cutL L k fl fc tl tc (fl.toNat + j)) else []
theorem spanT_no {L : List ByteArray} {k fl fc tl tc : Int} (h : validB L k fl fc tl tc = false) : spanT L k fl fc tl tc = [] := by simp [spanT, h]
theorem spanT_yes {L : List ByteArray} {k fc tc : Int} {fl tl : Nat} (h : validB L k fl fc tl tc = true) : spanT L k fl fc tl tc = (List.range (tl + 1 - fl)).map (fun j => cutL L k fl fc tl tc (fl + j)) := by
  simp only [spanT, h, if_true, Int.toNat_natCast]
  congr 2
  omega
theorem range_snoc {α : Type} (f : Nat → α) (n : Nat) : (List.range (n + 1)).map f = (List.range n).map f ++ [f n] := by rw [List.range_succ, List.map_append]; rfl
theorem size_extract_le (s : ByteArray) (a b : Nat) : (s.extract a b).size ≤ s.size := by rw [ByteArray.size_extract]; omega
theorem size_cutL (L : List ByteArray) (k fl fc tl tc : Int) (i : Nat) : (cutL L k fl fc tl tc i).size ≤ (L.getD i .empty).size := size_extract_le _ _ _
theorem size_getD_le {L : List ByteArray} {n : Nat} (h : ∀ s ∈ L, s.size ≤ n) (i : Nat) : (L.getD i .empty).size ≤ n := by
  by_cases hi : i < L.length
  · exact h _ (getD_mem L .empty i hi)
  · rw [List.getD_eq_getElem?_getD, List.getElem?_eq_none (by omega)]; exact Nat.zero_le _
end Go.Proofs.Ytlbbgocggifjaaa
