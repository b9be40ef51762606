/- What the law of cells keeps: which byte comes next. Plain Lean but for its imports. Conditions: none. -/
import Derived.Test.YtlbbgocggifjaaaCells
namespace Go.Proofs.Ytlbbgocggifjaaa

/-- Of a text's places 'pre' have come; the next one is that of byte i of line l, or a later one. -/
def NextC (L : List ByteArray) (pre : List (Nat × Nat)) (l i : Nat) : Prop := pre ++ (rowC (L.getD l .empty) l i ++ cellF L (l + 1)) = cellP L ∧ l ≤ L.length
theorem rowC_empty (y x : Nat) : rowC ByteArray.empty y x = [] := rowC_end (by show 0 ≤ x; omega)
theorem getD_out {L : List ByteArray} {l : Nat} (h : L.length ≤ l) : L.getD l .empty = ByteArray.empty := by rw [List.getD_eq_getElem?_getD, List.getElem?_eq_none h]; rfl
theorem cellF_any (L : List ByteArray) (y : Nat) : cellF L y = rowC (L.getD y .empty) y 0 ++ cellF L (y + 1) := by
  by_cases h : y < L.length
  · exact cellF_on h rfl
  · rw [cellF_end (by omega), cellF_end (by omega), getD_out (by omega), rowC_empty]; rfl
theorem nextC_start (L : List ByteArray) : NextC L [] 0 0 := ⟨by rw [← cellF_any, List.nil_append]; rfl, Nat.zero_le _⟩
theorem nextC_skip {L : List ByteArray} {pre : List (Nat × Nat)} {l i : Nat} (h : NextC L pre l i) (hl : l < L.length) (hi : (L.getD l .empty).size ≤ i) : NextC L pre (l + 1) 0 := by
  obtain ⟨h1, _⟩ := h
  rw [rowC_end hi, List.nil_append, cellF_any] at h1
  exact ⟨h1, by omega⟩
theorem nextC_end {L : List ByteArray} {pre : List (Nat × Nat)} {l i : Nat} (h : NextC L pre l i) (hl : L.length ≤ l) : pre = cellP L := by
  obtain ⟨h1, _⟩ := h
  rw [getD_out hl, rowC_empty, cellF_end (by omega)] at h1
  simpa using h1
theorem nextC_step {L : List ByteArray} {pre : List (Nat × Nat)} {l i : Nat} (h : NextC L pre l i) (hi : i < (L.getD l .empty).size) : NextC L (pre ++ [(l, i)]) l (i + 1) := by
  obtain ⟨h1, h2⟩ := h
  rw [rowC_on hi] at h1
  exact ⟨by rw [← h1]; simp, h2⟩
/-- What comes is no other place. -/
theorem nextC_bad_end {L : List ByteArray} {pre : List (Nat × Nat)} {l i : Nat} (h : NextC L pre l i) (hl : L.length ≤ l) (p : Nat × Nat) : ¬ (pre ++ [p]) <+: cellP L := by
  rw [← nextC_end h hl]
  intro hp
  have := hp.length_le
  simp at this
  omega
theorem nextC_bad {L : List ByteArray} {pre : List (Nat × Nat)} {l i : Nat} (h : NextC L pre l i) (hi : i < (L.getD l .empty).size) {p : Nat × Nat} (hp : p ≠ (l, i)) : ¬ (pre ++ [p]) <+: cellP L := by
  obtain ⟨h1, _⟩ := h
  rw [rowC_on hi] at h1
  rw [← h1, List.prefix_append_right_inj]
  intro hq
  obtain ⟨t, ht⟩ := hq
  simp at ht
  exact hp ht.1
end Go.Proofs.Ytlbbgocggifjaaa
