/- The plain words of a text's bytes, one by one. Plain Lean, no program in sight. Conditions: none. -/
import Derived.Test.YtnaceobbbfbhhaaSentP
namespace Go.Proofs.Ytnaceobbbfbhhaa

/-- The places of a line's bytes, from column x on. -/
def rowC (s : ByteArray) (y x : Nat) : List (Nat × Nat) := if x < s.size then (y, x) :: rowC s y (x + 1) else []
termination_by s.size - x
theorem rowC_on {s : ByteArray} {y x : Nat} (h : x < s.size) : rowC s y x = (y, x) :: rowC s y (x + 1) := by rw [rowC.eq_def, if_pos h]
theorem rowC_end {s : ByteArray} {y x : Nat} (h : s.size ≤ x) : rowC s y x = [] := by rw [rowC.eq_def, if_neg (by omega)]
theorem rowC_len {s : ByteArray} {y : Nat} : ∀ (n x : Nat), s.size - x = n → (rowC s y x).length = s.size - x
  | 0, x, h => by rw [rowC_end (by omega)]; simp; omega
  | n + 1, x, h => by rw [rowC_on (by omega), List.length_cons, rowC_len n (x + 1) (by omega)]; omega
theorem rowC_in {s : ByteArray} {y : Nat} : ∀ (n x : Nat), s.size - x = n → ∀ p ∈ rowC s y x, p.1 = y ∧ x ≤ p.2 ∧ p.2 < s.size
  | 0, x, h, p, hp => by rw [rowC_end (by omega)] at hp; simp at hp
  | n + 1, x, h, p, hp => by
    rw [rowC_on (by omega)] at hp
    rcases List.mem_cons.1 hp with rfl | hp
    · exact ⟨rfl, Nat.le_refl _, by simp only; omega⟩
    · have := rowC_in n (x + 1) (by omega) p hp
      omega
/-- The places of a text's bytes, from line y on. -/
def cellF (L : List ByteArray) (y : Nat) : List (Nat × Nat) := if y < L.length then rowC (L.getD y .empty) y 0 ++ cellF L (y + 1) else []
termination_by L.length - y
theorem cellF_on {L : List ByteArray} {y : Nat} {s : ByteArray} (h : y < L.length) (hs : L.getD y .empty = s) : cellF L y = rowC s y 0 ++ cellF L (y + 1) := by rw [cellF.eq_def, if_pos h, hs]
theorem cellF_end {L : List ByteArray} {y : Nat} (h : L.length ≤ y) : cellF L y = [] := by rw [cellF.eq_def, if_neg (by omega)]
theorem cellF_len {L : List ByteArray} : ∀ (n y : Nat), L.length - y = n → (cellF L y).length = total (L.drop y)
  | 0, y, h => by rw [cellF_end (by omega), List.drop_eq_nil_of_le (by omega)]; rfl
  | n + 1, y, h => by
    rw [cellF_on (by omega) rfl, List.length_append, rowC_len _ 0 rfl, cellF_len n (y + 1) (by omega), total_drop L y (by omega)]
    omega
def cellP (L : List ByteArray) : List (Nat × Nat) := cellF L 0
theorem cellP_len (L : List ByteArray) : (cellP L).length = total L := by rw [cellP, cellF_len _ 0 rfl, List.drop_zero]
/-- The byte at a place. -/
def bytA (L : List ByteArray) (p : Nat × Nat) : Int := byt (L.getD p.1 .empty) p.2
end Go.Proofs.Ytnaceobbbfbhhaa
