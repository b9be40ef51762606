/- The plain words of the word at a place. Plain Lean, no program in sight. Conditions: none. -/
import Derived.Test.YtnaceobbbfbhhaaPlain
namespace Go.Proofs.Ytnaceobbbfbhhaa

/-- Is byte i one of a word? -/
def wrdB (s : ByteArray) (i : Nat) : Bool := decide (i < s.size) && (ofC (byt s i) false == 1)
/-- The first byte of a word from i on; the line's length, if there is none. -/
def wFrom (s : ByteArray) (i : Nat) : Nat := if i < s.size then (if wrdB s i = true then i else wFrom s (i + 1)) else i
termination_by s.size - i
theorem wFrom_end {s : ByteArray} {i : Nat} (h : s.size ≤ i) : wFrom s i = i := by rw [wFrom.eq_def, if_neg (by omega)]
theorem wFrom_yes {s : ByteArray} {i : Nat} (h : wrdB s i = true) : wFrom s i = i := by
  rw [wFrom.eq_def, h]; simp
theorem wFrom_no {s : ByteArray} {i : Nat} (hi : i < s.size) (h : wrdB s i = false) : wFrom s i = wFrom s (i + 1) := by rw [wFrom.eq_def, if_pos hi, if_neg (by rw [h]; decide)]
/-- Back to the word's first byte. -/
def wBack (s : ByteArray) : Nat → Nat
  | 0 => 0
  | i + 1 => if wrdB s i = true then wBack s i else i + 1
theorem wBack_yes {s : ByteArray} {i : Nat} (h : wrdB s i = true) : wBack s (i + 1) = wBack s i := by rw [wBack, if_pos h]
theorem wBack_no {s : ByteArray} {i : Nat} (h : wrdB s i = false) : wBack s (i + 1) = i + 1 := by rw [wBack, if_neg (by rw [h]; decide)]
/-- Behind the word's last byte. -/
def wEnd (s : ByteArray) (i : Nat) : Nat := if i < s.size then (if wrdB s i = true then wEnd s (i + 1) else i) else i
termination_by s.size - i
theorem wEnd_yes {s : ByteArray} {i : Nat} (hi : i < s.size) (h : wrdB s i = true) : wEnd s i = wEnd s (i + 1) := by rw [wEnd.eq_def, if_pos hi, if_pos h]
theorem wEnd_no {s : ByteArray} {i : Nat} (h : wrdB s i = false) : wEnd s i = i := by
  rw [wEnd.eq_def, h]; simp
theorem wFrom_in {s : ByteArray} : ∀ (n i : Nat), s.size - i = n → i ≤ wFrom s i ∧ (wFrom s i < s.size → wrdB s (wFrom s i) = true) ∧ (∀ j, i ≤ j → j < wFrom s i → wrdB s j = false)
  | 0, i, h => by rw [wFrom_end (by omega)]; exact ⟨Nat.le_refl _, fun h => by omega, fun j h1 h2 => by omega⟩
  | n + 1, i, h => by
    cases hw : wrdB s i with
    | true => rw [wFrom_yes hw]; exact ⟨Nat.le_refl _, fun _ => hw, fun j h1 h2 => by omega⟩
    | false =>
      rw [wFrom_no (by omega) hw]
      obtain ⟨h1, h2, h3⟩ := wFrom_in (s := s) n (i + 1) (by omega)
      refine ⟨by omega, h2, fun j j1 j2 => ?_⟩
      by_cases hj : j = i
      · rw [hj]; exact hw
      · exact h3 j (by omega) j2
theorem wBack_in {s : ByteArray} : ∀ i : Nat, wBack s i ≤ i ∧ (∀ j, wBack s i ≤ j → j < i → wrdB s j = true) ∧ (0 < wBack s i → wrdB s (wBack s i - 1) = false)
  | 0 => ⟨Nat.le_refl _, fun j _ h => by omega, fun h => by simp [wBack] at h⟩
  | i + 1 => by
    cases hw : wrdB s i with
    | true =>
      rw [wBack_yes hw]
      obtain ⟨h1, h2, h3⟩ := wBack_in (s := s) i
      refine ⟨by omega, fun j j1 j2 => ?_, h3⟩
      by_cases hj : j = i
      · rw [hj]; exact hw
      · exact h2 j j1 (by omega)
    | false => rw [wBack_no hw]; exact ⟨Nat.le_refl _, fun j _ _ => by omega, fun _ => hw⟩
theorem wEnd_in {s : ByteArray} : ∀ (n i : Nat), s.size - i = n → i ≤ s.size → i ≤ wEnd s i ∧ wEnd s i ≤ s.size ∧ (∀ j, i ≤ j → j < wEnd s i → wrdB s j = true) ∧ wrdB s (wEnd s i) = false
  | 0, i, h, hi => by
    have hw : wrdB s i = false := by rw [wrdB, decide_eq_false (by omega)]; rfl
    rw [wEnd_no hw]; exact ⟨Nat.le_refl _, hi, fun j _ _ => by omega, hw⟩
  | n + 1, i, h, hi => by
    cases hw : wrdB s i with
    | false => rw [wEnd_no hw]; exact ⟨Nat.le_refl _, hi, fun j _ _ => by omega, hw⟩
    | true =>
      rw [wEnd_yes (by omega) hw]
      obtain ⟨h1, h2, h3, h4⟩ := wEnd_in (s := s) n (i + 1) (by omega) (by omega)
      refine ⟨by omega, h2, fun j j1 j2 => ?_, h4⟩
      by_cases hj : j = i
      · rw [hj]; exact hw
      · exact h3 j (by omega) j2
/-- The word at a place, or the first one behind it. -/
def wordW (L : List ByteArray) (pl pc : Int) : (Int × Int) × ByteArray × Bool :=
  if plcB L pl pc = true then
    (if wFrom (ln L pl) pc.toNat < (ln L pl).size then ((pl, (wBack (ln L pl) (wFrom (ln L pl) pc.toNat) : Int)), (ln L pl).extract (wBack (ln L pl) (wFrom (ln L pl) pc.toNat)) (wEnd (ln L pl) (wBack (ln L pl) (wFrom (ln L pl) pc.toNat))), true) else ((0, 0), ⟨#[]⟩, false))
  else ((0, 0), ⟨#[]⟩, false)
end Go.Proofs.Ytnaceobbbfbhhaa
