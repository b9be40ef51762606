/- The plain words of areas: what a motion takes in. Plain Lean, no program in sight. Conditions: none. -/
import Derived.Test.YtlbbgocggifjaaaSpanP
namespace Go.Proofs.Ytlbbgocggifjaaa

/-- The size of line l, as a number. -/
def szI (L : List ByteArray) (l : Int) : Int := ((L.getD l.toNat .empty).size : Int)
/-- .. the place of its first byte that is no blank. -/
def fsI (L : List ByteArray) (l : Int) : Int := (firstL (L.getD l.toNat .empty).data.toList : Int)
abbrev Rng := Int × Int × Int × Int × Int
/-- A range of bytes, if it is not empty. -/
def someR (fl fc tl tc : Int) : Rng × Bool := if fl = tl ∧ fc = tc then ((0, 0, 0, 0, 0), false) else ((0, fl, fc, tl, tc), true)
/-- What a motion takes in, its ends in order. -/
def areaO (L : List ByteArray) (fl fc tl tc way : Int) : Rng × Bool :=
  if way = 2 then ((1, fl, 0, tl, 0), true)
  else if way = 1 then someR fl fc tl (min (tc + 1) (szI L tl))
  else if way = 0 then
    (if fl < tl ∧ tc = 0 then (if fc ≤ fsI L fl then ((1, fl, 0, tl - 1, 0), true) else someR fl fc (tl - 1) (szI L (tl - 1))) else someR fl fc tl tc)
  else ((0, 0, 0, 0, 0), false)
def areaP (L : List ByteArray) (pl pc ml mc way : Int) : Rng × Bool :=
  if plcB L pl pc = true ∧ plcB L ml mc = true then areaO L (ordB pl pc ml mc).1 (ordB pl pc ml mc).2.1 (ordB pl pc ml mc).2.2.1 (ordB pl pc ml mc).2.2.2 way else ((0, 0, 0, 0, 0), false)
theorem areaP_no {L : List ByteArray} {pl pc ml mc way : Int} (h : plcB L pl pc = false ∨ plcB L ml mc = false) : areaP L pl pc ml mc way = ((0, 0, 0, 0, 0), false) := by
  unfold areaP
  rw [if_neg]
  rintro ⟨h1, h2⟩
  rcases h with h | h <;> simp_all
theorem areaP_yes {L : List ByteArray} {pl pc ml mc way fl fc tl tc : Int} (h1 : plcB L pl pc = true) (h2 : plcB L ml mc = true) (ho : ordB pl pc ml mc = (fl, fc, tl, tc)) : areaP L pl pc ml mc way = areaO L fl fc tl tc way := by
  unfold areaP
  rw [if_pos ⟨h1, h2⟩, ho]
theorem ordB_sym (a b c d : Int) : ordB a b c d = ordB c d a b := by
  unfold ordB lessB
  by_cases h1 : c < a ∨ c = a ∧ d < b
  · rw [if_pos (by simpa using h1), if_neg (by simp; omega)]
  · by_cases h2 : a < c ∨ a = c ∧ b < d
    · rw [if_neg (by simpa using h1), if_pos (by simpa using h2)]
    · rw [if_neg (by simpa using h1), if_neg (by simpa using h2)]
      have e1 : a = c := by omega
      have e2 : b = d := by omega
      rw [e1, e2]
theorem areaP_sym (L : List ByteArray) (pl pc ml mc way : Int) : areaP L pl pc ml mc way = areaP L ml mc pl pc way := by
  unfold areaP
  rw [ordB_sym pl pc ml mc]
  by_cases h1 : plcB L pl pc = true <;> by_cases h2 : plcB L ml mc = true <;> simp [h1, h2]
theorem ordB_facts {L : List ByteArray} {pl pc ml mc : Int} (h1 : plcB L pl pc = true) (h2 : plcB L ml mc = true) : ∃ fl fc tl tc, ordB pl pc ml mc = (fl, fc, tl, tc) ∧
    plcB L fl fc = true ∧ plcB L tl tc = true ∧ lessB tl tc fl fc = false := by
  unfold ordB
  by_cases h : lessB ml mc pl pc = true
  · refine ⟨ml, mc, pl, pc, by rw [if_pos h], h2, h1, ?_⟩
    simp only [lessB, decide_eq_true_eq, decide_eq_false_iff_not] at *
    omega
  · exact ⟨pl, pc, ml, mc, by rw [if_neg h], h1, h2, by simpa using h⟩
theorem firstL_le (l : List UInt8) : firstL l ≤ l.length := by
  unfold firstL; split <;> omega
theorem plcB_mk {L : List ByteArray} {l c : Int} (h1 : 0 ≤ l) (h2 : l < L.length) (h3 : 0 ≤ c) (h4 : c ≤ szI L l) : plcB L l c = true := by
  simp only [plcB, decide_eq_true_eq]; exact ⟨h1, h2, h3, h4⟩
theorem someR_valid {L : List ByteArray} {fl fc tl tc : Int} (h1 : plcB L fl fc = true) (h2 : plcB L tl tc = true) (h3 : lessB tl tc fl fc = false) (h : (someR fl fc tl tc).2 = true) :
    validB L (someR fl fc tl tc).1.1 (someR fl fc tl tc).1.2.1 (someR fl fc tl tc).1.2.2.1 (someR fl fc tl tc).1.2.2.2.1 (someR fl fc tl tc).1.2.2.2.2 = true := by
  unfold someR at *
  by_cases he : fl = tl ∧ fc = tc
  · rw [if_pos he] at h; simp at h
  · rw [if_neg he]
    have q1 := plcB_spec h1
    have q2 := plcB_spec h2
    simp only [lessB, decide_eq_false_iff_not] at h3
    simp only
    rw [validB_char (by omega) (by omega) (by omega), h1, h2]
    simp [lessB]
    omega
/-- What a motion takes in is a range that may be. -/
theorem areaP_valid {L : List ByteArray} {pl pc ml mc way : Int} (h : (areaP L pl pc ml mc way).2 = true) :
    validB L (areaP L pl pc ml mc way).1.1 (areaP L pl pc ml mc way).1.2.1 (areaP L pl pc ml mc way).1.2.2.1 (areaP L pl pc ml mc way).1.2.2.2.1 (areaP L pl pc ml mc way).1.2.2.2.2 = true := by
  cases h1 : plcB L pl pc with
  | false => rw [areaP_no (.inl h1)] at h; simp at h
  | true =>
    cases h2 : plcB L ml mc with
    | false => rw [areaP_no (.inr h2)] at h; simp at h
    | true =>
      obtain ⟨fl, fc, tl, tc, ho, p1, p2, p3⟩ := ordB_facts h1 h2
      rw [areaP_yes h1 h2 ho] at h ⊢
      have q1 := plcB_spec p1
      have q2 := plcB_spec p2
      have q3 := p3
      simp only [lessB, decide_eq_false_iff_not] at q3
      unfold areaO at h ⊢
      by_cases w2 : way = 2
      · rw [if_pos w2]
        show validB L 1 fl 0 tl 0 = true
        exact validB_line (by omega) (by omega) (by omega)
      · rw [if_neg w2] at h ⊢
        by_cases w1 : way = 1
        · rw [if_pos w1] at h ⊢
          refine someR_valid p1 (plcB_mk (by omega) (by omega) ?_ (by omega)) ?_ h
          · show 0 ≤ min (tc + 1) (szI L tl)
            have : 0 ≤ szI L tl := by unfold szI; omega
            omega
          · simp only [lessB, decide_eq_false_iff_not]
            have e : tl = fl → szI L tl = ((L.getD fl.toNat .empty).size : Int) := fun e => by rw [e]; rfl
            have : tc ≤ szI L tl := q2.2.2.2
            omega
        · rw [if_neg w1] at h ⊢
          by_cases w0 : way = 0
          · rw [if_pos w0] at h ⊢
            by_cases hb : fl < tl ∧ tc = 0
            · rw [if_pos hb] at h ⊢
              by_cases hf : fc ≤ fsI L fl
              · rw [if_pos hf]
                show validB L 1 fl 0 (tl - 1) 0 = true
                exact validB_line (by omega) (by omega) (by omega)
              · rw [if_neg hf] at h ⊢
                refine someR_valid p1 (plcB_mk (by omega) (by omega) (by unfold szI; omega) (Int.le_refl _)) ?_ h
                simp only [lessB, decide_eq_false_iff_not]
                have e : tl - 1 = fl → szI L (tl - 1) = ((L.getD fl.toNat .empty).size : Int) := fun e => by rw [e]; rfl
                omega
            · rw [if_neg hb] at h ⊢
              exact someR_valid p1 p2 p3 h
          · rw [if_neg w0] at h; simp at h
end Go.Proofs.Ytlbbgocggifjaaa
