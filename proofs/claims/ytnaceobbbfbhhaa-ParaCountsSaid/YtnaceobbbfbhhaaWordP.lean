/- The plain words of runs of a class. Plain Lean, no program in sight. Conditions: none. -/
import Derived.Test.YtnaceobbbfbhhaaQuoteP2
namespace Go.Proofs.Ytnaceobbbfbhhaa

/-- The class of byte j. -/
def clsB (s : ByteArray) (big : Bool) (j : Nat) : Int := ofC (byt s j) big
/-- The runs that are still told, from byte i on, one being open since from. -/
def runF (s : ByteArray) (big : Bool) (fr i : Nat) : List (Nat × Nat) :=
  if i < s.size then (if i + 1 < s.size ∧ clsB s big (i + 1) = clsB s big i then runF s big fr (i + 1) else (fr, i + 1) :: runF s big (i + 1) (i + 1)) else []
termination_by s.size - i
theorem runF_end {s : ByteArray} {big : Bool} {fr i : Nat} (h : s.size ≤ i) : runF s big fr i = [] := by
  have h' : ¬ i < s.size := by omega
  rw [runF.eq_def, if_neg h']
theorem runF_on {s : ByteArray} {big : Bool} {fr i : Nat} (h : i + 1 < s.size) (hc : clsB s big (i + 1) = clsB s big i) : runF s big fr i = runF s big fr (i + 1) := by
  rw [runF.eq_def, if_pos (show i < s.size by omega), if_pos ⟨h, hc⟩]
theorem runF_cut {s : ByteArray} {big : Bool} {fr i : Nat} (h : i < s.size) (hc : ¬ (i + 1 < s.size ∧ clsB s big (i + 1) = clsB s big i)) : runF s big fr i = (fr, i + 1) :: runF s big (i + 1) (i + 1) := by
  rw [runF.eq_def, if_pos h, if_neg hc]
/-- Each begins where the one ahead ends, of one class and no longer than that; the last one ends where the line does. -/
def chainR (s : ByteArray) (big : Bool) : Nat → List (Nat × Nat) → Prop
  | a, [] => a = s.size
  | a, p :: R => p.1 = a ∧ a < p.2 ∧ p.2 ≤ s.size ∧ (∀ j, a ≤ j → j < p.2 → clsB s big j = clsB s big a) ∧ (p.2 < s.size → clsB s big p.2 ≠ clsB s big a) ∧ chainR s big p.2 R
theorem runF_chain {s : ByteArray} {big : Bool} : ∀ (k fr i : Nat), s.size - i = k → fr ≤ i → i < s.size → (∀ j, fr ≤ j → j ≤ i → clsB s big j = clsB s big fr) → chainR s big fr (runF s big fr i)
  | 0, fr, i, h, _, hi, _ => by omega
  | k + 1, fr, i, h, hf, hi, hc => by
    by_cases h1 : i + 1 < s.size ∧ clsB s big (i + 1) = clsB s big i
    · rw [runF_on h1.1 h1.2]
      refine runF_chain k fr (i + 1) (by omega) (by omega) h1.1 (fun j h2 h3 => ?_)
      by_cases hj : j = i + 1
      · rw [hj, h1.2]; exact hc i hf (Nat.le_refl _)
      · exact hc j h2 (by omega)
    · rw [runF_cut hi h1]
      refine ⟨rfl, by omega, by omega, fun j h2 h3 => hc j h2 (by omega), fun h2 h3 => h1 ⟨h2, h3.trans (hc i hf (Nat.le_refl _)).symm⟩, ?_⟩
      by_cases h2 : i + 1 < s.size
      · exact runF_chain k (i + 1) (i + 1) (by omega) (Nat.le_refl _) h2 (fun j h3 h4 => by rw [show j = i + 1 by omega])
      · rw [runF_end (by omega)]; show i + 1 = s.size; omega
theorem runF_all {s : ByteArray} {big : Bool} : chainR s big 0 (runF s big 0 0) := by
  by_cases h : 0 < s.size
  · exact runF_chain _ 0 0 rfl (Nat.le_refl _) h (fun j h1 h2 => by rw [show j = 0 by omega])
  · rw [runF_end (by omega)]; show 0 = s.size; omega
theorem chain_at {s : ByteArray} {big : Bool} : ∀ {R : List (Nat × Nat)} {a k : Nat}, chainR s big a R → k < R.length →
    a ≤ (R.getD k (0, 0)).1 ∧ (R.getD k (0, 0)).1 < (R.getD k (0, 0)).2 ∧ (R.getD k (0, 0)).2 ≤ s.size ∧ (∀ j, (R.getD k (0, 0)).1 ≤ j → j < (R.getD k (0, 0)).2 → clsB s big j = clsB s big (R.getD k (0, 0)).1) ∧
    (k + 1 < R.length → (R.getD (k + 1) (0, 0)).1 = (R.getD k (0, 0)).2 ∧ clsB s big (R.getD (k + 1) (0, 0)).1 ≠ clsB s big (R.getD k (0, 0)).1) ∧ (k + 1 = R.length → (R.getD k (0, 0)).2 = s.size) ∧ (k = 0 → (R.getD k (0, 0)).1 = a)
  | [], a, k, _, h => by simp at h
  | p :: R, a, 0, hc, h => by
    obtain ⟨h1, h2, h3, h4, h5, h6⟩ := hc
    simp only [List.getD_cons_zero]
    refine ⟨by omega, by omega, h3, fun j j1 j2 => by rw [h1]; exact h4 j (by omega) j2, fun hl => ?_, fun hl => ?_, fun _ => h1⟩
    · cases R with
      | nil => simp at hl
      | cons p' R =>
        obtain ⟨e1, e2, e3, _⟩ := h6
        simp only [List.getD_cons_succ, List.getD_cons_zero]
        exact ⟨e1, by rw [e1, h1]; exact h5 (by omega)⟩
    · cases R with
      | nil => exact h6
      | cons p' R => simp at hl
  | p :: R, a, k + 1, hc, h => by
    obtain ⟨h1, h2, h3, h4, h5, h6⟩ := hc
    obtain ⟨g1, g2, g3, g4, g5, g6, _⟩ := chain_at h6 (k := k) (by simpa using h)
    simp only [List.getD_cons_succ]
    exact ⟨by omega, g2, g3, g4, fun hl => g5 (by simpa using hl), fun hl => g6 (by simpa using hl), fun e => by omega⟩
theorem chain_len {s : ByteArray} {big : Bool} : ∀ {R : List (Nat × Nat)} {a : Nat}, chainR s big a R → R.length + a ≤ s.size
  | [], a, h => by have : a = s.size := h; simp; omega
  | p :: R, a, h => by
    obtain ⟨h1, h2, h3, _, _, h6⟩ := h
    have := chain_len h6
    simp; omega
/-- Is column c in run k? -/
def inR (R : List (Nat × Nat)) (c k : Nat) : Prop := k < R.length ∧ (R.getD k (0, 0)).1 ≤ c ∧ c < (R.getD k (0, 0)).2
theorem chain_find {s : ByteArray} {big : Bool} : ∀ {R : List (Nat × Nat)} {a c : Nat}, chainR s big a R → a ≤ c → c < s.size → ∃ k, inR R c k
  | [], a, c, h, h1, h2 => by have : a = s.size := h; omega
  | p :: R, a, c, h, h1, h2 => by
    obtain ⟨e1, e2, e3, _, _, e6⟩ := h
    by_cases hc : c < p.2
    · exact ⟨0, by simp, by simp only [List.getD_cons_zero]; omega, by simpa using hc⟩
    · obtain ⟨k, k1, k2, k3⟩ := chain_find e6 (show p.2 ≤ c by omega) h2
      exact ⟨k + 1, by simpa using k1, by simpa using k2, by simpa using k3⟩
theorem chain_mono {s : ByteArray} {big : Bool} {R : List (Nat × Nat)} {a : Nat} (h : chainR s big a R) : ∀ {i j : Nat}, i < j → j < R.length → (R.getD i (0, 0)).2 ≤ (R.getD j (0, 0)).1
  | i, 0, hij, _ => by omega
  | i, j + 1, hij, hj => by
    obtain ⟨g1, g2, _, _, g5, _⟩ := chain_at h (k := j) (by omega)
    have e := (g5 hj).1
    by_cases hh : i = j
    · subst hh; omega
    · have := chain_mono h (i := i) (j := j) (by omega) (by omega)
      omega
theorem inR_last {s : ByteArray} {big : Bool} {R : List (Nat × Nat)} {a c k : Nat} (h : chainR s big a R) (hk : inR R c k) {j : Nat} (hj : j < R.length) : ((R.getD j (0, 0)).1 ≤ c) ↔ j ≤ k := by
  obtain ⟨k1, k2, k3⟩ := hk
  constructor
  · intro h1
    by_cases hh : j ≤ k
    · exact hh
    · have := chain_mono h (i := k) (j := j) (by omega) hj
      omega
  · intro h1
    by_cases hh : j = k
    · rw [hh]; exact k2
    · have := chain_mono h (i := j) (j := k) (by omega) k1
      have g := (chain_at h hj).2.1
      omega
end Go.Proofs.Ytnaceobbbfbhhaa
