/- The plain law of what stands in quotes. Plain Lean, no program in sight. Conditions: none. -/
import Derived.Test.YtnaikdmkabfnlaaQuoteP2
namespace Go.Proofs.Ytnaikdmkabfnlaa

theorem qpF_clear {s : ByteArray} {q : Int} : ∀ (k : Nat) (f : Option Nat) (i : Nat), s.size - i = k → (∀ a, f = some a → ∀ j, a < j → j < i → byt s j ≠ q) → ∀ p ∈ qpF s q f i, ∀ j, p.1 < j → j < p.2 → byt s j ≠ q
  | 0, f, i, h, _, p, hp => by rw [qpF_end (show s.size ≤ i by omega)] at hp; cases hp
  | k + 1, f, i, h, hf, p, hp => by
    by_cases hq : byt s i = q
    · cases f with
      | none =>
        rw [qpF_open (show i < s.size by omega) hq] at hp
        exact qpF_clear k (some i) (i + 1) (by omega) (fun a e j h1 h2 => by cases e; omega) p hp
      | some a =>
        rw [qpF_shut (show i < s.size by omega) hq] at hp
        rcases List.mem_cons.1 hp with rfl | hp
        · exact hf a rfl
        · exact qpF_clear k none (i + 1) (by omega) (fun a e => by cases e) p hp
    · rw [qpF_no (show i < s.size by omega) hq] at hp
      refine qpF_clear k f (i + 1) (by omega) (fun a e j h1 h2 => ?_) p hp
      by_cases hj : j = i
      · rw [hj]; exact hq
      · exact hf a e j h1 (by omega)
theorem pairQ_clear {s : ByteArray} {q c : Int} {p : Nat × Nat} (h : pairQ s q c = some p) (j : Nat) (h1 : p.1 < j) (h2 : j < p.2) : byt s j ≠ q :=
  qpF_clear _ none 0 rfl (fun a e => by cases e) p (List.mem_of_find?_eq_some h) j h1 h2
theorem skipF_spec {s : ByteArray} : ∀ (k i : Nat), s.size - i = k → i ≤ s.size → i ≤ skipF s i ∧ skipF s i ≤ s.size ∧ ∀ j, i ≤ j → j < skipF s i → ofC (byt s j) true = 0
  | 0, i, h, hi => by rw [skipF_end (show s.size ≤ i by omega)]; exact ⟨Nat.le_refl _, hi, fun j h1 h2 => by omega⟩
  | k + 1, i, h, hi => by
    by_cases hb : ofC (byt s i) true = 0
    · rw [skipF_on (show i < s.size by omega) hb]
      obtain ⟨h1, h2, h3⟩ := skipF_spec (s := s) k (i + 1) (by omega) (by omega)
      refine ⟨by omega, h2, fun j j1 j2 => ?_⟩
      by_cases hj : j = i
      · rw [hj]; exact hb
      · exact h3 j (by omega) j2
    · rw [skipF_stop (show i < s.size by omega) hb]
      exact ⟨Nat.le_refl _, hi, fun j h1 h2 => by omega⟩
theorem skipB_spec {s : ByteArray} : ∀ (i : Nat), skipB s i ≤ i ∧ ∀ j, skipB s i ≤ j → j < i → ofC (byt s j) true = 0
  | 0 => by rw [skipB_zero]; exact ⟨Nat.le_refl _, fun j h1 h2 => by omega⟩
  | i + 1 => by
    by_cases hb : ofC (byt s i) true = 0
    · rw [skipB_on hb]
      obtain ⟨h1, h2⟩ := skipB_spec (s := s) i
      refine ⟨by omega, fun j j1 j2 => ?_⟩
      by_cases hj : j = i
      · rw [hj]; exact hb
      · exact h2 j j1 (by omega)
    · rw [skipB_stop hb]
      exact ⟨Nat.le_refl _, fun j h1 h2 => by omega⟩
theorem blank_of {c : Int} (h : ofC c true = 0) : c = 32 ∨ c = 9 := by
  unfold ofC at h
  by_cases h1 : c = 32 ∨ c = 9
  · exact h1
  · rw [if_neg h1] at h; simp at h
/-- What each byte is of what stands about quotes. -/
theorem quote_bytes {s : ByteArray} {q c : Int} {fx fy : Nat} (h : pairQ s q c = some (fx, fy)) {E F : Nat} (hE : skipF s (fy + 1) = E) (hF : (if E = fy + 1 then skipB s fx else fx) = F) :
    F ≤ fx ∧ fx < fy ∧ fy < E ∧ E ≤ s.size ∧ c ≤ fy ∧ byt s fx = q ∧ byt s fy = q ∧ (∀ k, F ≤ k → k < fx → byt s k = 32 ∨ byt s k = 9) ∧ (∀ k, fx < k → k < fy → byt s k ≠ q) ∧ (∀ k, fy < k → k < E → byt s k = 32 ∨ byt s k = 9) := by
  obtain ⟨h1, h2, h3, h4, h5⟩ := pairQ_in h
  simp only at h1 h2 h3 h4 h5
  obtain ⟨e1, e2, e3⟩ := skipF_spec (s := s) _ (fy + 1) rfl (by omega)
  obtain ⟨b1, b2⟩ := skipB_spec (s := s) fx
  rw [hE] at e1 e2 e3
  refine ⟨?_, h1, by omega, e2, h5, h3, h4, fun k k1 k2 => ?_, fun k k1 k2 => pairQ_clear h k k1 k2, fun k k1 k2 => blank_of (e3 k (by omega) k2)⟩
  · rw [← hF]; split
    · exact b1
    · exact Nat.le_refl _
  · rw [← hF] at k1
    split at k1
    · exact blank_of (b2 k k1 k2)
    · omega
end Go.Proofs.Ytnaikdmkabfnlaa
