/- Changes, and what undoes them; changes made to fit. Plain Lean but for its imports. Conditions: none. -/
import Derived.Test.YtnaceobbbfbhhaaChgQ
namespace Go.Proofs.Ytnaceobbbfbhhaa

/-- What one change did, its inverse undoes. -/
theorem applyP_spec {L M : List ByteArray} {c : Chg} (h : applyP L c = some M) : ∃ k : Nat, c.1 = k ∧ k + c.2.1.length ≤ L.length ∧ 0 < M.length ∧ (L.drop k).take c.2.1.length = c.2.1 ∧ M = L.take k ++ (c.2.2 ++ L.drop (k + c.2.1.length)) := by
  have hl := (applyP_len h).2
  rw [applyP] at h
  split at h
  · rename_i hh
    obtain ⟨h1, h2, h3, h4, h5⟩ := hh
    obtain ⟨k, hk⟩ := Int.eq_ofNat_of_zero_le h1
    rw [hk] at h3 h5 h
    refine ⟨k, hk, by omega, hl, by simpa using h5, ?_⟩
    cases h
    simp
  · cases h
theorem applyP_back {L M : List ByteArray} {c : Chg} (h0 : 0 < L.length) (h : applyP L c = some M) : applyP M (c.1, c.2.2, c.2.1) = some L := by
  obtain ⟨k, hk, h1, h2, h3, rfl⟩ := applyP_spec h
  obtain ⟨at_, O, N⟩ := c
  simp only at hk h1 h3 h h2 ⊢
  subst hk
  have hlk : (L.take k).length = k := by simp; omega
  have hd : (L.take k ++ (N ++ L.drop (k + O.length))).drop k = N ++ L.drop (k + O.length) := by
    rw [List.drop_append_of_le_length (by omega), List.drop_of_length_le (by omega), List.nil_append]
  rw [applyP_yes (by simp; omega) (by simp only [List.length_append, List.length_take, List.length_drop]; omega) (by rw [hd]; simp)]
  congr 1
  have e1 : (L.take k ++ (N ++ L.drop (k + O.length))).take k = L.take k := by
    rw [List.take_append_of_le_length (by omega), List.take_of_length_le (by omega)]
  have e2 : (L.take k ++ (N ++ L.drop (k + O.length))).drop (k + N.length) = L.drop (k + O.length) := by
    rw [← List.drop_drop, hd]; simp
  rw [e1, e2]
  have e3 : O ++ L.drop (k + O.length) = L.drop k := by
    rw [show L.drop (k + O.length) = (L.drop k).drop O.length by rw [List.drop_drop]]
    conv => lhs; lhs; rw [← h3]
    exact List.take_append_drop _ _
  rw [e3, List.take_append_drop]
theorem applyAll_app {cs ds : List Chg} {L M : List ByteArray} (h : applyAll L cs = some M) : applyAll L (cs ++ ds) = applyAll M ds := by
  induction cs generalizing L with
  | nil => cases h; rfl
  | cons c cs ih =>
    simp only [List.cons_append, applyAll] at h ⊢
    cases hc : applyP L c with
    | none => rw [hc] at h; cases h
    | some M' => rw [hc] at h; exact ih h
theorem invP_cons (c : Chg) (cs : List Chg) : invP (c :: cs) = invP cs ++ [(c.1, c.2.2, c.2.1)] := by simp [invP]
theorem applyAll_back : ∀ (cs : List Chg) {L M : List ByteArray}, 0 < L.length → applyAll L cs = some M → applyAll M (invP cs) = some L
  | [], L, M, _, h => by cases h; rfl
  | c :: cs, L, M, h0, h => by
    rw [applyAll] at h
    cases hc : applyP L c with
    | none => rw [hc] at h; cases h
    | some M' =>
      rw [hc] at h
      have := applyAll_back cs (applyP_len hc).2 h
      rw [invP_cons, applyAll_app this, applyAll, applyP_back h0 hc]
      rfl
/-- A change made to fit a text. -/
def fitC (L : List ByteArray) (c : Chg) : Chg := (c.1 % ((L.length : Int) + 1), (L.drop (c.1 % ((L.length : Int) + 1)).toNat).take c.2.1.length, c.2.2)
/-- Changes made to fit. -/
def madeP (L : List ByteArray) : List Chg → List Chg
  | [] => []
  | c :: cs => match applyP L (fitC L c) with | some M => fitC L c :: madeP M cs | none => madeP L cs
theorem madeP_all : ∀ (cs : List Chg) (L : List ByteArray), ∃ M, applyAll L (madeP L cs) = some M
  | [], L => ⟨L, rfl⟩
  | c :: cs, L => by
    rw [madeP]
    cases h : applyP L (fitC L c) with
    | none => exact madeP_all cs L
    | some M' =>
      obtain ⟨M, hM⟩ := madeP_all cs M'
      exact ⟨M, by rw [applyAll, h]; exact hM⟩
theorem madeP_len : ∀ (cs : List Chg) (L : List ByteArray), (madeP L cs).length ≤ cs.length
  | [], L => Nat.le_refl _
  | c :: cs, L => by
    rw [madeP]
    cases h : applyP L (fitC L c) with
    | none => have := madeP_len cs L; simp only [List.length_cons]; omega
    | some M' => have := madeP_len cs M'; simp only [List.length_cons]; omega
/-- The size of what is put in. -/
def sizeN (cs : List Chg) : Nat := (cs.map (fun c => sizeP c.2.2)).sum
theorem sizeN_cons (c : Chg) (cs : List Chg) : sizeN (c :: cs) = sizeP c.2.2 + sizeN cs := by simp [sizeN]
theorem applyP_sizeEq {L M : List ByteArray} {c : Chg} (h : applyP L c = some M) : sizeP M + sizeP c.2.1 = sizeP L + sizeP c.2.2 := by
  obtain ⟨k, hk, h1, h2, h3, rfl⟩ := applyP_spec h
  have e : sizeP L = sizeP (L.take k) + (sizeP c.2.1 + sizeP (L.drop (k + c.2.1.length))) := by
    rw [← sizeP_app]
    have : c.2.1 ++ L.drop (k + c.2.1.length) = L.drop k := by
      rw [show L.drop (k + c.2.1.length) = (L.drop k).drop c.2.1.length by rw [List.drop_drop]]
      conv => lhs; lhs; rw [← h3]
      exact List.take_append_drop _ _
    rw [this, ← sizeP_app, List.take_append_drop]
  rw [sizeP_app, sizeP_app, e]
  omega
theorem madeP_size : ∀ (cs : List Chg) (L : List ByteArray), sizeC (madeP L cs) ≤ sizeP L + 2 * sizeN cs
  | [], L => by simp [madeP, sizeC]
  | c :: cs, L => by
    rw [madeP, sizeN_cons]
    cases h : applyP L (fitC L c) with
    | none => have := madeP_size cs L; simp only; omega
    | some M' =>
      have h1 := madeP_size cs M'
      have h2 := applyP_sizeEq h
      have h3 : (fitC L c).2.2 = c.2.2 := rfl
      rw [h3] at h2
      simp only [sizeC_cons, h3]
      omega
theorem madeP_sizeN : ∀ (cs : List Chg) (L : List ByteArray), sizeN (madeP L cs) ≤ sizeN cs
  | [], L => Nat.le_refl _
  | c :: cs, L => by
    rw [madeP, sizeN_cons]
    cases h : applyP L (fitC L c) with
    | none => have := madeP_sizeN cs L; simp only; omega
    | some M' =>
      have h1 := madeP_sizeN cs M'
      have h3 : (fitC L c).2.2 = c.2.2 := rfl
      simp only [sizeN_cons, h3]
      omega
theorem sizeC_invP (cs : List Chg) : sizeC (invP cs) = sizeC cs := by
  induction cs with
  | nil => rfl
  | cons c cs ih =>
    rw [invP_cons, sizeC, List.map_append, List.sum_append]
    rw [sizeC] at ih
    rw [ih, sizeC_cons]
    simp [sizeC]
    omega
theorem sizeN_le (cs : List Chg) : sizeN cs ≤ sizeC cs := by
  induction cs with
  | nil => exact Nat.le_refl _
  | cons c cs ih => rw [sizeN_cons, sizeC_cons]; omega
theorem wf_fitC (L : List ByteArray) (c : Chg) (h : L.length ≤ 100000) : 0 ≤ (fitC L c).1 ∧ (fitC L c).1 ≤ 100000 := by
  unfold fitC
  simp only
  have h1 := Int.emod_nonneg c.1 (show ((L.length : Int) + 1) ≠ 0 by omega)
  have h2 := Int.emod_lt_of_pos c.1 (show 0 < ((L.length : Int) + 1) by omega)
  omega
end Go.Proofs.Ytnaceobbbfbhhaa
