/- Where a paragraph ends and begins. Plain Lean, no program in sight. Conditions: none. -/
import Derived.Test.YtnaceobbbfbhhaaParaP
namespace Go.Proofs.Ytnaceobbbfbhhaa

theorem pnF_emp {L : List ByteArray} : ∀ (n i j : Nat), L.length - i = n → pnF L i = some j → emp L j = true
  | 0, i, j, h, e => by rw [pnF_end (by omega)] at e; cases e
  | n + 1, i, j, h, e => by
    cases hg : gapB L i (i - 1) with
    | true =>
      rw [pnF_yes (by omega) hg] at e
      cases e
      rw [gapB, Bool.and_eq_true] at hg
      exact hg.1
    | false => rw [pnF_no (by omega) hg] at e; exact pnF_emp n (i + 1) j (by omega) e
theorem pbF_emp {L : List ByteArray} : ∀ {k j : Nat}, pbF L k = some j → emp L j = true
  | 0, j, e => by cases e
  | k + 1, j, e => by
    cases hg : gapB L k (k + 1) with
    | true =>
      rw [pbF_yes hg] at e
      cases e
      rw [gapB, Bool.and_eq_true] at hg
      exact hg.1
    | false => rw [pbF_no hg] at e; exact pbF_emp e
theorem plc0 {L : List ByteArray} {l : Nat} (hl : l < L.length) : plcB L (l : Int) 0 = true := by
  rw [plcB, decide_eq_true_eq]
  refine ⟨by omega, by omega, by omega, ?_⟩
  rw [Int.toNat_natCast]; omega
theorem paraP_one {L : List ByteArray} {l : Nat} {op fwd : Bool} (hl : l < L.length) {l2 c2 : Nat} (h : parT L op fwd l = (l2, c2)) : paraP L (l : Int) 0 1 op fwd = if goB fwd l 0 l2 c2 = true then (((l2 : Int), (c2 : Int), 0, true, -1), true) else noMov := by
  rw [paraP, if_pos ⟨plc0 hl, by omega⟩, show (1 : Int).toNat = 0 + 1 from rfl, Int.toNat_natCast, show (0 : Int).toNat = 0 from rfl]
  cases hg : goB fwd l 0 l2 c2 with
  | true => rw [stepsP_on h hg, if_pos rfl]; rfl
  | false => rw [stepsP_no h hg, if_neg (by decide)]
/-- Where a paragraph ends: an empty line, or the text's end. -/
theorem next_ways {L : List ByteArray} {l : Nat} (hl : l < L.length) : paraP L l 0 1 false true = noMov ∨ ∃ i c : Nat, paraP L l 0 1 false true = (((i : Int), (c : Int), 0, true, -1), true) ∧ lessB l 0 i c = true ∧ i < L.length ∧
    (emp L i = true ∨ (emp L i = false ∧ i = L.length - 1 ∧ (c : Int) = ((L.getD i .empty).size : Int) - 1)) := by
  obtain ⟨⟨i, c⟩, h⟩ : ∃ p, parT L false true l = p := ⟨_, rfl⟩
  rw [paraP_one hl h]
  cases hg : goB true l 0 i c with
  | false => exact .inl (if_neg (by decide))
  | true =>
    refine .inr ⟨i, c, if_pos rfl, hg, parT_in hl h, ?_⟩
    cases he : emp L i with
    | true => exact .inl rfl
    | false =>
      refine .inr ⟨rfl, ?_⟩
      simp only [parT, if_pos, nxT] at h
      split at h
      · rename_i j hj
        cases h
        rw [pnF_emp _ _ _ rfl hj] at he
        cases he
      · simp only [Prod.mk.injEq] at h
        obtain ⟨rfl, h2⟩ := h
        simp only [emp, beq_eq_false_iff_ne, ne_eq] at he
        refine ⟨rfl, ?_⟩
        rw [← h2, lastN, if_neg (by decide)]
        omega
/-- Where a paragraph begins: an empty line, or the text's beginning. -/
theorem back_ways {L : List ByteArray} {l : Nat} (hl : l < L.length) : (l = 0 ∧ paraP L l 0 1 false false = noMov) ∨ (l ≠ 0 ∧ ∃ i c : Nat, paraP L l 0 1 false false = (((i : Int), (c : Int), 0, true, -1), true) ∧ lessB i c l 0 = true ∧ i < L.length ∧
    (emp L i = true ∨ (emp L i = false ∧ i = 0 ∧ c = 0))) := by
  obtain ⟨⟨i, c⟩, h⟩ : ∃ p, parT L false false l = p := ⟨_, rfl⟩
  rw [paraP_one hl h]
  have hb : bkT L l = (i, c) := by simpa [parT] using h
  have hc : c = 0 ∧ (i < l ∨ l = 0 ∧ i = 0) ∧ (emp L i = true ∨ i = 0) := by
    rw [bkT] at hb
    split at hb
    · rename_i j hj
      cases hb
      exact ⟨rfl, .inl (pbF_in hj), .inl (pbF_emp hj)⟩
    · cases hb
      exact ⟨rfl, by omega, .inr rfl⟩
  obtain ⟨rfl, h1, h2⟩ := hc
  have hg : goB false l 0 i 0 = decide (i < l) := by
    simp only [goB, lessB, if_neg (show ¬ (false = true) by decide)]
    congr 1
    simp
  rw [hg]
  by_cases h0 : i < l
  · refine .inr ⟨by omega, i, 0, if_pos (decide_eq_true h0), ?_, by omega, ?_⟩
    · simp only [lessB, decide_eq_true_eq]; omega
    · cases he : emp L i with
      | true => exact .inl rfl
      | false => rw [he] at h2; exact .inr ⟨rfl, by simpa using h2, rfl⟩
  · exact .inl ⟨by omega, if_neg (by simpa using h0)⟩
end Go.Proofs.Ytnaceobbbfbhhaa
