/- A sentence has its place in it; without blanks it ends behind a byte that is none. Plain Lean but for its imports. Conditions: none. -/
import Derived.Test.YtnaceobbbfbhhaaSObjP2
namespace Go.Proofs.Ytnaceobbbfbhhaa

theorem endE_spec {L : List ByteArray} {a b : Nat × Nat} : ∀ {l : List (Nat × Nat)} {e : Nat × Nat}, endE L a b e l = e ∨ ∃ q ∈ l, inB L a b q = true ∧ endE L a b e l = (q.1, q.2 + 1)
  | [], e => .inl rfl
  | q :: l, e => by
    rw [endE_cons]
    cases hq : inB L a b q with
    | false =>
      rw [if_neg (by decide)]
      rcases endE_spec (L := L) (a := a) (b := b) (l := l) (e := e) with h | ⟨r, hr, h1, h2⟩
      · exact .inl h
      · exact .inr ⟨r, List.mem_cons_of_mem _ hr, h1, h2⟩
    | true =>
      rw [if_pos rfl]
      rcases endE_spec (L := L) (a := a) (b := b) (l := l) (e := (q.1, q.2 + 1)) with h | ⟨r, hr, h1, h2⟩
      · exact .inr ⟨q, List.mem_cons_self .., hq, h⟩
      · exact .inr ⟨r, List.mem_cons_of_mem _ hr, h1, h2⟩
theorem endC_spec {L : List ByteArray} {a b : Nat × Nat} {l : List (Nat × Nat)} : endC L a b l = a ∨ ∃ q ∈ l, inB L a b q = true ∧ endC L a b l = (q.1, q.2 + 1) := endE_spec
theorem cellF_in {L : List ByteArray} : ∀ (n y : Nat), L.length - y = n → ∀ p ∈ cellF L y, p.1 < L.length ∧ p.2 < (L.getD p.1 .empty).size
  | 0, y, h, p, hp => by rw [cellF_end (by omega)] at hp; simp at hp
  | n + 1, y, h, p, hp => by
    rw [cellF_on (by omega) rfl] at hp
    rcases List.mem_append.1 hp with hp | hp
    · obtain ⟨h1, _, h3⟩ := rowC_in _ 0 rfl p hp
      rw [h1]
      exact ⟨by omega, h3⟩
    · exact cellF_in n (y + 1) (by omega) p hp
theorem inB_parts {L : List ByteArray} {a b q : Nat × Nat} (h : inB L a b q = true) : ¬ ofC (bytA L q) true = 0 ∧ lessB (q.1 : Int) (q.2 : Int) (a.1 : Int) (a.2 : Int) = false ∧ lessB (q.1 : Int) (q.2 : Int) (b.1 : Int) (b.2 : Int) = true := by
  simp only [inB, Bool.and_eq_true, Bool.not_eq_true', beq_eq_false_iff_ne, ne_eq] at h
  exact h
/-- The three ways. -/
theorem sent_ways {L : List ByteArray} {l c : Nat} (hp : plcB L l c = true) :
    (sObjP L l c true = noR ∧ sObjP L l c false = noR) ∨
    ∃ fl fc tl tc : Nat, sObjP L l c true = ((0, (fl : Int), (fc : Int), (tl : Int), (tc : Int)), true) ∧ lessB l c fl fc = false ∧ lessB tl tc l c = false ∧
      (sObjP L l c false = noR ∨ ∃ y x : Nat, sObjP L l c false = ((0, (fl : Int), (fc : Int), (y : Int), ((x + 1 : Nat) : Int)), true) ∧ lessB tl tc y ((x + 1 : Nat) : Int) = false ∧ y < L.length ∧ x < (L.getD y .empty).size ∧ ¬ ofC (byt (L.getD y .empty) x) true = 0) := by
  cases hb : byteB L l c with
  | false => exact .inl ⟨sObjP_no hb, sObjP_no hb⟩
  | true =>
    obtain ⟨p1, p2, p3, p4⟩ := plcB_spec hp
    obtain ⟨h, hh⟩ : ∃ h, (hereS (l : Int) (c : Int) (sentP L)).length = h := ⟨_, rfl⟩
    have e0 := sObj_ref (around := true) hb hh
    have e1 := sObj_ref (around := false) hb hh
    rw [if_pos rfl] at e0
    rw [if_neg (show ¬ (false = true) by decide)] at e1
    by_cases h0 : h = 0
    · rw [if_pos h0] at e0 e1
      exact .inl ⟨e0, e1⟩
    · rw [if_neg h0] at e0 e1
      have hle : h ≤ (sentP L).length := by rw [← hh, hereS]; exact List.length_filter_le _ _
      have hsp := here_split (l := (l : Int)) (c := (c : Int)) (sentP_sorted L)
      rw [hh] at hsp
      obtain ⟨⟨fl, fc⟩, hf⟩ : ∃ p, (sentP L).getD (h - 1) (0, 0) = p := ⟨_, rfl⟩
      obtain ⟨⟨tl, tc⟩, ht⟩ : ∃ p, (if h < (sentP L).length then (sentP L).getD h (0, 0) else endP L) = p := ⟨_, rfl⟩
      rw [hf, ht] at e0 e1
      have hso : someB ((sentP L).take h) = true := by
        rw [show h = h - 1 + 1 by omega, take_snoc_getD (sentP L) (0, 0) (h - 1) (by omega)]
        exact someB_snoc _ _
      have hfl : lessB (l : Int) (c : Int) (fl : Int) (fc : Int) = false := by
        have hm : (fl, fc) ∈ hereS (l : Int) (c : Int) (sentP L) := by
          rw [hsp.1, show h = h - 1 + 1 by omega, take_snoc_getD (sentP L) (0, 0) (h - 1) (by omega), hf]
          simp
        have := (List.mem_filter.1 hm).2
        simpa using this
      have htl : lessB (tl : Int) (tc : Int) (l : Int) (c : Int) = false := by
        by_cases hlt : h < (sentP L).length
        · rw [if_pos hlt] at ht
          have hm : (tl, tc) ∈ behR (l : Int) (c : Int) (sentP L) := by
            rw [hsp.2, List.drop_eq_getElem_cons hlt, ← ht, List.getD_eq_getElem?_getD, List.getElem?_eq_getElem hlt]
            exact List.mem_cons_self ..
          have := (List.mem_filter.1 hm).2
          simp only [lessB, decide_eq_true_eq, decide_eq_false_iff_not] at *
          omega
        · rw [if_neg hlt, endP] at ht
          simp only [Prod.mk.injEq] at ht
          obtain ⟨rfl, rfl⟩ := ht
          simp only [lessB, decide_eq_false_iff_not]
          rintro (h1 | ⟨h1, h2⟩)
          · omega
          · have h1n : l = L.length - 1 := by omega
            rw [Int.toNat_natCast, h1n] at p4
            omega
      by_cases hft : fl = tl ∧ fc = tc
      · obtain ⟨rfl, rfl⟩ := hft
        rw [sentR_same] at e0
        refine .inl ⟨e0, ?_⟩
        rcases endC_spec (L := L) (a := (fl, fc)) (b := (fl, fc)) (l := cellP L) with h1 | ⟨q, _, h1, _⟩
        · rw [h1, sentR_same] at e1; exact e1
        · have := inB_parts h1
          rw [this.2.1] at this
          cases this.2.2
      · rw [sentR_yes hso hft] at e0
        refine .inr ⟨fl, fc, tl, tc, e0, hfl, htl, ?_⟩
        rcases endC_spec (L := L) (a := (fl, fc)) (b := (tl, tc)) (l := cellP L) with h1 | ⟨⟨y, x⟩, hm, h1, h2⟩
        · rw [h1, sentR_same] at e1; exact .inl e1
        · have h3 := inB_parts h1
          have h4 := cellF_in _ 0 rfl _ hm
          simp only at h2 h3 h4
          rw [h2] at e1
          by_cases h5 : fl = y ∧ fc = x + 1
          · obtain ⟨rfl, rfl⟩ := h5
            rw [sentR_same] at e1
            exact .inl e1
          · rw [sentR_yes hso h5] at e1
            refine .inr ⟨y, x, e1, ?_, h4.1, h4.2, h3.1⟩
            have h6 := h3.2.2
            simp only [lessB, decide_eq_true_eq, decide_eq_false_iff_not] at h6 ⊢
            omega
end Go.Proofs.Ytnaceobbbfbhhaa
