/- A text's sentences stand in order; what is behind or ahead of one. Plain Lean but for its imports. Conditions: none. -/
import Derived.Test.YtnaceobbbfbhhaaSent5
namespace Go.Proofs.Ytnaceobbbfbhhaa

/-- One place ahead of another. -/
def ltN (p q : Nat × Nat) : Prop := p.1 < q.1 ∨ p.1 = q.1 ∧ p.2 < q.2
theorem colF_sorted {s : ByteArray} : ∀ (n : Nat) {op : Bool} {i : Nat}, s.size - i = n → (colF s op i).Pairwise (· < ·)
  | 0, op, i, h => by rw [colF_end (by omega)]; exact .nil
  | n + 1, op, i, h => by
    have hi : i < s.size := by omega
    by_cases hc : clsT s i = 0
    · rw [colF_blank hi hc]; exact colF_sorted n (by omega)
    · cases op with
      | true =>
        rw [colF_on hi hc]
        refine List.pairwise_cons.2 ⟨fun c hcm => ?_, colF_sorted n (by omega)⟩
        have := (colF_in (s := s) _ (op := stopB s i) (i := i + 1) rfl).1 c hcm
        omega
      | false => rw [colF_off hi hc]; exact colF_sorted n (by omega)
theorem sentF_sorted {L : List ByteArray} : ∀ (n : Nat) {op : Bool} {k : Nat}, L.length - k = n → (sentF L op k).Pairwise ltN
  | 0, op, k, h => by rw [sentF_end (by omega)]; exact .nil
  | n + 1, op, k, h => by
    have hk : k < L.length := by omega
    cases he : emp L k with
    | true =>
      cases hh : headB L k with
      | true =>
        rw [sentF_head hk he hh]
        refine List.pairwise_cons.2 ⟨fun p hp => ?_, sentF_sorted n (by omega)⟩
        have := (sentF_in (L := L) _ (op := true) (k := k + 1) rfl).1 p hp
        exact .inl (by simp only; omega)
      | false => rw [sentF_more hk he hh]; exact sentF_sorted n (by omega)
    | false =>
      rw [sentF_line hk he rfl]
      refine List.pairwise_append.2 ⟨?_, sentF_sorted n (by omega), fun p hp q hq => ?_⟩
      · refine List.pairwise_map.2 ((colF_sorted _ rfl).imp fun h => .inr ⟨rfl, h⟩)
      · obtain ⟨c, _, rfl⟩ := List.mem_map.1 hp
        have := (sentF_in (L := L) _ (op := _) (k := k + 1) rfl).1 q hq
        exact .inl (by simp only; omega)
theorem sentP_sorted (L : List ByteArray) : (sentP L).Pairwise ltN := sentF_sorted _ rfl
theorem ltN_less {p q : Nat × Nat} : lessB (p.1 : Int) (p.2 : Int) (q.1 : Int) (q.2 : Int) = true ↔ ltN p q := by
  simp only [lessB, ltN, decide_eq_true_eq]
  omega
theorem ltN_trans {p q r : Nat × Nat} (h : ltN p q) (k : ltN q r) : ltN p r := by
  simp only [ltN] at *
  omega
theorem ltN_asymm {p q : Nat × Nat} (h : ltN p q) : ¬ ltN q p := by
  simp only [ltN] at *
  omega
theorem ltN_irrefl {p : Nat × Nat} : ¬ ltN p p := by simp [ltN]
/-- A list in order, cut where a place stands that is not ahead. -/
theorem filter_cut {l c : Int} {A T : List (Nat × Nat)} {x : Nat × Nat} (hs : (A ++ x :: T).Pairwise ltN) (hA : ∀ p ∈ A, lessB (p.1 : Int) (p.2 : Int) l c = true) (hx : lessB (x.1 : Int) (x.2 : Int) l c = false) :
    (A ++ x :: T).filter (fun s => lessB (s.1 : Int) (s.2 : Int) l c) = A := by
  rw [List.filter_append, List.filter_eq_self.2 hA, List.filter_eq_nil_iff.2, List.append_nil]
  intro p hp
  rcases List.mem_cons.1 hp with rfl | hp
  · rw [hx]; decide
  · have h1 := (List.pairwise_cons.1 (List.pairwise_append.1 hs).2.1).1 p hp
    simp only [lessB, ltN, decide_eq_false_iff_not, decide_eq_true_eq] at *
    omega
theorem get_split {R : List (Nat × Nat)} {i : Nat} (hi : i < R.length) : R = R.take i ++ R.getD i (0, 0) :: R.drop (i + 1) := by
  have e : R.drop i = R.getD i (0, 0) :: R.drop (i + 1) := by
    rw [List.drop_eq_getElem_cons hi, List.getD_eq_getElem?_getD, List.getElem?_eq_getElem hi]; rfl
  rw [← e, List.take_append_drop]
theorem sorted_at {R : List (Nat × Nat)} {i : Nat} (hs : R.Pairwise ltN) (hi : i < R.length) : (∀ p ∈ R.take i, ltN p (R.getD i (0, 0))) ∧ (∀ p ∈ R.drop (i + 1), ltN (R.getD i (0, 0)) p) := by
  rw [get_split hi] at hs
  obtain ⟨_, h2, h3⟩ := List.pairwise_append.1 hs
  exact ⟨fun p hp => h3 p hp _ (List.mem_cons_self ..), fun p hp => (List.pairwise_cons.1 h2).1 p hp⟩
theorem behR_at {R : List (Nat × Nat)} {i : Nat} (hs : R.Pairwise ltN) (hi : i < R.length) : behR ((R.getD i (0, 0)).1 : Int) ((R.getD i (0, 0)).2 : Int) R = R.drop (i + 1) := by
  obtain ⟨h1, h2⟩ := sorted_at hs hi
  obtain ⟨g, hg⟩ : ∃ g, R.getD i (0, 0) = g := ⟨_, rfl⟩
  rw [hg] at h1 h2 ⊢
  have e := get_split hi
  rw [hg] at e
  rw [behR]
  conv => lhs; rw [e]
  rw [List.filter_append, List.filter_eq_nil_iff.2, List.nil_append, List.filter_cons, if_neg, List.filter_eq_self.2]
  · exact fun p hp => ltN_less.2 (h2 p hp)
  · exact fun h => ltN_irrefl (ltN_less.1 h)
  · exact fun p hp h => ltN_asymm (h1 p hp) (ltN_less.1 h)
theorem ahdR_at {R : List (Nat × Nat)} {i : Nat} (hs : R.Pairwise ltN) (hi : i < R.length) : ahdR ((R.getD i (0, 0)).1 : Int) ((R.getD i (0, 0)).2 : Int) R = (R.take i).reverse := by
  obtain ⟨h1, h2⟩ := sorted_at hs hi
  obtain ⟨g, hg⟩ : ∃ g, R.getD i (0, 0) = g := ⟨_, rfl⟩
  rw [hg] at h1 h2 ⊢
  have e := get_split hi
  rw [hg] at e
  rw [ahdR]
  congr 1
  conv => lhs; rw [e]
  refine filter_cut (by rw [← e]; exact hs) (fun p hp => ltN_less.2 (h1 p hp)) ?_
  rw [Bool.eq_false_iff]
  exact fun h => ltN_irrefl (ltN_less.1 h)
end Go.Proofs.Ytnaceobbbfbhhaa
