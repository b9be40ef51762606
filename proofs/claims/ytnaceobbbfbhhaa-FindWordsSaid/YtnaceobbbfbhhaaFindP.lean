/- The plain words of searching. Plain Lean but for its imports. Conditions: none. -/
import Derived.Test.YtnaceobbbfbhhaaSentO
import Derived.Test.YtnaceobbbfbhhaaPre
namespace Go.Proofs.Ytnaceobbbfbhhaa

/-- Does t stand at byte i of s? -/
def hasB (s t : ByteArray) (i : Nat) : Bool := decide (i + t.size ≤ s.size) && ((s.extract i (i + t.size)).toList == t.toList)
theorem hasB_pre {s t : ByteArray} {i : Nat} (h : i ≤ s.size) : preB (s.extract i s.size) t = hasB s t i := by
  have e : (s.extract i s.size).size = s.size - i := by rw [ByteArray.size_extract]; omega
  rw [preB, hasB, e]
  by_cases h1 : i + t.size ≤ s.size
  · rw [decide_eq_true h1, decide_eq_true (by omega), ByteArray.extract_extract, show min (i + t.size) s.size = i + t.size by omega, Nat.add_zero]
  · rw [decide_eq_false h1, decide_eq_false (by omega)]; rfl
theorem hasB_no {s t : ByteArray} {i : Nat} (h : s.size < i + t.size) : hasB s t i = false := by rw [hasB, decide_eq_false (by omega)]; rfl
theorem hasB_list (s t : ByteArray) (i : Nat) : hasB s t i = (decide (i + t.size ≤ s.size) && ((s.data.toList.drop i).take t.size == t.data.toList)) := by
  rw [hasB, Go.ByteArray.toList_eq, Go.ByteArray.toList_eq, ByteArray.data_extract, Array.toList_extract, List.extract_eq_take_drop, show i + t.size - i = t.size by omega]
/-- Where t stands in s, from byte i on. -/
def fRow (s t : ByteArray) (y i : Nat) : List (Nat × Nat) := if i < s.size then (if hasB s t i = true then (y, i) :: fRow s t y (i + 1) else fRow s t y (i + 1)) else []
termination_by s.size - i
theorem fRow_yes {s t : ByteArray} {y i : Nat} (h : i < s.size) (hh : hasB s t i = true) : fRow s t y i = (y, i) :: fRow s t y (i + 1) := by rw [fRow.eq_def, if_pos h, if_pos hh]
theorem fRow_no {s t : ByteArray} {y i : Nat} (h : i < s.size) (hh : hasB s t i = false) : fRow s t y i = fRow s t y (i + 1) := by rw [fRow.eq_def, if_pos h, if_neg (by rw [hh]; decide)]
theorem fRow_end {s t : ByteArray} {y i : Nat} (h : s.size ≤ i) : fRow s t y i = [] := by rw [fRow.eq_def, if_neg (by omega)]
theorem fRow_out {s t : ByteArray} {y : Nat} : ∀ (n i : Nat), s.size - i = n → s.size < i + t.size → fRow s t y i = []
  | 0, i, h, _ => fRow_end (by omega)
  | n + 1, i, h, hl => by rw [fRow_no (by omega) (hasB_no hl)]; exact fRow_out n (i + 1) (by omega) (by omega)
theorem fRow_in {s t : ByteArray} {y : Nat} : ∀ (n i : Nat), s.size - i = n → (∀ p ∈ fRow s t y i, p.1 = y ∧ i ≤ p.2 ∧ p.2 < s.size ∧ hasB s t p.2 = true) ∧ (fRow s t y i).length ≤ s.size - i
  | 0, i, h => by rw [fRow_end (by omega)]; simp
  | n + 1, i, h => by
    obtain ⟨h1, h2⟩ := fRow_in (s := s) (t := t) (y := y) n (i + 1) (by omega)
    cases hh : hasB s t i with
    | true =>
      rw [fRow_yes (by omega) hh]
      refine ⟨fun p hp => ?_, by simp only [List.length_cons]; omega⟩
      rcases List.mem_cons.1 hp with rfl | hp
      · exact ⟨rfl, Nat.le_refl _, by simp only; omega, hh⟩
      · have := h1 p hp; exact ⟨this.1, by omega, this.2.2⟩
    | false =>
      rw [fRow_no (by omega) hh]
      exact ⟨fun p hp => by have := h1 p hp; exact ⟨this.1, by omega, this.2.2⟩, by omega⟩
theorem fRow_sorted {s t : ByteArray} {y : Nat} : ∀ (n i : Nat), s.size - i = n → (fRow s t y i).Pairwise ltN
  | 0, i, h => by rw [fRow_end (by omega)]; exact .nil
  | n + 1, i, h => by
    cases hh : hasB s t i with
    | true =>
      rw [fRow_yes (by omega) hh]
      refine List.pairwise_cons.2 ⟨fun p hp => ?_, fRow_sorted n (i + 1) (by omega)⟩
      have := (fRow_in (s := s) (t := t) (y := y) _ (i + 1) rfl).1 p hp
      exact .inr ⟨this.1.symm, by simp only; omega⟩
    | false => rw [fRow_no (by omega) hh]; exact fRow_sorted n (i + 1) (by omega)
theorem fRow_has {s t : ByteArray} {y j : Nat} (hj : j < s.size) (hh : hasB s t j = true) : ∀ (n i : Nat), s.size - i = n → i ≤ j → (y, j) ∈ fRow s t y i
  | 0, i, h, hi => by omega
  | n + 1, i, h, hi => by
    by_cases e : i = j
    · subst e; rw [fRow_yes (by omega) hh]; exact List.mem_cons_self ..
    · have := fRow_has (y := y) hj hh n (i + 1) (by omega) (by omega)
      cases h2 : hasB s t i with
      | true => rw [fRow_yes (by omega) h2]; exact List.mem_cons_of_mem _ this
      | false => rw [fRow_no (by omega) h2]; exact this
/-- Where t stands in a text, from line y on. -/
def fAll (L : List ByteArray) (t : ByteArray) (y : Nat) : List (Nat × Nat) := if y < L.length then fRow (L.getD y .empty) t y 0 ++ fAll L t (y + 1) else []
termination_by L.length - y
theorem fAll_on {L : List ByteArray} {t s : ByteArray} {y : Nat} (h : y < L.length) (hs : L.getD y .empty = s) : fAll L t y = fRow s t y 0 ++ fAll L t (y + 1) := by rw [fAll.eq_def, if_pos h, hs]
theorem fAll_end {L : List ByteArray} {t : ByteArray} {y : Nat} (h : L.length ≤ y) : fAll L t y = [] := by rw [fAll.eq_def, if_neg (by omega)]
theorem fAll_in {L : List ByteArray} {t : ByteArray} : ∀ (n y : Nat), L.length - y = n → (∀ p ∈ fAll L t y, y ≤ p.1 ∧ p.1 < L.length ∧ p.2 < (L.getD p.1 .empty).size ∧ hasB (L.getD p.1 .empty) t p.2 = true) ∧ (fAll L t y).length ≤ total (L.drop y)
  | 0, y, h => by rw [fAll_end (by omega)]; simp
  | n + 1, y, h => by
    obtain ⟨h1, h2⟩ := fAll_in (L := L) (t := t) n (y + 1) (by omega)
    obtain ⟨g1, g2⟩ := fRow_in (s := L.getD y .empty) (t := t) (y := y) _ 0 rfl
    rw [fAll_on (by omega) rfl]
    refine ⟨fun p hp => ?_, by rw [List.length_append, total_drop L y (by omega)]; omega⟩
    rcases List.mem_append.1 hp with hp | hp
    · obtain ⟨e1, e2, e3, e4⟩ := g1 p hp
      exact ⟨by omega, by omega, by rw [e1]; exact e3, by rw [e1]; exact e4⟩
    · have := h1 p hp; exact ⟨by omega, this.2⟩
theorem fAll_sorted {L : List ByteArray} {t : ByteArray} : ∀ (n y : Nat), L.length - y = n → (fAll L t y).Pairwise ltN
  | 0, y, h => by rw [fAll_end (by omega)]; exact .nil
  | n + 1, y, h => by
    rw [fAll_on (by omega) rfl]
    refine List.pairwise_append.2 ⟨fRow_sorted _ 0 rfl, fAll_sorted n (y + 1) (by omega), fun p hp q hq => ?_⟩
    have h1 := (fRow_in (s := L.getD y .empty) (t := t) (y := y) _ 0 rfl).1 p hp
    have h2 := (fAll_in (L := L) (t := t) _ (y + 1) rfl).1 q hq
    exact .inl (by omega)
theorem fAll_has {L : List ByteArray} {t : ByteArray} {k j : Nat} (hk : k < L.length) (hj : j < (L.getD k .empty).size) (hh : hasB (L.getD k .empty) t j = true) : ∀ (n y : Nat), L.length - y = n → y ≤ k → (k, j) ∈ fAll L t y
  | 0, y, h, hy => by omega
  | n + 1, y, h, hy => by
    rw [fAll_on (by omega) rfl]
    by_cases e : y = k
    · subst e; exact List.mem_append_left _ (fRow_has hj hh _ 0 rfl (Nat.zero_le _))
    · exact List.mem_append_right _ (fAll_has hk hj hh n (y + 1) (by omega) (by omega))
/-- A pattern's places. -/
def allP (L : List ByteArray) (t : ByteArray) : List (Nat × Nat) := if t.size = 0 then [] else fAll L t 0
theorem allP_in {L : List ByteArray} {t : ByteArray} : (∀ p ∈ allP L t, p.1 < L.length ∧ p.2 < (L.getD p.1 .empty).size ∧ hasB (L.getD p.1 .empty) t p.2 = true) ∧ (allP L t).length ≤ total L := by
  obtain ⟨h1, h2⟩ := fAll_in (L := L) (t := t) _ 0 rfl
  rw [allP]
  split
  · simp
  · exact ⟨fun p hp => (h1 p hp).2, by simpa using h2⟩
theorem allP_sorted (L : List ByteArray) (t : ByteArray) : (allP L t).Pairwise ltN := by
  rw [allP]
  split
  · exact .nil
  · exact fAll_sorted _ _ rfl
theorem allP_has {L : List ByteArray} {t : ByteArray} {k j : Nat} (ht : t.size ≠ 0) (hk : k < L.length) (hh : hasB (L.getD k .empty) t j = true) : (k, j) ∈ allP L t := by
  have hj : j < (L.getD k .empty).size := by rw [hasB, Bool.and_eq_true, decide_eq_true_eq] at hh; omega
  rw [allP, if_neg ht]
  exact fAll_has hk hj hh _ 0 rfl (Nat.zero_le _)
/-- The places ahead of one, in order; that place, if it is one of them. -/
def fAhd (l c : Int) (R : List (Nat × Nat)) : List (Nat × Nat) := R.filter (fun s => lessB (s.1 : Int) (s.2 : Int) l c)
def fOwn (l c : Int) (R : List (Nat × Nat)) : List (Nat × Nat) := R.filter (fun s => !lessB (s.1 : Int) (s.2 : Int) l c && !lessB l c (s.1 : Int) (s.2 : Int))
theorem ahdR_fAhd (l c : Int) (R : List (Nat × Nat)) : ahdR l c R = (fAhd l c R).reverse := rfl
/-- The way round the text, from a place on. -/
def rndP (l c : Int) (R : List (Nat × Nat)) (back : Bool) : List (Nat × Nat) :=
  if back = true then (fAhd l c R).reverse ++ ((behR l c R).reverse ++ fOwn l c R) else behR l c R ++ (fAhd l c R ++ fOwn l c R)
theorem split3 {l c : Int} : ∀ {R : List (Nat × Nat)}, R.Pairwise ltN → R = fAhd l c R ++ (fOwn l c R ++ behR l c R)
  | [], _ => rfl
  | x :: R, h => by
    obtain ⟨h1, h2⟩ := List.pairwise_cons.1 h
    have ih := split3 (l := l) (c := c) h2
    by_cases a : lessB (x.1 : Int) (x.2 : Int) l c = true
    · have b : lessB l c (x.1 : Int) (x.2 : Int) = false := by simp only [lessB, decide_eq_true_eq, decide_eq_false_iff_not] at *; omega
      simp only [fAhd, fOwn, behR, List.filter_cons, a, b] at ih ⊢
      simp only [Bool.not_true, Bool.false_and, Bool.false_eq_true, if_false, if_true, List.cons_append]
      rw [← ih]
    · have a' : lessB (x.1 : Int) (x.2 : Int) l c = false := by simpa using a
      have hR : fAhd l c R = [] := List.filter_eq_nil_iff.2 fun y hy => by
        have := h1 y hy
        simp only [lessB, ltN, decide_eq_true_eq, decide_eq_false_iff_not] at *
        omega
      by_cases b : lessB l c (x.1 : Int) (x.2 : Int) = true
      · have hO : fOwn l c R = [] := List.filter_eq_nil_iff.2 fun y hy => by
          have := h1 y hy
          simp only [lessB, ltN, decide_eq_true_eq, Bool.and_eq_true, Bool.not_eq_true', decide_eq_false_iff_not] at *
          omega
        rw [hR, hO] at ih
        simp only [fAhd, fOwn, behR, List.filter_cons, a', b] at ih hR hO ⊢
        simp only [Bool.not_true, Bool.not_false, Bool.and_false, Bool.false_eq_true, if_false, if_true, hR, hO, List.nil_append] at ih ⊢
        rw [← ih]
      · have b' : lessB l c (x.1 : Int) (x.2 : Int) = false := by simpa using b
        rw [hR] at ih
        simp only [fAhd, fOwn, behR, List.filter_cons, a', b'] at ih hR ⊢
        simp only [Bool.not_false, Bool.and_true, Bool.false_eq_true, if_false, if_true, hR, List.nil_append, List.cons_append] at ih ⊢
        rw [← ih]
theorem fOwn_one {l c : Int} {R : List (Nat × Nat)} (h : R.Pairwise ltN) : (fOwn l c R).length ≤ 1 := by
  rcases ho : fOwn l c R with _ | ⟨x, _ | ⟨y, T⟩⟩
  · simp
  · simp
  · have hp : (fOwn l c R).Pairwise ltN := h.sublist List.filter_sublist
    have hm : ∀ z ∈ fOwn l c R, (z.1 : Int) = l ∧ (z.2 : Int) = c := fun z hz => by
      have := (List.mem_filter.1 hz).2
      simp only [lessB, Bool.and_eq_true, Bool.not_eq_true', decide_eq_false_iff_not] at this
      omega
    have h1 := hm x (by rw [ho]; simp)
    have h2 := hm y (by rw [ho]; simp)
    rw [ho] at hp
    have h3 := (List.pairwise_cons.1 hp).1 y (by simp)
    simp only [ltN] at h3
    omega
theorem rev_small {α : Type} {R : List α} (h : R.length ≤ 1) : R.reverse = R := by
  rcases R with _ | ⟨x, _ | ⟨y, T⟩⟩
  · rfl
  · rfl
  · simp at h
theorem len3 (l c : Int) {R : List (Nat × Nat)} (h : R.Pairwise ltN) : (fAhd l c R).length + (fOwn l c R).length + (behR l c R).length = R.length := by
  conv => rhs; rw [split3 (l := l) (c := c) h]
  simp only [List.length_append]; omega
theorem rndP_len (l c : Int) {R : List (Nat × Nat)} (back : Bool) (h : R.Pairwise ltN) : (rndP l c R back).length = R.length := by
  have := len3 l c h
  rw [rndP]
  split <;> simp only [List.length_append, List.length_reverse] <;> omega
/-- What the reference adds behind its first half. -/
theorem ref_fwd {l c : Int} {R : List (Nat × Nat)} (h : R.Pairwise ltN) : R.filter (fun s => !lessB l c (s.1 : Int) (s.2 : Int)) = fAhd l c R ++ fOwn l c R := by
  conv => lhs; rw [split3 (l := l) (c := c) h]
  rw [List.filter_append, List.filter_append, List.filter_eq_self.2, List.filter_eq_self.2, List.filter_eq_nil_iff.2, List.append_nil]
  · exact fun p hp => by have := (List.mem_filter.1 hp).2; rw [this]; decide
  · exact fun p hp => by have := (List.mem_filter.1 hp).2; rw [Bool.and_eq_true] at this; exact this.2
  · exact fun p hp => by
      have := (List.mem_filter.1 hp).2
      simp only [lessB, decide_eq_true_eq, Bool.not_eq_true', decide_eq_false_iff_not] at *
      omega
theorem ref_bwd {l c : Int} {R : List (Nat × Nat)} (h : R.Pairwise ltN) : R.reverse.filter (fun s => !lessB (s.1 : Int) (s.2 : Int) l c) = (behR l c R).reverse ++ fOwn l c R := by
  rw [List.filter_reverse]
  conv => lhs; rw [split3 (l := l) (c := c) h]
  rw [List.filter_append, List.filter_append, List.filter_eq_nil_iff.2, List.filter_eq_self.2, List.filter_eq_self.2, List.nil_append, List.reverse_append, rev_small (fOwn_one h)]
  · exact fun p hp => by
      have := (List.mem_filter.1 hp).2
      simp only [lessB, decide_eq_true_eq, Bool.not_eq_true', decide_eq_false_iff_not] at *
      omega
  · exact fun p hp => by have := (List.mem_filter.1 hp).2; rw [Bool.and_eq_true] at this; exact this.1
  · exact fun p hp => by have := (List.mem_filter.1 hp).2; rw [this]; decide
theorem rndP_ref {l c : Int} {R : List (Nat × Nat)} (h : R.Pairwise ltN) (back : Bool) :
    rndP l c R back = (if back = true then ahdR l c R ++ R.reverse.filter (fun s => !lessB (s.1 : Int) (s.2 : Int) l c) else behR l c R ++ R.filter (fun s => !lessB l c (s.1 : Int) (s.2 : Int))) := by
  rw [rndP, ref_fwd h, ref_bwd h, ahdR_fAhd]
/-- A motion that jumps. -/
def fndM (s : Nat × Nat) : Mov × Bool := (((s.1 : Int), (s.2 : Int), 0, true, -1), true)
/-- A search. -/
def searchP (L : List ByteArray) (pl pc : Int) (t : ByteArray) (back : Bool) (n : Int) : Mov × Bool :=
  if plcB L pl pc = true ∧ 1 ≤ n ∧ allP L t ≠ [] then fndM ((rndP pl pc (allP L t) back).getD ((min n 1073741824 - 1) % ((allP L t).length : Int)).toNat (0, 0)) else noMov
end Go.Proofs.Ytnaceobbbfbhhaa
