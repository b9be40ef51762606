/- The plain words of sentences. Plain Lean, no program in sight. Conditions: none. -/
import Derived.Test.YtlbbgocggifjaaaParaP
import Derived.Test.YtlbbgocggifjaaaQuoteP
namespace Go.Proofs.Ytlbbgocggifjaaa

/-- The class of byte i: blank, or not. -/
def clsT (s : ByteArray) (i : Nat) : Int := ofC (byt s i) true
/-- Is byte i a sentence's stop? -/
def stopB (s : ByteArray) (i : Nat) : Bool := decide (byt s i = 46 ∨ byt s i = 33 ∨ byt s i = 63) && (decide (i + 1 = s.size) || clsT s (i + 1) == 0)
theorem stop_solid {s : ByteArray} {i : Nat} (h : clsT s i = 0) : stopB s i = false := by
  rw [stopB, decide_eq_false, Bool.false_and]
  simp only [clsT, ofC] at h
  split at h
  · omega
  · simp at h
/-- The columns, from byte i on, at which sentences begin; op: whether one begins with the next byte that is no blank. -/
def colF (s : ByteArray) (op : Bool) (i : Nat) : List Nat :=
  if i < s.size then (if clsT s i = 0 then colF s op (i + 1) else (if op = true then i :: colF s (stopB s i) (i + 1) else colF s (stopB s i) (i + 1))) else []
termination_by s.size - i
/-- Whether one begins with what comes behind the line. -/
def opF (s : ByteArray) (op : Bool) (i : Nat) : Bool :=
  if i < s.size then (if clsT s i = 0 then opF s op (i + 1) else opF s (stopB s i) (i + 1)) else op
termination_by s.size - i
/-- Is there a byte that is no blank, from i on? -/
def solF (s : ByteArray) (i : Nat) : Bool := if i < s.size then (if clsT s i = 0 then solF s (i + 1) else true) else false
termination_by s.size - i
theorem colF_end {s : ByteArray} {op : Bool} {i : Nat} (h : s.size ≤ i) : colF s op i = [] := by rw [colF.eq_def, if_neg (by omega)]
theorem colF_blank {s : ByteArray} {op : Bool} {i : Nat} (h : i < s.size) (hc : clsT s i = 0) : colF s op i = colF s op (i + 1) := by rw [colF.eq_def, if_pos h, if_pos hc]
theorem colF_on {s : ByteArray} {i : Nat} (h : i < s.size) (hc : ¬ clsT s i = 0) : colF s true i = i :: colF s (stopB s i) (i + 1) := by rw [colF.eq_def, if_pos h, if_neg hc, if_pos rfl]
theorem colF_off {s : ByteArray} {i : Nat} (h : i < s.size) (hc : ¬ clsT s i = 0) : colF s false i = colF s (stopB s i) (i + 1) := by rw [colF.eq_def, if_pos h, if_neg hc, if_neg (by decide)]
theorem opF_end {s : ByteArray} {op : Bool} {i : Nat} (h : s.size ≤ i) : opF s op i = op := by rw [opF.eq_def, if_neg (by omega)]
theorem opF_blank {s : ByteArray} {op : Bool} {i : Nat} (h : i < s.size) (hc : clsT s i = 0) : opF s op i = opF s op (i + 1) := by rw [opF.eq_def, if_pos h, if_pos hc]
theorem opF_on {s : ByteArray} {op : Bool} {i : Nat} (h : i < s.size) (hc : ¬ clsT s i = 0) : opF s op i = opF s (stopB s i) (i + 1) := by rw [opF.eq_def, if_pos h, if_neg hc]
theorem solF_end {s : ByteArray} {i : Nat} (h : s.size ≤ i) : solF s i = false := by rw [solF.eq_def, if_neg (by omega)]
theorem solF_blank {s : ByteArray} {i : Nat} (h : i < s.size) (hc : clsT s i = 0) : solF s i = solF s (i + 1) := by rw [solF.eq_def, if_pos h, if_pos hc]
theorem solF_yes {s : ByteArray} {i : Nat} (h : i < s.size) (hc : ¬ clsT s i = 0) : solF s i = true := by rw [solF.eq_def, if_pos h, if_neg hc]
theorem colF_in {s : ByteArray} : ∀ (n : Nat) {op : Bool} {i : Nat}, s.size - i = n → (∀ c ∈ colF s op i, i ≤ c ∧ c < s.size) ∧ (colF s op i).length ≤ s.size - i
  | 0, op, i, h => by rw [colF_end (by omega)]; simp
  | n + 1, op, i, h => by
    have hi : i < s.size := by omega
    by_cases hc : clsT s i = 0
    · rw [colF_blank hi hc]
      obtain ⟨h1, h2⟩ := colF_in (s := s) n (op := op) (i := i + 1) (by omega)
      exact ⟨fun c hcm => by have := h1 c hcm; omega, by omega⟩
    · obtain ⟨h1, h2⟩ := colF_in (s := s) n (op := stopB s i) (i := i + 1) (by omega)
      cases op with
      | true =>
        rw [colF_on hi hc]
        refine ⟨fun c hcm => ?_, by simp only [List.length_cons]; omega⟩
        rcases List.mem_cons.1 hcm with rfl | hcm
        · omega
        · have := h1 c hcm; omega
      | false =>
        rw [colF_off hi hc]
        exact ⟨fun c hcm => by have := h1 c hcm; omega, by omega⟩
/-- Does a sentence begin at line k, which is empty? -/
def headB (L : List ByteArray) (k : Nat) : Bool := decide (k = 0) || !emp L (k - 1)
/-- Where sentences begin, from line k on. -/
def sentF (L : List ByteArray) (op : Bool) (k : Nat) : List (Nat × Nat) :=
  if k < L.length then
    (if emp L k = true then (if headB L k = true then (k, 0) :: sentF L true (k + 1) else sentF L true (k + 1))
    else (colF (L.getD k .empty) op 0).map (fun c => (k, c)) ++ sentF L (opF (L.getD k .empty) op 0 && solF (L.getD k .empty) 0) (k + 1))
  else []
termination_by L.length - k
theorem sentF_end {L : List ByteArray} {op : Bool} {k : Nat} (h : L.length ≤ k) : sentF L op k = [] := by rw [sentF.eq_def, if_neg (by omega)]
theorem sentF_head {L : List ByteArray} {op : Bool} {k : Nat} (h : k < L.length) (he : emp L k = true) (hh : headB L k = true) : sentF L op k = (k, 0) :: sentF L true (k + 1) := by rw [sentF.eq_def, if_pos h, if_pos he, if_pos hh]
theorem sentF_more {L : List ByteArray} {op : Bool} {k : Nat} (h : k < L.length) (he : emp L k = true) (hh : headB L k = false) : sentF L op k = sentF L true (k + 1) := by rw [sentF.eq_def, if_pos h, if_pos he, if_neg (by rw [hh]; simp)]
theorem sentF_line {L : List ByteArray} {op : Bool} {k : Nat} {s : ByteArray} (h : k < L.length) (he : emp L k = false) (hs : L.getD k .empty = s) : sentF L op k = (colF s op 0).map (fun c => (k, c)) ++ sentF L (opF s op 0 && solF s 0) (k + 1) := by
  rw [sentF.eq_def, if_pos h, if_neg (by rw [he]; simp), hs]
theorem total_drop (L : List ByteArray) (k : Nat) (h : k < L.length) : total (L.drop k) = (L.getD k .empty).size + total (L.drop (k + 1)) := by
  rw [List.drop_eq_getElem_cons h, List.getD_eq_getElem?_getD, List.getElem?_eq_getElem h]
  simp only [total, List.map_cons, List.sum_cons]
  rfl
theorem sentF_in {L : List ByteArray} : ∀ (n : Nat) {op : Bool} {k : Nat}, L.length - k = n → (∀ p ∈ sentF L op k, k ≤ p.1 ∧ p.1 < L.length ∧ p.2 ≤ (L.getD p.1 .empty).size) ∧ (sentF L op k).length ≤ n + total (L.drop k)
  | 0, op, k, h => by rw [sentF_end (by omega)]; simp
  | n + 1, op, k, h => by
    have hk : k < L.length := by omega
    have ht := total_drop L k hk
    cases he : emp L k with
    | true =>
      obtain ⟨h1, h2⟩ := sentF_in (L := L) n (op := true) (k := k + 1) (by omega)
      cases hh : headB L k with
      | true =>
        rw [sentF_head hk he hh]
        refine ⟨fun p hp => ?_, by simp only [List.length_cons]; omega⟩
        rcases List.mem_cons.1 hp with rfl | hp
        · exact ⟨Nat.le_refl _, hk, Nat.zero_le _⟩
        · have := h1 p hp; exact ⟨by omega, this.2⟩
      | false =>
        rw [sentF_more hk he hh]
        exact ⟨fun p hp => by have := h1 p hp; exact ⟨by omega, this.2⟩, by omega⟩
    | false =>
      obtain ⟨h1, h2⟩ := sentF_in (L := L) n (op := opF (L.getD k .empty) op 0 && solF (L.getD k .empty) 0) (k := k + 1) (by omega)
      obtain ⟨g1, g2⟩ := colF_in (s := L.getD k .empty) _ (op := op) (i := 0) rfl
      rw [sentF_line hk he rfl]
      refine ⟨fun p hp => ?_, by simp only [List.length_append, List.length_map]; omega⟩
      rcases List.mem_append.1 hp with hp | hp
      · obtain ⟨c, hc, rfl⟩ := List.mem_map.1 hp
        have := g1 c hc
        exact ⟨Nat.le_refl _, hk, by simp only; omega⟩
      · have := h1 p hp; exact ⟨by omega, this.2⟩
/-- Where a text's sentences begin. -/
def sentP (L : List ByteArray) : List (Nat × Nat) := sentF L true 0
theorem sentP_in {L : List ByteArray} : (∀ p ∈ sentP L, p.1 < L.length ∧ p.2 ≤ (L.getD p.1 .empty).size) ∧ (sentP L).length ≤ L.length + total L := by
  obtain ⟨h1, h2⟩ := sentF_in (L := L) _ (op := true) (k := 0) rfl
  exact ⟨fun p hp => (h1 p hp).2, by simpa [sentP] using h2⟩
end Go.Proofs.Ytlbbgocggifjaaa
