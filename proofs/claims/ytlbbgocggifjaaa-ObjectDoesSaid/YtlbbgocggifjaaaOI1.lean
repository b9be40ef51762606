/- Several texts in one: SpanP, QuoteP, AreaP, ByteP. Conditions: none beyond what each says. -/
import Derived.Test.YtlbbgocggifjaaaPlain
namespace Go.Proofs.Ytlbbgocggifjaaa

/-- May a range be? -/
def validB (L : List ByteArray) (k fl fc tl tc : Int) : Bool :=
  decide (0 ≤ fl) && decide (fl ≤ tl) && decide (tl < (L.length : Int)) && (if k = 0 then plcB L fl fc && plcB L tl tc && !lessB tl tc fl fc else if k = 1 then true else if k = 2 then decide (0 ≤ fc) && decide (fc ≤ tc) else false)
theorem validB_fl {L : List ByteArray} {k fl fc tl tc : Int} (h : fl < 0) : validB L k fl fc tl tc = false := by simp [validB]; omega
theorem validB_tl {L : List ByteArray} {k fl fc tl tc : Int} (h : tl < fl) : validB L k fl fc tl tc = false := by simp [validB]; omega
theorem validB_len {L : List ByteArray} {k fl fc tl tc : Int} (h : (L.length : Int) ≤ tl) : validB L k fl fc tl tc = false := by simp [validB]; omega
theorem validB_char {L : List ByteArray} {fl fc tl tc : Int} (h1 : 0 ≤ fl) (h2 : fl ≤ tl) (h3 : tl < (L.length : Int)) : validB L 0 fl fc tl tc = (plcB L fl fc && plcB L tl tc && !lessB tl tc fl fc) := by simp [validB, h1, h2, h3]
theorem validB_line {L : List ByteArray} {fl fc tl tc : Int} (h1 : 0 ≤ fl) (h2 : fl ≤ tl) (h3 : tl < (L.length : Int)) : validB L 1 fl fc tl tc = true := by simp [validB, h1, h2, h3]
theorem validB_block {L : List ByteArray} {fl fc tl tc : Int} (h1 : 0 ≤ fl) (h2 : fl ≤ tl) (h3 : tl < (L.length : Int)) : validB L 2 fl fc tl tc = (decide (0 ≤ fc) && decide (fc ≤ tc)) := by simp [validB, h1, h2, h3]
theorem validB_other {L : List ByteArray} {k fl fc tl tc : Int} (h0 : k ≠ 0) (h1 : k ≠ 1) (h2 : k ≠ 2) : validB L k fl fc tl tc = false := by simp [validB, h0, h1, h2]

/-- Which bytes of line i (of n bytes) a range has: from, up to. -/
def colsP (n : Nat) (k fl fc tl tc i : Int) : Int × Int :=
  if k = 0 then (if i = fl then fc else 0, if i = tl then tc else n) else if k = 2 then (min fc n, min tc ((n : Int) - 1) + 1) else (0, n)
theorem colsP_ok {L : List ByteArray} {k fl fc tl tc : Int} (h : validB L k fl fc tl tc = true) {i : Int} (h1 : fl ≤ i) (h2 : i ≤ tl) :
    0 ≤ (colsP (L.getD i.toNat .empty).size k fl fc tl tc i).1 ∧ (colsP (L.getD i.toNat .empty).size k fl fc tl tc i).1 ≤ (colsP (L.getD i.toNat .empty).size k fl fc tl tc i).2 ∧
      (colsP (L.getD i.toNat .empty).size k fl fc tl tc i).2 ≤ (L.getD i.toNat .empty).size := by
  simp only [validB, Bool.and_eq_true, decide_eq_true_eq] at h
  obtain ⟨⟨⟨a1, a2⟩, a3⟩, a4⟩ := h
  unfold colsP
  by_cases k0 : k = 0
  · simp only [k0, if_true, Bool.and_eq_true, Bool.not_eq_true'] at a4 ⊢
    obtain ⟨⟨p1, p2⟩, p3⟩ := a4
    have q1 := plcB_spec p1
    have q2 := plcB_spec p2
    simp only [lessB, decide_eq_false_iff_not] at p3
    by_cases e1 : i = fl
    · by_cases e2 : i = tl
      · subst e1; subst e2
        simp only [if_true]; omega
      · subst e1
        simp only [if_true, e2, if_false]; omega
    · by_cases e2 : i = tl
      · subst e2
        simp only [if_true, e1, if_false]; omega
      · simp only [e1, e2, if_false]; omega
  · by_cases k2 : k = 2
    · subst k2
      have a4' : 0 ≤ fc ∧ fc ≤ tc := by simpa using a4
      rw [if_neg (by decide : ¬ (2 : Int) = 0), if_pos rfl]
      simp only
      omega
    · simp only [k0, k2, if_false]; omega
/-- What a range has of line i. -/
def cutL (L : List ByteArray) (k fl fc tl tc : Int) (i : Nat) : ByteArray :=
  (L.getD i .empty).extract (colsP (L.getD i .empty).size k fl fc tl tc i).1.toNat (colsP (L.getD i .empty).size k fl fc tl tc i).2.toNat
/-- What a range has. -/
def spanT (L : List ByteArray) (k fl fc tl tc : Int) : List ByteArray :=
  if validB L k fl fc tl tc = true then (List.range (tl - fl + 1).toNat).map (fun j => cutL L k fl fc tl tc (fl.toNat + j)) else []
theorem spanT_no {L : List ByteArray} {k fl fc tl tc : Int} (h : validB L k fl fc tl tc = false) : spanT L k fl fc tl tc = [] := by simp [spanT, h]
theorem spanT_yes {L : List ByteArray} {k fc tc : Int} {fl tl : Nat} (h : validB L k fl fc tl tc = true) : spanT L k fl fc tl tc = (List.range (tl + 1 - fl)).map (fun j => cutL L k fl fc tl tc (fl + j)) := by
  simp only [spanT, h, if_true, Int.toNat_natCast]
  congr 2
  omega
theorem range_snoc {α : Type} (f : Nat → α) (n : Nat) : (List.range (n + 1)).map f = (List.range n).map f ++ [f n] := by rw [List.range_succ, List.map_append]; rfl
theorem size_extract_le (s : ByteArray) (a b : Nat) : (s.extract a b).size ≤ s.size := by rw [ByteArray.size_extract]; omega
theorem size_cutL (L : List ByteArray) (k fl fc tl tc : Int) (i : Nat) : (cutL L k fl fc tl tc i).size ≤ (L.getD i .empty).size := size_extract_le _ _ _
theorem size_getD_le {L : List ByteArray} {n : Nat} (h : ∀ s ∈ L, s.size ≤ n) (i : Nat) : (L.getD i .empty).size ≤ n := by
  by_cases hi : i < L.length
  · exact h _ (getD_mem L .empty i hi)
  · rw [List.getD_eq_getElem?_getD, List.getElem?_eq_none (by omega)]; exact Nat.zero_le _
end Go.Proofs.Ytlbbgocggifjaaa
namespace Go.Proofs.Ytlbbgocggifjaaa

/-- Two columns of a line of m bytes. -/
abbrev Ivl (m : Nat) := { x : Nat × Nat // x.1 < m ∧ x.2 ≤ m }
/-- What is still told, from byte i on, a first quote of a pair being open or not. -/
def qpF (s : ByteArray) (q : Int) (f : Option Nat) (i : Nat) : List (Nat × Nat) :=
  if i < s.size then
    (if byt s i = q then (match f with | none => qpF s q (some i) (i + 1) | some a => (a, i) :: qpF s q none (i + 1)) else qpF s q f (i + 1))
  else []
termination_by s.size - i
theorem qpF_end {s : ByteArray} {q : Int} {f : Option Nat} {i : Nat} (h : s.size ≤ i) : qpF s q f i = [] := by
  have h' : ¬ i < s.size := by omega
  rw [qpF.eq_def, if_neg h']
theorem qpF_no {s : ByteArray} {q : Int} {f : Option Nat} {i : Nat} (h : i < s.size) (hq : byt s i ≠ q) : qpF s q f i = qpF s q f (i + 1) := by rw [qpF.eq_def, if_pos h, if_neg hq]
theorem qpF_open {s : ByteArray} {q : Int} {i : Nat} (h : i < s.size) (hq : byt s i = q) : qpF s q none i = qpF s q (some i) (i + 1) := by rw [qpF.eq_def, if_pos h, if_pos hq]
theorem qpF_shut {s : ByteArray} {q : Int} {a i : Nat} (h : i < s.size) (hq : byt s i = q) : qpF s q (some a) i = (a, i) :: qpF s q none (i + 1) := by rw [qpF.eq_def, if_pos h, if_pos hq]
/-- The slot that tells an open pair's first quote. -/
def fstI : Option Nat → Int
  | none => -1
  | some a => a
theorem byt_at' (s : ByteArray) (k : Nat) (h : k < s.size) : byt s k = (s[k].toNat : Int) := by
  unfold byt
  rw [List.getD_eq_getElem?_getD, list_at s k h]; rfl
theorem qpF_len {s : ByteArray} {q : Int} : ∀ (k : Nat) (f : Option Nat) (i : Nat), s.size - i = k → (qpF s q f i).length ≤ k
  | 0, f, i, h => by
    rw [qpF_end (show s.size ≤ i by omega)]; exact Nat.zero_le _
  | k + 1, f, i, h => by
    by_cases hq : byt s i = q
    · cases f with
      | none => rw [qpF_open (show i < s.size by omega) hq]; have := qpF_len (s := s) (q := q) k (some i) (i + 1) (by omega); omega
      | some a => rw [qpF_shut (show i < s.size by omega) hq, List.length_cons]; have := qpF_len (s := s) (q := q) k none (i + 1) (by omega); omega
    · rw [qpF_no (show i < s.size by omega) hq]; have := qpF_len (s := s) (q := q) k f (i + 1) (by omega); omega
end Go.Proofs.Ytlbbgocggifjaaa
namespace Go.Proofs.Ytlbbgocggifjaaa

/-- The size of line l, as a number. -/
def szI (L : List ByteArray) (l : Int) : Int := ((L.getD l.toNat .empty).size : Int)
/-- .. the place of its first byte that is no blank. -/
def fsI (L : List ByteArray) (l : Int) : Int := (firstL (L.getD l.toNat .empty).data.toList : Int)
abbrev Rng := Int × Int × Int × Int × Int
/-- A range of bytes, if it is not empty. -/
def someR (fl fc tl tc : Int) : Rng × Bool := if fl = tl ∧ fc = tc then ((0, 0, 0, 0, 0), false) else ((0, fl, fc, tl, tc), true)
/-- What a motion takes in, its ends in order. -/
def areaO (L : List ByteArray) (fl fc tl tc way : Int) : Rng × Bool :=
  if way = 2 then ((1, fl, 0, tl, 0), true)
  else if way = 1 then someR fl fc tl (min (tc + 1) (szI L tl))
  else if way = 0 then
    (if fl < tl ∧ tc = 0 then (if fc ≤ fsI L fl then ((1, fl, 0, tl - 1, 0), true) else someR fl fc (tl - 1) (szI L (tl - 1))) else someR fl fc tl tc)
  else ((0, 0, 0, 0, 0), false)
def areaP (L : List ByteArray) (pl pc ml mc way : Int) : Rng × Bool :=
  if plcB L pl pc = true ∧ plcB L ml mc = true then areaO L (ordB pl pc ml mc).1 (ordB pl pc ml mc).2.1 (ordB pl pc ml mc).2.2.1 (ordB pl pc ml mc).2.2.2 way else ((0, 0, 0, 0, 0), false)
theorem areaP_no {L : List ByteArray} {pl pc ml mc way : Int} (h : plcB L pl pc = false ∨ plcB L ml mc = false) : areaP L pl pc ml mc way = ((0, 0, 0, 0, 0), false) := by
  unfold areaP
  rw [if_neg]
  rintro ⟨h1, h2⟩
  rcases h with h | h <;> simp_all
theorem areaP_yes {L : List ByteArray} {pl pc ml mc way fl fc tl tc : Int} (h1 : plcB L pl pc = true) (h2 : plcB L ml mc = true) (ho : ordB pl pc ml mc = (fl, fc, tl, tc)) : areaP L pl pc ml mc way = areaO L fl fc tl tc way := by
  unfold areaP
  rw [if_pos ⟨h1, h2⟩, ho]
theorem ordB_sym (a b c d : Int) : ordB a b c d = ordB c d a b := by
  unfold ordB lessB
  by_cases h1 : c < a ∨ c = a ∧ d < b
  · rw [if_pos (by simpa using h1), if_neg (by simp; omega)]
  · by_cases h2 : a < c ∨ a = c ∧ b < d
    · rw [if_neg (by simpa using h1), if_pos (by simpa using h2)]
    · rw [if_neg (by simpa using h1), if_neg (by simpa using h2)]
      have e1 : a = c := by omega
      have e2 : b = d := by omega
      rw [e1, e2]
theorem areaP_sym (L : List ByteArray) (pl pc ml mc way : Int) : areaP L pl pc ml mc way = areaP L ml mc pl pc way := by
  unfold areaP
  rw [ordB_sym pl pc ml mc]
  by_cases h1 : plcB L pl pc = true <;> by_cases h2 : plcB L ml mc = true <;> simp [h1, h2]
theorem ordB_facts {L : List ByteArray} {pl pc ml mc : Int} (h1 : plcB L pl pc = true) (h2 : plcB L ml mc = true) : ∃ fl fc tl tc, ordB pl pc ml mc = (fl, fc, tl, tc) ∧
    plcB L fl fc = true ∧ plcB L tl tc = true ∧ lessB tl tc fl fc = false := by
  unfold ordB
  by_cases h : lessB ml mc pl pc = true
  · refine ⟨ml, mc, pl, pc, by rw [if_pos h], h2, h1, ?_⟩
    simp only [lessB, decide_eq_true_eq, decide_eq_false_iff_not] at *
    omega
  · exact ⟨pl, pc, ml, mc, by rw [if_neg h], h1, h2, by simpa using h⟩
theorem firstL_le (l : List UInt8) : firstL l ≤ l.length := by
  unfold firstL; split <;> omega
theorem plcB_mk {L : List ByteArray} {l c : Int} (h1 : 0 ≤ l) (h2 : l < L.length) (h3 : 0 ≤ c) (h4 : c ≤ szI L l) : plcB L l c = true := by
  simp only [plcB, decide_eq_true_eq]; exact ⟨h1, h2, h3, h4⟩
theorem someR_valid {L : List ByteArray} {fl fc tl tc : Int} (h1 : plcB L fl fc = true) (h2 : plcB L tl tc = true) (h3 : lessB tl tc fl fc = false) (h : (someR fl fc tl tc).2 = true) :
    validB L (someR fl fc tl tc).1.1 (someR fl fc tl tc).1.2.1 (someR fl fc tl tc).1.2.2.1 (someR fl fc tl tc).1.2.2.2.1 (someR fl fc tl tc).1.2.2.2.2 = true := by
  unfold someR at *
  by_cases he : fl = tl ∧ fc = tc
  · rw [if_pos he] at h; simp at h
  · rw [if_neg he]
    have q1 := plcB_spec h1
    have q2 := plcB_spec h2
    simp only [lessB, decide_eq_false_iff_not] at h3
    simp only
    rw [validB_char (by omega) (by omega) (by omega), h1, h2]
    simp [lessB]
    omega
/-- What a motion takes in is a range that may be. -/
theorem areaP_valid {L : List ByteArray} {pl pc ml mc way : Int} (h : (areaP L pl pc ml mc way).2 = true) :
    validB L (areaP L pl pc ml mc way).1.1 (areaP L pl pc ml mc way).1.2.1 (areaP L pl pc ml mc way).1.2.2.1 (areaP L pl pc ml mc way).1.2.2.2.1 (areaP L pl pc ml mc way).1.2.2.2.2 = true := by
  cases h1 : plcB L pl pc with
  | false => rw [areaP_no (.inl h1)] at h; simp at h
  | true =>
    cases h2 : plcB L ml mc with
    | false => rw [areaP_no (.inr h2)] at h; simp at h
    | true =>
      obtain ⟨fl, fc, tl, tc, ho, p1, p2, p3⟩ := ordB_facts h1 h2
      rw [areaP_yes h1 h2 ho] at h ⊢
      have q1 := plcB_spec p1
      have q2 := plcB_spec p2
      have q3 := p3
      simp only [lessB, decide_eq_false_iff_not] at q3
      unfold areaO at h ⊢
      by_cases w2 : way = 2
      · rw [if_pos w2]
        show validB L 1 fl 0 tl 0 = true
        exact validB_line (by omega) (by omega) (by omega)
      · rw [if_neg w2] at h ⊢
        by_cases w1 : way = 1
        · rw [if_pos w1] at h ⊢
          refine someR_valid p1 (plcB_mk (by omega) (by omega) ?_ (by omega)) ?_ h
          · show 0 ≤ min (tc + 1) (szI L tl)
            have : 0 ≤ szI L tl := by unfold szI; omega
            omega
          · simp only [lessB, decide_eq_false_iff_not]
            have e : tl = fl → szI L tl = ((L.getD fl.toNat .empty).size : Int) := fun e => by rw [e]; rfl
            have : tc ≤ szI L tl := q2.2.2.2
            omega
        · rw [if_neg w1] at h ⊢
          by_cases w0 : way = 0
          · rw [if_pos w0] at h ⊢
            by_cases hb : fl < tl ∧ tc = 0
            · rw [if_pos hb] at h ⊢
              by_cases hf : fc ≤ fsI L fl
              · rw [if_pos hf]
                show validB L 1 fl 0 (tl - 1) 0 = true
                exact validB_line (by omega) (by omega) (by omega)
              · rw [if_neg hf] at h ⊢
                refine someR_valid p1 (plcB_mk (by omega) (by omega) (by unfold szI; omega) (Int.le_refl _)) ?_ h
                simp only [lessB, decide_eq_false_iff_not]
                have e : tl - 1 = fl → szI L (tl - 1) = ((L.getD fl.toNat .empty).size : Int) := fun e => by rw [e]; rfl
                omega
            · rw [if_neg hb] at h ⊢
              exact someR_valid p1 p2 p3 h
          · rw [if_neg w0] at h; simp at h
end Go.Proofs.Ytlbbgocggifjaaa
namespace Go.Proofs.Ytlbbgocggifjaaa
open Go.RowKit

abbrev rngV (r : Rng × Bool) : Value := .tuple #[.agg #[.int .i64 r.1.1, .int .i64 r.1.2.1, .int .i64 r.1.2.2.1, .int .i64 r.1.2.2.2.1, .int .i64 r.1.2.2.2.2], .bool r.2]
attribute [go_sem] rngV
def noR : Rng × Bool := ((0, 0, 0, 0, 0), false)
/-- Is (l, c) a byte's place, or an empty line's beginning? -/
def byteB (L : List ByteArray) (l c : Int) : Bool := plcB L l c && (decide (c < ((ln L l).size : Int)) || decide ((ln L l).size = 0))
theorem byteB_no {L : List ByteArray} {l c : Int} (h : plcB L l c = false) : byteB L l c = false := by rw [byteB, h]; rfl
theorem byteB_yes {L : List ByteArray} {l c : Nat} {s : ByteArray} (h : plcB L l c = true) (hs : L.getD l .empty = s) : byteB L l c = (decide ((c : Int) < (s.size : Int)) || decide (s.size = 0)) := by
  rw [byteB, h, ln, Int.toNat_natCast, hs]; rfl
theorem rng_ways (r : Rng × Bool) : ∃ k a b c d ok, r = ((k, a, b, c, d), ok) := by
  obtain ⟨⟨k, a, b, c, d⟩, ok⟩ := r
  exact ⟨k, a, b, c, d, ok, rfl⟩
end Go.Proofs.Ytlbbgocggifjaaa
