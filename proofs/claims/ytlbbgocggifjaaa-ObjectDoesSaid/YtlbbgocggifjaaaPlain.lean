/- The plain words: classes of bytes, the first byte that is no blank. Plain Lean, no program in sight. Conditions: none. -/
import Derived.WalkKit
namespace Go.Proofs.Ytlbbgocggifjaaa

/-- A byte's class, of a number. -/
def ofC (c : Int) (big : Bool) : Int :=
  if c = 32 ∨ c = 9 then 0 else if big = true then 1
  else if (97 ≤ c ∧ c ≤ 122) ∨ (65 ≤ c ∧ c ≤ 90) ∨ (48 ≤ c ∧ c ≤ 57) ∨ c = 95 ∨ 128 ≤ c then 1 else 2
/-- A byte of a line, as a number. -/
def byt (s : ByteArray) (k : Nat) : Int := ((s.data.toList.getD k 0).toNat : Int)
def blankB (b : UInt8) : Bool := b == 32 || b == 9
theorem ofC_blank (b : UInt8) : (ofC (b.toNat : Int) true = 0) ↔ blankB b = true := by
  have h : b.toNat < 256 := b.toNat_lt
  simp only [ofC, blankB, Bool.or_eq_true, beq_iff_eq]
  constructor
  · intro h0
    split at h0
    · rename_i h1
      rcases h1 with h1 | h1
      · left; apply UInt8.toNat_inj.1; simpa using (by omega : b.toNat = 32)
      · right; apply UInt8.toNat_inj.1; simpa using (by omega : b.toNat = 9)
    · simp at h0
  · rintro (rfl | rfl) <;> simp
/-- Where a line's first byte that is no blank stands; the last byte, if there is none. -/
def firstL (l : List UInt8) : Nat := if (l.takeWhile blankB).length < l.length then (l.takeWhile blankB).length else l.length - 1
theorem takeWhile_at {p : UInt8 → Bool} : ∀ {l : List UInt8} {k : Nat} {x : UInt8}, (∀ (j : Nat) (y : UInt8), j < k → l[j]? = some y → p y = true) → l[k]? = some x → p x = false → (l.takeWhile p).length = k
  | [], k, x, _, h, _ => by simp at h
  | y :: l, 0, x, _, h, hp => by
    simp at h; subst h
    simp [hp]
  | y :: l, k + 1, x, ha, h, hp => by
    have h0 : p y = true := ha 0 y (by omega) (by simp)
    rw [List.takeWhile_cons, if_pos h0, List.length_cons]
    rw [takeWhile_at (l := l) (k := k) (x := x) (fun j z hj hz => ha (j + 1) z (by omega) (by simpa using hz)) (by simpa using h) hp]
theorem takeWhile_all {p : UInt8 → Bool} {l : List UInt8} (h : ∀ (j : Nat) (y : UInt8), l[j]? = some y → p y = true) : l.takeWhile p = l := by
  induction l with
  | nil => rfl
  | cons y l ih =>
    have h0 : p y = true := h 0 y (by simp)
    simp only [List.takeWhile_cons, h0, if_true]
    rw [ih (fun j z hz => h (j + 1) z (by simpa using hz))]
theorem firstL_at {l : List UInt8} {k : Nat} {x : UInt8} (h : ∀ (j : Nat) (y : UInt8), j < k → l[j]? = some y → blankB y = true) (hx : l[k]? = some x) (hb : blankB x = false) : firstL l = k := by
  have e := takeWhile_at h hx hb
  have hk := (List.getElem?_eq_some_iff.1 hx).1
  unfold firstL; rw [e, if_pos hk]
theorem firstL_none {l : List UInt8} (h : ∀ (j : Nat) (y : UInt8), l[j]? = some y → blankB y = true) : firstL l = l.length - 1 := by
  unfold firstL; rw [takeWhile_all h, if_neg (by omega)]
theorem neq_blank {b : UInt8} (h : (ofC (b.toNat : Int) true != 0) = true) : blankB b = false := by
  cases hb : blankB b with
  | false => rfl
  | true => have := (ofC_blank b).2 hb; simp [this] at h
theorem eq_blank {b : UInt8} (h : (ofC (b.toNat : Int) true != 0) = false) : blankB b = true := by
  rw [← ofC_blank]; simpa using h
theorem list_at (s : ByteArray) (k : Nat) (h : k < s.size) : s.data.toList[k]? = some s[k] := by
  have : k < s.data.toList.length := by simpa using h
  rw [List.getElem?_eq_getElem this]; rfl
theorem list_len (s : ByteArray) : s.data.toList.length = s.size := by simp
theorem snoc_blank {s : ByteArray} {k : Nat} (h : ∀ (j : Nat) (y : UInt8), j < k → s.data.toList[j]? = some y → blankB y = true) (hk : k < s.size) (hb : blankB s[k] = true) :
    ∀ (j : Nat) (y : UInt8), j < k + 1 → s.data.toList[j]? = some y → blankB y = true := by
  intro j y hj hy
  by_cases hjk : j = k
  · subst hjk; rw [list_at s j hk] at hy; cases hy; exact hb
  · exact h j y (by omega) hy
theorem all_blank {s : ByteArray} {k : Nat} (h : ∀ (j : Nat) (y : UInt8), j < k → s.data.toList[j]? = some y → blankB y = true) (hk : s.size ≤ k) :
    ∀ (j : Nat) (y : UInt8), s.data.toList[j]? = some y → blankB y = true := by
  intro j y hy
  refine h j y ?_ hy
  have := (List.getElem?_eq_some_iff.1 hy).1
  rw [list_len] at this; omega

/-- A text's bytes. -/
def total (L : List ByteArray) : Nat := (L.map ByteArray.size).sum
def noLF (L : List ByteArray) : Prop := ∀ s ∈ L, (10 : UInt8) ∉ s.data.toList
instance (L : List ByteArray) : Decidable (noLF L) := by unfold noLF; infer_instance
/-- A text that may be asked. -/
def lightB (L : List ByteArray) : Bool := decide (L.length ≤ 40 ∧ total L ≤ 1200 ∧ noLF L)
theorem light_spec {L : List ByteArray} (h : lightB L = true) : L.length ≤ 40 ∧ total L ≤ 1200 ∧ noLF L := by simpa [lightB] using h
theorem light_no {L : List ByteArray} (h : ¬ (L.length ≤ 40 ∧ total L ≤ 1200 ∧ noLF L)) : lightB L = false := by simpa [lightB] using h
theorem light_yes {L : List ByteArray} (h : L.length ≤ 40 ∧ total L ≤ 1200 ∧ noLF L) : lightB L = true := by simpa [lightB] using h
theorem take_snoc_getD {α : Type} (L : List α) (d : α) (k : Nat) (h : k < L.length) : L.take (k + 1) = L.take k ++ [L.getD k d] := by
  rw [List.take_succ_eq_append_getElem h, List.getD_eq_getElem?_getD, List.getElem?_eq_getElem h]; rfl
theorem total_snoc (L : List ByteArray) (k : Nat) (h : k < L.length) : total (L.take (k + 1)) = total (L.take k) + (L.getD k .empty).size := by
  rw [take_snoc_getD L .empty k h]; simp [total]
theorem total_take_le (L : List ByteArray) (k : Nat) : total (L.take k) ≤ total L := by
  have h : total (L.take k ++ L.drop k) = total (L.take k) + total (L.drop k) := by simp only [total, List.map_append, List.sum_append_nat]
  rw [List.take_append_drop] at h
  omega
theorem size_le_total (L : List ByteArray) (k : Nat) (h : k < L.length) : (L.getD k .empty).size ≤ total L := by
  have := total_snoc L k h; have := total_take_le L (k + 1); omega
theorem noLF_snoc {L : List ByteArray} {k : Nat} (h : k < L.length) (h1 : noLF (L.take k)) (h2 : (10 : UInt8) ∉ (L.getD k .empty).data.toList) : noLF (L.take (k + 1)) := by
  rw [take_snoc_getD L .empty k h]
  intro s hs
  rcases List.mem_append.1 hs with hs | hs
  · exact h1 s hs
  · simp at hs; subst hs; simpa using h2
theorem getD_mem {α : Type} (L : List α) (d : α) (k : Nat) (h : k < L.length) : L.getD k d ∈ L := by
  rw [List.getD_eq_getElem?_getD, List.getElem?_eq_getElem h]; exact List.getElem_mem h
theorem noLF_not {L : List ByteArray} {k : Nat} {j : Nat} (h : k < L.length) (h1 : (L.getD k .empty).data.toList[j]? = some 10) : ¬ noLF L := by
  intro hn
  exact hn _ (getD_mem L .empty k h) (List.mem_of_getElem? h1)
/-- None of the first j bytes is a line feed. -/
def cleanTo (s : ByteArray) (j : Nat) : Prop := (10 : UInt8) ∉ s.data.toList.take j
theorem cleanTo_zero (s : ByteArray) : cleanTo s 0 := by simp [cleanTo]
theorem cleanTo_snoc {s : ByteArray} {j : Nat} (h : j < s.size) (h1 : cleanTo s j) (h2 : ((s[j].toNat : Int) == 10) = false) : cleanTo s (j + 1) := by
  have hl : j < s.data.toList.length := by rw [list_len]; exact h
  unfold cleanTo at *
  rw [List.take_succ_eq_append_getElem hl]
  simp only [List.mem_append, List.mem_singleton, not_or]
  refine ⟨h1, fun e => ?_⟩
  have e2 : s[j] = 10 := by rw [e]; rfl
  rw [e2] at h2; simp at h2
theorem cleanTo_all {s : ByteArray} {j : Nat} (h : s.size ≤ j) (h1 : cleanTo s j) : (10 : UInt8) ∉ s.data.toList := by
  unfold cleanTo at h1; rwa [List.take_of_length_le (by rw [list_len]; exact h)] at h1
theorem lf_at {s : ByteArray} {j : Nat} (h : j < s.size) (h2 : ((s[j].toNat : Int) == 10) = true) : s.data.toList[j]? = some 10 := by
  rw [list_at s j h]
  congr 1
  apply UInt8.toNat_inj.1
  simp at h2
  show _ = 10
  omega

/-- A text that may be asked, one line at least. -/
def textB (L : List ByteArray) : Bool := decide (0 < L.length) && lightB L
theorem text_no {L : List ByteArray} (h : ¬ 0 < L.length) : textB L = false := by simp [textB, h]
theorem text_eq {L : List ByteArray} (h : 0 < L.length) : textB L = lightB L := by simp [textB, h]
theorem text_spec {L : List ByteArray} (h : textB L = true) : 0 < L.length ∧ L.length ≤ 40 ∧ total L ≤ 1200 ∧ noLF L := by
  simp only [textB, Bool.and_eq_true, decide_eq_true_eq] at h
  exact ⟨h.1, light_spec h.2⟩
/-- Line l. -/
def ln (L : List ByteArray) (l : Int) : ByteArray := L.getD l.toNat .empty
/-- Is (l, c) a place of the text? -/
def plcB (L : List ByteArray) (l c : Int) : Bool := decide (0 ≤ l ∧ l < L.length ∧ 0 ≤ c ∧ c ≤ (L.getD l.toNat .empty).size)
theorem plcB_in {L : List ByteArray} {l c : Int} (h1 : 0 ≤ l) (h2 : l < L.length) (h3 : 0 ≤ c) : plcB L l c = decide (c ≤ ((L.getD l.toNat .empty).size : Int)) := by
  simp [plcB, h1, h2, h3]
theorem plcB_out {L : List ByteArray} {l c : Int} (h : ¬ (0 ≤ l ∧ l < L.length ∧ 0 ≤ c ∧ c ≤ (L.getD l.toNat .empty).size)) : plcB L l c = false := by
  simpa [plcB] using h
theorem plcB_spec {L : List ByteArray} {l c : Int} (h : plcB L l c = true) : 0 ≤ l ∧ l < L.length ∧ 0 ≤ c ∧ c ≤ (L.getD l.toNat .empty).size := by
  simpa [plcB] using h
/-- The place that two numbers lead to. -/
def seatL (L : List ByteArray) (x : Int) : Int := x % (L.length : Int)
def seatC (L : List ByteArray) (x y : Int) : Int := y % ((L.getD (seatL L x).toNat .empty).size + 1 : Int)
theorem seatL_eq (L : List ByteArray) (x : Int) : seatL L x = x % (L.length : Int) := rfl
theorem seatC_eq (L : List ByteArray) (x y : Int) : seatC L x y = y % ((L.getD (seatL L x).toNat .empty).size + 1 : Int) := rfl
theorem seatL_in {L : List ByteArray} {x : Int} (h : 0 < L.length) (_hx : 0 ≤ x) : 0 ≤ seatL L x ∧ seatL L x < L.length := by
  unfold seatL
  exact ⟨Int.emod_nonneg _ (by omega), Int.emod_lt_of_pos _ (by omega)⟩
theorem seat_plc {L : List ByteArray} {x y : Int} (h : 0 < L.length) (hx : 0 ≤ x) : plcB L (seatL L x) (seatC L x y) = true := by
  have := seatL_in (L := L) h hx
  have h1 : 0 ≤ seatC L x y := Int.emod_nonneg _ (by omega)
  have h2 : seatC L x y < ((L.getD (seatL L x).toNat .empty).size + 1 : Int) := Int.emod_lt_of_pos _ (by omega)
  simp only [plcB, decide_eq_true_eq]
  exact ⟨this.1, this.2, h1, by omega⟩

theorem seat_facts {L : List ByteArray} {x y : Int} (h : 0 < L.length) (hx : 0 ≤ x) : ∃ l c, seatL L x = l ∧ seatC L x y = c ∧ plcB L l c = true := ⟨_, _, rfl, rfl, seat_plc h hx⟩

/-- Are two texts one? -/
def sameB (L M : List ByteArray) : Bool := decide (L = M)
theorem sameB_no {L M : List ByteArray} (h : L ≠ M) : sameB L M = false := by simp [sameB, h]
theorem sameB_nil {L M : List ByteArray} (h : L = []) (hn : L.length = M.length) : sameB L M = true := by
  subst h
  have : M = [] := List.eq_nil_of_length_eq_zero (by simpa using hn.symm)
  simp [sameB, this]
theorem list_ext_getD {α : Type} {L M : List α} {d : α} (hn : L.length = M.length) (h : ∀ j, j < L.length → L.getD j d = M.getD j d) : L = M := by
  apply List.ext_getElem hn
  intro j h1 h2
  have := h j h1
  simpa [List.getD_eq_getElem?_getD, List.getElem?_eq_getElem h1, List.getElem?_eq_getElem h2] using this
theorem sameB_yes {L M : List ByteArray} (hn : L.length = M.length) (h : ∀ j, j < L.length → L.getD j .empty = M.getD j .empty) : sameB L M = true := by
  simp [sameB, list_ext_getD hn h]
theorem sameB_at {L M : List ByteArray} {j : Nat} (h : L.getD j .empty ≠ M.getD j .empty) : sameB L M = false := sameB_no (fun e => h (by rw [e]))

theorem toList_inj {s t : ByteArray} (h : s.toList = t.toList) : s = t := by
  have h' : s.data.toList = t.data.toList := by rw [Go.ByteArray.toList_eq, Go.ByteArray.toList_eq] at h; exact h
  cases s; cases t
  simp at h'
  simp [h']

/-- A column brought to a line of n bytes. -/
def clampC (n : Nat) (c : Int) (past : Bool) : Int := min (max c 0) (if past then (n : Int) else max ((n : Int) - 1) 0)
theorem clampC_true (n : Nat) (c : Int) : clampC n c true = min (max c 0) (n : Int) := rfl
theorem clampC_false (n : Nat) (c : Int) : clampC n c false = min (max c 0) (max ((n : Int) - 1) 0) := rfl
/-- A place brought to a text. -/
def clampP (L : List ByteArray) (l c : Int) (past : Bool) : Int × Int :=
  if L.length = 0 then (0, 0) else (min (max l 0) ((L.length : Int) - 1), clampC (L.getD (min (max l 0) ((L.length : Int) - 1)).toNat .empty).size c past)
theorem clampP_nil {L : List ByteArray} {l c : Int} {past : Bool} (h : L.length = 0) : clampP L l c past = (0, 0) := by simp [clampP, h]
theorem clampP_line {L : List ByteArray} {l : Int} (h : ¬ L.length = 0) : ∃ k : Nat, k < L.length ∧ min (max l 0) ((L.length : Int) - 1) = (k : Int) ∧
    ((l < 0 ∧ k = 0) ∨ (0 ≤ l ∧ k = l.toNat ∧ l ≤ (L.length : Int) - 1) ∨ ((L.length : Int) - 1 < l ∧ k = L.length - 1)) := by
  refine ⟨(min (max l 0) ((L.length : Int) - 1)).toNat, by omega, by omega, ?_⟩
  by_cases h1 : 0 ≤ l
  · by_cases h2 : (L.length : Int) - 1 < l
    · right; right; omega
    · right; left; omega
  · left; omega
theorem clampP_eq {L : List ByteArray} {l c : Int} {past : Bool} {k : Nat} (h : ¬ L.length = 0) (hk : min (max l 0) ((L.length : Int) - 1) = (k : Int)) :
    clampP L l c past = ((k : Int), clampC (L.getD k .empty).size c past) := by
  simp only [clampP, h, if_false, hk, Int.toNat_natCast]

theorem clampC_idem (n : Nat) (c : Int) (past : Bool) : clampC n (clampC n c past) past = clampC n c past := by
  cases past
  · rw [clampC_false, clampC_false]; omega
  · rw [clampC_true, clampC_true]; omega
theorem clampP_idem (L : List ByteArray) (l c : Int) (past : Bool) : clampP L (clampP L l c past).1 (clampP L l c past).2 past = clampP L l c past := by
  by_cases h : L.length = 0
  · simp [clampP, h]
  · obtain ⟨k, hk, hkl, _⟩ := clampP_line (L := L) (l := l) h
    rw [clampP_eq h hkl]
    have hk2 : min (max (k : Int) 0) ((L.length : Int) - 1) = (k : Int) := by omega
    rw [clampP_eq h hk2, clampC_idem]

/-- Is (a, b) ahead of (c, d)? -/
def lessB (a b c d : Int) : Bool := decide (a < c ∨ a = c ∧ b < d)
/-- Two places in order. -/
def ordB (a b c d : Int) : Int × Int × Int × Int := if lessB c d a b then (c, d, a, b) else (a, b, c, d)
theorem ordB_yes {a b c d : Int} (h : lessB c d a b = true) : ordB a b c d = (c, d, a, b) := by simp [ordB, h]
theorem ordB_no {a b c d : Int} (h : lessB c d a b = false) : ordB a b c d = (a, b, c, d) := by simp [ordB, h]
theorem lessB_eq (a b c d : Int) : lessB a b c d = decide (a < c ∨ a = c ∧ b < d) := rfl
end Go.Proofs.Ytlbbgocggifjaaa
