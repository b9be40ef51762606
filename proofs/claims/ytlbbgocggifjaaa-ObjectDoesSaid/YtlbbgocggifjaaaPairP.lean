/- The plain words of brackets: a text's bytes in one row, the place of each, the bracket that belongs to one. Plain Lean, no program in sight. Conditions: none. -/
import Derived.Test.YtlbbgocggifjaaaPlain
namespace Go.Proofs.Ytlbbgocggifjaaa

/-- A text's bytes, one behind another. -/
def flat : List ByteArray → List UInt8
  | [] => []
  | s :: L => s.data.toList ++ flat L
/-- How many bytes there are ahead of a place. -/
def idx (L : List ByteArray) (l c : Nat) : Nat := total (L.take l) + c
/-- The place of the i-th byte. -/
def plcOf : List ByteArray → Nat → Nat × Nat
  | [], _ => (0, 0)
  | s :: L, i => if i < s.size then (0, i) else ((plcOf L (i - s.size)).1 + 1, (plcOf L (i - s.size)).2)
theorem total_cons (s : ByteArray) (L : List ByteArray) : total (s :: L) = s.size + total L := by simp [total]
theorem flat_length : ∀ L : List ByteArray, (flat L).length = total L
  | [] => rfl
  | s :: L => by rw [flat, List.length_append, flat_length L, total_cons, list_len]
theorem idx_zero (L : List ByteArray) (c : Nat) : idx L 0 c = c := by simp [idx, total]
theorem idx_cons (s : ByteArray) (L : List ByteArray) (l c : Nat) : idx (s :: L) (l + 1) c = s.size + idx L l c := by
  unfold idx; rw [List.take_succ_cons, total_cons]; omega
theorem idx_succ {L : List ByteArray} {l : Nat} (h : l < L.length) : idx L (l + 1) 0 = idx L l (L.getD l .empty).size := by
  unfold idx; rw [total_snoc L l h]; omega
theorem flat_at : ∀ {L : List ByteArray} {l c : Nat}, l < L.length → c < (L.getD l .empty).size → (flat L).getD (idx L l c) 0 = (L.getD l .empty).data.toList.getD c 0
  | [], l, c, h, _ => by simp at h
  | s :: L, 0, c, _, h => by
    have h' : c < s.data.toList.length := by rw [list_len]; simpa using h
    rw [idx_zero, flat]
    simp only [List.getD_eq_getElem?_getD]
    rw [List.getElem?_append_left h']
    rfl
  | s :: L, l + 1, c, h, h2 => by
    have ih := flat_at (L := L) (l := l) (c := c) (by simpa using h) (by simpa using h2)
    rw [idx_cons, flat, List.getD_cons_succ, ← ih]
    simp only [List.getD_eq_getElem?_getD]
    rw [List.getElem?_append_right (by rw [list_len]; omega), list_len, Nat.add_sub_cancel_left]
theorem idx_lt {L : List ByteArray} {l c : Nat} (h : l < L.length) (h2 : c < (L.getD l .empty).size) : idx L l c < total L := by
  have := total_snoc L l h
  have := total_take_le L (l + 1)
  unfold idx; omega
theorem idx_le {L : List ByteArray} {l c : Nat} (h : l < L.length) (h2 : c ≤ (L.getD l .empty).size) : idx L l c ≤ total L := by
  have := total_snoc L l h
  have := total_take_le L (l + 1)
  unfold idx; omega
theorem idx_len (L : List ByteArray) : idx L L.length 0 = total L := by simp [idx]
theorem plcOf_idx : ∀ {L : List ByteArray} {l c : Nat}, l < L.length → c < (L.getD l .empty).size → plcOf L (idx L l c) = (l, c)
  | [], l, c, h, _ => by simp at h
  | s :: L, 0, c, _, h => by
    have h' : c < s.size := by simpa using h
    rw [idx_zero, plcOf, if_pos h']
  | s :: L, l + 1, c, h, h2 => by
    have ih := plcOf_idx (L := L) (l := l) (c := c) (by simpa using h) (by simpa using h2)
    rw [idx_cons, plcOf, if_neg (by omega), Nat.add_sub_cancel_left, ih]
theorem plcOf_spec : ∀ {L : List ByteArray} {i : Nat}, i < total L → (plcOf L i).1 < L.length ∧ (plcOf L i).2 < (L.getD (plcOf L i).1 .empty).size ∧ idx L (plcOf L i).1 (plcOf L i).2 = i
  | [], i, h => by simp [total] at h
  | s :: L, i, h => by
    rw [total_cons] at h
    rw [plcOf]
    by_cases hi : i < s.size
    · rw [if_pos hi]
      refine ⟨by simp, by simpa using hi, idx_zero _ _⟩
    · rw [if_neg hi]
      obtain ⟨h1, h2, h3⟩ := plcOf_spec (L := L) (i := i - s.size) (by omega)
      refine ⟨by simpa using h1, by simpa using h2, ?_⟩
      simp only
      rw [idx_cons, h3]; omega
/-- Places are in order as their numbers are. -/
theorem idx_less {L : List ByteArray} {l c m d : Nat} (hl : l < L.length) (hc : c < (L.getD l .empty).size) (hm : m < L.length) (hd : d ≤ (L.getD m .empty).size) : lessB l c m d = decide (idx L l c < idx L m d) := by
  have mono : ∀ a b : Nat, a ≤ b → total (L.take a) ≤ total (L.take b) := by
    intro a b h
    have := total_take_le (L.take b) a
    rwa [List.take_take, Nat.min_eq_left h] at this
  rw [lessB_eq]
  congr 1
  apply propext
  have sl := total_snoc L l hl
  have sm := total_snoc L m hm
  unfold idx
  rcases Nat.lt_trichotomy l m with h | h | h
  · have := mono (l + 1) m (by omega)
    constructor
    · intro _; omega
    · intro _; left; omega
  · subst h
    constructor
    · rintro (h | ⟨_, h⟩)
      · omega
      · omega
    · intro h; right; exact ⟨rfl, by omega⟩
  · have := mono (m + 1) l (by omega)
    constructor
    · rintro (h2 | ⟨h2, _⟩)
      · omega
      · omega
    · intro h2; omega

/-- A bracket's opening and closing one, whether it opens, whether it is one. -/
def kindP (c : Int) : Int × Int × Bool × Bool :=
  if c = 40 ∨ c = 41 then (40, 41, decide (c = 40), true) else if c = 91 ∨ c = 93 then (91, 93, decide (c = 91), true) else if c = 123 ∨ c = 125 then (123, 125, decide (c = 123), true) else (0, 0, false, false)
/-- The byte of a number. -/
def btI (B : List UInt8) (i : Nat) : Int := ((B.getD i 0).toNat : Int)
/-- How deep one is behind a byte, forwards. -/
def deepF (o s c d : Int) : Int := if c = o then d + 1 else if c = s then d - 1 else d
def deepB (o s c d : Int) : Int := if c = s then d + 1 else if c = o then d - 1 else d
/-- The place at which depth is 0, from i on. -/
def scanF (B : List UInt8) (o s d : Int) (i : Nat) : Option Nat :=
  if i < B.length then (if deepF o s (btI B i) d = 0 then some i else scanF B o s (deepF o s (btI B i) d) (i + 1)) else none
termination_by B.length - i
/-- .. ahead of i. -/
def scanB (B : List UInt8) (o s : Int) : Int → Nat → Option Nat
  | _, 0 => none
  | d, i + 1 => if deepB o s (btI B i) d = 0 then some i else scanB B o s (deepB o s (btI B i) d) i
theorem scanF_end {B : List UInt8} {o s d : Int} {i : Nat} (h : B.length ≤ i) : scanF B o s d i = none := by
  have h' : ¬ i < B.length := by omega
  rw [scanF, if_neg h']
theorem scanF_hit {B : List UInt8} {o s d : Int} {i : Nat} (h : i < B.length) (hd : deepF o s (btI B i) d = 0) : scanF B o s d i = some i := by rw [scanF, if_pos h, if_pos hd]
theorem scanF_miss {B : List UInt8} {o s d : Int} {i : Nat} (h : i < B.length) (hd : deepF o s (btI B i) d ≠ 0) : scanF B o s d i = scanF B o s (deepF o s (btI B i) d) (i + 1) := by rw [scanF, if_pos h, if_neg hd]
theorem scanB_end {B : List UInt8} {o s d : Int} : scanB B o s d 0 = none := by rw [scanB]
theorem scanB_hit {B : List UInt8} {o s d : Int} {i : Nat} (hd : deepB o s (btI B i) d = 0) : scanB B o s d (i + 1) = some i := by rw [scanB, if_pos hd]
theorem scanB_miss {B : List UInt8} {o s d : Int} {i : Nat} (hd : deepB o s (btI B i) d ≠ 0) : scanB B o s d (i + 1) = scanB B o s (deepB o s (btI B i) d) i := by rw [scanB, if_neg hd]
theorem scanF_spec {B : List UInt8} {o s : Int} : ∀ (k i : Nat) (d : Int), B.length - i = k → ∀ t, scanF B o s d i = some t → i ≤ t ∧ t < B.length
  | 0, i, d, h, t, ht => by rw [scanF_end (by omega)] at ht; cases ht
  | k + 1, i, d, h, t, ht => by
    by_cases hd : deepF o s (btI B i) d = 0
    · rw [scanF_hit (by omega) hd] at ht; cases ht; omega
    · rw [scanF_miss (by omega) hd] at ht
      have := scanF_spec k (i + 1) _ (by omega) t ht
      omega
theorem scanB_spec {B : List UInt8} {o s : Int} : ∀ (i : Nat) (d : Int) (t : Nat), scanB B o s d i = some t → t < i
  | 0, d, t, ht => by rw [scanB_end] at ht; cases ht
  | i + 1, d, t, ht => by
    by_cases hd : deepB o s (btI B i) d = 0
    · rw [scanB_hit hd] at ht; cases ht; omega
    · rw [scanB_miss hd] at ht
      have := scanB_spec i _ t ht
      omega
/-- The bracket that belongs to the one of number i. -/
def otherP (B : List UInt8) (i : Nat) : Option Nat :=
  if (kindP (btI B i)).2.2.1 = true then scanF B (kindP (btI B i)).1 (kindP (btI B i)).2.1 1 (i + 1) else scanB B (kindP (btI B i)).1 (kindP (btI B i)).2.1 1 i
/-- The pairs round q, from number j down. -/
def encF (B : List UInt8) (o s : Int) (q : Nat) : Int → Nat → Option (Nat × Nat)
  | _, 0 => none
  | n, j + 1 =>
    if btI B j = o then
      (match scanF B o s 1 (j + 1) with
       | none => encF B o s q n j
       | some t => if t < q then encF B o s q n j else if n = 1 then some (j, t) else encF B o s q (n - 1) j)
    else encF B o s q n j
theorem encF_end {B : List UInt8} {o s n : Int} {q : Nat} : encF B o s q n 0 = none := by rw [encF]
theorem encF_no {B : List UInt8} {o s n : Int} {q j : Nat} (h : btI B j ≠ o) : encF B o s q n (j + 1) = encF B o s q n j := by rw [encF, if_neg h]
theorem encF_none {B : List UInt8} {o s n : Int} {q j : Nat} (h : btI B j = o) (h2 : scanF B o s 1 (j + 1) = none) : encF B o s q n (j + 1) = encF B o s q n j := by rw [encF, if_pos h, h2]
theorem encF_short {B : List UInt8} {o s n : Int} {q j t : Nat} (h : btI B j = o) (h2 : scanF B o s 1 (j + 1) = some t) (h3 : t < q) : encF B o s q n (j + 1) = encF B o s q n j := by rw [encF, if_pos h, h2]; simp only; rw [if_pos h3]
theorem encF_hit {B : List UInt8} {o s n : Int} {q j t : Nat} (h : btI B j = o) (h2 : scanF B o s 1 (j + 1) = some t) (h3 : ¬ t < q) (h4 : n = 1) : encF B o s q n (j + 1) = some (j, t) := by rw [encF, if_pos h, h2]; simp only; rw [if_neg h3, if_pos h4]
theorem encF_more {B : List UInt8} {o s n : Int} {q j t : Nat} (h : btI B j = o) (h2 : scanF B o s 1 (j + 1) = some t) (h3 : ¬ t < q) (h4 : n ≠ 1) : encF B o s q n (j + 1) = encF B o s q (n - 1) j := by rw [encF, if_pos h, h2]; simp only; rw [if_neg h3, if_neg h4]

theorem deepF_deepB {o s c d : Int} (h : o ≠ s) : deepB o s c (deepF o s c d) = d := by
  unfold deepB deepF
  by_cases h1 : c = o
  · have h2 : ¬ c = s := fun e => h (h1.symm.trans e)
    rw [if_neg h2, if_pos h1, if_pos h1]; omega
  · by_cases h2 : c = s
    · rw [if_pos h2, if_neg h1, if_pos h2]; omega
    · rw [if_neg h2, if_neg h1, if_neg h1, if_neg h2]
theorem deepB_deepF {o s c d : Int} (h : o ≠ s) : deepF o s c (deepB o s c d) = d := by
  unfold deepB deepF
  by_cases h1 : c = o
  · have h2 : ¬ c = s := fun e => h (h1.symm.trans e)
    rw [if_pos h1, if_neg h2, if_pos h1]; omega
  · by_cases h2 : c = s
    · rw [if_neg h1, if_pos h2, if_pos h2]; omega
    · rw [if_neg h1, if_neg h2, if_neg h2, if_neg h1]
theorem deepF_ways {o s c d : Int} (h : 1 ≤ d) : (deepF o s c d = 0 ∧ d = 1 ∧ c = s) ∨ 1 ≤ deepF o s c d := by
  unfold deepF
  by_cases h1 : c = o
  · rw [if_pos h1]; right; omega
  · rw [if_neg h1]
    by_cases h2 : c = s
    · rw [if_pos h2]
      by_cases h3 : d = 1
      · left; exact ⟨by omega, h3, h2⟩
      · right; omega
    · rw [if_neg h2]; right; omega
theorem deepB_ways {o s c d : Int} (h : 1 ≤ d) : (deepB o s c d = 0 ∧ d = 1 ∧ c = o) ∨ 1 ≤ deepB o s c d := by
  unfold deepB
  by_cases h1 : c = s
  · rw [if_pos h1]; right; omega
  · rw [if_neg h1]
    by_cases h2 : c = o
    · rw [if_pos h2]
      by_cases h3 : d = 1
      · left; exact ⟨by omega, h3, h2⟩
      · right; omega
    · rw [if_neg h2]; right; omega
/-- Where a way forwards ended, the way back is the same; and there a closing one stands. -/
theorem back_of_scanF {B : List UInt8} {o s : Int} (hos : o ≠ s) : ∀ (k i : Nat) (d : Int) (t : Nat), B.length - i = k → 1 ≤ d → scanF B o s d i = some t → scanB B o s 1 t = scanB B o s d i ∧ btI B t = s
  | 0, i, d, t, h, _, ht => by rw [scanF_end (by omega)] at ht; cases ht
  | k + 1, i, d, t, h, hd, ht => by
    rcases deepF_ways (o := o) (s := s) (c := btI B i) hd with ⟨h0, h1, h2⟩ | h1
    · rw [scanF_hit (by omega) h0] at ht
      cases ht
      exact ⟨by rw [h1], h2⟩
    · rw [scanF_miss (by omega) (by omega)] at ht
      obtain ⟨e1, e2⟩ := back_of_scanF hos k (i + 1) _ t (by omega) h1 ht
      refine ⟨?_, e2⟩
      rw [e1, scanB_miss (by rw [deepF_deepB hos]; omega), deepF_deepB hos]
theorem fwd_of_scanB {B : List UInt8} {o s : Int} (hos : o ≠ s) : ∀ (i : Nat) (d : Int) (t : Nat), i ≤ B.length → 1 ≤ d → scanB B o s d i = some t → scanF B o s 1 (t + 1) = scanF B o s d i ∧ btI B t = o
  | 0, d, t, _, _, ht => by rw [scanB_end] at ht; cases ht
  | i + 1, d, t, h, hd, ht => by
    rcases deepB_ways (o := o) (s := s) (c := btI B i) hd with ⟨h0, h1, h2⟩ | h1
    · rw [scanB_hit h0] at ht
      cases ht
      exact ⟨by rw [h1], h2⟩
    · rw [scanB_miss (by omega)] at ht
      obtain ⟨e1, e2⟩ := fwd_of_scanB hos i _ t (by omega) h1 ht
      refine ⟨?_, e2⟩
      rw [e1, scanF_miss (by omega) (by rw [deepB_deepF hos]; omega), deepB_deepF hos]
theorem other_fwd {B : List UInt8} {o s : Int} (hos : o ≠ s) {i t : Nat} (hi : btI B i = o) (h : scanF B o s 1 (i + 1) = some t) : scanB B o s 1 t = some i ∧ btI B t = s := by
  obtain ⟨h1, h2⟩ := back_of_scanF hos _ (i + 1) 1 t rfl (by omega) h
  refine ⟨?_, h2⟩
  rw [h1, scanB_hit]
  unfold deepB
  rw [if_neg (by rw [hi]; exact hos), if_pos hi]; rfl
theorem other_bwd {B : List UInt8} {o s : Int} (hos : o ≠ s) {i t : Nat} (hl : i < B.length) (hi : btI B i = s) (h : scanB B o s 1 i = some t) : scanF B o s 1 (t + 1) = some i ∧ btI B t = o := by
  obtain ⟨h1, h2⟩ := fwd_of_scanB hos i 1 t (by omega) (by omega) h
  refine ⟨?_, h2⟩
  rw [h1, scanF_hit hl]
  unfold deepF
  rw [if_neg (by rw [hi]; exact fun e => hos e.symm), if_pos hi]; rfl
/-- What is passed in depth. -/
theorem scanF_deep {B : List UInt8} {o s : Int} : ∀ (k i : Nat) (e d : Int) (t : Nat), B.length - i = k → 1 ≤ e → 1 ≤ d → scanF B o s e i = some t → scanF B o s (e + d) i = scanF B o s d (t + 1)
  | 0, i, e, d, t, h, _, _, ht => by rw [scanF_end (by omega)] at ht; cases ht
  | k + 1, i, e, d, t, h, he, hd, ht => by
    have hadd : deepF o s (btI B i) (e + d) = deepF o s (btI B i) e + d := by unfold deepF; (repeat' split) <;> omega
    rcases deepF_ways (o := o) (s := s) (c := btI B i) he with ⟨h0, h1, h2⟩ | h1
    · rw [scanF_hit (by omega) h0] at ht
      cases ht
      rw [scanF_miss (by omega) (by rw [hadd, h0]; omega), hadd, h0, Int.zero_add]
    · rw [scanF_miss (by omega) (by omega)] at ht
      rw [scanF_miss (by omega) (by rw [hadd]; omega), hadd]
      exact scanF_deep k (i + 1) _ d t (by omega) h1 hd ht
end Go.Proofs.Ytlbbgocggifjaaa
