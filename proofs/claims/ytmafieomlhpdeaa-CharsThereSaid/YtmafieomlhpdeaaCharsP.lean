/- The plain words of motions within a line. Plain Lean, no program in sight. Conditions: none. -/
import Derived.Test.YtmafieomlhpdeaaVertP
namespace Go.Proofs.Ytmafieomlhpdeaa

theorem toList_nil {s : ByteArray} (h : s.size = 0) : s.toList = [] := by
  rw [Go.ByteArray.toList_eq]
  exact List.eq_nil_of_length_eq_zero (by rw [list_len]; exact h)
theorem toList_some {s : ByteArray} (h : 1 ≤ s.size) : s.toList.isEmpty = false := by
  rw [Go.ByteArray.toList_eq]
  cases hl : s.data.toList with
  | nil => have := list_len s; rw [hl] at this; simp at this; omega
  | cons x l => rfl
theorem byt_at (s : ByteArray) (k : Nat) (h : k < s.size) : byt s k = (s[k].toNat : Int) := by
  unfold byt
  rw [List.getD_eq_getElem?_getD, list_at s k h]; rfl
/-- The place of the n-th c at i or behind; -1: there are fewer. -/
def fwdN (s : ByteArray) (c n : Int) (i : Nat) : Int := if i < s.size then (if byt s i = c then (if n = 1 then (i : Int) else fwdN s c (n - 1) (i + 1)) else fwdN s c n (i + 1)) else -1
termination_by s.size - i
/-- The place of the n-th c ahead of i. -/
def bwdN (s : ByteArray) (c : Int) : Int → Nat → Int
  | _, 0 => -1
  | n, i + 1 => if byt s i = c then (if n = 1 then (i : Int) else bwdN s c (n - 1) i) else bwdN s c n i
theorem fwdN_end {s : ByteArray} {c n : Int} {i : Nat} (h : s.size ≤ i) : fwdN s c n i = -1 := by
  have h' : ¬ i < s.size := by omega
  rw [fwdN, if_neg h']
theorem fwdN_hit {s : ByteArray} {c n : Int} {i : Nat} (h : i < s.size) (hb : byt s i = c) (hn : n = 1) : fwdN s c n i = i := by rw [fwdN, if_pos h, if_pos hb, if_pos hn]
theorem fwdN_more {s : ByteArray} {c n : Int} {i : Nat} (h : i < s.size) (hb : byt s i = c) (hn : n ≠ 1) : fwdN s c n i = fwdN s c (n - 1) (i + 1) := by rw [fwdN, if_pos h, if_pos hb, if_neg hn]
theorem fwdN_miss {s : ByteArray} {c n : Int} {i : Nat} (h : i < s.size) (hb : byt s i ≠ c) : fwdN s c n i = fwdN s c n (i + 1) := by rw [fwdN, if_pos h, if_neg hb]
theorem bwdN_end {s : ByteArray} {c n : Int} : bwdN s c n 0 = -1 := by rw [bwdN]
theorem bwdN_hit {s : ByteArray} {c n : Int} {i : Nat} (hb : byt s i = c) (hn : n = 1) : bwdN s c n (i + 1) = i := by rw [bwdN, if_pos hb, if_pos hn]
theorem bwdN_more {s : ByteArray} {c n : Int} {i : Nat} (hb : byt s i = c) (hn : n ≠ 1) : bwdN s c n (i + 1) = bwdN s c (n - 1) i := by rw [bwdN, if_pos hb, if_neg hn]
theorem bwdN_miss {s : ByteArray} {c n : Int} {i : Nat} (hb : byt s i ≠ c) : bwdN s c n (i + 1) = bwdN s c n i := by rw [bwdN, if_neg hb]
/-- What a search within a line finds. -/
theorem fwdN_spec {s : ByteArray} {c : Int} : ∀ (k i : Nat) (n : Int), s.size - i = k → fwdN s c n i = -1 ∨ ((i : Int) ≤ fwdN s c n i ∧ fwdN s c n i < s.size)
  | 0, i, n, h => .inl (fwdN_end (s := s) (by omega))
  | k + 1, i, n, h => by
    have hi : i < s.size := by omega
    by_cases hb : byt s i = c
    · by_cases hn : n = 1
      · right; rw [fwdN_hit hi hb hn]; omega
      · rw [fwdN_more hi hb hn]
        rcases fwdN_spec (s := s) (c := c) k (i + 1) (n - 1) (by omega) with h1 | h1
        · exact .inl h1
        · right; omega
    · rw [fwdN_miss hi hb]
      rcases fwdN_spec (s := s) (c := c) k (i + 1) n (by omega) with h1 | h1
      · exact .inl h1
      · right; omega
theorem bwdN_spec {s : ByteArray} {c : Int} : ∀ (i : Nat) (n : Int), bwdN s c n i = -1 ∨ (0 ≤ bwdN s c n i ∧ bwdN s c n i < i)
  | 0, n => .inl bwdN_end
  | i + 1, n => by
    by_cases hb : byt s i = c
    · by_cases hn : n = 1
      · right; rw [bwdN_hit hb hn]; omega
      · rw [bwdN_more hb hn]
        rcases bwdN_spec i (n - 1) with h1 | h1
        · exact .inl h1
        · right; omega
    · rw [bwdN_miss hb]
      rcases bwdN_spec i n with h1 | h1
      · exact .inl h1
      · right; omega

def leftP (L : List ByteArray) (pl pc n : Int) : Mov × Bool := if plcB L pl pc = true ∧ 1 ≤ n ∧ pc ≠ 0 then ((pl, max (pc - n) 0, 0, false, -1), true) else noMov
def rightT (L : List ByteArray) (pl : Int) (past : Bool) : Int := szI L pl - (if past = true then 0 else 1)
def rightP (L : List ByteArray) (pl pc n : Int) (past : Bool) : Mov × Bool := if plcB L pl pc = true ∧ 1 ≤ n ∧ 0 < szI L pl ∧ pc < rightT L pl past then ((pl, min (pc + n) (rightT L pl past), 0, false, -1), true) else noMov
def zeroP (L : List ByteArray) (pl pc : Int) : Mov × Bool := if plcB L pl pc = true then ((pl, 0, 0, false, -1), true) else noMov
def firstP (L : List ByteArray) (pl pc : Int) : Mov × Bool := if plcB L pl pc = true then ((pl, fsI L pl, 0, false, -1), true) else noMov
def lastP (L : List ByteArray) (pl pc n : Int) : Mov × Bool := if plcB L pl pc = true ∧ 1 ≤ n ∧ n ≤ L.length - pl then ((pl + n - 1, max (szI L (pl + n - 1) - 1) 0, 1, false, 1073741824), true) else noMov
def columnP (L : List ByteArray) (pl pc n : Int) : Mov × Bool := if plcB L pl pc = true ∧ 1 ≤ n then ((pl, min (min n 1073741824 - 1) (max (szI L pl - 1) 0), 0, false, min n 1073741824 - 1), true) else noMov
/-- What a search makes of a place that it found. -/
def seekM (pl key at' : Int) : Mov × Bool :=
  if at' < 0 then noMov else if key = 102 then ((pl, at', 1, false, -1), true) else if key = 116 then ((pl, at' - 1, 1, false, -1), true) else if key = 70 then ((pl, at', 0, false, -1), true) else ((pl, at' + 1, 0, false, -1), true)
def seekA (s : ByteArray) (pc key c n : Int) : Int := if key = 102 ∨ key = 116 then fwdN s c n (pc.toNat + 1) else bwdN s c n pc.toNat
def seekP (L : List ByteArray) (pl pc key c n : Int) : Mov × Bool :=
  if plcB L pl pc = true ∧ 1 ≤ n ∧ (key = 102 ∨ key = 116 ∨ key = 70 ∨ key = 84) then seekM pl key (seekA (ln L pl) pc key c n) else noMov

/-- Lines from a place on. -/
def linesP (L : List ByteArray) (pl pc n : Int) : Rng × Bool := if plcB L pl pc = true ∧ 1 ≤ n ∧ n ≤ L.length - pl then ((1, pl, 0, pl + n - 1, 0), true) else ((0, 0, 0, 0, 0), false)
/-- What is selected. -/
def visualO (L : List ByteArray) (mode fl fc tl tc : Int) : Rng × Bool :=
  if mode = 3 then ((0, fl, fc, tl, min (tc + 1) (szI L tl)), true) else if mode = 4 then ((1, fl, 0, tl, 0), true) else if mode = 5 then ((2, fl, min fc tc, tl, max fc tc), true) else ((0, 0, 0, 0, 0), false)
def visualP (L : List ByteArray) (mode al ac bl bc : Int) : Rng × Bool :=
  if plcB L al ac = true ∧ plcB L bl bc = true then visualO L mode (ordB al ac bl bc).1 (ordB al ac bl bc).2.1 (ordB al ac bl bc).2.2.1 (ordB al ac bl bc).2.2.2 else ((0, 0, 0, 0, 0), false)
theorem visualP_sym (L : List ByteArray) (mode al ac bl bc : Int) : visualP L mode al ac bl bc = visualP L mode bl bc al ac := by
  unfold visualP
  rw [ordB_sym al ac bl bc]
  by_cases h1 : plcB L al ac = true <;> by_cases h2 : plcB L bl bc = true <;> simp [h1, h2]
theorem visualP_no {L : List ByteArray} {mode al ac bl bc : Int} (h : plcB L al ac = false ∨ plcB L bl bc = false) : visualP L mode al ac bl bc = ((0, 0, 0, 0, 0), false) := by
  unfold visualP
  rw [if_neg]
  rintro ⟨h1, h2⟩
  rcases h with h | h <;> simp_all
theorem visualP_yes {L : List ByteArray} {mode al ac bl bc fl fc tl tc : Int} (h1 : plcB L al ac = true) (h2 : plcB L bl bc = true) (ho : ordB al ac bl bc = (fl, fc, tl, tc)) : visualP L mode al ac bl bc = visualO L mode fl fc tl tc := by
  unfold visualP
  rw [if_pos ⟨h1, h2⟩, ho]
end Go.Proofs.Ytmafieomlhpdeaa
