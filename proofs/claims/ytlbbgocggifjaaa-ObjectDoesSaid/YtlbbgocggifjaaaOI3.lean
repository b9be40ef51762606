/- The plain words of what stands in quotes. Plain Lean, no program in sight. Conditions: none. -/
import Derived.Test.YtlbbgocggifjaaaOI1
namespace Go.Proofs.Ytlbbgocggifjaaa

/-- The first pair that ends at or behind column c. -/
def pairQ (s : ByteArray) (q c : Int) : Option (Nat × Nat) := (qpF s q none 0).find? (fun p => decide (c ≤ (p.2 : Int)))
def pairO : Option (Nat × Nat) → (Int × Int) × Bool
  | none => ((0, 0), false)
  | some p => (((p.1 : Int), (p.2 : Int)), true)
abbrev pairV (r : (Int × Int) × Bool) : Value := .tuple #[.int .i64 r.1.1, .int .i64 r.1.2, .bool r.2]
attribute [go_sem] pairV
def pairR (L : List ByteArray) (l c q : Int) : (Int × Int) × Bool := if byteB L l c = true then pairO (pairQ (ln L l) q c) else ((0, 0), false)
theorem pairR_no {L : List ByteArray} {l c q : Int} (h : byteB L l c = false) : pairR L l c q = ((0, 0), false) := by rw [pairR, if_neg (by rw [h]; simp)]
/-- Behind the blanks from a byte on. -/
def skipF (s : ByteArray) (i : Nat) : Nat := if i < s.size then (if ofC (byt s i) true = 0 then skipF s (i + 1) else i) else i
termination_by s.size - i
theorem skipF_end {s : ByteArray} {i : Nat} (h : s.size ≤ i) : skipF s i = i := by
  have h' : ¬ i < s.size := by omega
  rw [skipF, if_neg h']
theorem skipF_stop {s : ByteArray} {i : Nat} (h : i < s.size) (hb : ¬ ofC (byt s i) true = 0) : skipF s i = i := by rw [skipF, if_pos h, if_neg hb]
theorem skipF_on {s : ByteArray} {i : Nat} (h : i < s.size) (hb : ofC (byt s i) true = 0) : skipF s i = skipF s (i + 1) := by rw [skipF, if_pos h, if_pos hb]
/-- Ahead of the blanks that end at a byte. -/
def skipB (s : ByteArray) : Nat → Nat
  | 0 => 0
  | i + 1 => if ofC (byt s i) true = 0 then skipB s i else i + 1
theorem skipB_zero {s : ByteArray} : skipB s 0 = 0 := by rw [skipB]
theorem skipB_stop {s : ByteArray} {i : Nat} (hb : ¬ ofC (byt s i) true = 0) : skipB s (i + 1) = i + 1 := by rw [skipB, if_neg hb]
theorem skipB_on {s : ByteArray} {i : Nat} (hb : ofC (byt s i) true = 0) : skipB s (i + 1) = skipB s i := by rw [skipB, if_pos hb]
/-- What stands in quotes. -/
def quoteO (s : ByteArray) (l : Int) (around : Bool) : Option (Nat × Nat) → Rng × Bool
  | none => noR
  | some p => if around = true then ((0, l, ((if skipF s (p.2 + 1) = p.2 + 1 then skipB s p.1 else p.1 : Nat) : Int), l, (skipF s (p.2 + 1) : Int)), true) else ((0, l, (p.1 : Int) + 1, l, (p.2 : Int)), true)
def quoteP (L : List ByteArray) (l c q : Int) (around : Bool) : Rng × Bool := if byteB L l c = true then quoteO (ln L l) l around (pairQ (ln L l) q c) else noR
theorem quoteP_no {L : List ByteArray} {l c q : Int} {around : Bool} (h : byteB L l c = false) : quoteP L l c q around = noR := by rw [quoteP, if_neg (by rw [h]; simp)]
theorem quoteP_yes {L : List ByteArray} {l c : Nat} {q : Int} {around : Bool} {s : ByteArray} (h : byteB L l c = true) (hs : L.getD l .empty = s) : quoteP L l c q around = quoteO s l around (pairQ s q c) := by
  rw [quoteP, if_pos h, ln, Int.toNat_natCast, hs]
theorem pairR_yes {L : List ByteArray} {l c : Nat} {q : Int} {s : ByteArray} (h : byteB L l c = true) (hs : L.getD l .empty = s) : pairR L l c q = pairO (pairQ s q c) := by
  rw [pairR, if_pos h, ln, Int.toNat_natCast, hs]
/-- Of each pair the quotes stand in the line, one behind another. -/
theorem qpF_in {s : ByteArray} {q : Int} : ∀ (k : Nat) (f : Option Nat) (i : Nat), s.size - i = k → (∀ a, f = some a → a < i ∧ byt s a = q) → ∀ p ∈ qpF s q f i, p.1 < p.2 ∧ p.2 < s.size ∧ byt s p.1 = q ∧ byt s p.2 = q
  | 0, f, i, h, _, p, hp => by rw [qpF_end (show s.size ≤ i by omega)] at hp; cases hp
  | k + 1, f, i, h, hf, p, hp => by
    by_cases hq : byt s i = q
    · cases f with
      | none =>
        rw [qpF_open (show i < s.size by omega) hq] at hp
        exact qpF_in k (some i) (i + 1) (by omega) (fun a e => by cases e; exact ⟨by omega, hq⟩) p hp
      | some a =>
        rw [qpF_shut (show i < s.size by omega) hq] at hp
        obtain ⟨h1, h2⟩ := hf a rfl
        rcases List.mem_cons.1 hp with rfl | hp
        · exact ⟨h1, by omega, h2, hq⟩
        · exact qpF_in k none (i + 1) (by omega) (fun a e => by cases e) p hp
    · rw [qpF_no (show i < s.size by omega) hq] at hp
      exact qpF_in k f (i + 1) (by omega) (fun a e => ⟨by have := (hf a e).1; omega, (hf a e).2⟩) p hp
theorem pairQ_in {s : ByteArray} {q c : Int} {p : Nat × Nat} (h : pairQ s q c = some p) : p.1 < p.2 ∧ p.2 < s.size ∧ byt s p.1 = q ∧ byt s p.2 = q ∧ c ≤ (p.2 : Int) := by
  have h1 := List.mem_of_find?_eq_some h
  have h2 := List.find?_some h
  obtain ⟨a, b, c', d⟩ := qpF_in _ none 0 rfl (fun a e => by cases e) p h1
  exact ⟨a, b, c', d, by simpa using h2⟩
theorem find_done {α : Type} {p : α → Bool} {R : List α} (h : ∀ x ∈ R, p x = false) : R.find? p = none := List.find?_eq_none.2 (fun x hx => by rw [h x hx]; simp)
theorem find_stop {α : Type} {p : α → Bool} {R ini : List α} {x : α} (h : ini ++ [x] <+: R) (h1 : ∀ y ∈ ini, p y = false) (h2 : p x = true) : R.find? p = some x := by
  obtain ⟨t, rfl⟩ := h
  rw [List.append_assoc, List.find?_append, find_done h1]
  simp [h2]
end Go.Proofs.Ytlbbgocggifjaaa
