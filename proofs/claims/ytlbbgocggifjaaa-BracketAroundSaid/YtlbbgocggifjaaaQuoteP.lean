/- The plain words of quotes: a line's quotes, two by two. Plain Lean, no program in sight. Conditions: none. -/
import Derived.Test.YtlbbgocggifjaaaPlain
namespace Go.Proofs.Ytlbbgocggifjaaa

/-- Two columns of a line of m bytes. -/
abbrev Ivl (m : Nat) := { x : Nat × Nat // x.1 < m ∧ x.2 ≤ m }
/-- What is still told, from byte i on, a first quote of a pair being open or not. -/
def qpF (s : ByteArray) (q : Int) (f : Option Nat) (i : Nat) : List (Nat × Nat) :=
  if i < s.size then
    (if byt s i = q then (match f with | none => qpF s q (some i) (i + 1) | some a => (a, i) :: qpF s q none (i + 1)) else qpF s q f (i + 1))
  else []
termination_by s.size - i
theorem qpF_end {s : ByteArray} {q : Int} {f : Option Nat} {i : Nat} (h : s.size ≤ i) : qpF s q f i = [] := by
  have h' : ¬ i < s.size := by omega
  rw [qpF.eq_def, if_neg h']
theorem qpF_no {s : ByteArray} {q : Int} {f : Option Nat} {i : Nat} (h : i < s.size) (hq : byt s i ≠ q) : qpF s q f i = qpF s q f (i + 1) := by rw [qpF.eq_def, if_pos h, if_neg hq]
theorem qpF_open {s : ByteArray} {q : Int} {i : Nat} (h : i < s.size) (hq : byt s i = q) : qpF s q none i = qpF s q (some i) (i + 1) := by rw [qpF.eq_def, if_pos h, if_pos hq]
theorem qpF_shut {s : ByteArray} {q : Int} {a i : Nat} (h : i < s.size) (hq : byt s i = q) : qpF s q (some a) i = (a, i) :: qpF s q none (i + 1) := by rw [qpF.eq_def, if_pos h, if_pos hq]
/-- The slot that tells an open pair's first quote. -/
def fstI : Option Nat → Int
  | none => -1
  | some a => a
theorem byt_at' (s : ByteArray) (k : Nat) (h : k < s.size) : byt s k = (s[k].toNat : Int) := by
  unfold byt
  rw [List.getD_eq_getElem?_getD, list_at s k h]; rfl
theorem qpF_len {s : ByteArray} {q : Int} : ∀ (k : Nat) (f : Option Nat) (i : Nat), s.size - i = k → (qpF s q f i).length ≤ k
  | 0, f, i, h => by
    rw [qpF_end (show s.size ≤ i by omega)]; exact Nat.zero_le _
  | k + 1, f, i, h => by
    by_cases hq : byt s i = q
    · cases f with
      | none => rw [qpF_open (show i < s.size by omega) hq]; have := qpF_len (s := s) (q := q) k (some i) (i + 1) (by omega); omega
      | some a => rw [qpF_shut (show i < s.size by omega) hq, List.length_cons]; have := qpF_len (s := s) (q := q) k none (i + 1) (by omega); omega
    · rw [qpF_no (show i < s.size by omega) hq]; have := qpF_len (s := s) (q := q) k f (i + 1) (by omega); omega
end Go.Proofs.Ytlbbgocggifjaaa
