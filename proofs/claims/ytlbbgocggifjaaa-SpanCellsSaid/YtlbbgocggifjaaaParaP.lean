/- The plain words of motions by paragraphs. No program in sight. Conditions: none. -/
import Derived.Test.YtlbbgocggifjaaaVertP
namespace Go.Proofs.Ytlbbgocggifjaaa

/-- Is line i empty? -/
def emp (L : List ByteArray) (i : Nat) : Bool := (L.getD i .empty).size == 0
/-- Is a line empty, and the one beside it not? -/
def gapB (L : List ByteArray) (i j : Nat) : Bool := emp L i && !emp L j
/-- The first line from i on that is empty, behind one that is not. -/
def pnF (L : List ByteArray) (i : Nat) : Option Nat := if i < L.length then (if gapB L i (i - 1) = true then some i else pnF L (i + 1)) else none
termination_by L.length - i
theorem pnF_end {L : List ByteArray} {i : Nat} (h : L.length ≤ i) : pnF L i = none := by rw [pnF.eq_def, if_neg (by omega)]
theorem pnF_yes {L : List ByteArray} {i : Nat} (h : i < L.length) (hg : gapB L i (i - 1) = true) : pnF L i = some i := by rw [pnF.eq_def, if_pos h, if_pos hg]
theorem pnF_no {L : List ByteArray} {i : Nat} (h : i < L.length) (hg : gapB L i (i - 1) = false) : pnF L i = pnF L (i + 1) := by rw [pnF.eq_def, if_pos h, if_neg (by rw [hg]; simp)]
/-- The last line ahead of k that is empty, ahead of one that is not. -/
def pbF (L : List ByteArray) : Nat → Option Nat
  | 0 => none
  | k + 1 => if gapB L k (k + 1) = true then some k else pbF L k
theorem pbF_yes {L : List ByteArray} {k : Nat} (hg : gapB L k (k + 1) = true) : pbF L (k + 1) = some k := by rw [pbF, if_pos hg]
theorem pbF_no {L : List ByteArray} {k : Nat} (hg : gapB L k (k + 1) = false) : pbF L (k + 1) = pbF L k := by rw [pbF, if_neg (by rw [hg]; simp)]
theorem pnF_in {L : List ByteArray} : ∀ (n i j : Nat), L.length - i = n → pnF L i = some j → i ≤ j ∧ j < L.length
  | 0, i, j, h, e => by rw [pnF_end (by omega)] at e; cases e
  | n + 1, i, j, h, e => by
    cases hg : gapB L i (i - 1) with
    | true => rw [pnF_yes (by omega) hg] at e; cases e; omega
    | false => rw [pnF_no (by omega) hg] at e; have := pnF_in n (i + 1) j (by omega) e; omega
theorem pbF_in {L : List ByteArray} : ∀ {k j : Nat}, pbF L k = some j → j < k
  | 0, j, e => by cases e
  | k + 1, j, e => by
    cases hg : gapB L k (k + 1) with
    | true => rw [pbF_yes hg] at e; cases e; omega
    | false => rw [pbF_no hg] at e; have := pbF_in e; omega
/-- The last line's place. -/
def lastN (L : List ByteArray) (op : Bool) : Nat := if op = true then (L.getD (L.length - 1) .empty).size else (L.getD (L.length - 1) .empty).size - 1
/-- Where the paragraph of line l ends, or begins. -/
def nxT (L : List ByteArray) (op : Bool) (l : Nat) : Nat × Nat := match pnF L (l + 1) with | some i => (i, 0) | none => (L.length - 1, lastN L op)
def bkT (L : List ByteArray) (l : Nat) : Nat × Nat := match pbF L l with | some i => (i, 0) | none => (0, 0)
def parT (L : List ByteArray) (op fwd : Bool) (l : Nat) : Nat × Nat := if fwd = true then nxT L op l else bkT L l
/-- Does the step go on? -/
def goB (fwd : Bool) (l c l2 c2 : Nat) : Bool := if fwd = true then lessB l c l2 c2 else lessB l2 c2 l c
/-- So many steps. -/
def stepsP (L : List ByteArray) (op fwd : Bool) : Nat → Nat → Nat → Mov × Bool
  | 0, l, c => (((l : Int), (c : Int), 0, true, -1), true)
  | n + 1, l, c => if goB fwd l c (parT L op fwd l).1 (parT L op fwd l).2 = true then stepsP L op fwd n (parT L op fwd l).1 (parT L op fwd l).2 else noMov
theorem stepsP_on {L : List ByteArray} {op fwd : Bool} {n l c l2 c2 : Nat} (h : parT L op fwd l = (l2, c2)) (hg : goB fwd l c l2 c2 = true) : stepsP L op fwd (n + 1) l c = stepsP L op fwd n l2 c2 := by rw [stepsP, h, if_pos hg]
theorem stepsP_no {L : List ByteArray} {op fwd : Bool} {n l c l2 c2 : Nat} (h : parT L op fwd l = (l2, c2)) (hg : goB fwd l c l2 c2 = false) : stepsP L op fwd (n + 1) l c = noMov := by rw [stepsP, h, if_neg (by rw [hg]; simp)]
/-- A motion by paragraphs. -/
def paraP (L : List ByteArray) (pl pc n : Int) (op fwd : Bool) : Mov × Bool := if plcB L pl pc = true ∧ 1 ≤ n then stepsP L op fwd n.toNat pl.toNat pc.toNat else noMov
theorem paraP_no {L : List ByteArray} {pl pc n : Int} {op fwd : Bool} (h : ¬ (plcB L pl pc = true ∧ 1 ≤ n)) : paraP L pl pc n op fwd = noMov := by rw [paraP, if_neg h]
theorem parT_in {L : List ByteArray} {op fwd : Bool} {l l2 c2 : Nat} (hl : l < L.length) (h : parT L op fwd l = (l2, c2)) : l2 < L.length := by
  cases fwd with
  | true =>
    simp only [parT, if_pos, nxT] at h
    split at h
    · rename_i i hi
      cases h
      exact (pnF_in _ _ _ rfl hi).2
    · cases h; omega
  | false =>
    simp only [parT, bkT] at h
    rw [if_neg (by decide)] at h
    split at h
    · rename_i i hi
      cases h
      have := pbF_in hi
      omega
    · cases h; omega
end Go.Proofs.Ytlbbgocggifjaaa
