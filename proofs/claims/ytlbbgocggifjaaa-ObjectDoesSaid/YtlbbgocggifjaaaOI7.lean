/- Several texts in one: VertP, ParaP, SentP. Conditions: none beyond what each says. -/
import Derived.Test.YtlbbgocggifjaaaOI1
import Derived.Test.YtlbbgocggifjaaaWorld
namespace Go.Proofs.Ytlbbgocggifjaaa
open Go.RowKit

/-- A motion: line, column, way, whether it jumps, the column that is wanted. -/
abbrev Mov := Int × Int × Int × Bool × Int
def noMov : Mov × Bool := ((0, 0, 0, false, 0), false)
def firstM (L : List ByteArray) (t : Int) (jump : Bool) : Mov × Bool := ((t, fsI L t, 2, jump, -1), true)
/-- Down, up. -/
def vertT (pl n : Int) (up : Bool) : Int := if up = true then pl - n else pl + n
def vertI (L : List ByteArray) (pl n : Int) (up : Bool) : Bool := if up = true then decide (n ≤ pl) else decide (n < L.length - pl)
def clampW (want : Int) : Int := min (max want 0) 1073741824
def vertP (L : List ByteArray) (pl pc n want : Int) (up : Bool) : Mov × Bool :=
  if plcB L pl pc = true ∧ 1 ≤ n ∧ vertI L pl n up = true then ((vertT pl n up, min (clampW want) (max (szI L (vertT pl n up) - 1) 0), 2, false, clampW want), true) else noMov
theorem vertP_no {L : List ByteArray} {pl pc n want : Int} {up : Bool} (h : ¬ (plcB L pl pc = true ∧ 1 ≤ n ∧ vertI L pl n up = true)) : vertP L pl pc n want up = noMov := by rw [vertP, if_neg h]
theorem vertP_yes {L : List ByteArray} {pl pc n want t : Int} {up : Bool} (h : plcB L pl pc = true ∧ 1 ≤ n ∧ vertI L pl n up = true) (ht : vertT pl n up = t) :
    vertP L pl pc n want up = ((t, min (clampW want) (max (szI L t - 1) 0), 2, false, clampW want), true) := by rw [vertP, if_pos h, ht]
theorem vertT_in {L : List ByteArray} {pl pc n : Int} {up : Bool} (h : plcB L pl pc = true ∧ 1 ≤ n ∧ vertI L pl n up = true) : 0 ≤ vertT pl n up ∧ vertT pl n up < L.length := by
  obtain ⟨h1, h2, h3⟩ := h
  have q := plcB_spec h1
  cases up <;> simp [vertI, vertT] at * <;> omega
theorem vertT_in' {L : List ByteArray} {pl pc n : Int} {up : Bool} (h : plcB L pl pc = true ∧ 0 ≤ n ∧ vertI L pl n up = true) : 0 ≤ vertT pl n up ∧ vertT pl n up < L.length := by
  obtain ⟨h1, h2, h3⟩ := h
  have q := plcB_spec h1
  cases up <;> simp [vertI, vertT] at * <;> omega
theorem szI_eq {L : List ByteArray} {l : Int} {s : ByteArray} (h : L.getD l.toNat .empty = s) : szI L l = (s.size : Int) := by unfold szI; rw [h]
theorem fsI_eq {L : List ByteArray} {l : Int} {s : ByteArray} (h : L.getD l.toNat .empty = s) : fsI L l = (firstL s.data.toList : Int) := by unfold fsI; rw [h]
/-- The line that a place is in. -/
theorem line_facts {w : World} {a : Option Addr} {L : List ByteArray} (hL : LinesAt w a L) {t : Int} (h0 : 0 ≤ t) (h1 : t < L.length) :
    ∃ b off s, a = some ⟨b, off, none⟩ ∧ b < w.heap.size ∧ w.cell? ⟨b, off + t.toNat, none⟩ = some (.string s) ∧ s.size ≤ 140737488351232 ∧ Hid (L.getD t.toNat .empty = s) := by
  obtain ⟨b, off, e, hb, hc, hs⟩ := hL.line (i := t.toNat) (by omega)
  exact ⟨b, off, _, e, hb, hc, hs, Lib.hid rfl⟩
/-- Lines further, at their first byte that is no blank. -/
def fbP (L : List ByteArray) (pl pc n : Int) (up : Bool) : Mov × Bool := if plcB L pl pc = true ∧ 0 ≤ n ∧ vertI L pl n up = true then firstM L (vertT pl n up) false else noMov
theorem fbP_no {L : List ByteArray} {pl pc n : Int} {up : Bool} (h : ¬ (plcB L pl pc = true ∧ 0 ≤ n ∧ vertI L pl n up = true)) : fbP L pl pc n up = noMov := by rw [fbP, if_neg h]
theorem fbP_yes {L : List ByteArray} {pl pc n t : Int} {up : Bool} (h : plcB L pl pc = true ∧ 0 ≤ n ∧ vertI L pl n up = true) (ht : vertT pl n up = t) : fbP L pl pc n up = firstM L t false := by rw [fbP, if_pos h, ht]
def plusP (L : List ByteArray) (pl pc n : Int) : Mov × Bool := if 1 ≤ n then fbP L pl pc n false else noMov
def minusP (L : List ByteArray) (pl pc n : Int) : Mov × Bool := if 1 ≤ n then fbP L pl pc n true else noMov
def underP (L : List ByteArray) (pl pc n : Int) : Mov × Bool := if 1 ≤ n then fbP L pl pc (n - 1) false else noMov
/-- A line, if it is one. -/
def lineM (L : List ByteArray) (t : Int) (jump : Bool) : Mov × Bool := if 0 ≤ t ∧ t < L.length then firstM L t jump else noMov
theorem lineM_no {L : List ByteArray} {t : Int} {j : Bool} (h : ¬ (0 ≤ t ∧ t < L.length)) : lineM L t j = noMov := by rw [lineM, if_neg h]
theorem lineM_yes {L : List ByteArray} {t : Int} {j : Bool} (h : 0 ≤ t ∧ t < L.length) : lineM L t j = firstM L t j := by rw [lineM, if_pos h]
theorem fbP_line {L : List ByteArray} {pl pc n : Int} {up : Bool} (h : plcB L pl pc = true) (h0 : 0 ≤ n) (hlen : L.length ≤ 1000000) : fbP L pl pc n up = lineM L (vertT pl (min n 1073741824) up) false := by
  have q := plcB_spec h
  unfold fbP lineM
  by_cases hv : vertI L pl n up = true
  · have e : min n 1073741824 = n := by cases up <;> simp [vertI] at hv <;> omega
    rw [if_pos ⟨h, h0, hv⟩, e, if_pos]
    cases up <;> simp [vertI, vertT] at hv ⊢ <;> omega
  · rw [if_neg (fun e => hv e.2.2), if_neg]
    cases up <;> simp [vertI, vertT] at hv ⊢ <;> omega
theorem vertI_iff {L : List ByteArray} {pl pc n : Int} {up : Bool} (h : plcB L pl pc = true) (h0 : 0 ≤ n) (hlen : L.length ≤ 1000000) :
    (vertI L pl n up = true ∧ vertT pl (min n 1073741824) up = vertT pl n up ∧ 0 ≤ vertT pl n up ∧ vertT pl n up < L.length) ∨ (¬ vertI L pl n up = true ∧ ¬ (0 ≤ vertT pl (min n 1073741824) up ∧ vertT pl (min n 1073741824) up < L.length)) := by
  have q := plcB_spec h
  by_cases hv : vertI L pl n up = true
  · left
    have e : min n 1073741824 = n := by cases up <;> simp [vertI] at hv <;> omega
    refine ⟨hv, by rw [e], ?_⟩
    cases up <;> simp [vertI, vertT] at hv ⊢ <;> omega
  · right
    refine ⟨hv, ?_⟩
    cases up <;> simp [vertI, vertT] at hv ⊢ <;> omega
theorem underP_line {L : List ByteArray} {pl pc n : Int} (h : plcB L pl pc = true) (h0 : 1 ≤ n) (hlen : L.length ≤ 1000000) : underP L pl pc n = lineM L (pl + min n 1073741824 - 1) false := by
  have q := plcB_spec h
  rw [underP, if_pos h0, fbP_line h (by omega) hlen]
  unfold lineM vertT
  by_cases hv : n ≤ 1073741824
  · have e : pl + min (n - 1) 1073741824 = pl + min n 1073741824 - 1 := by omega
    simp only [if_neg (by decide : ¬ (false = true)), e]
  · rw [if_neg (by simp; omega), if_neg (by omega)]
theorem plusP_line {L : List ByteArray} {pl pc n : Int} (h : plcB L pl pc = true) (h0 : 1 ≤ n) (hlen : L.length ≤ 1000000) : plusP L pl pc n = lineM L (pl + min n 1073741824) false := by
  rw [plusP, if_pos h0, fbP_line h (by omega) hlen]; rfl
theorem minusP_line {L : List ByteArray} {pl pc n : Int} (h : plcB L pl pc = true) (h0 : 1 ≤ n) (hlen : L.length ≤ 1000000) : minusP L pl pc n = lineM L (pl - min n 1073741824) false := by
  rw [minusP, if_pos h0, fbP_line h (by omega) hlen]; rfl
def gotoP (L : List ByteArray) (pl pc n : Int) : Mov × Bool := if plcB L pl pc = true ∧ 1 ≤ n then lineM L (n - 1) true else noMov
/-- Where in the window. -/
def shownN (L : List ByteArray) (top : Int) : Int := min 10 (L.length - max top 0)
def screenT (L : List ByteArray) (top key n : Int) : Int :=
  if key = 72 then max top 0 + min n (shownN L top) - 1 else if key = 76 then max top 0 + (shownN L top - min n (shownN L top)) else max top 0 + (shownN L top - 1) / 2
def screenP (L : List ByteArray) (pl pc top key n : Int) : Mov × Bool :=
  if plcB L pl pc = true ∧ 1 ≤ n ∧ max top 0 < L.length ∧ (key = 72 ∨ key = 76 ∨ key = 77) then firstM L (screenT L top key n) true else noMov
theorem screenT_in {L : List ByteArray} {top key n : Int} (hn : 1 ≤ n) (ht : max top 0 < L.length) : 0 ≤ screenT L top key n ∧ screenT L top key n < L.length := by
  have h1 : shownN L top = min 10 (L.length - max top 0) := rfl
  unfold screenT
  rw [h1]
  by_cases k1 : key = 72
  · rw [if_pos k1]; omega
  · rw [if_neg k1]
    by_cases k2 : key = 76
    · rw [if_pos k2]; omega
    · rw [if_neg k2]; omega
end Go.Proofs.Ytlbbgocggifjaaa
namespace Go.Proofs.Ytlbbgocggifjaaa

/-- Is line i empty? -/
def emp (L : List ByteArray) (i : Nat) : Bool := (L.getD i .empty).size == 0
/-- Is a line empty, and the one beside it not? -/
def gapB (L : List ByteArray) (i j : Nat) : Bool := emp L i && !emp L j
/-- The first line from i on that is empty, behind one that is not. -/
def pnF (L : List ByteArray) (i : Nat) : Option Nat := if i < L.length then (if gapB L i (i - 1) = true then some i else pnF L (i + 1)) else none
termination_by L.length - i
theorem pnF_end {L : List ByteArray} {i : Nat} (h : L.length ≤ i) : pnF L i = none := by rw [pnF.eq_def, if_neg (by omega)]
theorem pnF_yes {L : List ByteArray} {i : Nat} (h : i < L.length) (hg : gapB L i (i - 1) = true) : pnF L i = some i := by rw [pnF.eq_def, if_pos h, if_pos hg]
theorem pnF_no {L : List ByteArray} {i : Nat} (h : i < L.length) (hg : gapB L i (i - 1) = false) : pnF L i = pnF L (i + 1) := by rw [pnF.eq_def, if_pos h, if_neg (by rw [hg]; simp)]
/-- The last line ahead of k that is empty, ahead of one that is not. -/
def pbF (L : List ByteArray) : Nat → Option Nat
  | 0 => none
  | k + 1 => if gapB L k (k + 1) = true then some k else pbF L k
theorem pbF_yes {L : List ByteArray} {k : Nat} (hg : gapB L k (k + 1) = true) : pbF L (k + 1) = some k := by rw [pbF, if_pos hg]
theorem pbF_no {L : List ByteArray} {k : Nat} (hg : gapB L k (k + 1) = false) : pbF L (k + 1) = pbF L k := by rw [pbF, if_neg (by rw [hg]; simp)]
theorem pnF_in {L : List ByteArray} : ∀ (n i j : Nat), L.length - i = n → pnF L i = some j → i ≤ j ∧ j < L.length
  | 0, i, j, h, e => by rw [pnF_end (by omega)] at e; cases e
  | n + 1, i, j, h, e => by
    cases hg : gapB L i (i - 1) with
    | true => rw [pnF_yes (by omega) hg] at e; cases e; omega
    | false => rw [pnF_no (by omega) hg] at e; have := pnF_in n (i + 1) j (by omega) e; omega
theorem pbF_in {L : List ByteArray} : ∀ {k j : Nat}, pbF L k = some j → j < k
  | 0, j, e => by cases e
  | k + 1, j, e => by
    cases hg : gapB L k (k + 1) with
    | true => rw [pbF_yes hg] at e; cases e; omega
    | false => rw [pbF_no hg] at e; have := pbF_in e; omega
/-- The last line's place. -/
def lastN (L : List ByteArray) (op : Bool) : Nat := if op = true then (L.getD (L.length - 1) .empty).size else (L.getD (L.length - 1) .empty).size - 1
/-- Where the paragraph of line l ends, or begins. -/
def nxT (L : List ByteArray) (op : Bool) (l : Nat) : Nat × Nat := match pnF L (l + 1) with | some i => (i, 0) | none => (L.length - 1, lastN L op)
def bkT (L : List ByteArray) (l : Nat) : Nat × Nat := match pbF L l with | some i => (i, 0) | none => (0, 0)
def parT (L : List ByteArray) (op fwd : Bool) (l : Nat) : Nat × Nat := if fwd = true then nxT L op l else bkT L l
/-- Does the step go on? -/
def goB (fwd : Bool) (l c l2 c2 : Nat) : Bool := if fwd = true then lessB l c l2 c2 else lessB l2 c2 l c
/-- So many steps. -/
def stepsP (L : List ByteArray) (op fwd : Bool) : Nat → Nat → Nat → Mov × Bool
  | 0, l, c => (((l : Int), (c : Int), 0, true, -1), true)
  | n + 1, l, c => if goB fwd l c (parT L op fwd l).1 (parT L op fwd l).2 = true then stepsP L op fwd n (parT L op fwd l).1 (parT L op fwd l).2 else noMov
theorem stepsP_on {L : List ByteArray} {op fwd : Bool} {n l c l2 c2 : Nat} (h : parT L op fwd l = (l2, c2)) (hg : goB fwd l c l2 c2 = true) : stepsP L op fwd (n + 1) l c = stepsP L op fwd n l2 c2 := by rw [stepsP, h, if_pos hg]
theorem stepsP_no {L : List ByteArray} {op fwd : Bool} {n l c l2 c2 : Nat} (h : parT L op fwd l = (l2, c2)) (hg : goB fwd l c l2 c2 = false) : stepsP L op fwd (n + 1) l c = noMov := by rw [stepsP, h, if_neg (by rw [hg]; simp)]
/-- A motion by paragraphs. -/
def paraP (L : List ByteArray) (pl pc n : Int) (op fwd : Bool) : Mov × Bool := if plcB L pl pc = true ∧ 1 ≤ n then stepsP L op fwd n.toNat pl.toNat pc.toNat else noMov
theorem paraP_no {L : List ByteArray} {pl pc n : Int} {op fwd : Bool} (h : ¬ (plcB L pl pc = true ∧ 1 ≤ n)) : paraP L pl pc n op fwd = noMov := by rw [paraP, if_neg h]
theorem parT_in {L : List ByteArray} {op fwd : Bool} {l l2 c2 : Nat} (hl : l < L.length) (h : parT L op fwd l = (l2, c2)) : l2 < L.length := by
  cases fwd with
  | true =>
    simp only [parT, if_pos, nxT] at h
    split at h
    · rename_i i hi
      cases h
      exact (pnF_in _ _ _ rfl hi).2
    · cases h; omega
  | false =>
    simp only [parT, bkT] at h
    rw [if_neg (by decide)] at h
    split at h
    · rename_i i hi
      cases h
      have := pbF_in hi
      omega
    · cases h; omega
end Go.Proofs.Ytlbbgocggifjaaa
namespace Go.Proofs.Ytlbbgocggifjaaa

/-- The class of byte i: blank, or not. -/
def clsT (s : ByteArray) (i : Nat) : Int := ofC (byt s i) true
/-- Is byte i a sentence's stop? -/
def stopB (s : ByteArray) (i : Nat) : Bool := decide (byt s i = 46 ∨ byt s i = 33 ∨ byt s i = 63) && (decide (i + 1 = s.size) || clsT s (i + 1) == 0)
theorem stop_solid {s : ByteArray} {i : Nat} (h : clsT s i = 0) : stopB s i = false := by
  rw [stopB, decide_eq_false, Bool.false_and]
  simp only [clsT, ofC] at h
  split at h
  · omega
  · simp at h
/-- The columns, from byte i on, at which sentences begin; op: whether one begins with the next byte that is no blank. -/
def colF (s : ByteArray) (op : Bool) (i : Nat) : List Nat :=
  if i < s.size then (if clsT s i = 0 then colF s op (i + 1) else (if op = true then i :: colF s (stopB s i) (i + 1) else colF s (stopB s i) (i + 1))) else []
termination_by s.size - i
/-- Whether one begins with what comes behind the line. -/
def opF (s : ByteArray) (op : Bool) (i : Nat) : Bool :=
  if i < s.size then (if clsT s i = 0 then opF s op (i + 1) else opF s (stopB s i) (i + 1)) else op
termination_by s.size - i
/-- Is there a byte that is no blank, from i on? -/
def solF (s : ByteArray) (i : Nat) : Bool := if i < s.size then (if clsT s i = 0 then solF s (i + 1) else true) else false
termination_by s.size - i
theorem colF_end {s : ByteArray} {op : Bool} {i : Nat} (h : s.size ≤ i) : colF s op i = [] := by rw [colF.eq_def, if_neg (by omega)]
theorem colF_blank {s : ByteArray} {op : Bool} {i : Nat} (h : i < s.size) (hc : clsT s i = 0) : colF s op i = colF s op (i + 1) := by rw [colF.eq_def, if_pos h, if_pos hc]
theorem colF_on {s : ByteArray} {i : Nat} (h : i < s.size) (hc : ¬ clsT s i = 0) : colF s true i = i :: colF s (stopB s i) (i + 1) := by rw [colF.eq_def, if_pos h, if_neg hc, if_pos rfl]
theorem colF_off {s : ByteArray} {i : Nat} (h : i < s.size) (hc : ¬ clsT s i = 0) : colF s false i = colF s (stopB s i) (i + 1) := by rw [colF.eq_def, if_pos h, if_neg hc, if_neg (by decide)]
theorem opF_end {s : ByteArray} {op : Bool} {i : Nat} (h : s.size ≤ i) : opF s op i = op := by rw [opF.eq_def, if_neg (by omega)]
theorem opF_blank {s : ByteArray} {op : Bool} {i : Nat} (h : i < s.size) (hc : clsT s i = 0) : opF s op i = opF s op (i + 1) := by rw [opF.eq_def, if_pos h, if_pos hc]
theorem opF_on {s : ByteArray} {op : Bool} {i : Nat} (h : i < s.size) (hc : ¬ clsT s i = 0) : opF s op i = opF s (stopB s i) (i + 1) := by rw [opF.eq_def, if_pos h, if_neg hc]
theorem solF_end {s : ByteArray} {i : Nat} (h : s.size ≤ i) : solF s i = false := by rw [solF.eq_def, if_neg (by omega)]
theorem solF_blank {s : ByteArray} {i : Nat} (h : i < s.size) (hc : clsT s i = 0) : solF s i = solF s (i + 1) := by rw [solF.eq_def, if_pos h, if_pos hc]
theorem solF_yes {s : ByteArray} {i : Nat} (h : i < s.size) (hc : ¬ clsT s i = 0) : solF s i = true := by rw [solF.eq_def, if_pos h, if_neg hc]
theorem colF_in {s : ByteArray} : ∀ (n : Nat) {op : Bool} {i : Nat}, s.size - i = n → (∀ c ∈ colF s op i, i ≤ c ∧ c < s.size) ∧ (colF s op i).length ≤ s.size - i
  | 0, op, i, h => by rw [colF_end (by omega)]; simp
  | n + 1, op, i, h => by
    have hi : i < s.size := by omega
    by_cases hc : clsT s i = 0
    · rw [colF_blank hi hc]
      obtain ⟨h1, h2⟩ := colF_in (s := s) n (op := op) (i := i + 1) (by omega)
      exact ⟨fun c hcm => by have := h1 c hcm; omega, by omega⟩
    · obtain ⟨h1, h2⟩ := colF_in (s := s) n (op := stopB s i) (i := i + 1) (by omega)
      cases op with
      | true =>
        rw [colF_on hi hc]
        refine ⟨fun c hcm => ?_, by simp only [List.length_cons]; omega⟩
        rcases List.mem_cons.1 hcm with rfl | hcm
        · omega
        · have := h1 c hcm; omega
      | false =>
        rw [colF_off hi hc]
        exact ⟨fun c hcm => by have := h1 c hcm; omega, by omega⟩
/-- Does a sentence begin at line k, which is empty? -/
def headB (L : List ByteArray) (k : Nat) : Bool := decide (k = 0) || !emp L (k - 1)
/-- Where sentences begin, from line k on. -/
def sentF (L : List ByteArray) (op : Bool) (k : Nat) : List (Nat × Nat) :=
  if k < L.length then
    (if emp L k = true then (if headB L k = true then (k, 0) :: sentF L true (k + 1) else sentF L true (k + 1))
    else (colF (L.getD k .empty) op 0).map (fun c => (k, c)) ++ sentF L (opF (L.getD k .empty) op 0 && solF (L.getD k .empty) 0) (k + 1))
  else []
termination_by L.length - k
theorem sentF_end {L : List ByteArray} {op : Bool} {k : Nat} (h : L.length ≤ k) : sentF L op k = [] := by rw [sentF.eq_def, if_neg (by omega)]
theorem sentF_head {L : List ByteArray} {op : Bool} {k : Nat} (h : k < L.length) (he : emp L k = true) (hh : headB L k = true) : sentF L op k = (k, 0) :: sentF L true (k + 1) := by rw [sentF.eq_def, if_pos h, if_pos he, if_pos hh]
theorem sentF_more {L : List ByteArray} {op : Bool} {k : Nat} (h : k < L.length) (he : emp L k = true) (hh : headB L k = false) : sentF L op k = sentF L true (k + 1) := by rw [sentF.eq_def, if_pos h, if_pos he, if_neg (by rw [hh]; simp)]
theorem sentF_line {L : List ByteArray} {op : Bool} {k : Nat} {s : ByteArray} (h : k < L.length) (he : emp L k = false) (hs : L.getD k .empty = s) : sentF L op k = (colF s op 0).map (fun c => (k, c)) ++ sentF L (opF s op 0 && solF s 0) (k + 1) := by
  rw [sentF.eq_def, if_pos h, if_neg (by rw [he]; simp), hs]
theorem total_drop (L : List ByteArray) (k : Nat) (h : k < L.length) : total (L.drop k) = (L.getD k .empty).size + total (L.drop (k + 1)) := by
  rw [List.drop_eq_getElem_cons h, List.getD_eq_getElem?_getD, List.getElem?_eq_getElem h]
  simp only [total, List.map_cons, List.sum_cons]
  rfl
theorem sentF_in {L : List ByteArray} : ∀ (n : Nat) {op : Bool} {k : Nat}, L.length - k = n → (∀ p ∈ sentF L op k, k ≤ p.1 ∧ p.1 < L.length ∧ p.2 ≤ (L.getD p.1 .empty).size) ∧ (sentF L op k).length ≤ n + total (L.drop k)
  | 0, op, k, h => by rw [sentF_end (by omega)]; simp
  | n + 1, op, k, h => by
    have hk : k < L.length := by omega
    have ht := total_drop L k hk
    cases he : emp L k with
    | true =>
      obtain ⟨h1, h2⟩ := sentF_in (L := L) n (op := true) (k := k + 1) (by omega)
      cases hh : headB L k with
      | true =>
        rw [sentF_head hk he hh]
        refine ⟨fun p hp => ?_, by simp only [List.length_cons]; omega⟩
        rcases List.mem_cons.1 hp with rfl | hp
        · exact ⟨Nat.le_refl _, hk, Nat.zero_le _⟩
        · have := h1 p hp; exact ⟨by omega, this.2⟩
      | false =>
        rw [sentF_more hk he hh]
        exact ⟨fun p hp => by have := h1 p hp; exact ⟨by omega, this.2⟩, by omega⟩
    | false =>
      obtain ⟨h1, h2⟩ := sentF_in (L := L) n (op := opF (L.getD k .empty) op 0 && solF (L.getD k .empty) 0) (k := k + 1) (by omega)
      obtain ⟨g1, g2⟩ := colF_in (s := L.getD k .empty) _ (op := op) (i := 0) rfl
      rw [sentF_line hk he rfl]
      refine ⟨fun p hp => ?_, by simp only [List.length_append, List.length_map]; omega⟩
      rcases List.mem_append.1 hp with hp | hp
      · obtain ⟨c, hc, rfl⟩ := List.mem_map.1 hp
        have := g1 c hc
        exact ⟨Nat.le_refl _, hk, by simp only; omega⟩
      · have := h1 p hp; exact ⟨by omega, this.2⟩
/-- Where a text's sentences begin. -/
def sentP (L : List ByteArray) : List (Nat × Nat) := sentF L true 0
theorem sentP_in {L : List ByteArray} : (∀ p ∈ sentP L, p.1 < L.length ∧ p.2 ≤ (L.getD p.1 .empty).size) ∧ (sentP L).length ≤ L.length + total L := by
  obtain ⟨h1, h2⟩ := sentF_in (L := L) _ (op := true) (k := 0) rfl
  exact ⟨fun p hp => (h1 p hp).2, by simpa [sentP] using h2⟩
end Go.Proofs.Ytlbbgocggifjaaa
