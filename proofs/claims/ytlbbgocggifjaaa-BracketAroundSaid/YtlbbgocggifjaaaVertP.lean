/- The plain words of motions. No program in sight. Conditions: none. -/
import Derived.Test.YtlbbgocggifjaaaAreaP
import Derived.Test.YtlbbgocggifjaaaWorld
namespace Go.Proofs.Ytlbbgocggifjaaa
open Go.RowKit

/-- A motion: line, column, way, whether it jumps, the column that is wanted. -/
abbrev Mov := Int × Int × Int × Bool × Int
def noMov : Mov × Bool := ((0, 0, 0, false, 0), false)
def firstM (L : List ByteArray) (t : Int) (jump : Bool) : Mov × Bool := ((t, fsI L t, 2, jump, -1), true)
/-- Down, up. -/
def vertT (pl n : Int) (up : Bool) : Int := if up = true then pl - n else pl + n
def vertI (L : List ByteArray) (pl n : Int) (up : Bool) : Bool := if up = true then decide (n ≤ pl) else decide (n < L.length - pl)
def clampW (want : Int) : Int := min (max want 0) 1073741824
def vertP (L : List ByteArray) (pl pc n want : Int) (up : Bool) : Mov × Bool :=
  if plcB L pl pc = true ∧ 1 ≤ n ∧ vertI L pl n up = true then ((vertT pl n up, min (clampW want) (max (szI L (vertT pl n up) - 1) 0), 2, false, clampW want), true) else noMov
theorem vertP_no {L : List ByteArray} {pl pc n want : Int} {up : Bool} (h : ¬ (plcB L pl pc = true ∧ 1 ≤ n ∧ vertI L pl n up = true)) : vertP L pl pc n want up = noMov := by rw [vertP, if_neg h]
theorem vertP_yes {L : List ByteArray} {pl pc n want t : Int} {up : Bool} (h : plcB L pl pc = true ∧ 1 ≤ n ∧ vertI L pl n up = true) (ht : vertT pl n up = t) :
    vertP L pl pc n want up = ((t, min (clampW want) (max (szI L t - 1) 0), 2, false, clampW want), true) := by rw [vertP, if_pos h, ht]
theorem vertT_in {L : List ByteArray} {pl pc n : Int} {up : Bool} (h : plcB L pl pc = true ∧ 1 ≤ n ∧ vertI L pl n up = true) : 0 ≤ vertT pl n up ∧ vertT pl n up < L.length := by
  obtain ⟨h1, h2, h3⟩ := h
  have q := plcB_spec h1
  cases up <;> simp [vertI, vertT] at * <;> omega
theorem vertT_in' {L : List ByteArray} {pl pc n : Int} {up : Bool} (h : plcB L pl pc = true ∧ 0 ≤ n ∧ vertI L pl n up = true) : 0 ≤ vertT pl n up ∧ vertT pl n up < L.length := by
  obtain ⟨h1, h2, h3⟩ := h
  have q := plcB_spec h1
  cases up <;> simp [vertI, vertT] at * <;> omega
theorem szI_eq {L : List ByteArray} {l : Int} {s : ByteArray} (h : L.getD l.toNat .empty = s) : szI L l = (s.size : Int) := by unfold szI; rw [h]
theorem fsI_eq {L : List ByteArray} {l : Int} {s : ByteArray} (h : L.getD l.toNat .empty = s) : fsI L l = (firstL s.data.toList : Int) := by unfold fsI; rw [h]
/-- The line that a place is in. -/
theorem line_facts {w : World} {a : Option Addr} {L : List ByteArray} (hL : LinesAt w a L) {t : Int} (h0 : 0 ≤ t) (h1 : t < L.length) :
    ∃ b off s, a = some ⟨b, off, none⟩ ∧ b < w.heap.size ∧ w.cell? ⟨b, off + t.toNat, none⟩ = some (.string s) ∧ s.size ≤ 140737488351232 ∧ Hid (L.getD t.toNat .empty = s) := by
  obtain ⟨b, off, e, hb, hc, hs⟩ := hL.line (i := t.toNat) (by omega)
  exact ⟨b, off, _, e, hb, hc, hs, Lib.hid rfl⟩
/-- Lines further, at their first byte that is no blank. -/
def fbP (L : List ByteArray) (pl pc n : Int) (up : Bool) : Mov × Bool := if plcB L pl pc = true ∧ 0 ≤ n ∧ vertI L pl n up = true then firstM L (vertT pl n up) false else noMov
theorem fbP_no {L : List ByteArray} {pl pc n : Int} {up : Bool} (h : ¬ (plcB L pl pc = true ∧ 0 ≤ n ∧ vertI L pl n up = true)) : fbP L pl pc n up = noMov := by rw [fbP, if_neg h]
theorem fbP_yes {L : List ByteArray} {pl pc n t : Int} {up : Bool} (h : plcB L pl pc = true ∧ 0 ≤ n ∧ vertI L pl n up = true) (ht : vertT pl n up = t) : fbP L pl pc n up = firstM L t false := by rw [fbP, if_pos h, ht]
def plusP (L : List ByteArray) (pl pc n : Int) : Mov × Bool := if 1 ≤ n then fbP L pl pc n false else noMov
def minusP (L : List ByteArray) (pl pc n : Int) : Mov × Bool := if 1 ≤ n then fbP L pl pc n true else noMov
def underP (L : List ByteArray) (pl pc n : Int) : Mov × Bool := if 1 ≤ n then fbP L pl pc (n - 1) false else noMov
/-- A line, if it is one. -/
def lineM (L : List ByteArray) (t : Int) (jump : Bool) : Mov × Bool := if 0 ≤ t ∧ t < L.length then firstM L t jump else noMov
theorem lineM_no {L : List ByteArray} {t : Int} {j : Bool} (h : ¬ (0 ≤ t ∧ t < L.length)) : lineM L t j = noMov := by rw [lineM, if_neg h]
theorem lineM_yes {L : List ByteArray} {t : Int} {j : Bool} (h : 0 ≤ t ∧ t < L.length) : lineM L t j = firstM L t j := by rw [lineM, if_pos h]
theorem fbP_line {L : List ByteArray} {pl pc n : Int} {up : Bool} (h : plcB L pl pc = true) (h0 : 0 ≤ n) (hlen : L.length ≤ 1000000) : fbP L pl pc n up = lineM L (vertT pl (min n 1073741824) up) false := by
  have q := plcB_spec h
  unfold fbP lineM
  by_cases hv : vertI L pl n up = true
  · have e : min n 1073741824 = n := by cases up <;> simp [vertI] at hv <;> omega
    rw [if_pos ⟨h, h0, hv⟩, e, if_pos]
    cases up <;> simp [vertI, vertT] at hv ⊢ <;> omega
  · rw [if_neg (fun e => hv e.2.2), if_neg]
    cases up <;> simp [vertI, vertT] at hv ⊢ <;> omega
theorem vertI_iff {L : List ByteArray} {pl pc n : Int} {up : Bool} (h : plcB L pl pc = true) (h0 : 0 ≤ n) (hlen : L.length ≤ 1000000) :
    (vertI L pl n up = true ∧ vertT pl (min n 1073741824) up = vertT pl n up ∧ 0 ≤ vertT pl n up ∧ vertT pl n up < L.length) ∨ (¬ vertI L pl n up = true ∧ ¬ (0 ≤ vertT pl (min n 1073741824) up ∧ vertT pl (min n 1073741824) up < L.length)) := by
  have q := plcB_spec h
  by_cases hv : vertI L pl n up = true
  · left
    have e : min n 1073741824 = n := by cases up <;> simp [vertI] at hv <;> omega
    refine ⟨hv, by rw [e], ?_⟩
    cases up <;> simp [vertI, vertT] at hv ⊢ <;> omega
  · right
    refine ⟨hv, ?_⟩
    cases up <;> simp [vertI, vertT] at hv ⊢ <;> omega
theorem underP_line {L : List ByteArray} {pl pc n : Int} (h : plcB L pl pc = true) (h0 : 1 ≤ n) (hlen : L.length ≤ 1000000) : underP L pl pc n = lineM L (pl + min n 1073741824 - 1) false := by
  have q := plcB_spec h
  rw [underP, if_pos h0, fbP_line h (by omega) hlen]
  unfold lineM vertT
  by_cases hv : n ≤ 1073741824
  · have e : pl + min (n - 1) 1073741824 = pl + min n 1073741824 - 1 := by omega
    simp only [if_neg (by decide : ¬ (false = true)), e]
  · rw [if_neg (by simp; omega), if_neg (by omega)]
theorem plusP_line {L : List ByteArray} {pl pc n : Int} (h : plcB L pl pc = true) (h0 : 1 ≤ n) (hlen : L.length ≤ 1000000) : plusP L pl pc n = lineM L (pl + min n 1073741824) false := by
  rw [plusP, if_pos h0, fbP_line h (by omega) hlen]; rfl
theorem minusP_line {L : List ByteArray} {pl pc n : Int} (h : plcB L pl pc = true) (h0 : 1 ≤ n) (hlen : L.length ≤ 1000000) : minusP L pl pc n = lineM L (pl - min n 1073741824) false := by
  rw [minusP, if_pos h0, fbP_line h (by omega) hlen]; rfl
def gotoP (L : List ByteArray) (pl pc n : Int) : Mov × Bool := if plcB L pl pc = true ∧ 1 ≤ n then lineM L (n - 1) true else noMov
/-- Where in the window. -/
def shownN (L : List ByteArray) (top : Int) : Int := min 10 (L.length - max top 0)
def screenT (L : List ByteArray) (top key n : Int) : Int :=
  if key = 72 then max top 0 + min n (shownN L top) - 1 else if key = 76 then max top 0 + (shownN L top - min n (shownN L top)) else max top 0 + (shownN L top - 1) / 2
def screenP (L : List ByteArray) (pl pc top key n : Int) : Mov × Bool :=
  if plcB L pl pc = true ∧ 1 ≤ n ∧ max top 0 < L.length ∧ (key = 72 ∨ key = 76 ∨ key = 77) then firstM L (screenT L top key n) true else noMov
theorem screenT_in {L : List ByteArray} {top key n : Int} (hn : 1 ≤ n) (ht : max top 0 < L.length) : 0 ≤ screenT L top key n ∧ screenT L top key n < L.length := by
  have h1 : shownN L top = min 10 (L.length - max top 0) := rfl
  unfold screenT
  rw [h1]
  by_cases k1 : key = 72
  · rw [if_pos k1]; omega
  · rw [if_neg k1]
    by_cases k2 : key = 76
    · rw [if_pos k2]; omega
    · rw [if_neg k2]; omega
end Go.Proofs.Ytlbbgocggifjaaa
