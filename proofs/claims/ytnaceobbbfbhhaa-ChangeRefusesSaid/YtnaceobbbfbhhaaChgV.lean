/- Layer 21: changes that are refused. Plain Lean but for its imports. Conditions: none. -/
import Derived.Test.YtnaceobbbfbhhaaChgU
namespace Go.Proofs.Ytnaceobbbfbhhaa

abbrev cX : List ByteArray := [⟨#[120]⟩]
/-- The change that serves. -/
abbrev goodC (L : List ByteArray) : Chg := (0, L.take 1, cX)
theorem good_some {L : List ByteArray} (h : 0 < L.length) : applyP L (goodC L) = some (cX ++ L.drop 1) := by
  have hl : (L.take 1).length = 1 := by simp; omega
  have := applyP_yes (L := L) (O := L.take 1) (N := cX) (k := 0) (by omega) (by rw [hl]; simp) (by rw [hl, List.drop_zero])
  rw [hl] at this
  simpa using this
theorem good_all {L : List ByteArray} (h : 0 < L.length) : applyAll L [goodC L] = some (cX ++ L.drop 1) := by rw [applyAll_one, good_some h]
theorem refused_all {L : List ByteArray} {c : Chg} (cs : List Chg) (h : applyP L c = none) : applyAll L (c :: cs) = none ∧ fitsP L (c :: cs) = false := by
  constructor
  · simp [applyAll, h]
  · simp [fitsP, h]
theorem bad_none {L : List ByteArray} {at_ : Int} {O N : List ByteArray} (h : (L.length : Int) < at_) : applyP L (at_, O, N) = none := applyP_no (fun hh => by have := hh.2.1; simp only at this; omega)
theorem neg_none {L : List ByteArray} {O N : List ByteArray} : applyP L (-1, O, N) = none := applyP_no (fun hh => by have := hh.1; simp only at this; omega)
theorem empty_none {L : List ByteArray} : applyP L (0, L, []) = none := applyP_no (fun hh => hh.2.2.2.1 (by simp))
theorem odd_none {L : List ByteArray} {j : Nat} {s : ByteArray} {O N : List ByteArray} (hj : j < L.length) (hs : L.getD j .empty ≠ s) : applyP L ((j : Int), s :: O, N) = none := applyP_no (fun hh => by
  have h5 := hh.2.2.2.2
  simp only [Int.toNat_natCast, List.length_cons] at h5
  rw [List.drop_eq_getElem_cons hj, List.take_succ_cons] at h5
  have := (List.cons.inj h5).1
  rw [List.getD_eq_getElem?_getD, List.getElem?_eq_getElem hj] at hs
  exact hs this)
theorem good_bad {L : List ByteArray} (h : 0 < L.length) {at_ : Int} {O N : List ByteArray} (hb : (L.length : Int) < at_) : applyAll L [goodC L, (at_, O, N)] = none ∧ fitsP L [goodC L, (at_, O, N)] = false := by
  have hl : (cX ++ L.drop 1).length = L.length := by simp; omega
  have h2 : applyP (cX ++ L.drop 1) (at_, O, N) = none := bad_none (by rw [hl]; exact hb)
  constructor
  · simp only [applyAll, good_some h, h2]
  · simp only [fitsP, good_some h, h2]
    split <;> rfl
end Go.Proofs.Ytnaceobbbfbhhaa
