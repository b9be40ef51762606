/- The plain words of changes. Plain Lean but for its imports. Conditions: none. -/
import Derived.Test.YtnaceobbbfbhhaaCat
namespace Go.Proofs.Ytnaceobbbfbhhaa
open Go.RowKit

/-- A change: where, what was, what is. -/
abbrev Chg := Int × List ByteArray × List ByteArray
/-- What a change makes of a text; none: it can't be. -/
def applyP (L : List ByteArray) (c : Chg) : Option (List ByteArray) :=
  if 0 ≤ c.1 ∧ c.1 ≤ L.length ∧ (c.2.1.length : Int) ≤ L.length - c.1 ∧ (L.length : Int) - c.2.1.length + c.2.2.length ≠ 0 ∧ (L.drop c.1.toNat).take c.2.1.length = c.2.1 then
    some (L.take c.1.toNat ++ (c.2.2 ++ L.drop (c.1.toNat + c.2.1.length)))
  else none
theorem applyP_yes {L O N : List ByteArray} {k : Nat} (h1 : k + O.length ≤ L.length) (h2 : ¬ L.length - O.length + N.length = 0) (h3 : (L.drop k).take O.length = O) : applyP L ((k : Int), O, N) = some (L.take k ++ (N ++ L.drop (k + O.length))) := by
  rw [applyP, if_pos ⟨by simp only; omega, by simp only; omega, by simp only; omega, by simp only; omega, by simpa using h3⟩]
  simp
theorem applyP_no {L : List ByteArray} {c : Chg} (h : ¬ (0 ≤ c.1 ∧ c.1 ≤ L.length ∧ (c.2.1.length : Int) ≤ L.length - c.1 ∧ (L.length : Int) - c.2.1.length + c.2.2.length ≠ 0 ∧ (L.drop c.1.toNat).take c.2.1.length = c.2.1)) : applyP L c = none := by rw [applyP, if_neg h]
theorem applyP_len {L M : List ByteArray} {c : Chg} (h : applyP L c = some M) : M.length ≤ L.length + c.2.2.length ∧ 0 < M.length := by
  rw [applyP] at h
  split at h
  · rename_i hh
    cases h
    obtain ⟨h1, h2, h3, h4, h5⟩ := hh
    simp only [List.length_append, List.length_take, List.length_drop]
    omega
  · cases h
/-- What changes make of a text, one behind another. -/
def applyAll (L : List ByteArray) : List Chg → Option (List ByteArray)
  | [] => some L
  | c :: cs => match applyP L c with | some M => applyAll M cs | none => none
theorem applyAll_snoc : ∀ (cs : List Chg) (L : List ByteArray) (c : Chg), applyAll L (cs ++ [c]) = (applyAll L cs).bind (fun M => applyP M c)
  | [], L, c => by
    simp only [List.nil_append, applyAll, Option.bind_some]
    cases applyP L c <;> rfl
  | d :: cs, L, c => by
    simp only [List.cons_append, applyAll]
    cases applyP L d with
    | none => rfl
    | some M => exact applyAll_snoc cs M c
theorem applyAll_none {cs ds : List Chg} {L : List ByteArray} (h : applyAll L cs = none) : applyAll L (cs ++ ds) = none := by
  induction cs generalizing L with
  | nil => simp [applyAll] at h
  | cons c cs ih =>
    simp only [List.cons_append, applyAll] at h ⊢
    cases hc : applyP L c with
    | none => rfl
    | some M => rw [hc] at h; exact ih h
/-- A text's size. -/
def sizeP (L : List ByteArray) : Nat := (L.map (fun s => s.size + 1)).sum
theorem sizeP_snoc (L : List ByteArray) (k : Nat) (h : k < L.length) : sizeP (L.take (k + 1)) = sizeP (L.take k) + ((L.getD k .empty).size + 1) := by
  rw [take_snoc_getD L .empty k h, sizeP, List.map_append, List.sum_append]; simp [sizeP]
theorem sizeP_app (A B : List ByteArray) : sizeP (A ++ B) = sizeP A + sizeP B := by simp [sizeP]
theorem sizeP_take (L : List ByteArray) (k : Nat) : sizeP (L.take k) ≤ sizeP L := by
  conv => rhs; rw [← List.take_append_drop k L]
  rw [sizeP_app]; omega
theorem sizeP_drop (L : List ByteArray) (k : Nat) : sizeP (L.drop k) ≤ sizeP L := by
  conv => rhs; rw [← List.take_append_drop k L]
  rw [sizeP_app]; omega
theorem len_sizeP : ∀ (L : List ByteArray), L.length ≤ sizeP L
  | [] => Nat.le_refl _
  | s :: L => by
    have := len_sizeP L
    simp only [sizeP, List.map_cons, List.sum_cons, List.length_cons] at *
    omega
theorem mem_sizeP : ∀ {L : List ByteArray} {s : ByteArray}, s ∈ L → s.size < sizeP L
  | t :: L, s, h => by
    have e : sizeP (t :: L) = t.size + 1 + sizeP L := by simp [sizeP]
    rcases List.mem_cons.1 h with rfl | h
    · omega
    · have := mem_sizeP h
      omega
theorem sizeP_cut (L : List ByteArray) (k n : Nat) : sizeP (L.take k) + sizeP (L.drop (k + n)) ≤ sizeP L := by
  have e : L.drop (k + n) = (L.drop k).drop n := by rw [List.drop_drop]
  have h := sizeP_drop (L.drop k) n
  conv => rhs; rw [← List.take_append_drop k L]
  rw [sizeP_app, e]; omega
theorem applyP_size {L M : List ByteArray} {c : Chg} (h : applyP L c = some M) : sizeP M ≤ sizeP L + sizeP c.2.2 := by
  rw [applyP] at h
  split at h
  · cases h
    rw [sizeP_app, sizeP_app]
    have := sizeP_cut L c.1.toNat c.2.1.length
    omega
  · cases h
/-- Do changes fit, and is the text never too great? -/
def fitsP (L : List ByteArray) : List Chg → Bool
  | [] => true
  | c :: cs => match applyP L c with | some M => if sizeP M ≤ 4096 then fitsP M cs else false | none => false
/-- What undoes changes. -/
def invP (cs : List Chg) : List Chg := (cs.map (fun c => (c.1, c.2.2, c.2.1))).reverse
theorem invP_invP (cs : List Chg) : invP (invP cs) = cs := by simp [invP, Function.comp_def]
/-- A change lies at a place of memory. -/
def ChgAt (w : World) (b off : Nat) (c : Chg) : Prop :=
  b < w.heap.size ∧ w.cell? ⟨b, off, none⟩ = some (.int .i64 c.1) ∧ (∃ a cap, w.cell? ⟨b, off + 1, none⟩ = some (.slice a c.2.1.length cap) ∧ LinesAt w a c.2.1 ∧ c.2.1.length ≤ cap) ∧ (∃ a cap, w.cell? ⟨b, off + 2, none⟩ = some (.slice a c.2.2.length cap) ∧ LinesAt w a c.2.2 ∧ c.2.2.length ≤ cap)
theorem ChgAt.below {w w' : World} {b off B : Nat} {c : Chg} (h : ChgAt w b off c) (hb : Below B w w') (hB : w.heap.size ≤ B) : ChgAt w' b off c := by
  obtain ⟨h0, h1, ⟨a1, c1, h2, h3, h4⟩, ⟨a2, c2, h5, h6, h7⟩⟩ := h
  have k := fun (o : Nat) => hb.cell (p := ⟨b, o, none⟩) (Nat.lt_of_lt_of_le h0 hB)
  exact ⟨Nat.lt_of_lt_of_le h0 hb.size, (k _).trans h1, ⟨a1, c1, (k _).trans h2, h3.below hb hB, h4⟩, ⟨a2, c2, (k _).trans h5, h6.below hb hB, h7⟩⟩
/-- Changes lie there. -/
def ChgsAt (w : World) (a : Option Addr) (cs : List Chg) : Prop := ∀ i, i < cs.length → ∃ b off, a = some ⟨b, off, none⟩ ∧ ChgAt w b (off + i * 3) (cs.getD i (0, [], []))
theorem ChgsAt.below {w w' : World} {a : Option Addr} {cs : List Chg} (h : ChgsAt w a cs) {B : Nat} (hb : Below B w w') (hB : w.heap.size ≤ B) : ChgsAt w' a cs := fun i hi => by
  obtain ⟨b, off, e, hc⟩ := h i hi
  exact ⟨b, off, e, hc.below hb hB⟩
theorem ChgsAt.ovr {w : World} {a : Option Addr} {cs : List Chg} (h : ChgsAt w a cs) (x : World) : ChgsAt (ovr w x) a cs := h.below (below_ovr w x) (Nat.le_refl _)
theorem ChgsAt.alloc {w : World} {a : Option Addr} {cs : List Chg} (h : ChgsAt w a cs) (o : Obj) : ChgsAt (w.alloc o) a cs := h.below ((Below.refl w.heap.size w).alloc (Nat.le_refl _) o) (Nat.le_refl _)
/-- What owns strings lies there as lines. -/
theorem lines_of_owns {w : World} {base : Nat} {e : TypeId} {v : Value} {L : List ByteArray} {n : Nat} (h : w.ownsRow base e 1 v n (L.map Value.string)) (hn : n = L.length) (h1 : sizeP L ≤ 100000) : ∃ a cap, v = .slice a L.length cap ∧ LinesAt w a L ∧ L.length ≤ cap := by
  subst hn
  have h' := h
  rcases h.2 with ⟨rfl, h0⟩ | ⟨g, cap, cur, rfl, _, hgb, hc, _⟩
  · have e0 : L = [] := List.eq_nil_of_length_eq_zero h0
    subst e0
    exact ⟨none, 0, rfl, ⟨fun i hi => by simp at hi, by simp, by simp⟩, by simp⟩
  · refine ⟨some ⟨g, 0, none⟩, cap, rfl, ⟨fun i hi => ⟨g, 0, rfl, (Array.getElem?_eq_some_iff.1 hgb).1, ?_⟩, by have := len_sizeP L; omega, fun s hs => by have := mem_sizeP hs; omega⟩, hc⟩
    have := World.ownsRow.cells h' (g := g) rfl i (.string (L.getD i .empty)) (by rw [List.getElem?_map, List.getElem?_eq_getElem hi, List.getD_eq_getElem?_getD, List.getElem?_eq_getElem hi]; rfl)
    rw [addr_add] at this
    rw [Nat.zero_add]
    exact this
/-- A piece of lines. -/
theorem LinesAt.piece {w : World} {a : Option Addr} {L : List ByteArray} (h : LinesAt w a L) {lo n cap : Nat} (hn : lo + n ≤ L.length) (hc : L.length ≤ cap) : LinesAt w (if cap = lo then a else a.map (·.add lo)) ((L.drop lo).take n) := by
  have hl : ((L.drop lo).take n).length = n := by simp; omega
  refine ⟨fun i hi => ?_, by have := h.2.1; omega, fun s hs => h.2.2 s (List.mem_of_mem_drop (List.mem_of_mem_take hs))⟩
  rw [hl] at hi
  obtain ⟨b, off, e, hb, hcell⟩ := h.1 (lo + i) (by omega)
  refine ⟨b, off + lo, ?_, hb, ?_⟩
  · rw [if_neg (by omega), e]
    simp only [Option.map_some, add_none]
  · rw [show off + lo + i = off + (lo + i) by omega, hcell, List.getD_eq_getElem?_getD, List.getD_eq_getElem?_getD, List.getElem?_take_of_lt hi, List.getElem?_drop]
end Go.Proofs.Ytnaceobbbfbhhaa
