/- What a round keeps: all that lay below n, and every block of type t, but for a few blocks. No program in sight. Conditions: none. -/
import Derived.Test.YtnaceobbbfbhhaaBut
namespace Go.Proofs.Ytnaceobbbfbhhaa
open Go.RowKit Go.Shelf

/-- Below block n all lies as it lay, and so does each block of cells of type t; but for the blocks E. -/
structure Typ (t : TypeId) (n : Nat) (E : List Nat) (X Y : World) : Prop where
  os : Y.os = X.os
  tape : Y.tape = X.tape
  output : Y.output = X.output
  size : X.heap.size ≤ Y.heap.size
  block : ∀ k, k < n → k < X.heap.size → k ∉ E → Y.heap[k]? = X.heap[k]?
  row : ∀ k cs m, X.heap[k]? = some (.cells cs t m) → k ∉ E → Y.heap[k]? = some (.cells cs t m)
theorem Typ.refl (t : TypeId) (n : Nat) (E : List Nat) (X : World) : Typ t n E X X := ⟨rfl, rfl, rfl, Nat.le_refl _, fun _ _ _ _ => rfl, fun _ _ _ h _ => h⟩
theorem Typ.trans {t : TypeId} {n : Nat} {E : List Nat} {X Y Z : World} (h : Typ t n E X Y) (k : Typ t n E Y Z) : Typ t n E X Z :=
  ⟨k.os.trans h.os, k.tape.trans h.tape, k.output.trans h.output, Nat.le_trans h.size k.size, fun i hi hx he => (k.block i hi (Nat.lt_of_lt_of_le hx h.size) he).trans (h.block i hi hx he), fun i cs m hi he => k.row i cs m (h.row i cs m hi he) he⟩
theorem Typ.cell {t : TypeId} {n : Nat} {E : List Nat} {X Y : World} (h : Typ t n E X Y) {b o : Nat} {v : Value} (hb : b < n) (he : b ∉ E) (hc : X.cell? ⟨b, o, none⟩ = some v) : Y.cell? ⟨b, o, none⟩ = some v := by
  rw [← hc]
  simp [World.cell?, h.block b hb (World.block_lt_of_cell? _ _ hc) he]
theorem Typ.grown {t : TypeId} {n : Nat} {E : List Nat} {X Y Z : World} {r : Option Nat} (h : Typ t n E X Y) (g : Y.grownBy Z r) (hr : ∀ j, r = some j → (n ≤ j ∨ j ∈ E) ∧ (j ∈ E ∨ ∀ cs m, Y.heap[j]? ≠ some (.cells cs t m))) : Typ t n E X Z :=
  h.trans ⟨g.os, g.tape, g.output, g.size, fun k hk hx he => g.block k hx (fun e => by
      rcases (hr k e.symm).1 with h1 | h1
      · omega
      · exact he h1), fun k cs m hk he => by
      rw [g.block k (Array.getElem?_eq_some_iff.1 hk).1 (fun e => by
        rcases (hr k e.symm).2 with h1 | h1
        · exact he h1
        · exact h1 cs m hk)]
      exact hk⟩
theorem Typ.alloc {t : TypeId} {n : Nat} {E : List Nat} {X Y : World} (h : Typ t n E X Y) (o : Obj) : Typ t n E X (Y.alloc o) := h.grown (World.grownBy_alloc Y o none) (fun r e => by cases e)
theorem Typ.setCell {t : TypeId} {n : Nat} {E : List Nat} {X Y : World} (h : Typ t n E X Y) {b : Nat} (hb : b ∈ E) (o : Nat) (v : Value) : Typ t n E X (Y.setCell ⟨b, o, none⟩ v) :=
  h.trans ⟨rfl, rfl, rfl, by simp [World.setCell], fun k _ _ he => Below.heap_setCell _ _ _ k (fun e => he (by have e' : k = b := e; rw [e']; exact hb)),
    fun k cs m hk he => (Below.heap_setCell _ _ _ k (fun e => he (by have e' : k = b := e; rw [e']; exact hb))).trans hk⟩
theorem Typ.drew {t : TypeId} {n : Nat} {E : List Nat} {X Y : World} (h : Typ t n E X Y) : Typ t n E X Y.drew := ⟨h.os, h.tape, h.output, h.size, h.block, h.row⟩
theorem Typ.drewN {t : TypeId} {n : Nat} {E : List Nat} {X Y : World} (h : Typ t n E X Y) (m : Nat) : Typ t n E X (Y.drewN m) := ⟨h.os, h.tape, h.output, h.size, h.block, h.row⟩
theorem Typ.of_below {t : TypeId} {n : Nat} {E : List Nat} {X Y : World} (h : Below X.heap.size X Y) : Typ t n E X Y :=
  ⟨h.os, h.tape, h.output, h.size, fun k _ hx _ => h.block k hx, fun k _cs _m hk _ => (h.block k (Array.getElem?_eq_some_iff.1 hk).1).trans hk⟩
theorem Typ.below {t : TypeId} {n m : Nat} {E : List Nat} {w X Y : World} (h : Typ t n E X Y) (hw : Below m w X) (hm : m ≤ n) (hx : m ≤ X.heap.size) (hE : ∀ k ∈ E, m ≤ k) : Below m w Y :=
  ⟨h.os.trans hw.os, h.tape.trans hw.tape, h.output.trans hw.output, Nat.le_trans hw.size h.size, fun k hk => (h.block k (by omega) (by omega) (fun e => by have := hE k e; omega)).trans (hw.block k hk)⟩
theorem typK_b {t : TypeId} {n : Nat} {E : List Nat} {w : World} (hn : n ≤ w.heap.size) (W : World) (l : Nat) (o o' : Obj) (hl : w.heap.size ≤ l) (h : W.heap[l]? = some o) (h1 : o.isCells = false) (_ : o.isWalk = false) : Typ t n E W (W.putObj l o') :=
  (Typ.refl t n E W).grown (grownBy_putObj' W l o') (fun j e => by
    cases e
    refine ⟨.inl (by omega), .inr (fun cs m e => ?_)⟩
    rw [h] at e
    cases e
    simp [Obj.isCells] at h1)
/-- An owned row of type t lies as it lay. -/
theorem Typ.row_kept {t : TypeId} {n base size k : Nat} {E : List Nat} {X Y : World} {v : Value} {xs : List Value} (h : Typ t n E X Y) (hr : X.ownsRow base t size v k xs) (hE : ∀ j ∈ E, j < base) : Y.ownsRow base t size v k xs := by
  refine ⟨hr.1, ?_⟩
  rcases hr.2 with h0 | ⟨g, cap, cur, e, hb, hg, hc, hm, hs, ht⟩
  · exact .inl h0
  · exact .inr ⟨g, cap, cur, e, hb, h.row g cur _ hg (fun hh => by have := hE g hh; omega), hc, hm, hs, ht⟩
/-- A row of another type, in which a round writes. -/
theorem own_other {t e : TypeId} {base size k : Nat} {X : World} {v : Value} {xs : List Value} (hte : e ≠ t) (hr : X.ownsRow base e size v k xs) : ∀ j, v.ownBlock = some j → base ≤ j ∧ ∀ cs m, X.heap[j]? ≠ some (.cells cs t m) := by
  intro j hj
  rcases hr.2 with ⟨rfl, _⟩ | ⟨g, cap, cur, rfl, hb, hg, _⟩
  · simp [Value.ownBlock] at hj
  · obtain rfl : g = j := by simpa [Value.ownBlock] using hj
    refine ⟨hb, fun cs m e => ?_⟩
    rw [hg] at e
    cases e
    exact hte rfl
end Go.Proofs.Ytnaceobbbfbhhaa
