/- What a round keeps of what lay below n, but for a few blocks. No program in sight. Conditions: none. -/
import Derived.Test.YtlbbgocggifjaaaRng
namespace Go.Proofs.Ytlbbgocggifjaaa
open Go.RowKit Go.Shelf

/-- Below block n all lies as it lay, but for the blocks E. -/
structure But (n : Nat) (E : List Nat) (X Y : World) : Prop where
  os : Y.os = X.os
  tape : Y.tape = X.tape
  output : Y.output = X.output
  size : X.heap.size ≤ Y.heap.size
  block : ∀ k, k < n → k ∉ E → Y.heap[k]? = X.heap[k]?
theorem But.refl (n : Nat) (E : List Nat) (X : World) : But n E X X := ⟨rfl, rfl, rfl, Nat.le_refl _, fun _ _ _ => rfl⟩
theorem But.trans {n : Nat} {E : List Nat} {X Y Z : World} (h : But n E X Y) (k : But n E Y Z) : But n E X Z :=
  ⟨k.os.trans h.os, k.tape.trans h.tape, k.output.trans h.output, Nat.le_trans h.size k.size, fun i hi he => (k.block i hi he).trans (h.block i hi he)⟩
theorem But.of_below {n : Nat} {E : List Nat} {X Y : World} (h : Below n X Y) : But n E X Y := ⟨h.os, h.tape, h.output, h.size, fun k hk _ => h.block k hk⟩
theorem But.cell {n : Nat} {E : List Nat} {X Y : World} (h : But n E X Y) {b o : Nat} (hb : b < n) (he : b ∉ E) : Y.cell? ⟨b, o, none⟩ = X.cell? ⟨b, o, none⟩ := by
  simp [World.cell?, h.block b hb he]
theorem But.frozen {n : Nat} {E : List Nat} {X Y : World} (h : But n E X Y) {b o : Nat} (hb : b < n) (he : b ∉ E) : Y.frozen? ⟨b, o, none⟩ = X.frozen? ⟨b, o, none⟩ := by
  simp [World.frozen?, h.block b hb he]
theorem But.setCell {n : Nat} {E : List Nat} {X Y : World} (h : But n E X Y) {b : Nat} (hb : b ∈ E ∨ n ≤ b) (o : Nat) (v : Value) : But n E X (Y.setCell ⟨b, o, none⟩ v) :=
  ⟨h.os, h.tape, h.output, by simpa [World.setCell] using h.size, fun k hk he => by
    rw [← h.block k hk he]
    exact Below.heap_setCell _ _ _ k (fun e => by
      have e' : k = b := e
      subst e'
      rcases hb with hb | hb
      · exact he hb
      · omega)⟩
theorem But.grown {n : Nat} {E : List Nat} {X Y Z : World} {row : Option Nat} (h : But n E X Y) (hn : n ≤ Y.heap.size) (g : Y.grownBy Z row) (hr : ∀ r, row = some r → n ≤ r) : But n E X Z :=
  ⟨g.os.trans h.os, g.tape.trans h.tape, g.output.trans h.output, Nat.le_trans h.size g.size, fun k hk he => (g.block k (by omega) (fun e => by have := hr k e.symm; omega)).trans (h.block k hk he)⟩
theorem But.alloc {n : Nat} {E : List Nat} {X Y : World} (h : But n E X Y) (hn : n ≤ Y.heap.size) (o : Obj) : But n E X (Y.alloc o) := h.grown hn (World.grownBy_alloc Y o none) (fun r e => by cases e)
theorem But.drew {n : Nat} {E : List Nat} {X Y : World} (h : But n E X Y) : But n E X Y.drew := ⟨h.os, h.tape, h.output, h.size, h.block⟩
theorem But.drewN {n : Nat} {E : List Nat} {X Y : World} (h : But n E X Y) (m : Nat) : But n E X (Y.drewN m) := ⟨h.os, h.tape, h.output, h.size, h.block⟩
theorem But.below {n m : Nat} {E : List Nat} {w X Y : World} (h : But n E X Y) (hw : Below m w X) (hm : m ≤ n) (hE : ∀ k ∈ E, m ≤ k) : Below m w Y :=
  ⟨h.os.trans hw.os, h.tape.trans hw.tape, h.output.trans hw.output, Nat.le_trans hw.size h.size, fun k hk => (h.block k (by omega) (fun e => by have := hE k e; omega)).trans (hw.block k hk)⟩
theorem butK_b {n : Nat} {E : List Nat} {w : World} (hn : n ≤ w.heap.size) (W : World) (l : Nat) (o o' : Obj) (hl : w.heap.size ≤ l) (h : W.heap[l]? = some o) (h1 : o.isCells = false) (h2 : o.isWalk = false) : But n E W (W.putObj l o') :=
  But.of_below (belowK_b (w := w) hn W l o o' hl h h1 h2)
theorem butFrom {β : Type} {n B : Nat} {E : List Nat} {w₀ : World} (hn : n ≤ w₀.heap.size) (hB : n ≤ B) : OwnFrom B (fun (_ : β) W => But n E w₀ W) :=
  fun _ X Y row hs hg hr => hs.grown (by have := hs.size; omega) hg (fun r e => by have := (hr r e).1; omega)
theorem but_appended {X w1 : World} {n B : Nat} {E : List Nat} {t e : TypeId} {size : Nat} {v v' : Value} {k m : Nat} {xs ys : List Value} (hv : Boxed X B t v) (hte : t ≠ e) (hrow : X.ownsRow n e size v k xs) (hown' : w1.ownsRow n e size v' m ys)
    (hgrow : X.grownBy w1 v.ownBlock) (hn : n ≤ X.heap.size) (hE : B ∈ E) :
    Boxed w1 B t v ∧ Boxed (w1.setCell ⟨B, 0, none⟩ v') B t v' ∧ (w1.setCell ⟨B, 0, none⟩ v').ownsRow n e size v' m ys ∧ KeepsOthers X (w1.setCell ⟨B, 0, none⟩ v') ∧ But n E X (w1.setCell ⟨B, 0, none⟩ v') := by
  have hv1 : Boxed w1 B t v := hv.kept hgrow (hv.not_row hte hrow)
  refine ⟨hv1, hv1.set v', hown'.kept (grownBy_setCell' w1 B v') (.inr (hv1.not_row hte hown').symm), ?_, ?_⟩
  · refine (KeepsOthers.of_grownBy hgrow fun j o ej hj => ?_).trans (KeepsOthers.setCell _ _ _)
    rcases hrow.2 with ⟨rfl, _⟩ | ⟨g, cap, cur, rfl, _, hgb, _⟩
    · simp [Value.ownBlock] at ej
    · obtain rfl : g = j := by simpa [Value.ownBlock] using ej
      rw [hgb] at hj; cases hj; rfl
  · exact ((But.refl n E X).grown hn hgrow fun j ej => (hrow.lt j ej).1).setCell (.inl hE) 0 v'
/-- The builtin append, held, so that a region's walk takes it by its equation alone. -/
def appHold (tys : Array TypeId) (ty : TypeId) (args : Array Value) : Sem Value := Builtin.append_ tys ty args
theorem append_hold (tys : Array TypeId) (ty : TypeId) (args : Array Value) : Builtin.append_ tys ty args = appHold tys ty args := rfl
end Go.Proofs.Ytlbbgocggifjaaa
