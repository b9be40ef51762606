/- What is told by an iterator of places, so many at most. Conditions: what it says of the iterator. -/
import Derived.Test.YtnaceobbbfbhhaaSent3
namespace Go.Proofs.Ytnaceobbbfbhhaa
open Go.RowKit Go.Shelf

attribute [local go_sem] Oper.semAt_some

/-- A place in a box. -/
def Box2 (W : World) (B : Nat) (t : TypeId) (u v : Value) : Prop := W.heap[B]? = some (.cells #[u, v] t (0, 0))
theorem Box2.c0 {W : World} {B : Nat} {t : TypeId} {u v : Value} (h : Box2 W B t u v) : W.cell? ⟨B, 0, none⟩ = some u := by simp [World.cell?, show W.heap[B]? = _ from h]
theorem Box2.c1 {W : World} {B : Nat} {t : TypeId} {u v : Value} (h : Box2 W B t u v) : W.cell? ⟨B, 1, none⟩ = some v := by simp [World.cell?, show W.heap[B]? = _ from h]
theorem Box2.lt {W : World} {B : Nat} {t : TypeId} {u v : Value} (h : Box2 W B t u v) : B < W.heap.size := (Array.getElem?_eq_some_iff.1 h).1
theorem Box2.own {β : Type} (B n : Nat) (t : TypeId) (u v : Value) : OwnFrom (β := β) n (fun _ W => Box2 W B t u v) := fun _ X Y row hs hg hr => by
  refine (hg.block B hs.lt (fun e => ?_)).trans hs
  obtain ⟨o, ho, hc⟩ := (hr B e.symm).2
  rw [show X.heap[B]? = _ from hs] at ho
  cases ho; cases hc
/-- The pairs that came. -/
abbrev valsP {m : Nat} (pre : List (Plc m)) : List (Nat × Nat) := pre.map Subtype.val
theorem typFrom {β : Type} {t : TypeId} {n B : Nat} {E : List Nat} {w₀ : World} (hB : n ≤ B) : OwnFrom B (fun (_ : β) W => Typ t n E w₀ W) :=
  fun _ X Y row hs hg hr => hs.grown hg (fun j e => ⟨.inl (by have := (hr j e).1; omega), .inr (fun cs m e2 => by
    obtain ⟨o, ho, hc⟩ := (hr j e).2
    rw [e2] at ho
    cases ho; cases hc)⟩)
theorem typ_appended {X w1 : World} {n B : Nat} {E : List Nat} {t e t0 : TypeId} {size : Nat} {v v' : Value} {k m : Nat} {xs ys : List Value} {tmp : Obj} (hv : Boxed X B t v) (hte : t ≠ e) (het : e ≠ t0) (hrow : X.ownsRow n e size v k xs) (hown' : w1.ownsRow n e size v' m ys)
    (hgrow : (X.alloc tmp).grownBy w1 v.ownBlock) (_hn : n ≤ X.heap.size) (hE : B ∈ E) :
    Boxed w1 B t v ∧ Boxed (w1.setCell ⟨B, 0, none⟩ v') B t v' ∧ (w1.setCell ⟨B, 0, none⟩ v').ownsRow n e size v' m ys ∧ KeepsOthers X (w1.setCell ⟨B, 0, none⟩ v') ∧ Typ t0 n E X (w1.setCell ⟨B, 0, none⟩ v') := by
  have hv1 : Boxed w1 B t v := (hv.alloc tmp).kept hgrow (hv.not_row hte hrow)
  have ho := own_other het hrow
  refine ⟨hv1, hv1.set v', hown'.kept (grownBy_setCell' w1 B v') (.inr (hv1.not_row hte hown').symm), ?_, ?_⟩
  · refine ((KeepsOthers.alloc X tmp).trans (KeepsOthers.of_grownBy hgrow fun j o ej hj => ?_)).trans (KeepsOthers.setCell _ _ _)
    rcases (hrow.alloc tmp).2 with ⟨rfl, _⟩ | ⟨g, cap, cur, rfl, _, hgb, _⟩
    · simp [Value.ownBlock] at ej
    · obtain rfl : g = j := by simpa [Value.ownBlock] using ej
      rw [hgb] at hj; cases hj; rfl
  · refine (((Typ.refl t0 n E X).alloc tmp).grown hgrow fun j ej => ⟨.inl (ho j ej).1, .inr (fun cs q hq => ?_)⟩).setCell hE 0 v'
    rw [Below.heap_alloc _ _ _ (hrow.lt j ej).2] at hq
    exact (ho j ej).2 cs q hq
theorem appended_box2 {X w1 : World} {Bx : Nat} {t : TypeId} {u v : Value} {tmp : Obj} {r : Option Nat} (h : Box2 X Bx t u v) (hgrow : (X.alloc tmp).grownBy w1 r) (hne : r ≠ some Bx) : Box2 w1 Bx t u v :=
  (hgrow.block Bx (by have := h.lt; simp; omega) (fun e => hne e.symm)).trans ((Below.heap_alloc _ _ _ h.lt).trans h)
end Go.Proofs.Ytnaceobbbfbhhaa
