/- Rows in boxes, side by side, of which a round lets one grow. No program in sight but for its types. Conditions: none. -/
import Derived.Test.YtnaceobbbfbhhaaHeard3
import Derived.Test.YtnaceobbbfbhhaaFindP
namespace Go.Proofs.Ytnaceobbbfbhhaa
open Go.RowKit Go.Shelf

/-- Two slices' rows are not one. -/
def Apart (v u : Value) : Prop := ∀ j, v.ownBlock = some j → u.ownBlock ≠ some j
theorem Apart.symm {v u : Value} (h : Apart v u) : Apart u v := fun j h1 h2 => h j h2 h1
/-- A box B with a slice v, which owns the places r. -/
def Row1 (W : World) (n B : Nat) (r : List (Nat × Nat)) (v : Value) : Prop := Boxed W B 48 v ∧ W.ownsRow n 46 2 v r.length (cellsV r)
theorem Row1.grown {X Y : World} {n B : Nat} {r : List (Nat × Nat)} {v : Value} {row : Option Nat} (h : Row1 X n B r v) (hg : X.grownBy Y row) (h1 : some B ≠ row) (h2 : ∀ j, row = some j → v.ownBlock ≠ some j) : Row1 Y n B r v :=
  ⟨h.1.kept hg h1, h.2.kept hg (by
    cases hv : v.ownBlock with
    | none => exact .inl rfl
    | some k => exact .inr (fun e => h2 k e.symm hv))⟩
theorem Row1.ovr {X : World} {n B : Nat} {r : List (Nat × Nat)} {v : Value} (h : Row1 X n B r v) (y : World) : Row1 (ovr X y) n B r v := h.grown (grown_below (below_ovr X y)) (by simp) (fun j e => by cases e)
theorem Row1.alloc {X : World} {n B : Nat} {r : List (Nat × Nat)} {v : Value} (h : Row1 X n B r v) (o : Obj) : Row1 (X.alloc o) n B r v := h.grown (World.grownBy_alloc X o none) (by simp) (fun j e => by cases e)
theorem Row1.drew {X : World} {n B : Nat} {r : List (Nat × Nat)} {v : Value} (h : Row1 X n B r v) : Row1 X.drew n B r v := h
theorem Row1.not_box {X : World} {n B C : Nat} {r : List (Nat × Nat)} {v u : Value} (h : Row1 X n B r v) (hC : Boxed X C 48 u) : v.ownBlock ≠ some C := fun e => hC.not_row (by decide) h.2 e.symm
theorem Row1.setOther {X : World} {n B C : Nat} {r : List (Nat × Nat)} {v u : Value} (h : Row1 X n B r v) (hC : Boxed X C 48 u) (hne : B ≠ C) (u' : Value) : Row1 (X.setCell ⟨C, 0, none⟩ u') n B r v :=
  h.grown (grownBy_setCell' X C u') (by simpa using hne) (fun j e => by cases e; exact h.not_box hC)
theorem Row1.setOwn {X : World} {n B : Nat} {r' : List (Nat × Nat)} {v v' : Value} (h : Boxed X B 48 v) (hr : X.ownsRow n 46 2 v' r'.length (cellsV r')) : Row1 (X.setCell ⟨B, 0, none⟩ v') n B r' v' :=
  ⟨h.set v', hr.kept (grownBy_setCell' X B v') (by
    cases hv : v'.ownBlock with
    | none => exact .inl rfl
    | some k => exact .inr (fun e => h.not_row (by decide) hr (by rw [hv, e])))⟩
/-- Behind an append to one of them: that one, and another. -/
theorem Row1.appended {X w1 : World} {n B : Nat} {r r' : List (Nat × Nat)} {v v' : Value} {tmp : Obj} (h : Row1 X n B r v) (hgrow : (X.alloc tmp).grownBy w1 v.ownBlock) (hown : w1.ownsRow n 46 2 v' r'.length (cellsV r')) :
    Boxed w1 B 48 v ∧ Row1 (w1.setCell ⟨B, 0, none⟩ v') n B r' v' := by
  have h1 : Boxed w1 B 48 v := (h.alloc tmp).1.kept hgrow (h.1.not_row (by decide) h.2)
  exact ⟨h1, Row1.setOwn h1 hown⟩
theorem Row1.other {X w1 : World} {n B C : Nat} {r r2 : List (Nat × Nat)} {v v' v2 : Value} {tmp : Obj} (h2 : Row1 X n C r2 v2) (h : Row1 X n B r v) (hap : Apart v v2) (hne : C ≠ B) (hgrow : (X.alloc tmp).grownBy w1 v.ownBlock) (hat : v'.ownBlock = v.ownBlock ∨ v'.ownBlock = some (X.alloc tmp).heap.size) :
    Row1 (w1.setCell ⟨B, 0, none⟩ v') n C r2 v2 ∧ Apart v' v2 := by
  have hB : Boxed w1 B 48 v := (h.alloc tmp).1.kept hgrow (h.1.not_row (by decide) h.2)
  have k : Row1 w1 n C r2 v2 := (h2.alloc tmp).grown hgrow (fun e => h2.1.not_row (by decide) h.2 e) (fun j e => hap j e)
  refine ⟨k.setOther hB hne v', fun j hj => ?_⟩
  rcases hat with e | e
  · exact hap j (e ▸ hj)
  · intro h3
    have := (h2.2.lt j h3).2
    rw [e] at hj
    simp at hj
    omega
/-- Three of them. -/
def Row3 (W : World) (n A B C : Nat) (ra rb ro : List (Nat × Nat)) : Prop := ∃ va vb vo, Row1 W n A ra va ∧ Row1 W n B rb vb ∧ Row1 W n C ro vo ∧ Apart va vb ∧ Apart va vo ∧ Apart vb vo
theorem row3_own {β : Type} (N n A B C : Nat) (fa fb fo : β → List (Nat × Nat)) : OwnFrom N (fun s W => Row3 W n A B C (fa s) (fb s) (fo s)) := by
  rintro s X Y row ⟨va, vb, vo, ha, hb, ho, p1, p2, p3⟩ hg hr
  have nb : ∀ (C : Nat) (u : Value), Boxed X C 48 u → some C ≠ row := fun C u hC e => by
    obtain ⟨_, o, ho, hc⟩ := hr C e.symm
    rw [show X.heap[C]? = _ from hC] at ho
    cases ho
    simp [Obj.isCells] at hc
  have nr : ∀ (r : List (Nat × Nat)) (v : Value), X.ownsRow n 46 2 v r.length (cellsV r) → ∀ j, row = some j → v.ownBlock ≠ some j := fun r v hro j e hv => by
    obtain ⟨_, o, ho, hc⟩ := hr j e
    rcases hro.2 with ⟨rfl, _⟩ | ⟨g, cap, cur, rfl, _, hgb, _⟩
    · simp [Value.ownBlock] at hv
    · obtain rfl : g = j := by simpa [Value.ownBlock] using hv
      rw [hgb] at ho
      cases ho
      simp [Obj.isCells] at hc
  exact ⟨va, vb, vo, ha.grown hg (nb _ _ ha.1) (nr _ _ ha.2), hb.grown hg (nb _ _ hb.1) (nr _ _ hb.2), ho.grown hg (nb _ _ ho.1) (nr _ _ ho.2), p1, p2, p3⟩
/-- Behind a turn of one of them: that one, and another. -/
theorem Row1.turned {X Y : World} {n B : Nat} {r : List (Nat × Nat)} {v : Value} (h : Row1 X n B r v) (hown : Y.ownsRow n 46 2 v r.length (cellsV r.reverse)) (hg : X.grownBy Y v.ownBlock) : Row1 Y n B r.reverse v :=
  ⟨h.1.kept hg (h.1.not_row (by decide) h.2), by rw [List.length_reverse]; exact hown⟩
theorem Row1.beside {X Y : World} {n B C : Nat} {r r2 : List (Nat × Nat)} {v v2 : Value} (h2 : Row1 X n C r2 v2) (h : Row1 X n B r v) (hap : Apart v v2) (hg : X.grownBy Y v.ownBlock) : Row1 Y n C r2 v2 :=
  h2.grown hg (fun e => h2.1.not_row (by decide) h.2 e) (fun j e => hap j e)
theorem Row1.keeps {X Y : World} {n B : Nat} {r : List (Nat × Nat)} {v : Value} (h : Row1 X n B r v) (hg : X.grownBy Y v.ownBlock) : KeepsOthers X Y := KeepsOthers.of_grownBy hg fun j o ej hj => by
  rcases h.2.2 with ⟨rfl, _⟩ | ⟨g, cap, cur, rfl, _, hgb, _⟩
  · simp [Value.ownBlock] at ej
  · obtain rfl : g = j := by simpa [Value.ownBlock] using ej
    rw [hgb] at hj; cases hj; rfl
theorem Row1.typ {X Y : World} {n B : Nat} {r : List (Nat × Nat)} {v : Value} {E : List Nat} (h : Row1 X n B r v) (hg : X.grownBy Y v.ownBlock) : Typ 3 n E X Y :=
  (Typ.refl _ _ _ _).grown hg (fun j e => by
    have := own_other (t := 3) (by decide) h.2 j e
    exact ⟨.inl this.1, .inr this.2⟩)
theorem fAhd_snoc {l c : Int} {m : Nat} {pre : List (Plc m)} {x : Plc m} : fAhd l c (valsP (pre ++ [x])) = fAhd l c (valsP pre) ++ (if lessB (x.1.1 : Int) (x.1.2 : Int) l c = true then [x.1] else []) := by
  rw [valsP, List.map_append, fAhd, List.filter_append]; congr 1; rw [List.map_cons, List.map_nil, List.filter_cons, List.filter_nil]
theorem behR_snoc' {l c : Int} {m : Nat} {pre : List (Plc m)} {x : Plc m} : behR l c (valsP (pre ++ [x])) = behR l c (valsP pre) ++ (if lessB l c (x.1.1 : Int) (x.1.2 : Int) = true then [x.1] else []) := by
  rw [valsP, List.map_append, behR, List.filter_append]; congr 1; rw [List.map_cons, List.map_nil, List.filter_cons, List.filter_nil]
theorem fOwn_snoc {l c : Int} {m : Nat} {pre : List (Plc m)} {x : Plc m} : fOwn l c (valsP (pre ++ [x])) = fOwn l c (valsP pre) ++ (if (!lessB (x.1.1 : Int) (x.1.2 : Int) l c && !lessB l c (x.1.1 : Int) (x.1.2 : Int)) = true then [x.1] else []) := by
  rw [valsP, List.map_append, fOwn, List.filter_append]; congr 1; rw [List.map_cons, List.map_nil, List.filter_cons, List.filter_nil]
end Go.Proofs.Ytnaceobbbfbhhaa
