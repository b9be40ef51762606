/- A slice of pairs in memory. No program in sight. Conditions: none. -/
import Derived.Test.YtipdiennpijfiaaRng
import Derived.WalkSmall
namespace Go.Proofs.Ytipdiennpijfiaa
open Go.RowKit Go.Shelf

/-- The pairs rs lie in memory at address a. -/
def PairsAt (w : World) (a : Option Addr) (rs : List (Nat × Nat)) : Prop :=
  ∀ i, i < rs.length → ∃ g, a = some ⟨g, 0, none⟩ ∧ g < w.heap.size ∧ w.cell? ⟨g, i * 2, none⟩ = some (.int .i64 ((rs.getD i (0, 0)).1 : Int)) ∧ w.cell? ⟨g, i * 2 + 1, none⟩ = some (.int .i64 ((rs.getD i (0, 0)).2 : Int))
theorem PairsAt.below {w w' : World} {a : Option Addr} {rs : List (Nat × Nat)} (h : PairsAt w a rs) {B : Nat} (hb : Below B w w') (hB : w.heap.size ≤ B) : PairsAt w' a rs := fun i hi => by
  obtain ⟨g, e, hg, c1, c2⟩ := h i hi
  exact ⟨g, e, Nat.lt_of_lt_of_le hg hb.size, (hb.cell (p := ⟨g, i * 2, none⟩) (Nat.lt_of_lt_of_le hg hB)).trans c1, (hb.cell (p := ⟨g, i * 2 + 1, none⟩) (Nat.lt_of_lt_of_le hg hB)).trans c2⟩
theorem PairsAt.ovr {w : World} {a : Option Addr} {rs : List (Nat × Nat)} (h : PairsAt w a rs) (x : World) : PairsAt (ovr w x) a rs := h.below (below_ovr w x) (Nat.le_refl _)
theorem PairsAt.alloc {w : World} {a : Option Addr} {rs : List (Nat × Nat)} (h : PairsAt w a rs) (o : Obj) : PairsAt (w.alloc o) a rs := h.below ((Below.refl w.heap.size w).alloc (Nat.le_refl _) o) (Nat.le_refl _)
theorem PairsAt.drew {w : World} {a : Option Addr} {rs : List (Nat × Nat)} (h : PairsAt w a rs) : PairsAt w.drew a rs := h
theorem PairsAt.drewN {w : World} {a : Option Addr} {rs : List (Nat × Nat)} (h : PairsAt w a rs) (n : Nat) : PairsAt (w.drewN n) a rs := h
theorem PairsAt.split {w : World} {a : Option Addr} {rs : List (Nat × Nat)} (h : PairsAt w a rs) : rs = [] ∨
    ∃ g, a = some ⟨g, 0, none⟩ ∧ g < w.heap.size ∧ 0 < rs.length ∧ ∀ i, i < rs.length → w.cell? ⟨g, i * 2, none⟩ = some (.int .i64 ((rs.getD i (0, 0)).1 : Int)) ∧ w.cell? ⟨g, i * 2 + 1, none⟩ = some (.int .i64 ((rs.getD i (0, 0)).2 : Int)) := by
  by_cases h0 : rs.length = 0
  · exact .inl (List.eq_nil_of_length_eq_zero h0)
  · obtain ⟨g, e, hg, _⟩ := h 0 (by omega)
    refine .inr ⟨g, e, hg, by omega, fun i hi => ?_⟩
    obtain ⟨g', e', _, c⟩ := h i hi
    rw [e] at e'; cases e'
    exact c
/-- The first of them lie there too. -/
theorem PairsAt.take {w : World} {a : Option Addr} {rs : List (Nat × Nat)} (h : PairsAt w a rs) (k : Nat) : PairsAt w a (rs.take k) := fun i hi => by
  have hl : i < k ∧ i < rs.length := by rw [List.length_take] at hi; omega
  obtain ⟨g, e, hg, c1, c2⟩ := h i hl.2
  have : (rs.take k).getD i (0, 0) = rs.getD i (0, 0) := by
    rw [List.getD_eq_getElem?_getD, List.getD_eq_getElem?_getD, List.getElem?_take, if_pos hl.1]
  rw [this]
  exact ⟨g, e, hg, c1, c2⟩
/-- Pairs as a row of cells. -/
def cellsV : List (Nat × Nat) → List Value
  | [] => []
  | p :: rs => .int .i64 (p.1 : Int) :: .int .i64 (p.2 : Int) :: cellsV rs
theorem cellsV_snoc : ∀ (rs : List (Nat × Nat)) (p : Nat × Nat), cellsV (rs ++ [p]) = cellsV rs ++ [.int .i64 (p.1 : Int), .int .i64 (p.2 : Int)]
  | [], _ => rfl
  | x :: rs, p => by rw [List.cons_append, cellsV, cellsV_snoc rs p, cellsV]; rfl
theorem cellsV_at : ∀ (rs : List (Nat × Nat)) (i : Nat), i < rs.length → (cellsV rs)[i * 2]? = some (.int .i64 ((rs.getD i (0, 0)).1 : Int)) ∧ (cellsV rs)[i * 2 + 1]? = some (.int .i64 ((rs.getD i (0, 0)).2 : Int))
  | [], i, h => by simp at h
  | p :: rs, 0, _ => ⟨rfl, rfl⟩
  | p :: rs, i + 1, h => by
    have := cellsV_at rs i (by simpa using h)
    rw [show (i + 1) * 2 = i * 2 + 1 + 1 by omega, cellsV]
    simp only [List.getElem?_cons_succ, List.getD_cons_succ]
    exact this
theorem addr_add (g j : Nat) : (⟨g, 0, none⟩ : Addr).add j = ⟨g, j, none⟩ := by
  unfold Addr.add
  by_cases h : j = 0
  · simp [h]
  · simp [h]
/-- What owns the cells lies there. -/
theorem pairs_of_owns {w : World} {base : Nat} {e : TypeId} {v : Value} {rs : List (Nat × Nat)} (h : w.ownsRow base e 2 v rs.length (cellsV rs)) : ∃ a cap, v = .slice a rs.length cap ∧ PairsAt w a rs := by
  have h' := h
  rcases h.2 with ⟨rfl, h0⟩ | ⟨g, cap, cur, rfl, _, hgb, _⟩
  · have e0 : rs = [] := List.eq_nil_of_length_eq_zero h0
    subst e0
    exact ⟨none, 0, rfl, fun i hi => by simp at hi⟩
  · refine ⟨some ⟨g, 0, none⟩, cap, rfl, fun i hi => ?_⟩
    obtain ⟨c1, c2⟩ := cellsV_at rs i hi
    have k1 := World.ownsRow.cells h' (g := g) rfl _ _ c1
    have k2 := World.ownsRow.cells h' (g := g) rfl _ _ c2
    rw [addr_add] at k1 k2
    exact ⟨g, rfl, (Array.getElem?_eq_some_iff.1 hgb).1, k1, k2⟩
theorem prefix_take {α : Type} {p R : List α} (h : p <+: R) : R.take p.length = p := by
  obtain ⟨t, rfl⟩ := h
  simp
end Go.Proofs.Ytipdiennpijfiaa
