/- Rows of pairs: their capacity, their cells. No program in sight. Conditions: none. -/
import Derived.Test.YtipdiennpijfiaaRuns
import Derived.Laws.OwnMore
namespace Go.Proofs.Ytipdiennpijfiaa
open Go.RowKit Go.Shelf

theorem pairs_of_owns_cap {w : World} {base : Nat} {e : TypeId} {v : Value} {rs : List (Nat × Nat)} (h : w.ownsRow base e 2 v rs.length (cellsV rs)) : ∃ a cap, v = .slice a rs.length cap ∧ PairsAt w a rs ∧ rs.length ≤ cap := by
  obtain ⟨a, cap, rfl, hp⟩ := pairs_of_owns h
  refine ⟨a, cap, rfl, hp, ?_⟩
  rcases h.2 with ⟨h1, h0⟩ | ⟨g, cap', cur, h1, _, _, hc, _⟩
  · omega
  · simp only [Value.slice.injEq] at h1
    omega

theorem cellsV_len (rs : List (Nat × Nat)) : (cellsV rs).length = rs.length * 2 := by
  induction rs with
  | nil => rfl
  | cons p rs ih => rw [cellsV, List.length_cons, List.length_cons, ih, List.length_cons]; omega
theorem cellsV_set (pre : List (Nat × Nat)) (f a b : Nat) : (cellsV (pre ++ [(f, a)])).set (pre.length * 2 + 1) (.int .i64 (b : Int)) = cellsV (pre ++ [(f, b)]) := by
  rw [cellsV_snoc, cellsV_snoc, List.set_append_right _ _ (by rw [cellsV_len]; omega), cellsV_len, show pre.length * 2 + 1 - pre.length * 2 = 1 by omega]
  rfl

theorem tri_base {w : World} {base : Nat} {e : TypeId} {k n n' cap : Nat} {a : Option Addr} {cs : List Value} (h : w.ownsRow base e k (.slice a n' cap) n cs) : ∀ g, a = some ⟨g, 0, none⟩ → base ≤ g := by
  intro g hg
  subst hg
  rcases h.2 with ⟨h1, _⟩ | ⟨g', cap', cur, h1, h2, _⟩
  · cases h1
  · cases h1; exact h2

end Go.Proofs.Ytipdiennpijfiaa
