/- The contract of slices.Concat, of three lists of places. Conditions: lengths that a machine bears. -/
import Derived.Test.YtnaceobbbfbhhaaCat
namespace Go.Proofs.Ytnaceobbbfbhhaa
open Go.RowKit Go.Shelf

theorem cat3_any (W : World) (r1 r2 r3 : List (Nat × Nat)) (a1 a2 a3 : Option Addr) (c1 c2 c3 B : Nat) (hB : B = W.heap.size) (h1 : PairsAt W a1 r1) (h2 : PairsAt W a2 r2) (h3 : PairsAt W a3 r3) (hs : r1.length + r2.length + r3.length ≤ 100000) :
    Calls Try.prog 84 #[.slice (some ⟨B, 0, none⟩) 3 3] (W.alloc (.cells #[.slice a1 r1.length c1, .slice a2 r2.length c2, .slice a3 r3.length c3] 48)) fun e w' =>
      ∃ a c, e = .returned (.slice a (r1 ++ (r2 ++ r3)).length c) ∧ PairsAt w' a (r1 ++ (r2 ++ r3)) ∧ Below W.heap.size W w' := by
  subst hB
  obtain ⟨V, hV⟩ : ∃ V : List Sl, V = [(a1, r1.length, c1, cellsV r1), (a2, r2.length, c2, cellsV r2), (a3, r3.length, c3, cellsV r3)] := ⟨_, rfl⟩
  have hb := (Below.refl W.heap.size W).alloc (Nat.le_refl _) (.cells #[.slice a1 r1.length c1, .slice a2 r2.length c2, .slice a3 r3.length c3] 48)
  have cc := fun (R1 R2 : List (Nat × Nat)) => show cellsV (R1 ++ R2) = cellsV R1 ++ cellsV R2 by
    induction R1 with
    | nil => rfl
    | cons p R1 ih => simp only [List.cons_append, cellsV, ih]
  have hS : SlsAt (W.alloc (.cells #[.slice a1 r1.length c1, .slice a2 r2.length c2, .slice a3 r3.length c3] 48)) W.heap.size 0 2 V := by
    subst hV
    refine ⟨by simp, fun k hk => ?_⟩
    have hk3 : k < 3 := by simpa using hk
    rcases (by omega : k = 0 ∨ k = 1 ∨ k = 2) with rfl | rfl | rfl
    · exact ⟨by simp [go_sem], (Src.of_pairs h1).below hb (Nat.le_refl _)⟩
    · exact ⟨by simp [go_sem], (Src.of_pairs h2).below hb (Nat.le_refl _)⟩
    · exact ⟨by simp [go_sem], (Src.of_pairs h3).below hb (Nat.le_refl _)⟩
  have hm : sumM V = (r1 ++ (r2 ++ r3)).length := by subst hV; simp [sumM]
  have hc : catV V = cellsV (r1 ++ (r2 ++ r3)) := by subst hV; simp [catV, cc]
  have hl : V.length = 3 := by subst hV; rfl
  have := concatP_any W.heap.size 0 3 V _ hS (by omega) (by rw [hm]; simp; omega)
  rw [hl] at this
  refine this.mono ?_
  rintro e w' ⟨v, rfl, hrow, hbl⟩
  rw [hm, hc] at hrow
  obtain ⟨a, c, rfl, hp⟩ := pairs_of_owns hrow
  exact ⟨a, c, rfl, hp, hb.trans (hbl.mono (by simp))⟩
end Go.Proofs.Ytnaceobbbfbhhaa
