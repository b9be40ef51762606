/- What paragraphs at a place are. Plain Lean, no program in sight. Conditions: none. -/
import Derived.Test.YtnaceobbbfbhhaaBlkP
import Derived.Test.YtnaceobbbfbhhaaInFP
import Derived.Test.YtnaceobbbfbhhaaByteP
namespace Go.Proofs.Ytnaceobbbfbhhaa

/-- The blocks from k on. -/
def innB (R : List (Nat × Nat)) (k n : Nat) : Rng × Bool := if n ≤ R.length - k then ((1, ((R.getD k (0, 0)).1 : Int), 0, ((R.getD (k + n - 1) (0, 0)).2 : Int) - 1, 0), true) else noR
/-- The blocks from k on with those beside them. -/
def aroB (R : List (Nat × Nat)) (e : Bool) (k n : Nat) : Rng × Bool :=
  if k + 2 * n ≤ R.length then ((1, ((R.getD k (0, 0)).1 : Int), 0, ((R.getD (k + 2 * n - 1) (0, 0)).2 : Int) - 1, 0), true)
  else if k + 2 * n = R.length + 1 ∧ e = false ∧ 0 < k then ((1, ((R.getD (k - 1) (0, 0)).1 : Int), 0, ((R.getD (R.length - 1) (0, 0)).2 : Int) - 1, 0), true)
  else noR
def paraOP (L : List ByteArray) (pl pc n : Int) (around : Bool) : Rng × Bool :=
  if 1 ≤ n ∧ byteB L pl pc = true then (if around = true then aroB (blkP L) (emp L pl.toNat) (inF pl.toNat (blkP L)) n.toNat else innB (blkP L) (inF pl.toNat (blkP L)) n.toNat) else noR
theorem paraOP_no {L : List ByteArray} {pl pc n : Int} {around : Bool} (h : ¬ (1 ≤ n ∧ byteB L pl pc = true)) : paraOP L pl pc n around = noR := by rw [paraOP, if_neg h]
theorem blk_in {L : List ByteArray} {pl pc n : Int} (h : 1 ≤ n ∧ byteB L pl pc = true) : ∃ l c m k : Nat, pl = l ∧ pc = c ∧ n = m ∧ l < L.length ∧ 1 ≤ m ∧ byteB L l c = true ∧ inR (blkP L) l k ∧ inF l (blkP L) = k ∧
    (∀ around, paraOP L l c m around = if around = true then aroB (blkP L) (emp L l) k m else innB (blkP L) k m) := by
  obtain ⟨h1, h2⟩ := h
  have hp : plcB L pl pc = true := by
    cases hp : plcB L pl pc with
    | true => rfl
    | false => rw [byteB_no hp] at h2; cases h2
  obtain ⟨p1, p2, p3, p4⟩ := plcB_spec hp
  obtain ⟨l, rfl⟩ := Int.eq_ofNat_of_zero_le p1
  obtain ⟨c, rfl⟩ := Int.eq_ofNat_of_zero_le p3
  obtain ⟨m, rfl⟩ := Int.eq_ofNat_of_zero_le (show 0 ≤ n by omega)
  obtain ⟨k, hk⟩ := chain_find (blkP_chain L) (Nat.zero_le l) (by rw [blkS_size]; omega)
  have hi := inF_eq (blkP_chain L) hk
  refine ⟨l, c, m, k, rfl, rfl, rfl, by omega, by omega, h2, hk, hi, fun around => ?_⟩
  rw [paraOP, if_pos ⟨h1, h2⟩]
  simp only [Int.toNat_natCast, hi]
theorem blk_le {L : List ByteArray} {k : Nat} (hk : k < (blkP L).length) : ((blkP L).getD k (0, 0)).1 < ((blkP L).getD k (0, 0)).2 ∧ ((blkP L).getD k (0, 0)).2 ≤ L.length := by
  obtain ⟨_, g2, g3, _⟩ := chain_at (blkP_chain L) hk
  rw [blkS_size] at g3
  exact ⟨g2, g3⟩
theorem innB_yes {R : List (Nat × Nat)} {k n x y : Nat} (h : n ≤ R.length - k) (hx : (R.getD k (0, 0)).1 = x) (hy : (R.getD (k + n - 1) (0, 0)).2 = y) : innB R k n = ((1, (x : Int), 0, (y : Int) - 1, 0), true) := by rw [innB, if_pos h, hx, hy]
theorem innB_no {R : List (Nat × Nat)} {k n : Nat} (h : ¬ n ≤ R.length - k) : innB R k n = noR := by rw [innB, if_neg h]
theorem aroB_in {R : List (Nat × Nat)} {e : Bool} {k n x y : Nat} (h : k + 2 * n ≤ R.length) (hx : (R.getD k (0, 0)).1 = x) (hy : (R.getD (k + 2 * n - 1) (0, 0)).2 = y) : aroB R e k n = ((1, (x : Int), 0, (y : Int) - 1, 0), true) := by rw [aroB, if_pos h, hx, hy]
theorem aroB_end {R : List (Nat × Nat)} {k n x y : Nat} (h : k + 2 * n = R.length + 1) (hk : 0 < k) (hx : (R.getD (k - 1) (0, 0)).1 = x) (hy : (R.getD (R.length - 1) (0, 0)).2 = y) : aroB R false k n = ((1, (x : Int), 0, (y : Int) - 1, 0), true) := by
  rw [aroB, if_neg (by omega), if_pos ⟨h, rfl, hk⟩, hx, hy]
theorem aroB_no {R : List (Nat × Nat)} {e : Bool} {k n : Nat} (h : ¬ k + 2 * n ≤ R.length) (h2 : ¬ (k + 2 * n = R.length + 1 ∧ e = false ∧ 0 < k)) : aroB R e k n = noR := by rw [aroB, if_neg h, if_neg h2]
end Go.Proofs.Ytnaceobbbfbhhaa
