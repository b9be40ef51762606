/- Several texts in one: BlkP, BlkO. Conditions: none beyond what each says. -/
import Derived.Test.YtlbbgocggifjaaaOI4
import Derived.Test.YtlbbgocggifjaaaOI7
import Derived.Test.YtlbbgocggifjaaaOI1
namespace Go.Proofs.Ytlbbgocggifjaaa

/-- A line of one byte for each line of a text: a blank for an empty one. -/
def blkS (L : List ByteArray) : ByteArray := ⟨(L.map (fun s : ByteArray => if s.size = 0 then (32 : UInt8) else 97)).toArray⟩
theorem blkS_size (L : List ByteArray) : (blkS L).size = L.length := by
  show (L.map (fun s : ByteArray => if s.size = 0 then (32 : UInt8) else 97)).toArray.size = L.length
  rw [List.size_toArray, List.length_map]
theorem blk_byt {L : List ByteArray} {i : Nat} (h : i < L.length) : byt (blkS L) i = if emp L i = true then 32 else 97 := by
  have e : emp L i = (L[i].size == 0) := by rw [emp, List.getD_eq_getElem?_getD, List.getElem?_eq_getElem h]; rfl
  rw [e]
  show ((((L.map (fun s : ByteArray => if s.size = 0 then (32 : UInt8) else 97)).toArray.toList.getD i 0).toNat : Nat) : Int) = _
  rw [List.getD_eq_getElem?_getD, List.getElem?_map, List.getElem?_eq_getElem h]
  simp only [Option.map_some, Option.getD_some, beq_iff_eq]
  split <;> rfl
theorem blk_cls {L : List ByteArray} {i : Nat} (h : i < L.length) : clsB (blkS L) true i = if emp L i = true then 0 else 1 := by
  rw [clsB, blk_byt h]
  split <;> rfl
theorem blk_same {L : List ByteArray} {i j : Nat} (hi : i < L.length) (hj : j < L.length) : (clsB (blkS L) true i = clsB (blkS L) true j) ↔ emp L i = emp L j := by
  rw [blk_cls hi, blk_cls hj]
  cases emp L i <;> cases emp L j <;> decide
/-- The blocks that are still told, from line k on, one being open since fr. -/
def blkF (L : List ByteArray) (fr k : Nat) : List (Nat × Nat) := runF (blkS L) true fr k
theorem blk_on {L : List ByteArray} {fr k : Nat} (h : k + 1 < L.length) (he : emp L (k + 1) = emp L k) : blkF L fr k = blkF L fr (k + 1) :=
  runF_on (by rw [blkS_size]; exact h) ((blk_same h (by omega)).2 he)
theorem blk_cut {L : List ByteArray} {fr k : Nat} (h : k < L.length) (hc : ¬ (k + 1 < L.length ∧ emp L (k + 1) = emp L k)) : blkF L fr k = (fr, k + 1) :: blkF L (k + 1) (k + 1) :=
  runF_cut (by rw [blkS_size]; exact h) (fun e => hc (by rw [blkS_size] at e; exact ⟨e.1, (blk_same e.1 h).1 e.2⟩))
theorem blk_end {L : List ByteArray} {fr k : Nat} (h : L.length ≤ k) : blkF L fr k = [] := runF_end (by rw [blkS_size]; exact h)
/-- Where a text's blocks begin and end. -/
def blkP (L : List ByteArray) : List (Nat × Nat) := blkF L 0 0
theorem blkP_chain (L : List ByteArray) : chainR (blkS L) true 0 (blkP L) := runF_all
theorem blkP_len (L : List ByteArray) : (blkP L).length ≤ L.length := by
  have := chain_len (blkP_chain L)
  rw [blkS_size] at this
  omega
end Go.Proofs.Ytlbbgocggifjaaa
namespace Go.Proofs.Ytlbbgocggifjaaa

/-- The blocks from k on. -/
def innB (R : List (Nat × Nat)) (k n : Nat) : Rng × Bool := if n ≤ R.length - k then ((1, ((R.getD k (0, 0)).1 : Int), 0, ((R.getD (k + n - 1) (0, 0)).2 : Int) - 1, 0), true) else noR
/-- The blocks from k on with those beside them. -/
def aroB (R : List (Nat × Nat)) (e : Bool) (k n : Nat) : Rng × Bool :=
  if k + 2 * n ≤ R.length then ((1, ((R.getD k (0, 0)).1 : Int), 0, ((R.getD (k + 2 * n - 1) (0, 0)).2 : Int) - 1, 0), true)
  else if k + 2 * n = R.length + 1 ∧ e = false ∧ 0 < k then ((1, ((R.getD (k - 1) (0, 0)).1 : Int), 0, ((R.getD (R.length - 1) (0, 0)).2 : Int) - 1, 0), true)
  else noR
def paraOP (L : List ByteArray) (pl pc n : Int) (around : Bool) : Rng × Bool :=
  if 1 ≤ n ∧ byteB L pl pc = true then (if around = true then aroB (blkP L) (emp L pl.toNat) (inF pl.toNat (blkP L)) n.toNat else innB (blkP L) (inF pl.toNat (blkP L)) n.toNat) else noR
theorem paraOP_no {L : List ByteArray} {pl pc n : Int} {around : Bool} (h : ¬ (1 ≤ n ∧ byteB L pl pc = true)) : paraOP L pl pc n around = noR := by rw [paraOP, if_neg h]
theorem blk_in {L : List ByteArray} {pl pc n : Int} (h : 1 ≤ n ∧ byteB L pl pc = true) : ∃ l c m k : Nat, pl = l ∧ pc = c ∧ n = m ∧ l < L.length ∧ 1 ≤ m ∧ byteB L l c = true ∧ inR (blkP L) l k ∧ inF l (blkP L) = k ∧
    (∀ around, paraOP L l c m around = if around = true then aroB (blkP L) (emp L l) k m else innB (blkP L) k m) := by
  obtain ⟨h1, h2⟩ := h
  have hp : plcB L pl pc = true := by
    cases hp : plcB L pl pc with
    | true => rfl
    | false => rw [byteB_no hp] at h2; cases h2
  obtain ⟨p1, p2, p3, p4⟩ := plcB_spec hp
  obtain ⟨l, rfl⟩ := Int.eq_ofNat_of_zero_le p1
  obtain ⟨c, rfl⟩ := Int.eq_ofNat_of_zero_le p3
  obtain ⟨m, rfl⟩ := Int.eq_ofNat_of_zero_le (show 0 ≤ n by omega)
  obtain ⟨k, hk⟩ := chain_find (blkP_chain L) (Nat.zero_le l) (by rw [blkS_size]; omega)
  have hi := inF_eq (blkP_chain L) hk
  refine ⟨l, c, m, k, rfl, rfl, rfl, by omega, by omega, h2, hk, hi, fun around => ?_⟩
  rw [paraOP, if_pos ⟨h1, h2⟩]
  simp only [Int.toNat_natCast, hi]
theorem blk_le {L : List ByteArray} {k : Nat} (hk : k < (blkP L).length) : ((blkP L).getD k (0, 0)).1 < ((blkP L).getD k (0, 0)).2 ∧ ((blkP L).getD k (0, 0)).2 ≤ L.length := by
  obtain ⟨_, g2, g3, _⟩ := chain_at (blkP_chain L) hk
  rw [blkS_size] at g3
  exact ⟨g2, g3⟩
theorem innB_yes {R : List (Nat × Nat)} {k n x y : Nat} (h : n ≤ R.length - k) (hx : (R.getD k (0, 0)).1 = x) (hy : (R.getD (k + n - 1) (0, 0)).2 = y) : innB R k n = ((1, (x : Int), 0, (y : Int) - 1, 0), true) := by rw [innB, if_pos h, hx, hy]
theorem innB_no {R : List (Nat × Nat)} {k n : Nat} (h : ¬ n ≤ R.length - k) : innB R k n = noR := by rw [innB, if_neg h]
theorem aroB_in {R : List (Nat × Nat)} {e : Bool} {k n x y : Nat} (h : k + 2 * n ≤ R.length) (hx : (R.getD k (0, 0)).1 = x) (hy : (R.getD (k + 2 * n - 1) (0, 0)).2 = y) : aroB R e k n = ((1, (x : Int), 0, (y : Int) - 1, 0), true) := by rw [aroB, if_pos h, hx, hy]
theorem aroB_end {R : List (Nat × Nat)} {k n x y : Nat} (h : k + 2 * n = R.length + 1) (hk : 0 < k) (hx : (R.getD (k - 1) (0, 0)).1 = x) (hy : (R.getD (R.length - 1) (0, 0)).2 = y) : aroB R false k n = ((1, (x : Int), 0, (y : Int) - 1, 0), true) := by
  rw [aroB, if_neg (by omega), if_pos ⟨h, rfl, hk⟩, hx, hy]
theorem aroB_no {R : List (Nat × Nat)} {e : Bool} {k n : Nat} (h : ¬ k + 2 * n ≤ R.length) (h2 : ¬ (k + 2 * n = R.length + 1 ∧ e = false ∧ 0 < k)) : aroB R e k n = noR := by rw [aroB, if_neg h, if_neg h2]
end Go.Proofs.Ytlbbgocggifjaaa
