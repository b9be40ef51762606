/- A text's blocks are the runs of a line: of one byte for each line. Plain Lean, no program in sight. Conditions: none. -/
import Derived.Test.YtnaceobbbfbhhaaWordP
import Derived.Test.YtnaceobbbfbhhaaParaP
namespace Go.Proofs.Ytnaceobbbfbhhaa

/-- A line of one byte for each line of a text: a blank for an empty one. -/
def blkS (L : List ByteArray) : ByteArray := ⟨(L.map (fun s : ByteArray => if s.size = 0 then (32 : UInt8) else 97)).toArray⟩
theorem blkS_size (L : List ByteArray) : (blkS L).size = L.length := by
  show (L.map (fun s : ByteArray => if s.size = 0 then (32 : UInt8) else 97)).toArray.size = L.length
  rw [List.size_toArray, List.length_map]
theorem blk_byt {L : List ByteArray} {i : Nat} (h : i < L.length) : byt (blkS L) i = if emp L i = true then 32 else 97 := by
  have e : emp L i = (L[i].size == 0) := by rw [emp, List.getD_eq_getElem?_getD, List.getElem?_eq_getElem h]; rfl
  rw [e]
  show ((((L.map (fun s : ByteArray => if s.size = 0 then (32 : UInt8) else 97)).toArray.toList.getD i 0).toNat : Nat) : Int) = _
  rw [List.getD_eq_getElem?_getD, List.getElem?_map, List.getElem?_eq_getElem h]
  simp only [Option.map_some, Option.getD_some, beq_iff_eq]
  split <;> rfl
theorem blk_cls {L : List ByteArray} {i : Nat} (h : i < L.length) : clsB (blkS L) true i = if emp L i = true then 0 else 1 := by
  rw [clsB, blk_byt h]
  split <;> rfl
theorem blk_same {L : List ByteArray} {i j : Nat} (hi : i < L.length) (hj : j < L.length) : (clsB (blkS L) true i = clsB (blkS L) true j) ↔ emp L i = emp L j := by
  rw [blk_cls hi, blk_cls hj]
  cases emp L i <;> cases emp L j <;> decide
/-- The blocks that are still told, from line k on, one being open since fr. -/
def blkF (L : List ByteArray) (fr k : Nat) : List (Nat × Nat) := runF (blkS L) true fr k
theorem blk_on {L : List ByteArray} {fr k : Nat} (h : k + 1 < L.length) (he : emp L (k + 1) = emp L k) : blkF L fr k = blkF L fr (k + 1) :=
  runF_on (by rw [blkS_size]; exact h) ((blk_same h (by omega)).2 he)
theorem blk_cut {L : List ByteArray} {fr k : Nat} (h : k < L.length) (hc : ¬ (k + 1 < L.length ∧ emp L (k + 1) = emp L k)) : blkF L fr k = (fr, k + 1) :: blkF L (k + 1) (k + 1) :=
  runF_cut (by rw [blkS_size]; exact h) (fun e => hc (by rw [blkS_size] at e; exact ⟨e.1, (blk_same e.1 h).1 e.2⟩))
theorem blk_end {L : List ByteArray} {fr k : Nat} (h : L.length ≤ k) : blkF L fr k = [] := runF_end (by rw [blkS_size]; exact h)
/-- Where a text's blocks begin and end. -/
def blkP (L : List ByteArray) : List (Nat × Nat) := blkF L 0 0
theorem blkP_chain (L : List ByteArray) : chainR (blkS L) true 0 (blkP L) := runF_all
theorem blkP_len (L : List ByteArray) : (blkP L).length ≤ L.length := by
  have := chain_len (blkP_chain L)
  rw [blkS_size] at this
  omega
end Go.Proofs.Ytnaceobbbfbhhaa
