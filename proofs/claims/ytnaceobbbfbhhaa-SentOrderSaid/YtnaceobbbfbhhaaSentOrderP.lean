/- Sentences one by one. Plain Lean but for its imports. Conditions: none. -/
import Derived.Test.YtnaceobbbfbhhaaSentO
import Derived.Test.YtnaceobbbfbhhaaSent6
namespace Go.Proofs.Ytnaceobbbfbhhaa

theorem plc_sent {L : List ByteArray} {i x y : Nat} (hi : i < (sentP L).length) (hx : (sentP L).getD i (0, 0) = (x, y)) : plcB L (x : Int) (y : Int) = true := by
  have hm : (x, y) ∈ sentP L := by rw [← hx]; exact getD_mem (sentP L) (0, 0) i hi
  obtain ⟨h1, h2⟩ := (sentP_in (L := L)).1 _ hm
  rw [plcB, decide_eq_true_eq]
  simp only at h1 h2
  refine ⟨by omega, by omega, by omega, ?_⟩
  rw [Int.toNat_natCast]; omega
theorem getD_drop' {R : List (Nat × Nat)} {i : Nat} : (R.drop (i + 1)).getD (1 - 1) (0, 0) = R.getD (i + 1) (0, 0) := by
  rw [List.getD_eq_getElem?_getD, List.getD_eq_getElem?_getD, List.getElem?_drop]
theorem so_beh {L : List ByteArray} {i x y : Nat} (hi : i < (sentP L).length) (hx : (sentP L).getD i (0, 0) = (x, y)) : behR (x : Int) (y : Int) (sentP L) = (sentP L).drop (i + 1) := by
  have h := behR_at (sentP_sorted L) hi
  rw [hx] at h
  exact h
theorem so_next {L : List ByteArray} {i x y nx ny : Nat} (hi : i + 1 < (sentP L).length) (hx : (sentP L).getD i (0, 0) = (x, y)) (hn : (sentP L).getD (i + 1) (0, 0) = (nx, ny)) : sentNextP L x y 1 false = (((nx : Int), (ny : Int), 0, true, -1), true) := by
  rw [sentNextP, if_pos ⟨plc_sent (by omega) hx, by omega⟩, so_beh (by omega) hx, show (1 : Int).toNat = 1 from rfl]
  exact sentNextO_in (by rw [List.length_drop]; omega) (by rw [getD_drop', hn])
theorem so_last {L : List ByteArray} {i x y : Nat} (hi : i < (sentP L).length) (hl : ¬ i + 1 < (sentP L).length) (hx : (sentP L).getD i (0, 0) = (x, y)) : sentNextP L x y 1 false = ((0, 0, 0, false, 0), false) := by
  rw [sentNextP, if_pos ⟨plc_sent hi hx, by omega⟩, so_beh hi hx, show (1 : Int).toNat = 1 from rfl]
  exact sentNextO_no (by rw [List.length_drop]; omega) (fun h => by cases h.1)
theorem so_back {L : List ByteArray} {i x y nx ny : Nat} (hi : i + 1 < (sentP L).length) (hx : (sentP L).getD (i + 1) (0, 0) = (x, y)) (hn : (sentP L).getD i (0, 0) = (nx, ny)) : sentBackP L x y 1 = (((nx : Int), (ny : Int), 0, true, -1), true) := by
  have h := ahdR_at (sentP_sorted L) hi
  rw [hx] at h
  rw [sentBackP, if_pos ⟨plc_sent hi hx, by omega⟩, h, show (1 : Int).toNat = 1 from rfl, sentBackO, if_pos (by rw [List.length_reverse, List.length_take]; omega)]
  have e : ((sentP L).take (i + 1)).reverse.getD (1 - 1) (0, 0) = (nx, ny) := by
    rw [List.getD_eq_getElem?_getD, List.getElem?_reverse (by rw [List.length_take]; omega), List.length_take, show min (i + 1) (sentP L).length - 1 - (1 - 1) = i by omega, List.getElem?_take_of_lt (by omega), ← List.getD_eq_getElem?_getD, hn]
  rw [e]
  rfl
theorem so_first {L : List ByteArray} {x y : Nat} (hi : 0 < (sentP L).length) (hx : (sentP L).getD 0 (0, 0) = (x, y)) : sentBackP L x y 1 = ((0, 0, 0, false, 0), false) := by
  have h := ahdR_at (sentP_sorted L) hi
  rw [hx] at h
  rw [sentBackP, if_pos ⟨plc_sent hi hx, by omega⟩, h, show (1 : Int).toNat = 1 from rfl, sentBackO, if_neg (by simp)]
  rfl
theorem so_end {L : List ByteArray} {i x y k : Nat} {s : ByteArray} (hi : i < (sentP L).length) (hx : (sentP L).getD i (0, 0) = (x, y)) (hk : L.length - 1 = k) (hs : L.getD k .empty = s) :
    sentNextP L x y (((sentP L).length - i : Nat) : Int) true = (((k : Int), (s.size : Int), 0, true, -1), true) ∨ sentNextP L x y (((sentP L).length - i : Nat) : Int) true = ((0, 0, 0, false, 0), false) := by
  rw [sentNextP, if_pos ⟨plc_sent hi hx, by omega⟩, so_beh hi hx, Int.toNat_natCast, hk, hs]
  cases hl : lessB (x : Int) (y : Int) (k : Int) (s.size : Int) with
  | true => exact .inl (sentNextO_end (by rw [List.length_drop]; omega) hl)
  | false => exact .inr (sentNextO_no (by rw [List.length_drop]; omega) (fun h => by have := h.2.2; rw [hl] at this; cases this))
end Go.Proofs.Ytnaceobbbfbhhaa
