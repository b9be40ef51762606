/- The contract of find.Word's own question. Conditions: none beyond what it says. -/
import Derived.Test.YtnaceobbbfbhhaaFWordP
import Derived.Test.YtnaceobbbfbhhaaOfSame
import Derived.Test.YtnaceobbbfbhhaaLine
namespace Go.Proofs.Ytnaceobbbfbhhaa
open Go.RowKit

theorem byt_atW (s : ByteArray) (k : Nat) (h : k < s.size) : byt s k = (s[k].toNat : Int) := by
  simp [byt, List.getD_eq_getElem?_getD, h, ByteArray.getElem_eq_getElem_data]
set_option maxRecDepth 100000 in
set_option maxHeartbeats 2000000 in
theorem fis_any (s : ByteArray) (i : Int) (Bs : Nat) (w : World) (_hs : s.size ≤ 140737488351232) (hB : w.cell? ⟨Bs, 0, none⟩ = some (.string s)) :
    Calls Try.prog 91 #[.int .i64 i, .pointer (some ⟨Bs, 0, none⟩)] w fun e w' => e = .returned (.bool (decide (0 ≤ i) && wrdB s i.toNat)) ∧ w = w' := by
  by_cases h0 : 0 ≤ i
  · obtain ⟨k, rfl⟩ := Int.eq_ofNat_of_zero_le h0
    by_cases h1 : k < s.size
    · have hI : (k : Int) < (s.size : Int) := by omega
      have hb := byt_atW s k h1
      have hw : wrdB s k = (ofC (s[k].toNat : Int) false == 1) := by rw [wrdB, hb, decide_eq_true h1]; rfl
      have HW := Lib.hid hw
      clear hw hb
      go_enter Try.func91, Try.ntmps91
      go_wp2_with (go_at_call 92; refine (of_any _ _ _).mono ?_; rintro e w1 ⟨rfl, rfl⟩)
      go_ret
      exact ⟨ret_bool (by have h := HW.out; simp [h]), rfl⟩
    · have hI : ¬ (k : Int) < (s.size : Int) := by omega
      have hw : wrdB s k = false := by rw [wrdB, decide_eq_false h1]; rfl
      have HW := Lib.hid hw
      clear hw
      go_enter Try.func91, Try.ntmps91
      go_wp2
      go_ret
      exact ⟨ret_bool (by have h := HW.out; simp [h]), rfl⟩
  · have hI : i < 0 := by omega
    have hd : decide (0 ≤ i) = false := decide_eq_false h0
    go_enter Try.func91, Try.ntmps91
    go_wp2
    go_ret
    exact ⟨ret_bool (by simp), rfl⟩
end Go.Proofs.Ytnaceobbbfbhhaa
