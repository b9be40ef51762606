/- The walk of the law ChangeBack. Conditions: none beyond what it says. -/
import Derived.Test.YtnaceobbbfbhhaaChgT
import Derived.Test.YtnaceobbbfbhhaaChgU
import Derived.Test.YtnaceobbbfbhhaaPos0
namespace Go.Proofs.Ytnaceobbbfbhhaa
open Go.RowKit Go.Shelf

set_option maxRecDepth 100000 in
set_option maxHeartbeats 4000000 in
theorem changeBack_walk (a : Option Addr) (cap : Nat) (L : List ByteArray) (b : Option Addr) (cc : Nat) (cs : List Chg) (W : World) (hL : LinesAt W a L) (hc : L.length ≤ cap) (hC : ChgsAt W b cs) (hn : cs.length ≤ 140737488351232)
    (hw : ∀ c ∈ cs, -9223372036854775808 ≤ c.1 ∧ c.1 ≤ 9223372036854775807) :
    Calls Try.prog 4 #[.slice a L.length cap, .slice b cs.length cc] W fun e W' => e = .returned (.bool true) ∧ Below W.heap.size W W' := by
  have HW := Lib.hid hw
  clear hw
  go_enter Try.func4, Try.ntmps4
  go_wp2_with fail
  go_at_call 21; refine (known21_any _).mono ?_; rintro e w1 ⟨rfl, hbl⟩; obtain ⟨x0, rfl⟩ := ovr_of_below hbl; clear hbl
  go_wp2_with fail
  cases hli : textB L with
  | false =>
    go_at_call 35; refine (text_any _ _ L _ (by (repeat (first | assumption | refine LinesAt.ovr ?_ _ | refine LinesAt.alloc ?_ _ | refine LinesAt.drewN ?_ _ | refine LinesAt.drew ?_)))).mono ?_; rw [hli]; rintro e w1 ⟨rfl, rfl⟩
    go_wp2_with fail
    go_ret
    exact ⟨rfl, by (repeat (first | with_reducible exact Below.refl _ _ | (with_reducible refine Below.setCell ?_ ?_ _; rotate_left; · (first | exact Nat.le_refl _ | assumption | omega | (simp; done) | (simp; omega))) | (with_reducible refine Below.alloc ?_ ?_ _; rotate_left; · (first | exact Nat.le_refl _ | assumption | omega | (simp; done) | (simp; omega))) | with_reducible refine below_ovr_of ?_ | with_reducible refine drew_below ?_ _ | with_reducible refine Below.drew ?_ | with_reducible assumption))⟩
  | true =>
    go_at_call 35; refine (text_any _ _ L _ (by (repeat (first | assumption | refine LinesAt.ovr ?_ _ | refine LinesAt.alloc ?_ _ | refine LinesAt.drewN ?_ _ | refine LinesAt.drew ?_)))).mono ?_; rw [hli]; rintro e w1 ⟨rfl, rfl⟩
    go_wp2_with fail
    go_at_call 23; refine (light21_any _ _ cs _ (hC.ovr _) hn).mono ?_; rintro e W1 ⟨⟨q, rfl, hq⟩, hbl⟩; have hb1 := (below_ovr W x0).trans (hbl.mono (by simp)); clear hbl
    cases q with
    | false =>
      go_wp2_with fail
      go_ret
      exact ⟨rfl, hb1⟩
    | true =>
      obtain ⟨h0, _⟩ := text_spec hli
      rw [text_eq h0] at hli
      obtain ⟨P, M, hP, hA1, hA2, hPl, s1, s2, s3, s4, s5, hPw⟩ := made_facts hli (hq rfl)
      have hn12 := (hq rfl).1
      have HA1 := Lib.hid hA1
      have HA2 := Lib.hid (hA2 h0)
      have HPW := Lib.hid hPw
      have HP := Lib.hid hP
      have HIW := Lib.hid (invP_wf hPw)
      have HIS := Lib.hid (sizeC_invP P)
      have HIL := Lib.hid (invP_len P)
      clear hA1 hA2 hPw hP hq
      have hLx := hL.below hb1 (Nat.le_refl _)
      have hCx := hC.below hb1 (Nat.le_refl _)
      clear hC hL
      go_wp2_with fail
      go_at_call 24; refine (made_any _ _ _ _ L cs _ hLx hc hCx (by omega) (by omega) (by omega)).mono ?_; rw [HP.out]; rintro e w2 ⟨⟨v, rfl, hrow⟩, hbl⟩; obtain ⟨pa, pc, rfl, hPa, hPc⟩ := hrow.at
      have hLy := hLx.below hbl (Nat.le_refl _)
      have hb2 := hb1.trans (hbl.mono hb1.size)
      clear hbl hrow hLx hCx hb1
      go_wp2_with fail
      go_at_call 25; refine (applies_any _ _ _ _ L P _ hLy hc hPa (by omega) (by omega) HPW.out).mono ?_; rw [HA1.out]; rintro e w3 ⟨⟨v, rfl, hv⟩, hbl⟩
      obtain ⟨va, vc, rfl, hva, hvc⟩ := hv
      have hLz := hLy.below hbl (Nat.le_refl _)
      have hPz := hPa.below hbl (Nat.le_refl _)
      have hb3 := hb2.trans (hbl.mono hb2.size)
      clear hbl hLy hPa hb2
      go_wp2_with fail
      go_at_call 31; refine (pinv_any _ _ P _ hPz (by omega) (by omega)).mono ?_; rintro e w4 ⟨⟨v, rfl, hrow⟩, hbl⟩; obtain ⟨ia, ic, rfl, hI, hIc⟩ := hrow.at
      have hL4 := hLz.below hbl (Nat.le_refl _)
      have hP4 := hPz.below hbl (Nat.le_refl _)
      have hv4 := hva.below hbl (Nat.le_refl _)
      have hb4 := hb3.trans (hbl.mono hb3.size)
      clear hbl hLz hPz hva hb3 hrow
      go_wp2_with fail
      go_at_call 25; refine (applies_any _ _ _ _ M (invP P) _ hv4 hvc hI (by rw [HIS.out]; omega) (by rw [HIL.out]; omega) HIW.out).mono ?_; rw [HA2.out]; rintro e w5 ⟨⟨v, rfl, hv⟩, hbl⟩
      obtain ⟨ra, rc, rfl, hra, hrc⟩ := hv
      have hL5 := hL4.below hbl (Nat.le_refl _)
      have hP5 := hP4.below hbl (Nat.le_refl _)
      have hb5 := hb4.trans (hbl.mono hb4.size)
      clear hbl hL4 hP4 hv4 hI hb4
      go_wp2_with fail
      go_at_call 27; refine (strings_any _ _ _ _ L L _ hra hL5 (by have := len_sizeP L; omega)).mono ?_; rw [eqB_refl]; rintro e w6 ⟨rfl, hbl⟩
      have hP6 := hP5.below hbl (Nat.le_refl _)
      have hb6 := hb5.trans (hbl.mono hb5.size)
      clear hbl hP5 hra hL5 hb5
      go_wp2_with fail
      go_at_call 31; refine (pinv_any _ _ P _ hP6 (by omega) (by omega)).mono ?_; rintro e w7 ⟨⟨v, rfl, hrow⟩, hbl⟩; obtain ⟨ja, jc, rfl, hJ, hJc⟩ := hrow.at
      have hP7 := hP6.below hbl (Nat.le_refl _)
      have hb7 := hb6.trans (hbl.mono hb6.size)
      clear hbl hP6 hb6 hrow
      go_wp2_with fail
      go_at_call 31; refine (pinv_any _ _ (invP P) _ hJ (by rw [HIL.out]; omega) (by rw [HIS.out]; omega)).mono ?_; rw [invP_invP]; rintro e w8 ⟨⟨v, rfl, hrow⟩, hbl⟩; obtain ⟨ka, kc, rfl, hK, hKc⟩ := hrow.at
      have hP8 := hP7.below hbl (Nat.le_refl _)
      have hb8 := hb7.trans (hbl.mono hb7.size)
      clear hbl hP7 hb7 hrow hJ
      go_wp2_with fail
      go_at_call 30; refine (changes_same _ _ _ _ P _ hK hP8 (by omega) (by omega)).mono ?_; rintro e w9 ⟨rfl, hbl⟩
      have hb9 := hb8.trans (hbl.mono hb8.size)
      clear hbl
      go_wp2_with fail
      go_ret
      exact ⟨by simp, hb9⟩
end Go.Proofs.Ytnaceobbbfbhhaa
