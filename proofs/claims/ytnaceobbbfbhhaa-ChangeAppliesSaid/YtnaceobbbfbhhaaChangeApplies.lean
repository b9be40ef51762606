/- The walk of the law ChangeApplies. Conditions: none beyond what it says. -/
import Derived.Test.YtnaceobbbfbhhaaChgT
import Derived.Test.YtnaceobbbfbhhaaChgU
import Derived.Test.YtnaceobbbfbhhaaPos0
import Derived.Test.YtnaceobbbfbhhaaLawKit
namespace Go.Proofs.Ytnaceobbbfbhhaa
open Go.RowKit Go.Shelf

/-- What is held of changes that lie in memory and serve. -/
def Serves (W : World) (L : List ByteArray) (b : Option Addr) (P : List Chg) : Prop :=
  ChgsAt W b P ∧ P.length ≤ 12 ∧ sizeP L + sizeC P ≤ 90000 ∧ ∀ c ∈ P, (-9223372036854775808 : Int) ≤ c.1 ∧ c.1 ≤ 9223372036854775807
theorem Serves.below {W W' : World} {L : List ByteArray} {b : Option Addr} {P : List Chg} (h : Serves W L b P) {B : Nat} (hb : Below B W W') (hB : W.heap.size ≤ B) : Serves W' L b P := ⟨h.1.below hb hB, h.2⟩
theorem appV_shape {w : World} {R : Option (List ByteArray)} {v : Value} (h : AppV w R v) : ∃ a c, v = .tuple #[.slice a (R.getD []).length c, .bool R.isSome] ∧ LinesAt w a (R.getD []) := by
  cases R with
  | none => exact ⟨none, 0, h, ⟨fun i hi => by simp at hi, by simp, by simp⟩⟩
  | some M =>
    obtain ⟨a, c, e1, l1, _⟩ := h
    exact ⟨a, c, e1, l1⟩
theorem appF_shape {n : Nat} {w : World} {R : Option (List ByteArray)} {v : Value} (h : AppF n w R v) : ∃ a c, v = .tuple #[.slice a (R.getD []).length c, .bool R.isSome] ∧ LinesAt w a (R.getD []) := by
  cases R with
  | none => exact ⟨none, 0, h, ⟨fun i hi => by simp at hi, by simp, by simp⟩⟩
  | some M =>
    obtain ⟨a, c, e1, l1, _⟩ := h
    exact ⟨a, c, e1, l1⟩
theorem bne_self' (q : Bool) : (q != q) = false := by cases q <;> rfl
set_option maxRecDepth 100000 in
set_option maxHeartbeats 8000000 in
theorem changeApplies_walk (a : Option Addr) (cap : Nat) (L : List ByteArray) (b : Option Addr) (cc : Nat) (cs : List Chg) (W : World) (hL : LinesAt W a L) (hc : L.length ≤ cap) (hC : ChgsAt W b cs) (hn : cs.length ≤ 140737488351232)
    (hw : ∀ c ∈ cs, -9223372036854775808 ≤ c.1 ∧ c.1 ≤ 9223372036854775807) :
    Calls Try.prog 3 #[.slice a L.length cap, .slice b cs.length cc] W fun e W' => e = .returned (.bool true) ∧ Below W.heap.size W W' := by
  have HW := Lib.hid hw
  clear hw
  go_enter Try.func3, Try.ntmps3
  go_wp2_with fail
  go_at_call 21; refine (known21_any _).mono ?_; rintro e w1 ⟨rfl, hbl⟩; obtain ⟨x0, rfl⟩ := ovr_of_below hbl; clear hbl
  go_wp2_with fail
  cases hli : lightB L with
  | false =>
    go_at_call 22; refine (light_any _ _ L _ (by (repeat (first | assumption | refine LinesAt.ovr ?_ _ | refine LinesAt.alloc ?_ _ | refine LinesAt.drewN ?_ _ | refine LinesAt.drew ?_)))).mono ?_; rw [hli]; rintro e w1 ⟨rfl, rfl⟩
    go_wp2_with fail
    go_ret
    exact ⟨rfl, by (repeat (first | with_reducible exact Below.refl _ _ | (with_reducible refine Below.setCell ?_ ?_ _; rotate_left; · (first | exact Nat.le_refl _ | assumption | omega | (simp; done) | (simp; omega))) | (with_reducible refine Below.alloc ?_ ?_ _; rotate_left; · (first | exact Nat.le_refl _ | assumption | omega | (simp; done) | (simp; omega))) | with_reducible refine below_ovr_of ?_ | with_reducible refine drew_below ?_ _ | with_reducible refine Below.drew ?_ | with_reducible assumption))⟩
  | true =>
    go_at_call 22; refine (light_any _ _ L _ (by (repeat (first | assumption | refine LinesAt.ovr ?_ _ | refine LinesAt.alloc ?_ _ | refine LinesAt.drewN ?_ _ | refine LinesAt.drew ?_)))).mono ?_; rw [hli]; rintro e w1 ⟨rfl, rfl⟩
    go_wp2_with fail
    go_at_call 23; refine (light21_any _ _ cs _ (hC.ovr _) hn).mono ?_; rintro e W1 ⟨⟨q, rfl, hq⟩, hbl⟩; have hb1 := (below_ovr W x0).trans (hbl.mono (by simp)); clear hbl
    cases q with
    | false =>
      go_wp2_with fail
      go_ret
      exact ⟨rfl, hb1⟩
    | true =>
      obtain ⟨P, M, hP, _, _, hPl, s1, s2, s3, s4, s5, hPw⟩ := made_facts hli (hq rfl)
      have hn12 := (hq rfl).1
      have HP := Lib.hid hP
      have HPW := Lib.hid hPw
      clear hP hq hPw
      have hLx := hL.below hb1 (Nat.le_refl _)
      have hCx := hC.below hb1 (Nat.le_refl _)
      clear hC hL
      go_wp2_with fail
      go_at_call 24; refine (made_any _ _ _ _ L cs _ hLx hc hCx (by omega) (by omega) (by omega)).mono ?_; rw [HP.out]; rintro e w2 ⟨⟨v, rfl, hrow⟩, hbl⟩; obtain ⟨pa, pc, rfl, hPa, hPc⟩ := hrow.at
      have hLy := hLx.below hbl (Nat.le_refl _)
      have hCy := hCx.below hbl (Nat.le_refl _)
      have hb2 := hb1.trans (hbl.mono hb1.size)
      have S1 : Serves w2 L b cs := ⟨hCy, hn12, by omega, HW.out⟩
      have S2 : Serves w2 L pa P := ⟨hPa, hPl, by omega, HPW.out⟩
      clear hbl hrow hLx hCx hb1 hCy hPa
      go_wp2_with fail
      refine name_world ?_
      intro W0 hW0
      have hL0 : LinesAt W0 a L := by rw [hW0]; exact hLy.alloc _
      have hb0 : Below W.heap.size W W0 := by rw [hW0]; exact hb2.alloc hb2.size _
      have hE : ∀ q : Nat, q < 2 → ∃ ba bc Q, W0.cell? ⟨w2.heap.size, q, none⟩ = some (.slice ba (List.length Q) bc) ∧ Serves W0 L ba Q := by
        intro q hq
        obtain rfl | rfl : q = 0 ∨ q = 1 := by omega
        · exact ⟨b, cc, cs, by rw [hW0]; simp [go_sem], by rw [hW0]; exact S1.below ((Below.refl w2.heap.size w2).alloc (Nat.le_refl _) _) (Nat.le_refl _)⟩
        · exact ⟨pa, pc, P, by rw [hW0]; simp [go_sem], by rw [hW0]; exact S2.below ((Below.refl w2.heap.size w2).alloc (Nat.le_refl _) _) (Nat.le_refl _)⟩
      have HE0 := Lib.hid hE
      clear hE hW0 S1 S2 hLy hb2 HP HPW HW
      go_loopw [28] (fun i wr => ∃ k : Nat, k ≤ 2 ∧ i = .int .i64 k ∧ ∃ x, wr = ovr W0 x) (fun i _ => 2 - (intOf i).toNat)
      case atStart => exact ⟨0, by omega, rfl, { W0 with heap := #[] }, by simp [ovr]⟩
      case round =>
        obtain ⟨k, hk, rfl, z0, rfl⟩ := hrel
        by_cases hlt : k < 2
        · obtain ⟨ba, bc, Q, hcell, hQa, hQl, hQs, hQw⟩ := HE0.out k hlt
          have lB := cell_lt9 hcell
          have hkI : (k : Int) < 2 := by omega
          have hk0 : (0 : Int) ≤ (k : Int) := by omega
          have HQW := Lib.hid hQw
          clear hQw
          have hRb : ((applyAll L Q).getD []).length ≤ 100000 := by
            cases h : applyAll L Q with
            | none => simp
            | some M =>
              have q1 := applyAll_size Q h
              have q2 := sizeN_le Q
              have q3 := len_sizeP M
              simp only [Option.getD_some]
              omega
          have HIL := Lib.hid (invP_len Q)
          have HIS := Lib.hid (sizeC_invP Q)
          go_wp2_with fail
          go_at_call 25; refine (applies_any _ _ _ _ L Q _ (hL0.ovr z0) hc (hQa.ovr z0) (by omega) (by omega) HQW.out).mono ?_; rintro e w3 ⟨⟨v, rfl, hv⟩, hbl⟩
          obtain ⟨va, vc, rfl, hva⟩ := appV_shape hv
          have hb3 : Below W0.heap.size W0 w3 := (below_ovr W0 z0).trans (hbl.mono (by simp))
          clear hbl hv
          go_wp2_with fail
          go_at_call 26; refine (rapplies_any _ _ _ _ L Q _ (hL0.below hb3 (Nat.le_refl _)) (hQa.below hb3 (Nat.le_refl _)) (by omega) (by omega) HQW.out).mono ?_; rintro e w4 ⟨⟨v, rfl, hv⟩, hbl⟩
          obtain ⟨ua, uc, rfl, hua⟩ := appF_shape hv
          have hva4 := hva.below hbl (Nat.le_refl _)
          have hb4 : Below W0.heap.size W0 w4 := hb3.trans (hbl.mono hb3.size)
          clear hbl hv hva hb3
          generalize (applyAll L Q).getD [] = R at hRb hva4 hua ⊢
          generalize (applyAll L Q).isSome = q
          have hqq := bne_self' q
          go_wp2_with fail
          go_at_call 27; refine (strings_any _ _ _ _ R R _ hva4 hua hRb).mono ?_; rw [eqB_refl]; rintro e w5 ⟨rfl, hbl⟩
          have hb5 : Below W0.heap.size W0 w5 := hb4.trans (hbl.mono hb4.size)
          clear hbl hva4 hua hb4 hqq
          go_wp2_with fail
          go_at_call 28; refine (pfits_any _ _ _ _ L Q _ (hL0.below hb5 (Nat.le_refl _)) hc (hQa.below hb5 (Nat.le_refl _)) (by omega) (by omega) HQW.out).mono ?_; rintro e w6 ⟨rfl, hbl⟩
          have hb6 : Below W0.heap.size W0 w6 := hb5.trans (hbl.mono hb5.size)
          clear hbl hb5
          go_wp2_with fail
          go_at_call 29; refine (rfits_any _ _ _ _ L Q _ (hL0.below hb6 (Nat.le_refl _)) hc (hQa.below hb6 (Nat.le_refl _)) (by omega) (by omega) HQW.out).mono ?_; rintro e w7 ⟨rfl, hbl⟩
          have hb7 : Below W0.heap.size W0 w7 := hb6.trans (hbl.mono hb6.size)
          clear hbl hb6
          generalize fitsP L Q = f
          have hff := bne_self' f
          go_wp2_with fail
          go_at_call 31; refine (pinv_any _ _ Q _ (hQa.below hb7 (Nat.le_refl _)) (by omega) (by omega)).mono ?_; rintro e w8 ⟨⟨v, rfl, hrow⟩, hbl⟩; obtain ⟨ia, ic, rfl, hI, hIc⟩ := hrow.at
          have hb8 : Below W0.heap.size W0 w8 := hb7.trans (hbl.mono hb7.size)
          clear hbl hb7 hrow hff
          go_wp2_with fail
          go_at_call 32; refine (rinv_any _ _ Q _ (hQa.below hb8 (Nat.le_refl _)) (by omega)).mono ?_; rintro e w9 ⟨⟨v, rfl, hrow⟩, hbl⟩; obtain ⟨ja, jc, rfl, hJ, hJc⟩ := hrow.at
          have hI9 := hI.below hbl (Nat.le_refl _)
          have hb9 : Below W0.heap.size W0 w9 := hb8.trans (hbl.mono hb8.size)
          clear hbl hb8 hrow hI
          go_wp2_with fail
          go_at_call 30; refine (changes_same _ _ _ _ (invP Q) _ hI9 hJ (by rw [HIL.out]; omega) (by rw [HIS.out]; omega)).mono ?_; rintro e w10 ⟨rfl, hbl⟩
          have hb10 : Below W0.heap.size W0 w10 := hb9.trans (hbl.mono hb9.size)
          clear hbl hb9 hI9 hJ
          obtain ⟨y0, rfl⟩ := ovr_of_below hb10
          clear hb10
          go_wp2_with fail
          go_loopw [11] (fun i wr => ∃ j : Nat, j ≤ Q.length ∧ i = .int .i64 j ∧ ∃ x, wr = ovr W0 x) (fun i _ => Q.length - (intOf i).toNat)
          case atStart => exact ⟨0, by omega, rfl, y0, rfl⟩
          case round =>
            obtain ⟨j, hj, rfl, z1, rfl⟩ := hrel
            by_cases hjl : j < Q.length
            · obtain ⟨g, off, rfl, hg, e0, ⟨ao, co, e1, hO, hOc⟩, ⟨an, cn, e2, hN, hNc⟩⟩ := hQa j hjl
              have hgs := sizeC_get hjl
              have hjI : (j : Int) < (Q.length : Int) := by omega
              have hj0 : (0 : Int) ≤ (j : Int) := by omega
              obtain ⟨⟨at_, O, N⟩, hcc⟩ : ∃ c, Q.getD j (0, [], []) = c := ⟨_, rfl⟩
              rw [hcc] at e0 e1 e2 hO hN hgs
              simp only at e0 e1 e2 hO hN hgs
              have h1 : sizeP O ≤ 100000 := by omega
              have h2 : sizeP N ≤ 100000 := by omega
              have hw1 : IntKind.i64.wrap (((sizeP N : Nat) : Int) - ((sizeP O : Nat) : Int)) = ((sizeP N : Nat) : Int) - ((sizeP O : Nat) : Int) := IntWalk.i64_in _ (by omega)
              clear hcc
              go_wp2_with fail
              (refine wp_region_ovr (by kernel_rfl) (by kernel_rfl) ?_; (repeat (go_big_quiet_step ((first | (go_at_call 33; with_reducible exact quiet_ovr (grow_any ao an co cn O N at_ _ ((hO.ovr z1).ovr _) ((hN.ovr z1).ovr _) h1 h2)) | (go_at_call 34; with_reducible exact quiet_same (rsize_any an cn N _ ((hN.ovr z1).ovr _) h2)) | (go_at_call 34; with_reducible exact quiet_same (rsize_any ao co O _ ((hO.ovr z1).ovr _) h1)))))); refine wpQuiet_nil ?_; rintro _ ⟨zq, rfl⟩)
              clear hw1
              go_wp2_with fail
              go_roundw
              case rel => exact ⟨j + 1, by omega, by go_num, ovr_of_below (by (repeat (first | with_reducible exact Below.refl _ _ | (with_reducible refine Below.setCell ?_ ?_ _; rotate_left; · (first | exact Nat.le_refl _ | assumption | omega | (simp; done) | (simp; omega))) | (with_reducible refine Below.alloc ?_ ?_ _; rotate_left; · (first | exact Nat.le_refl _ | assumption | omega | (simp; done) | (simp; omega))) | with_reducible refine below_ovr_of ?_ | with_reducible refine drew_below ?_ _ | with_reducible refine Below.drew ?_ | with_reducible assumption)))⟩
              case measure => simp [intOf]; omega
            · have hjI : ¬ (j : Int) < (Q.length : Int) := by omega
              go_wp2_with fail
              go_roundw
              case rel => exact ⟨k + 1, by omega, by go_num, z1, rfl⟩
              case measure => simp [intOf]; omega
        · have hkI : ¬ (k : Int) < 2 := by omega
          go_wp2_with fail
          go_ret
          exact ⟨rfl, hb0.trans ((below_ovr W0 z0).mono hb0.size)⟩
end Go.Proofs.Ytnaceobbbfbhhaa
