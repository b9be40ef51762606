/- The walk of the law ParaObjects. Conditions: none beyond what it says. -/
import Derived.Test.YtnaceobbbfbhhaaPObjLaws
import Derived.Test.YtnaceobbbfbhhaaRBlk2
import Derived.Test.YtnaceobbbfbhhaaRSObj
import Derived.Deep.RegionHeld3
import Derived.OpenShut
namespace Go.Proofs.Ytnaceobbbfbhhaa
open Go.RowKit

set_option maxRecDepth 100000 in
set_option maxHeartbeats 4000000 in
theorem paraObjects_walk (a : Option Addr) (cap : Nat) (L : List ByteArray) (rl rc : Int) (sa : Int) (sb : Int) (n : Int) (W : World) (hL : LinesAt W a L) (hsa : 0 ≤ sa ∧ sa ≤ 65535) (hsb : 0 ≤ sb ∧ sb ≤ 65535) (hwn : (Lit.int .i64 n).wf = true) :
    Calls Try.prog 18 #[.slice a L.length cap, .agg #[.int .i64 rl, .int .i64 rc], .int .u16 sa, .int .u16 sb, .int .i64 n] W fun e W' => e = .returned (.bool true) ∧ Below W.heap.size W W' := by
  obtain ⟨hlo_n, hhi_n⟩ := Go.bounds_i64 hwn
  clear hwn
  have hm_n5 : n.tmod 5 ≤ 9223372036854775807 := by have := Int.tmod_lt_of_pos n (b := 5) (by omega); omega
  cases hli : textB L with
  | false =>
    go_enter Try.func18, Try.ntmps18
    go_wp2_with (first | (go_at_call 63; refine (known18_any _).mono ?_; rintro e w1 ⟨rfl, hbl⟩; obtain ⟨x, rfl⟩ := ovr_of_below hbl; clear hbl) | (go_at_call 35; refine (text_any _ _ L _ (by (repeat (first | assumption | refine LinesAt.ovr ?_ _ | refine LinesAt.alloc ?_ _ | refine LinesAt.drewN ?_ _ | refine LinesAt.drew ?_)))).mono ?_; rintro e w1 ⟨rfl, rfl⟩))
    go_ret
    exact ⟨rfl, by (repeat (first | exact Below.refl _ _ | refine Below.alloc ?_ (by first | exact Nat.le_refl _ | (simp; done) | (simp; omega)) _ | refine below_ovr_of ?_ | refine drew_below ?_ _ | refine Below.drew ?_ | refine Below.setCell ?_ (by first | exact Nat.le_refl _ | (simp; done) | (simp; omega)) _ | assumption))⟩
  | true =>
    obtain ⟨h0, hn, htot, _⟩ := text_spec hli
    obtain ⟨pl, pc, hsl, hsc, hp_pl⟩ := seat_facts (L := L) (x := sa) (y := sb) h0 hsa.1
    have HSLpl := Lib.hid hsl
    have HSCpl := Lib.hid hsc
    clear hsl hsc
    go_enter Try.func18, Try.ntmps18
    go_wp2_with (first | (go_at_call 63; refine (known18_any _).mono ?_; rintro e w1 ⟨rfl, hbl⟩; obtain ⟨x, rfl⟩ := ovr_of_below hbl; clear hbl) | (go_at_call 35; refine (text_any _ _ L _ (by (repeat (first | assumption | refine LinesAt.ovr ?_ _ | refine LinesAt.alloc ?_ _ | refine LinesAt.drewN ?_ _ | refine LinesAt.drew ?_)))).mono ?_; rintro e w1 ⟨rfl, rfl⟩))
    go_region_held3 (fun w' => W.heap.size < w'.heap.size ∧ w'.cell? ⟨W.heap.size, 0, none⟩ = some (.int .i64 rl) ∧ w'.cell? ⟨W.heap.size, 1, none⟩ = some (.int .i64 rc)) (go_split_ands <;> first | assumption | (simp [go_sem]; done) | (simp [go_sem, *]; done) | (simp [go_sem]; omega)) ((go_at_call 38; refine (seat_at _ _ L _ _ _ (by (repeat (first | assumption | refine LinesAt.ovr ?_ _ | refine LinesAt.alloc ?_ _ | refine LinesAt.drewN ?_ _ | refine LinesAt.drew ?_))) h0 hsa hsb HSLpl HSCpl).mono ?_; rintro e w1 ⟨rfl, hbl⟩; obtain ⟨x, rfl⟩ := ovr_of_below hbl; clear hbl))
    all_goals go_wp2
    refine name_block 35 rfl ?_
    intro W0 B0 hW hB
    rw [← hB]
    have hE : ∀ q : Nat, q < 2 → ∃ xl xc, W0.cell? ⟨B0, q * 2, none⟩ = some (.int .i64 xl) ∧ W0.cell? ⟨B0, q * 2 + 1, none⟩ = some (.int .i64 xc) := by
      intro q hq
      obtain rfl | rfl : q = 0 ∨ q = 1 := by omega
      · exact ⟨rl, rc, by subst hW hB; simp [go_sem], by subst hW hB; simp [go_sem]⟩
      · exact ⟨pl, pc, by subst hW hB; simp [go_sem], by subst hW hB; simp [go_sem]⟩
    have hL0 : LinesAt W0 a L := by rw [hW]; (repeat (first | assumption | refine LinesAt.ovr ?_ _ | refine LinesAt.alloc ?_ _ | refine LinesAt.drewN ?_ _ | refine LinesAt.drew ?_))
    have hbel : Below W.heap.size W W0 := by rw [hW]; (repeat (first | exact Below.refl _ _ | refine Below.alloc ?_ (by first | exact Nat.le_refl _ | (simp; done) | (simp; omega)) _ | refine below_ovr_of ?_ | refine drew_below ?_ _ | refine Below.drew ?_ | refine Below.setCell ?_ (by first | exact Nat.le_refl _ | (simp; done) | (simp; omega)) _ | assumption))
    have hszW := hbel.size
    have HE0 := Lib.hid hE
    clear hE hW
    clear hB
    go_loopw [37] (fun i wr => ∃ k : Nat, k ≤ 2 ∧ i = .int .i64 k ∧ ∃ x, wr = ovr W0 x) (fun i _ => 2 - (intOf i).toNat)
    case atStart => exact ⟨0, by omega, rfl, { W0 with heap := #[] }, by simp [ovr]⟩
    case round =>
      obtain ⟨i0, hk0, rfl, z0, rfl⟩ := hrel
      by_cases hlt0 : i0 < 2
      · obtain ⟨xl, xc, g0_0, g0_1⟩ := HE0.out i0 hlt0
        have lg0 := cell_lt9 g0_0
        have hI0 : (i0 : Int) < 2 := by omega
        go_wp2
        refine name_ptr 12 rfl ?_
        intro P0 hP0
        rw [← hP0]
        refine name_block 44 rfl ?_
        intro W1 B1 hW hB
        rw [← hB]
        have hE : ∀ q : Nat, q < 3 → ∃ kk, W1.cell? ⟨B1, q, none⟩ = some (.int .i64 kk) ∧ kk ≤ 9223372036854775807 := by
          intro q hq
          obtain rfl | rfl | rfl : q = 0 ∨ q = 1 ∨ q = 2 := by omega
          · exact ⟨n, by subst hW hB hP0; simp [go_sem], by omega⟩
          · exact ⟨n.tmod 5, by subst hW hB hP0; simp [go_sem], by omega⟩
          · exact ⟨1, by subst hW hB hP0; simp [go_sem], by omega⟩
        have hb1 : Below W0.heap.size W0 W1 := by rw [hW]; (repeat (first | exact Below.refl _ _ | refine Below.alloc ?_ (by first | exact Nat.le_refl _ | (simp; done) | (simp; omega)) _ | refine below_ovr_of ?_ | refine drew_below ?_ _ | refine Below.drew ?_ | refine Below.setCell ?_ (by first | exact Nat.le_refl _ | (simp; done) | (simp; omega)) _ | assumption))
        have hL1 : LinesAt W1 a L := hL0.below hb1 (Nat.le_refl _)
        have hsz1 := hb1.size
        have bx0_01 : W1.cell? ⟨P0, 0, none⟩ = some (.int .i64 xl) := by subst hW hP0; simp [go_sem]
        have bx0_11 : W1.cell? ⟨P0, 1, none⟩ = some (.int .i64 xc) := by subst hW hP0; simp [go_sem]
        have lt_bx0_01 := cell_lt9 bx0_01
        have lt_bx0_11 := cell_lt9 bx0_11
        have HE1 := Lib.hid hE
        clear hE hW
        clear hB hP0
        go_loopw [46] (fun i wr => ∃ k : Nat, k ≤ 3 ∧ i = .int .i64 k ∧ ∃ x, wr = ovr W1 x) (fun i _ => 3 - (intOf i).toNat)
        case atStart => exact ⟨0, by omega, rfl, { W1 with heap := #[] }, by simp [ovr]⟩
        case round =>
          obtain ⟨i1, hk1, rfl, z1, rfl⟩ := hrel
          by_cases hlt1 : i1 < 3
          · obtain ⟨kk, g1_0, hkk⟩ := HE1.out i1 hlt1
            have lg1 := cell_lt9 g1_0
            have hI1 : (i1 : Int) < 3 := by omega
            obtain ⟨⟨⟨a1, b1, c1, d1, e1⟩, ok1⟩, hr⟩ : ∃ r, paraOP L xl xc kk false = r := ⟨_, rfl⟩
            have HR1 := Lib.hid hr
            clear hr
            obtain ⟨⟨⟨a2, b2, c2, d2, e2⟩, ok2⟩, hr⟩ : ∃ r, paraOP L xl xc kk true = r := ⟨_, rfl⟩
            have HR2 := Lib.hid hr
            clear hr
            go_wp2_with (first | (go_at_call 67; refine (pinner_any _ _ L _ _ _ _ (by (repeat (first | assumption | refine LinesAt.ovr ?_ _ | refine LinesAt.alloc ?_ _ | refine LinesAt.drewN ?_ _ | refine LinesAt.drew ?_))) (by omega) (by omega)).mono ?_; rw [HR1.out]; rintro e w1 ⟨rfl, hbl⟩; obtain ⟨x, rfl⟩ := ovr_of_below hbl; clear hbl) | (go_at_call 68; refine (rpinner_any _ _ L _ _ _ _ (by (repeat (first | assumption | refine LinesAt.ovr ?_ _ | refine LinesAt.alloc ?_ _ | refine LinesAt.drewN ?_ _ | refine LinesAt.drew ?_))) (by omega) (by omega)).mono ?_; rw [HR1.out]; rintro e w1 ⟨rfl, hbl⟩; obtain ⟨x, rfl⟩ := ovr_of_below hbl; clear hbl) | (go_at_call 69; refine (paround_any _ _ L _ _ _ _ (by (repeat (first | assumption | refine LinesAt.ovr ?_ _ | refine LinesAt.alloc ?_ _ | refine LinesAt.drewN ?_ _ | refine LinesAt.drew ?_))) (by omega) (by omega)).mono ?_; rw [HR2.out]; rintro e w1 ⟨rfl, hbl⟩; obtain ⟨x, rfl⟩ := ovr_of_below hbl; clear hbl) | (go_at_call 70; refine (rparound_any _ _ L _ _ _ _ (by (repeat (first | assumption | refine LinesAt.ovr ?_ _ | refine LinesAt.alloc ?_ _ | refine LinesAt.drewN ?_ _ | refine LinesAt.drew ?_))) (by omega) (by omega)).mono ?_; rw [HR2.out]; rintro e w1 ⟨rfl, hbl⟩; obtain ⟨x, rfl⟩ := ovr_of_below hbl; clear hbl))
            go_roundw
            case rel => exact ⟨i1 + 1, by omega, by go_num, ovr_of_below (by (repeat (first | exact Below.refl _ _ | refine Below.alloc ?_ (by first | exact Nat.le_refl _ | (simp; done) | (simp; omega)) _ | refine below_ovr_of ?_ | refine drew_below ?_ _ | refine Below.drew ?_ | refine Below.setCell ?_ (by first | exact Nat.le_refl _ | (simp; done) | (simp; omega)) _ | assumption)))⟩
            case measure => simp [intOf]; omega
          · have hI1 : ¬ (i1 : Int) < 3 := by omega
            go_wp2
            refine name_block 95 rfl ?_
            intro W2 B2 hW hB
            rw [← hB]
            have hE : ∀ q : Nat, q < 2 → ∃ md, W2.cell? ⟨B2, q, none⟩ = some (.bool md) := by
              intro q hq
              obtain rfl | rfl : q = 0 ∨ q = 1 := by omega
              · exact ⟨true, by subst hW hB; simp [go_sem]⟩
              · exact ⟨false, by subst hW hB; simp [go_sem]⟩
            have hb2 : Below W1.heap.size W1 W2 := by rw [hW]; (repeat (first | exact Below.refl _ _ | refine Below.alloc ?_ (by first | exact Nat.le_refl _ | (simp; done) | (simp; omega)) _ | refine below_ovr_of ?_ | refine drew_below ?_ _ | refine Below.drew ?_ | refine Below.setCell ?_ (by first | exact Nat.le_refl _ | (simp; done) | (simp; omega)) _ | assumption))
            have hL2 : LinesAt W2 a L := hL1.below hb2 (Nat.le_refl _)
            have hsz2 := hb2.size
            have hbo2 : Below W0.heap.size W0 W2 := hb1.trans (hb2.mono hsz1)
            have bx0_02 := cell_keep9 hb2 bx0_01
            have bx0_12 := cell_keep9 hb2 bx0_11
            have lt_bx0_02 := cell_lt9 bx0_02
            have lt_bx0_12 := cell_lt9 bx0_12
            have HE2 := Lib.hid hE
            clear hE hW
            clear hB
            go_loopw [97] (fun i wr => ∃ k : Nat, k ≤ 2 ∧ i = .int .i64 k ∧ ∃ x, wr = ovr W2 x) (fun i _ => 2 - (intOf i).toNat)
            case atStart => exact ⟨0, by omega, rfl, { W2 with heap := #[] }, by simp [ovr]⟩
            case round =>
              obtain ⟨i2, hk2, rfl, z2, rfl⟩ := hrel
              by_cases hlt2 : i2 < 2
              · obtain ⟨md, g2_0⟩ := HE2.out i2 hlt2
                have lg2 := cell_lt9 g2_0
                have hI2 : (i2 : Int) < 2 := by omega
                obtain ⟨⟨⟨a3, b3, c3, d3, e3⟩, ok3⟩, hr⟩ : ∃ r, sObjP L xl xc md = r := ⟨_, rfl⟩
                have HR3 := Lib.hid hr
                clear hr
                go_wp2_with (first | (go_at_call 71; refine (psobj_any _ _ L _ _ _ _ (by (repeat (first | assumption | refine LinesAt.ovr ?_ _ | refine LinesAt.alloc ?_ _ | refine LinesAt.drewN ?_ _ | refine LinesAt.drew ?_))) (by omega)).mono ?_; rw [HR3.out]; rintro e w1 ⟨rfl, hbl⟩; obtain ⟨x, rfl⟩ := ovr_of_below hbl; clear hbl) | (go_at_call 72; refine (rsobj_any _ _ L _ _ _ _ (by (repeat (first | assumption | refine LinesAt.ovr ?_ _ | refine LinesAt.alloc ?_ _ | refine LinesAt.drewN ?_ _ | refine LinesAt.drew ?_))) (by omega)).mono ?_; rw [HR3.out]; rintro e w1 ⟨rfl, hbl⟩; obtain ⟨x, rfl⟩ := ovr_of_below hbl; clear hbl))
                go_roundw
                case rel => exact ⟨i2 + 1, by omega, by go_num, ovr_of_below (by (repeat (first | exact Below.refl _ _ | refine Below.alloc ?_ (by first | exact Nat.le_refl _ | (simp; done) | (simp; omega)) _ | refine below_ovr_of ?_ | refine drew_below ?_ _ | refine Below.drew ?_ | refine Below.setCell ?_ (by first | exact Nat.le_refl _ | (simp; done) | (simp; omega)) _ | assumption)))⟩
                case measure => simp [intOf]; omega
              · have hI2 : ¬ (i2 : Int) < 2 := by omega
                go_wp2
                go_roundw
                case rel => exact ⟨i0 + 1, by omega, by go_num, ovr_of_below (by (repeat (first | exact Below.refl _ _ | refine Below.alloc ?_ (by first | exact Nat.le_refl _ | (simp; done) | (simp; omega)) _ | refine below_ovr_of ?_ | refine drew_below ?_ _ | refine Below.drew ?_ | refine Below.setCell ?_ (by first | exact Nat.le_refl _ | (simp; done) | (simp; omega)) _ | assumption)))⟩
                case measure => simp [intOf]; omega
      · have hI0 : ¬ (i0 : Int) < 2 := by omega
        go_wp2
        go_ret
        exact ⟨rfl, by (repeat (first | exact Below.refl _ _ | refine Below.alloc ?_ (by first | exact Nat.le_refl _ | (simp; done) | (simp; omega)) _ | refine below_ovr_of ?_ | refine drew_below ?_ _ | refine Below.drew ?_ | refine Below.setCell ?_ (by first | exact Nat.le_refl _ | (simp; done) | (simp; omega)) _ | assumption))⟩
end Go.Proofs.Ytnaceobbbfbhhaa
