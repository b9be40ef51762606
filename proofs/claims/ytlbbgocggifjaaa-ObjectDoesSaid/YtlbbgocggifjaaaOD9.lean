/- Several texts in one: ObjectDoes, OpenCmd. Conditions: none beyond what each says. -/
import Derived.Test.YtlbbgocggifjaaaOD0
import Derived.Test.YtlbbgocggifjaaaOI40
import Derived.Test.YtlbbgocggifjaaaOD8
import Derived.Test.YtlbbgocggifjaaaOI12
import Derived.Test.YtlbbgocggifjaaaOI39
import Derived.Deep.RegionHeld3
import Derived.OpenShut
import Derived.Deep.CutRange
import Derived.Test.YtlbbgocggifjaaaRow
namespace Go.Proofs.Ytlbbgocggifjaaa
open Go.RowKit

set_option maxRecDepth 100000 in
set_option maxHeartbeats 4000000 in
theorem objectDoes_walk (a : Option Addr) (cap : Nat) (L : List ByteArray) (rl rc : Int) (sa : Int) (sb : Int) (mr mn : Int) (mo mm : ByteArray) (mg : Int) (mt : ByteArray) (sk : Int) (sn : Int) (W : World) (hL : LinesAt W a L) (hsa : 0 ≤ sa ∧ sa ≤ 65535) (hsb : 0 ≤ sb ∧ sb ≤ 65535) (hmn : -9223372036854775808 ≤ mn ∧ mn ≤ 9223372036854775807) (hsk : 0 ≤ sk ∧ sk ≤ 255) (hwsn : (Lit.int .i64 sn).wf = true) :
    Calls Try.prog 19 #[.slice a L.length cap, .agg #[.int .i64 rl, .int .i64 rc], .int .u16 sa, .int .u16 sb, .agg #[.int .u8 mr, .int .i64 mn, .string mo, .string mm, .int .u8 mg, .string mt], .int .u8 sk, .int .i64 sn] W fun e W' => e = .returned (.bool true) ∧ Below W.heap.size W W' := by
  obtain ⟨hlo_sn, hhi_sn⟩ := Go.bounds_i64 hwsn
  clear hwsn
  have hm_sn5 : sn.tmod 5 ≤ 9223372036854775807 := by have := Int.tmod_lt_of_pos sn (b := 5) (by omega); omega
  cases hli : textB L with
  | false =>
    go_enter Try.func19, Try.ntmps19
    go_wp2_with (first | (go_at_call 87; refine (known26_any _).mono ?_; rintro e w1 ⟨rfl, hbl⟩; obtain ⟨x, rfl⟩ := ovr_of_below hbl; clear hbl) | (go_at_call 30; refine (text_any _ _ L _ (by (repeat (first | assumption | refine LinesAt.ovr ?_ _ | refine LinesAt.alloc ?_ _ | refine LinesAt.drewN ?_ _ | refine LinesAt.drew ?_)))).mono ?_; rintro e w1 ⟨rfl, rfl⟩))
    go_ret
    exact ⟨rfl, by (repeat (first | exact Below.refl _ _ | refine Below.alloc ?_ (by first | exact Nat.le_refl _ | (simp; done) | (simp; omega)) _ | refine below_ovr_of ?_ | refine drew_below ?_ _ | refine Below.drew ?_ | refine Below.setCell ?_ (by first | exact Nat.le_refl _ | (simp; done) | (simp; omega)) _ | assumption))⟩
  | true =>
    obtain ⟨h0, hn, htot, _⟩ := text_spec hli
    obtain ⟨pl, pc, hsl, hsc, hp_pl⟩ := seat_facts (L := L) (x := sa) (y := sb) h0 hsa.1
    have hLt : L.length + total L ≤ 100000 := by omega
    have HSLpl := Lib.hid hsl
    have HSCpl := Lib.hid hsc
    clear hsl hsc
    by_cases hm5 : (5 : Int) < (mm.size : Int)
    · go_enter Try.func19, Try.ntmps19
      go_wp2_with (first | (go_at_call 87; refine (known26_any _).mono ?_; rintro e w1 ⟨rfl, hbl⟩; obtain ⟨x, rfl⟩ := ovr_of_below hbl; clear hbl) | (go_at_call 30; refine (text_any _ _ L _ (by (repeat (first | assumption | refine LinesAt.ovr ?_ _ | refine LinesAt.alloc ?_ _ | refine LinesAt.drewN ?_ _ | refine LinesAt.drew ?_)))).mono ?_; rintro e w1 ⟨rfl, rfl⟩))
      go_ret
      exact ⟨rfl, by (repeat (first | exact Below.refl _ _ | refine Below.alloc ?_ (by first | exact Nat.le_refl _ | (simp; done) | (simp; omega)) _ | refine below_ovr_of ?_ | refine drew_below ?_ _ | refine Below.drew ?_ | refine Below.setCell ?_ (by first | exact Nat.le_refl _ | (simp; done) | (simp; omega)) _ | assumption))⟩
    · go_enter Try.func19, Try.ntmps19
      go_upto_region 5 with (first | (go_at_call 87; refine (known26_any _).mono ?_; rintro e w1 ⟨rfl, hbl⟩; obtain ⟨x0, rfl⟩ := ovr_of_below hbl; clear hbl) | (go_at_call 30; refine (text_any _ _ L _ (by (repeat (first | assumption | refine LinesAt.ovr ?_ _ | refine LinesAt.alloc ?_ _ | refine LinesAt.drewN ?_ _ | refine LinesAt.drew ?_)))).mono ?_; rintro e w1 ⟨rfl, rfl⟩))
      go_cut [15] from 35 to 46 (fun dd wx => ∃ (B : Nat) (NM : ByteArray) (g : Int), dd = .pointer (some ⟨B, 0, none⟩) ∧ Below W.heap.size W wx ∧ wx.cell? ⟨W.heap.size, 0, none⟩ = some (.int .i64 rl) ∧ wx.cell? ⟨W.heap.size, 1, none⟩ = some (.int .i64 rc) ∧ wx.cell? ⟨W.heap.size + 1, 0, none⟩ = some (.int .u8 mr) ∧ wx.cell? ⟨W.heap.size + 1, 1, none⟩ = some (.int .i64 mn) ∧ wx.cell? ⟨W.heap.size + 1, 2, none⟩ = some (.string mo) ∧ wx.cell? ⟨W.heap.size + 1, 3, none⟩ = some (.string mm) ∧ wx.cell? ⟨W.heap.size + 1, 4, none⟩ = some (.int .u8 mg) ∧ wx.cell? ⟨W.heap.size + 1, 5, none⟩ = some (.string mt) ∧ wx.cell? ⟨B, 0, none⟩ = some (.int .u8 0) ∧ wx.cell? ⟨B, 1, none⟩ = some (.int .i64 (sn.tmod 5)) ∧ wx.cell? ⟨B, 2, none⟩ = some (.string ⟨#[]⟩) ∧ wx.cell? ⟨B, 3, none⟩ = some (.string NM) ∧ wx.cell? ⟨B, 4, none⟩ = some (.int .u8 g) ∧ wx.cell? ⟨B, 5, none⟩ = some (.string ⟨#[]⟩))
      case first =>
        have hk2 : sk % 2 = 0 ∨ sk % 2 = 1 := by omega
        have ht2 : sk.tmod 2 = sk % 2 := Int.tmod_eq_emod_of_nonneg hsk.1
        have hd2 : sk.tdiv 2 = sk / 2 := Int.tdiv_eq_ediv_of_nonneg hsk.1
        have ht11 : (sk / 2).tmod 11 = sk / 2 % 11 := Int.tmod_eq_emod_of_nonneg (by omega)
        obtain ⟨m, hm⟩ : ∃ m : Nat, sk / 2 % 11 = m := ⟨(sk / 2 % 11).toNat, by omega⟩
        have hmI : (m : Int) < 11 := by omega
        have hmN : m < 11 := by omega
        have hm0 : (0 : Int) ≤ (m : Int) := by omega
        have hs11 : (⟨#[119, 87, 34, 40, 91, 123, 112, 115, 39, 96, 120]⟩ : ByteArray).size = 11 := rfl
        rw [hm] at ht11
        clear hm
        rcases hk2 with hk2 | hk2
        all_goals (
          rw [hk2] at ht2
          go_region
          all_goals (
            go_wp2_with fail
            go_meet
            case rel => exact ⟨_, _, _, rfl, by (repeat (first | exact Below.refl _ _ | refine Below.alloc ?_ (by first | exact Nat.le_refl _ | (simp; done) | (simp; omega)) _ | refine below_ovr_of ?_ | refine drew_below ?_ _ | refine Below.drew ?_ | refine Below.setCell ?_ (by first | exact Nat.le_refl _ | (simp; done) | (simp; omega)) _ | assumption)), by first | (simp [go_sem]; done) | (simp [go_sem]; rfl), by first | (simp [go_sem]; done) | (simp [go_sem]; rfl), by first | (simp [go_sem]; done) | (simp [go_sem]; rfl), by first | (simp [go_sem]; done) | (simp [go_sem]; rfl), by first | (simp [go_sem]; done) | (simp [go_sem]; rfl), by first | (simp [go_sem]; done) | (simp [go_sem]; rfl), by first | (simp [go_sem]; done) | (simp [go_sem]; rfl), by first | (simp [go_sem]; done) | (simp [go_sem]; rfl), by first | (simp [go_sem]; done) | (simp [go_sem]; rfl), by first | (simp [go_sem]; done) | (simp [go_sem]; rfl), by first | (simp [go_sem]; done) | (simp [go_sem]; rfl), by first | (simp [go_sem]; done) | (simp [go_sem]; rfl), by first | (simp [go_sem]; done) | (simp [go_sem]; rfl), by first | (simp [go_sem]; done) | (simp [go_sem]; rfl)⟩))

      obtain ⟨Bd, NM, g, rfl, hbV0, e0, e1, k0, k1, k2, k3, k4, k5, d0, d1, d2, d3, d4, d5⟩ := hcut
      rename World => V
      have hszV := hbV0.size
      have hLV : LinesAt V a L := hL.below hbV0 (Nat.le_refl _)
      have lt_e := cell_lt9 e0
      have lt_k := cell_lt9 k0
      have lt_d := cell_lt9 d0
      go_wp2_with fail
      go_region_held3 (fun w' => V.heap.size ≤ w'.heap.size ∧ w'.cell? ⟨W.heap.size, 0, none⟩ = some (.int .i64 rl) ∧ w'.cell? ⟨W.heap.size, 1, none⟩ = some (.int .i64 rc)) ((go_split_ands; (repeat' apply And.intro) <;> first | assumption | (simp [go_sem]; done) | (simp [go_sem, *]; done) | (simp [go_sem]; omega))) ((go_at_call 31; refine (seat_at _ _ L _ _ _ (by (repeat (first | assumption | refine LinesAt.ovr ?_ _ | refine LinesAt.alloc ?_ _ | refine LinesAt.drewN ?_ _ | refine LinesAt.drew ?_))) h0 hsa hsb HSLpl HSCpl).mono ?_; rintro e w1 ⟨rfl, hbl⟩; obtain ⟨y1, rfl⟩ := ovr_of_below hbl; clear hbl))
      all_goals go_wp2
      refine name_block 52 rfl ?_
      intro W0 B0 hW hB
      rw [← hB]
      have hE : ∀ q : Nat, q < 2 → ∃ xl xc, W0.cell? ⟨B0, q * 2, none⟩ = some (.int .i64 xl) ∧ W0.cell? ⟨B0, q * 2 + 1, none⟩ = some (.int .i64 xc) := by
        intro q hq
        obtain rfl | rfl : q = 0 ∨ q = 1 := by omega
        · exact ⟨rl, rc, by subst hW hB; simp [go_sem], by subst hW hB; simp [go_sem]⟩
        · exact ⟨pl, pc, by subst hW hB; simp [go_sem], by subst hW hB; simp [go_sem]⟩
      have hL0 : LinesAt W0 a L := by rw [hW]; (repeat (first | assumption | refine LinesAt.ovr ?_ _ | refine LinesAt.alloc ?_ _ | refine LinesAt.drewN ?_ _ | refine LinesAt.drew ?_))
      have hbel : Below W.heap.size W W0 := by rw [hW]; (repeat (first | exact Below.refl _ _ | refine Below.alloc ?_ (by first | exact Nat.le_refl _ | (simp; done) | (simp; omega)) _ | refine below_ovr_of ?_ | refine drew_below ?_ _ | refine Below.drew ?_ | refine Below.setCell ?_ (by first | exact Nat.le_refl _ | (simp; done) | (simp; omega)) _ | assumption))
      have hbV : Below V.heap.size V W0 := by rw [hW]; (repeat (first | exact Below.refl _ _ | refine Below.alloc ?_ (by first | exact Nat.le_refl _ | (simp; done) | (simp; omega)) _ | refine below_ovr_of ?_ | refine drew_below ?_ _ | refine Below.drew ?_ | refine Below.setCell ?_ (by first | exact Nat.le_refl _ | (simp; done) | (simp; omega)) _ | assumption))
      have k00 := cell_keep9 hbV k0
      have k10 := cell_keep9 hbV k1
      have k20 := cell_keep9 hbV k2
      have k30 := cell_keep9 hbV k3
      have k40 := cell_keep9 hbV k4
      have k50 := cell_keep9 hbV k5
      have d00 := cell_keep9 hbV d0
      have d10 := cell_keep9 hbV d1
      have d20 := cell_keep9 hbV d2
      have d30 := cell_keep9 hbV d3
      have d40 := cell_keep9 hbV d4
      have d50 := cell_keep9 hbV d5
      have hszW := hbel.size
      have lt_k00 := cell_lt9 k00
      have lt_k10 := cell_lt9 k10
      have lt_k20 := cell_lt9 k20
      have lt_k30 := cell_lt9 k30
      have lt_k40 := cell_lt9 k40
      have lt_k50 := cell_lt9 k50
      have lt_d00 := cell_lt9 d00
      have lt_d10 := cell_lt9 d10
      have lt_d20 := cell_lt9 d20
      have lt_d30 := cell_lt9 d30
      have lt_d40 := cell_lt9 d40
      have lt_d50 := cell_lt9 d50
      have HE0 := Lib.hid hE
      clear hE hW
      clear hB
      go_loopw [54] (fun i wr => ∃ k : Nat, k ≤ 2 ∧ i = .int .i64 k ∧ ∃ x, wr = ovr W0 x) (fun i _ => 2 - (intOf i).toNat)
      case atStart => exact ⟨0, by omega, rfl, { W0 with heap := #[] }, by simp [ovr]⟩
      case round =>
        obtain ⟨i0, hk0, rfl, z0, rfl⟩ := hrel
        by_cases hlt0 : i0 < 2
        · obtain ⟨xl, xc, g0_0, g0_1⟩ := HE0.out i0 hlt0
          have lg0 := cell_lt9 g0_0
          have hI0 : (i0 : Int) < 2 := by omega
          go_wp2
          refine name_ptr 17 rfl ?_
          intro P0 hP0
          rw [← hP0]
          refine name_block 71 rfl ?_
          intro W1 B1 hW hB
          rw [← hB]
          have hE : ∀ q : Nat, q < 4 → ∃ r_ c_ o_ n_ a_ t_, W1.cell? ⟨B1, q * 6, none⟩ = some (.int .u8 r_) ∧ W1.cell? ⟨B1, q * 6 + 1, none⟩ = some (.int .i64 c_) ∧ W1.cell? ⟨B1, q * 6 + 2, none⟩ = some (.string o_) ∧ W1.cell? ⟨B1, q * 6 + 3, none⟩ = some (.string n_) ∧ W1.cell? ⟨B1, q * 6 + 4, none⟩ = some (.int .u8 a_) ∧ W1.cell? ⟨B1, q * 6 + 5, none⟩ = some (.string t_) ∧ c_ ≤ 9223372036854775807 := by
            intro q hq
            obtain rfl | rfl | rfl | rfl : q = 0 ∨ q = 1 ∨ q = 2 ∨ q = 3 := by omega
            · exact ⟨mr, mn, mo, mm, mg, mt, by subst hW hB hP0; simp [go_sem], by subst hW hB hP0; simp [go_sem], by subst hW hB hP0; simp [go_sem], by subst hW hB hP0; simp [go_sem], by subst hW hB hP0; simp [go_sem], by subst hW hB hP0; simp [go_sem], hmn.2⟩
            · exact ⟨0, sn.tmod 5, ⟨#[]⟩, NM, g, ⟨#[]⟩, by subst hW hB hP0; simp [go_sem], by subst hW hB hP0; simp [go_sem], by subst hW hB hP0; simp [go_sem], by subst hW hB hP0; simp [go_sem], by subst hW hB hP0; simp [go_sem], by subst hW hB hP0; simp [go_sem], hm_sn5⟩
            · exact ⟨0, sn, ⟨#[]⟩, NM, g, ⟨#[]⟩, by subst hW hB hP0; simp [go_sem], by subst hW hB hP0; simp [go_sem], by subst hW hB hP0; simp [go_sem], by subst hW hB hP0; simp [go_sem], by subst hW hB hP0; simp [go_sem], by subst hW hB hP0; simp [go_sem], hhi_sn⟩
            · exact ⟨0, 0, ⟨#[]⟩, NM, g, ⟨#[]⟩, by subst hW hB hP0; simp [go_sem], by subst hW hB hP0; simp [go_sem], by subst hW hB hP0; simp [go_sem], by subst hW hB hP0; simp [go_sem], by subst hW hB hP0; simp [go_sem], by subst hW hB hP0; simp [go_sem], by decide⟩
          have hb1 : Below W0.heap.size W0 W1 := by rw [hW]; (repeat (first | exact Below.refl _ _ | refine Below.alloc ?_ (by first | exact Nat.le_refl _ | (simp; done) | (simp; omega)) _ | refine below_ovr_of ?_ | refine drew_below ?_ _ | refine Below.drew ?_ | refine Below.setCell ?_ (by first | exact Nat.le_refl _ | (simp; done) | (simp; omega)) _ | assumption))
          have hL1 : LinesAt W1 a L := hL0.below hb1 (Nat.le_refl _)
          have hsz1 := hb1.size
          have bx0_01 : W1.cell? ⟨P0, 0, none⟩ = some (.int .i64 xl) := by subst hW hP0; simp [go_sem]
          have bx0_11 : W1.cell? ⟨P0, 1, none⟩ = some (.int .i64 xc) := by subst hW hP0; simp [go_sem]
          have lt_bx0_01 := cell_lt9 bx0_01
          have lt_bx0_11 := cell_lt9 bx0_11
          have HE1 := Lib.hid hE
          clear hE hW
          clear hB hP0
          go_loopw [73] (fun i wr => ∃ k : Nat, k ≤ 4 ∧ i = .int .i64 k ∧ ∃ x, wr = ovr W1 x) (fun i _ => 4 - (intOf i).toNat)
          case atStart => exact ⟨0, by omega, rfl, { W1 with heap := #[] }, by simp [ovr]⟩
          case round =>
            obtain ⟨i1, hk1, rfl, z1, rfl⟩ := hrel
            by_cases hlt1 : i1 < 4
            · obtain ⟨r_, c_, o_, n_, a_, t_, g1_0, g1_1, g1_2, g1_3, g1_4, g1_5, hkk⟩ := HE1.out i1 hlt1
              have lg1 := cell_lt9 g1_0
              have hI1 : (i1 : Int) < 4 := by omega
              obtain ⟨kd, fl, fc, tl, tc, ok, hr⟩ := rng_ways (doP L xl xc n_ a_ c_)
              have hv := ok_do L xl xc n_ a_ c_
              rw [hr] at hv
              have HR1 := Lib.hid hr
              have HOK := Lib.hid hv
              clear hr hv
              obtain rfl | rfl : ok = false ∨ ok = true := by cases ok <;> simp
              · go_wp2_with (first | (go_at_call 88; refine (odo_any _ _ L _ _ _ _ _ _ _ _ _ (by (repeat (first | assumption | refine LinesAt.ovr ?_ _ | refine LinesAt.alloc ?_ _ | refine LinesAt.drewN ?_ _ | refine LinesAt.drew ?_))) hLt (by omega)).mono ?_; rw [HR1.out]; rintro e w1 ⟨rfl, hbl⟩; obtain ⟨x, rfl⟩ := ovr_of_below hbl; clear hbl) | (go_at_call 89; refine (rdo_any _ _ L _ _ _ _ _ _ _ _ _ (by (repeat (first | assumption | refine LinesAt.ovr ?_ _ | refine LinesAt.alloc ?_ _ | refine LinesAt.drewN ?_ _ | refine LinesAt.drew ?_))) hLt (by omega)).mono ?_; rw [HR1.out]; rintro e w1 ⟨rfl, hbl⟩; obtain ⟨x, rfl⟩ := ovr_of_below hbl; clear hbl))
                go_roundw
                case rel => exact ⟨i1 + 1, by omega, by go_num, ovr_of_below (by (repeat (first | exact Below.refl _ _ | refine Below.alloc ?_ (by first | exact Nat.le_refl _ | (simp; done) | (simp; omega)) _ | refine below_ovr_of ?_ | refine drew_below ?_ _ | refine Below.drew ?_ | refine Below.setCell ?_ (by first | exact Nat.le_refl _ | (simp; done) | (simp; omega)) _ | assumption)))⟩
                case measure => simp [intOf]; omega
              · have hv : validB L kd fl fc tl tc = true := HOK.out rfl
                have HV := Lib.hid hv
                clear hv
                go_wp2_with (first | (go_at_call 88; refine (odo_any _ _ L _ _ _ _ _ _ _ _ _ (by (repeat (first | assumption | refine LinesAt.ovr ?_ _ | refine LinesAt.alloc ?_ _ | refine LinesAt.drewN ?_ _ | refine LinesAt.drew ?_))) hLt (by omega)).mono ?_; rw [HR1.out]; rintro e w1 ⟨rfl, hbl⟩; obtain ⟨x, rfl⟩ := ovr_of_below hbl; clear hbl) | (go_at_call 89; refine (rdo_any _ _ L _ _ _ _ _ _ _ _ _ (by (repeat (first | assumption | refine LinesAt.ovr ?_ _ | refine LinesAt.alloc ?_ _ | refine LinesAt.drewN ?_ _ | refine LinesAt.drew ?_))) hLt (by omega)).mono ?_; rw [HR1.out]; rintro e w1 ⟨rfl, hbl⟩; obtain ⟨x, rfl⟩ := ovr_of_below hbl; clear hbl))
                go_at_call 90; refine (rvalidD_any _ _ L _ _ _ _ _ _ (by (repeat (first | assumption | refine LinesAt.ovr ?_ _ | refine LinesAt.alloc ?_ _ | refine LinesAt.drewN ?_ _ | refine LinesAt.drew ?_)))).mono ?_; rw [HV.out]; rintro e w1 ⟨rfl, hbl⟩; obtain ⟨y3, rfl⟩ := ovr_of_below hbl; clear hbl
                go_wp2_with fail
                go_roundw
                case rel => exact ⟨i1 + 1, by omega, by go_num, ovr_of_below (by (repeat (first | exact Below.refl _ _ | refine Below.alloc ?_ (by first | exact Nat.le_refl _ | (simp; done) | (simp; omega)) _ | refine below_ovr_of ?_ | refine drew_below ?_ _ | refine Below.drew ?_ | refine Below.setCell ?_ (by first | exact Nat.le_refl _ | (simp; done) | (simp; omega)) _ | assumption)))⟩
                case measure => simp [intOf]; omega
            · have hI1 : ¬ (i1 : Int) < 4 := by omega
              go_wp2
              go_roundw
              case rel => exact ⟨i0 + 1, by omega, by go_num, ovr_of_below (by (repeat (first | exact Below.refl _ _ | refine Below.alloc ?_ (by first | exact Nat.le_refl _ | (simp; done) | (simp; omega)) _ | refine below_ovr_of ?_ | refine drew_below ?_ _ | refine Below.drew ?_ | refine Below.setCell ?_ (by first | exact Nat.le_refl _ | (simp; done) | (simp; omega)) _ | assumption)))⟩
              case measure => simp [intOf]; omega
        · have hI0 : ¬ (i0 : Int) < 2 := by omega
          go_wp2
          go_ret
          exact ⟨rfl, by (repeat (first | exact Below.refl _ _ | refine Below.alloc ?_ (by first | exact Nat.le_refl _ | (simp; done) | (simp; omega)) _ | refine below_ovr_of ?_ | refine drew_below ?_ _ | refine Below.drew ?_ | refine Below.setCell ?_ (by first | exact Nat.le_refl _ | (simp; done) | (simp; omega)) _ | assumption))⟩
end Go.Proofs.Ytlbbgocggifjaaa
namespace Go.Proofs.Ytlbbgocggifjaaa
open Go.ChangeShapes Go.WideShapes Go.ChangeAt Go.RowKit Go.Joins Go.Deep

set_option maxRecDepth 100000
theorem list6 {α : Type} {l : List α} (h : l.length = 6) : ∃ a b c d e f, l = [a, b, c, d, e, f] := by
  match l, h with
  | [a, b, c, d, e, f], _ => exact ⟨a, b, c, d, e, f, rfl⟩

theorem open_cmd {H : Type} {enc : TypeId × Value → H} {W : World} {base : Nat} {v : Value} {d : DataW H} {p : List MemPlace}
    (hC : Try.prog.cellsOf 95 = 6) (hC1 : Try.prog.cellsOf 5 = 1) (hC2 : Try.prog.cellsOf 3 = 1) (hC3 : Try.prog.cellsOf 9 = 1)
    (hv : Value.okWide Try.prog W .any base 95 v) (h : DataW.Trod enc Try.prog W 0 (fun _ => true) true 95 v d p) :
    ∃ r n o m g t, v = .agg #[.int .u8 r, .int .i64 n, .string o, .string m, .int .u8 g, .string t] ∧ (-9223372036854775808 ≤ n ∧ n ≤ 9223372036854775807) := by
  obtain ⟨cs, rfl, hsz⟩ := okWide_struct Try.underlying95 hv
  obtain ⟨l⟩ := cs
  obtain ⟨c0, c1, c2, c3, c4, c5, rfl⟩ := list6 (by simpa using hsz.trans hC)
  obtain ⟨fuel, hf⟩ := h
  obtain ⟨xs, n, _, _, _, hlen, hg⟩ := DataW.trod_struct Try.underlying95 hf
  obtain ⟨x0, x1, x2, x3, x4, x5, rfl⟩ := list6 (by simpa using hlen)
  have g0 := hg 0 _ rfl
  have g1 := hg 1 _ rfl
  have g2 := hg 2 _ rfl
  have g3 := hg 3 _ rfl
  have g4 := hg 4 _ rfl
  have g5 := hg 5 _ rfl
  simp [Value.cells, hC1, hC2, hC3] at g0 g1 g2 g3 g4 g5
  obtain ⟨r, e0, _, _⟩ := DataW.trod_int Try.underlying5 g0
  obtain ⟨k, e1, _, wk⟩ := DataW.trod_int Try.underlying3 g1
  obtain ⟨o, e2, _, _⟩ := DataW.trod_string Try.underlying9 g2
  obtain ⟨m, e3, _, _⟩ := DataW.trod_string Try.underlying9 g3
  obtain ⟨g, e4, _, _⟩ := DataW.trod_int Try.underlying5 g4
  obtain ⟨t, e5, _, _⟩ := DataW.trod_string Try.underlying9 g5
  simp at e0 e1 e2 e3 e4 e5
  subst e0; subst e1; subst e2; subst e3; subst e4; subst e5
  exact ⟨r, k, o, m, g, t, rfl, by simpa [Lit.wf, IntKind.min, IntKind.max, IntKind.signed, IntKind.bits] using wk⟩
end Go.Proofs.Ytlbbgocggifjaaa
