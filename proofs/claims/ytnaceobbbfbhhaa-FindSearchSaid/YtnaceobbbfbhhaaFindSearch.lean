/- The walk of the law FindSearch. Conditions: none beyond what it says. -/
import Derived.Test.YtnaceobbbfbhhaaFindLaws
import Derived.Deep.RegionHeld3
import Derived.OpenShut
namespace Go.Proofs.Ytnaceobbbfbhhaa
open Go.RowKit

set_option maxRecDepth 100000 in
set_option maxHeartbeats 4000000 in
theorem findSearch_walk (a : Option Addr) (cap : Nat) (L : List ByteArray) (rl rc : Int) (sa : Int) (sb : Int) (pat : ByteArray) (key : Int) (n : Int) (back : Bool) (W : World) (hL : LinesAt W a L) (hsa : 0 ≤ sa ∧ sa ≤ 65535) (hsb : 0 ≤ sb ∧ sb ≤ 65535) (_hspat : pat.size ≤ 140737488351232) (hkey : 0 ≤ key ∧ key ≤ 255) (hwn : (Lit.int .i64 n).wf = true) :
    Calls Try.prog 7 #[.slice a L.length cap, .agg #[.int .i64 rl, .int .i64 rc], .int .u16 sa, .int .u16 sb, .string pat, .int .u8 key, .int .i64 n, .bool back] W fun e W' => e = .returned (.bool true) ∧ Below W.heap.size W W' := by
  obtain ⟨hlo_n, hhi_n⟩ := Go.bounds_i64 hwn
  clear hwn
  have hm_n9 : n.tmod 9 ≤ 9223372036854775807 := by have := Int.tmod_lt_of_pos n (b := 9) (by omega); omega
  cases hli : textB L with
  | false =>
    go_enter Try.func7, Try.ntmps7
    go_wp2_with (first | (go_at_call 37; refine (known12_any _).mono ?_; rintro e w1 ⟨rfl, hbl⟩; obtain ⟨x, rfl⟩ := ovr_of_below hbl; clear hbl) | (go_at_call 35; refine (text_any _ _ L _ (by (repeat (first | assumption | refine LinesAt.ovr ?_ _ | refine LinesAt.alloc ?_ _ | refine LinesAt.drewN ?_ _ | refine LinesAt.drew ?_)))).mono ?_; rintro e w1 ⟨rfl, rfl⟩))
    go_ret
    exact ⟨rfl, by (repeat (first | exact Below.refl _ _ | refine Below.alloc ?_ (by first | exact Nat.le_refl _ | (simp; done) | (simp; omega)) _ | refine below_ovr_of ?_ | refine drew_below ?_ _ | refine Below.drew ?_ | refine Below.setCell ?_ (by first | exact Nat.le_refl _ | (simp; done) | (simp; omega)) _ | assumption))⟩
  | true =>
    rcases Nat.lt_or_ge 60 pat.size with hpat | hpat
    · have hpI : (60 : Int) < (pat.size : Int) := by omega
      go_enter Try.func7, Try.ntmps7
      go_wp2_with (first | (go_at_call 37; refine (known12_any _).mono ?_; rintro e w1 ⟨rfl, hbl⟩; obtain ⟨x, rfl⟩ := ovr_of_below hbl; clear hbl) | (go_at_call 35; refine (text_any _ _ L _ (by (repeat (first | assumption | refine LinesAt.ovr ?_ _ | refine LinesAt.alloc ?_ _ | refine LinesAt.drewN ?_ _ | refine LinesAt.drew ?_)))).mono ?_; rintro e w1 ⟨rfl, rfl⟩))
      go_ret
      exact ⟨rfl, by (repeat (first | exact Below.refl _ _ | refine Below.alloc ?_ (by first | exact Nat.le_refl _ | (simp; done) | (simp; omega)) _ | refine below_ovr_of ?_ | refine drew_below ?_ _ | refine Below.drew ?_ | refine Below.setCell ?_ (by first | exact Nat.le_refl _ | (simp; done) | (simp; omega)) _ | assumption))⟩
    have hpI : ¬ (60 : Int) < (pat.size : Int) := by omega
    obtain ⟨h0, hn, htot, _⟩ := text_spec hli
    obtain ⟨pl, pc, hsl, hsc, hp_pl⟩ := seat_facts (L := L) (x := sa) (y := sb) h0 hsa.1
    have HSLpl := Lib.hid hsl
    have HSCpl := Lib.hid hsc
    clear hsl hsc
    go_enter Try.func7, Try.ntmps7
    go_wp2_with (first | (go_at_call 37; refine (known12_any _).mono ?_; rintro e w1 ⟨rfl, hbl⟩; obtain ⟨x, rfl⟩ := ovr_of_below hbl; clear hbl) | (go_at_call 35; refine (text_any _ _ L _ (by (repeat (first | assumption | refine LinesAt.ovr ?_ _ | refine LinesAt.alloc ?_ _ | refine LinesAt.drewN ?_ _ | refine LinesAt.drew ?_)))).mono ?_; rintro e w1 ⟨rfl, rfl⟩))
    go_at_call 38; refine (seat_at _ _ L _ _ _ (by (repeat (first | assumption | refine LinesAt.ovr ?_ _ | refine LinesAt.alloc ?_ _ | refine LinesAt.drewN ?_ _ | refine LinesAt.drew ?_))) h0 hsa hsb HSLpl HSCpl).mono ?_; rintro e w1 ⟨rfl, hbl⟩; obtain ⟨y1, rfl⟩ := ovr_of_below hbl; clear hbl
    obtain ⟨p1, p2, p3, p4⟩ := plcB_spec hp_pl
    obtain ⟨l, rfl⟩ := Int.eq_ofNat_of_zero_le p1
    obtain ⟨c, rfl⟩ := Int.eq_ofNat_of_zero_le p3
    have hl : l < L.length := by omega
    have hlI : (l : Int) < (L.length : Int) := by omega
    have hl0 : (0 : Int) ≤ (l : Int) := by omega
    have hsz := sizes_le htot
    obtain ⟨b, off, s, hab, hb, hcell, hs, HS⟩ := line_facts' hL hl
    subst hab
    rw [Int.toNat_natCast, HS.out] at p4
    have hss := hsz s (by rw [← HS.out]; exact getD_mem L .empty l hl)
    have htl : L.length + total L ≤ 100000 := by omega
    go_wp2
    refine name_ptr 17 rfl ?_
    intro Q hQ
    rw [← hQ]
    refine name_world ?_
    intro W9 hW9
    have gq0 : W9.cell? ⟨Q, 0, none⟩ = some (.int .i64 (l : Int)) := by rw [hW9, hQ]; simp [go_sem]
    have gq1 : W9.cell? ⟨Q, 1, none⟩ = some (.int .i64 (c : Int)) := by rw [hW9, hQ]; simp [go_sem]
    have gcell : W9.cell? ⟨b, off + l, none⟩ = some (.string s) := by rw [hW9]; simp [go_sem, hcell, hb]
    have hL9 : LinesAt W9 (some ⟨b, off, none⟩) L := by rw [hW9]; (repeat (first | assumption | refine LinesAt.ovr ?_ _ | refine LinesAt.alloc ?_ _ | refine LinesAt.drewN ?_ _ | refine LinesAt.drew ?_))
    have hbel9 : Below W.heap.size W W9 := by rw [hW9]; (repeat (first | exact Below.refl _ _ | refine Below.alloc ?_ (by first | exact Nat.le_refl _ | (simp; done) | (simp; omega)) _ | refine below_ovr_of ?_ | refine drew_below ?_ _ | refine Below.drew ?_ | refine Below.setCell ?_ (by first | exact Nat.le_refl _ | (simp; done) | (simp; omega)) _ | assumption))
    have gr0 : W9.cell? ⟨W.heap.size, 0, none⟩ = some (.int .i64 rl) := by rw [hW9]; simp [go_sem]
    have gr1 : W9.cell? ⟨W.heap.size, 1, none⟩ = some (.int .i64 rc) := by rw [hW9]; simp [go_sem]
    have hs9 := hbel9.size
    have gQl := cell_lt9 gq0
    clear hW9 hQ hsz hs p1 p3
    go_quiet (fail)
    obtain ⟨W8, hW8⟩ : ∃ W8, W9.drewN nq = W8 := ⟨_, rfl⟩
    rw [hW8]
    have gq8 : W8.cell? ⟨Q, 0, none⟩ = some (.int .i64 (l : Int)) := by rw [← hW8]; exact gq0
    have gp8 : W8.cell? ⟨Q, 1, none⟩ = some (.int .i64 (c : Int)) := by rw [← hW8]; exact gq1
    have gc8 : W8.cell? ⟨b, off + l, none⟩ = some (.string s) := by rw [← hW8]; exact gcell
    have hL8 : LinesAt W8 (some ⟨b, off, none⟩) L := by rw [← hW8]; exact hL9.drewN nq
    have hbel8 : Below W.heap.size W W8 := by rw [← hW8]; exact drew_below hbel9 nq
    have gr8 : W8.cell? ⟨W.heap.size, 0, none⟩ = some (.int .i64 rl) := by rw [← hW8]; exact gr0
    have gs8 : W8.cell? ⟨W.heap.size, 1, none⟩ = some (.int .i64 rc) := by rw [← hW8]; exact gr1
    have hs8 := hbel8.size
    have gl8 := cell_lt9 gq8
    clear hW8 gq0 gq1 gcell hL9 hbel9 hs9 gQl gr0 gr1
    have hus : (s.extract c s.size).size ≤ 100000 := by rw [ByteArray.size_extract]; omega
    obtain ⟨u, hu⟩ : ∃ u, s.extract c s.size = u := ⟨_, rfl⟩
    rw [hu] at hus ⊢
    obtain ⟨m, hm⟩ : ∃ m : Nat, key % 4 = (m : Int) := ⟨(key % 4).toNat, by omega⟩
    obtain ⟨hk1, hk2⟩ := hkey
    have hm4 : (m : Int) < 4 := by omega
    have HU := Lib.hid hu
    clear hu
    rcases (by omega : (m : Int) ≤ (u.size : Int) ∨ (u.size : Int) < (m : Int)) with hmu | hmu
    all_goals go_wp2
    all_goals clear hm
    all_goals first
      | (obtain ⟨sx, hse, hsx⟩ : ∃ sx, u.extract 0 m = sx ∧ sx.size ≤ 100000 := ⟨_, rfl, by rw [ByteArray.size_extract]; omega⟩
         rw [hse]
         clear hse)
      | (obtain ⟨sx, hse, hsx⟩ : ∃ sx, u = sx ∧ sx.size ≤ 100000 := ⟨_, rfl, hus⟩
         rw [hse]
         clear hse)
    all_goals (
      refine name_block 61 rfl ?_
      intro W0 B0 hW hB
      rw [← hB]
      have hE : ∀ q : Nat, q < 2 → ∃ tt, W0.cell? ⟨B0, q, none⟩ = some (.string tt) ∧ tt.size ≤ 100000 := by
        intro q hq
        obtain rfl | rfl : q = 0 ∨ q = 1 := by omega
        · exact ⟨pat, by subst hW hB; simp [go_sem], by omega⟩
        · exact ⟨sx, by subst hW hB; simp [go_sem], hsx⟩
      have hL0 : LinesAt W0 (some ⟨b, off, none⟩) L := by rw [hW]; (repeat (first | assumption | refine LinesAt.ovr ?_ _ | refine LinesAt.alloc ?_ _ | refine LinesAt.drewN ?_ _ | refine LinesAt.drew ?_))
      have hbel : Below W.heap.size W W0 := by rw [hW]; (repeat (first | with_reducible exact Below.refl _ _ | (with_reducible refine Below.setCell ?_ ?_ _; rotate_left; · (first | exact Nat.le_refl _ | assumption | omega | (simp; done) | (simp; omega))) | (with_reducible refine Below.alloc ?_ ?_ _; rotate_left; · (first | exact Nat.le_refl _ | assumption | omega | (simp; done) | (simp; omega))) | with_reducible refine below_ovr_of ?_ | with_reducible refine drew_below ?_ _ | with_reducible refine Below.drew ?_ | with_reducible assumption))
      have qx0 := cell_keep9 (show Below W8.heap.size W8 W0 by rw [hW]; (repeat (first | with_reducible exact Below.refl _ _ | (with_reducible refine Below.setCell ?_ ?_ _; rotate_left; · (first | exact Nat.le_refl _ | assumption | omega | (simp; done) | (simp; omega))) | (with_reducible refine Below.alloc ?_ ?_ _; rotate_left; · (first | exact Nat.le_refl _ | assumption | omega | (simp; done) | (simp; omega))) | with_reducible refine below_ovr_of ?_ | with_reducible refine drew_below ?_ _ | with_reducible refine Below.drew ?_ | with_reducible assumption))) gq8
      have qy0 := cell_keep9 (show Below W8.heap.size W8 W0 by rw [hW]; (repeat (first | with_reducible exact Below.refl _ _ | (with_reducible refine Below.setCell ?_ ?_ _; rotate_left; · (first | exact Nat.le_refl _ | assumption | omega | (simp; done) | (simp; omega))) | (with_reducible refine Below.alloc ?_ ?_ _; rotate_left; · (first | exact Nat.le_refl _ | assumption | omega | (simp; done) | (simp; omega))) | with_reducible refine below_ovr_of ?_ | with_reducible refine drew_below ?_ _ | with_reducible refine Below.drew ?_ | with_reducible assumption))) gp8
      have rx0 := cell_keep9 (show Below W8.heap.size W8 W0 by rw [hW]; (repeat (first | with_reducible exact Below.refl _ _ | (with_reducible refine Below.setCell ?_ ?_ _; rotate_left; · (first | exact Nat.le_refl _ | assumption | omega | (simp; done) | (simp; omega))) | (with_reducible refine Below.alloc ?_ ?_ _; rotate_left; · (first | exact Nat.le_refl _ | assumption | omega | (simp; done) | (simp; omega))) | with_reducible refine below_ovr_of ?_ | with_reducible refine drew_below ?_ _ | with_reducible refine Below.drew ?_ | with_reducible assumption))) gr8
      have ry0 := cell_keep9 (show Below W8.heap.size W8 W0 by rw [hW]; (repeat (first | with_reducible exact Below.refl _ _ | (with_reducible refine Below.setCell ?_ ?_ _; rotate_left; · (first | exact Nat.le_refl _ | assumption | omega | (simp; done) | (simp; omega))) | (with_reducible refine Below.alloc ?_ ?_ _; rotate_left; · (first | exact Nat.le_refl _ | assumption | omega | (simp; done) | (simp; omega))) | with_reducible refine below_ovr_of ?_ | with_reducible refine drew_below ?_ _ | with_reducible refine Below.drew ?_ | with_reducible assumption))) gs8
      have hszW := hbel.size
      have lt_qx0 := cell_lt9 qx0
      have lt_qy0 := cell_lt9 qy0
      have lt_rx0 := cell_lt9 rx0
      have lt_ry0 := cell_lt9 ry0
      have HE0 := Lib.hid hE
      clear hE hW
      clear hB
      go_loopw [63] (fun i wr => ∃ k : Nat, k ≤ 2 ∧ i = .int .i64 k ∧ ∃ x, wr = ovr W0 x) (fun i _ => 2 - (intOf i).toNat)
      case atStart => exact ⟨0, by omega, rfl, { W0 with heap := #[] }, by simp [ovr]⟩
      case round =>
        obtain ⟨i0, hk0, rfl, z0, rfl⟩ := hrel
        by_cases hlt0 : i0 < 2
        · obtain ⟨tt, g0_0, htt⟩ := HE0.out i0 hlt0
          have lg0 := cell_lt9 g0_0
          have hI0 : (i0 : Int) < 2 := by omega
          go_wp2
          refine name_block 72 rfl ?_
          intro W1 B1 hW hB
          rw [← hB]
          have hE : ∀ q : Nat, q < 3 → ∃ xl xc, W1.cell? ⟨B1, q * 2, none⟩ = some (.int .i64 xl) ∧ W1.cell? ⟨B1, q * 2 + 1, none⟩ = some (.int .i64 xc) := by
            intro q hq
            obtain rfl | rfl | rfl : q = 0 ∨ q = 1 ∨ q = 2 := by omega
            · exact ⟨rl, rc, by subst hW hB; simp [go_sem], by subst hW hB; simp [go_sem]⟩
            · exact ⟨(l : Int), (c : Int), by subst hW hB; simp [go_sem], by subst hW hB; simp [go_sem]⟩
            · exact ⟨(l : Int), 0, by subst hW hB; simp [go_sem], by subst hW hB; simp [go_sem]⟩
          have hb1 : Below W0.heap.size W0 W1 := by rw [hW]; (repeat (first | with_reducible exact Below.refl _ _ | (with_reducible refine Below.setCell ?_ ?_ _; rotate_left; · (first | exact Nat.le_refl _ | assumption | omega | (simp; done) | (simp; omega))) | (with_reducible refine Below.alloc ?_ ?_ _; rotate_left; · (first | exact Nat.le_refl _ | assumption | omega | (simp; done) | (simp; omega))) | with_reducible refine below_ovr_of ?_ | with_reducible refine drew_below ?_ _ | with_reducible refine Below.drew ?_ | with_reducible assumption))
          have hL1 : LinesAt W1 (some ⟨b, off, none⟩) L := hL0.below hb1 (Nat.le_refl _)
          have hsz1 := hb1.size
          have qx1 := cell_keep9 hb1 qx0
          have qy1 := cell_keep9 hb1 qy0
          have rx1 := cell_keep9 hb1 rx0
          have ry1 := cell_keep9 hb1 ry0
          have lt_qx1 := cell_lt9 qx1
          have lt_qy1 := cell_lt9 qy1
          have lt_rx1 := cell_lt9 rx1
          have lt_ry1 := cell_lt9 ry1
          have HE1 := Lib.hid hE
          clear hE hW
          clear hB
          go_loopw [74] (fun i wr => ∃ k : Nat, k ≤ 3 ∧ i = .int .i64 k ∧ ∃ x, wr = ovr W1 x) (fun i _ => 3 - (intOf i).toNat)
          case atStart => exact ⟨0, by omega, rfl, { W1 with heap := #[] }, by simp [ovr]⟩
          case round =>
            obtain ⟨i1, hk1, rfl, z1, rfl⟩ := hrel
            by_cases hlt1 : i1 < 3
            · obtain ⟨xl, xc, g1_0, g1_1⟩ := HE1.out i1 hlt1
              have lg1 := cell_lt9 g1_0
              have hI1 : (i1 : Int) < 3 := by omega
              go_wp2
              refine name_ptr 22 rfl ?_
              intro P1 hP1
              rw [← hP1]
              refine name_block 81 rfl ?_
              intro W2 B2 hW hB
              rw [← hB]
              have hE : ∀ q : Nat, q < 3 → ∃ mm, W2.cell? ⟨B2, q, none⟩ = some (.int .i64 mm) ∧ mm ≤ 9223372036854775807 := by
                intro q hq
                obtain rfl | rfl | rfl : q = 0 ∨ q = 1 ∨ q = 2 := by omega
                · exact ⟨n, by subst hW hB hP1; simp [go_sem], by omega⟩
                · exact ⟨n.tmod 9, by subst hW hB hP1; simp [go_sem], by omega⟩
                · exact ⟨1, by subst hW hB hP1; simp [go_sem], by omega⟩
              have hb2 : Below W1.heap.size W1 W2 := by rw [hW]; (repeat (first | with_reducible exact Below.refl _ _ | (with_reducible refine Below.setCell ?_ ?_ _; rotate_left; · (first | exact Nat.le_refl _ | assumption | omega | (simp; done) | (simp; omega))) | (with_reducible refine Below.alloc ?_ ?_ _; rotate_left; · (first | exact Nat.le_refl _ | assumption | omega | (simp; done) | (simp; omega))) | with_reducible refine below_ovr_of ?_ | with_reducible refine drew_below ?_ _ | with_reducible refine Below.drew ?_ | with_reducible assumption))
              have hL2 : LinesAt W2 (some ⟨b, off, none⟩) L := hL1.below hb2 (Nat.le_refl _)
              have hsz2 := hb2.size
              have qx2 := cell_keep9 hb2 qx1
              have qy2 := cell_keep9 hb2 qy1
              have rx2 := cell_keep9 hb2 rx1
              have ry2 := cell_keep9 hb2 ry1
              have bx1_02 : W2.cell? ⟨P1, 0, none⟩ = some (.int .i64 xl) := by subst hW hP1; simp [go_sem]
              have bx1_12 : W2.cell? ⟨P1, 1, none⟩ = some (.int .i64 xc) := by subst hW hP1; simp [go_sem]
              have lt_qx2 := cell_lt9 qx2
              have lt_qy2 := cell_lt9 qy2
              have lt_rx2 := cell_lt9 rx2
              have lt_ry2 := cell_lt9 ry2
              have lt_bx1_02 := cell_lt9 bx1_02
              have lt_bx1_12 := cell_lt9 bx1_12
              have HE2 := Lib.hid hE
              clear hE hW
              clear hB hP1
              go_loopw [83] (fun i wr => ∃ k : Nat, k ≤ 3 ∧ i = .int .i64 k ∧ ∃ x, wr = ovr W2 x) (fun i _ => 3 - (intOf i).toNat)
              case atStart => exact ⟨0, by omega, rfl, { W2 with heap := #[] }, by simp [ovr]⟩
              case round =>
                obtain ⟨i2, hk2, rfl, z2, rfl⟩ := hrel
                by_cases hlt2 : i2 < 3
                · obtain ⟨mm, g2_0, hkk⟩ := HE2.out i2 hlt2
                  have lg2 := cell_lt9 g2_0
                  have hI2 : (i2 : Int) < 3 := by omega
                  obtain ⟨⟨⟨a1, b1, c1, d1, e1⟩, ok1⟩, hr⟩ : ∃ r, searchP L xl xc tt back mm = r := ⟨_, rfl⟩
                  have HR1 := Lib.hid hr
                  clear hr
                  go_wp2_with fail
                  go_at_call 43; refine (psearch_any _ _ L _ _ _ _ _ _ (by (repeat (first | assumption | refine LinesAt.ovr ?_ _ | refine LinesAt.alloc ?_ _ | refine LinesAt.drewN ?_ _ | refine LinesAt.drew ?_))) htl htt hkk).mono ?_; rw [HR1.out]; rintro e w1 ⟨rfl, hbl⟩; obtain ⟨yy0, rfl⟩ := ovr_of_below hbl; clear hbl
                  go_wp2_with fail
                  go_at_call 44; refine (rsearch_any _ _ L _ _ _ _ _ _ (by (repeat (first | assumption | refine LinesAt.ovr ?_ _ | refine LinesAt.alloc ?_ _ | refine LinesAt.drewN ?_ _ | refine LinesAt.drew ?_))) htl htt hkk).mono ?_; rw [HR1.out]; rintro e w1 ⟨rfl, hbl⟩; obtain ⟨yy1, rfl⟩ := ovr_of_below hbl; clear hbl
                  go_wp2_with fail
                  go_at_call 45; refine (same12_any _ _ _ _ _ _ _).mono ?_; rintro e w1 ⟨rfl, hbl⟩; obtain ⟨yy2, rfl⟩ := ovr_of_below hbl; clear hbl
                  go_wp2_with fail
                  go_roundw
                  case rel => exact ⟨i2 + 1, by omega, by go_num, ovr_of_below (by (repeat (first | with_reducible exact Below.refl _ _ | (with_reducible refine Below.setCell ?_ ?_ _; rotate_left; · (first | exact Nat.le_refl _ | assumption | omega | (simp; done) | (simp; omega))) | (with_reducible refine Below.alloc ?_ ?_ _; rotate_left; · (first | exact Nat.le_refl _ | assumption | omega | (simp; done) | (simp; omega))) | with_reducible refine below_ovr_of ?_ | with_reducible refine drew_below ?_ _ | with_reducible refine Below.drew ?_ | with_reducible assumption)))⟩
                  case measure => simp [intOf]; omega
                · have hI2 : ¬ (i2 : Int) < 3 := by omega
                  go_wp2
                  go_roundw
                  case rel => exact ⟨i1 + 1, by omega, by go_num, ovr_of_below (by (repeat (first | with_reducible exact Below.refl _ _ | (with_reducible refine Below.setCell ?_ ?_ _; rotate_left; · (first | exact Nat.le_refl _ | assumption | omega | (simp; done) | (simp; omega))) | (with_reducible refine Below.alloc ?_ ?_ _; rotate_left; · (first | exact Nat.le_refl _ | assumption | omega | (simp; done) | (simp; omega))) | with_reducible refine below_ovr_of ?_ | with_reducible refine drew_below ?_ _ | with_reducible refine Below.drew ?_ | with_reducible assumption)))⟩
                  case measure => simp [intOf]; omega
            · have hI1 : ¬ (i1 : Int) < 3 := by omega
              go_wp2
              go_roundw
              case rel => exact ⟨i0 + 1, by omega, by go_num, ovr_of_below (by (repeat (first | with_reducible exact Below.refl _ _ | (with_reducible refine Below.setCell ?_ ?_ _; rotate_left; · (first | exact Nat.le_refl _ | assumption | omega | (simp; done) | (simp; omega))) | (with_reducible refine Below.alloc ?_ ?_ _; rotate_left; · (first | exact Nat.le_refl _ | assumption | omega | (simp; done) | (simp; omega))) | with_reducible refine below_ovr_of ?_ | with_reducible refine drew_below ?_ _ | with_reducible refine Below.drew ?_ | with_reducible assumption)))⟩
              case measure => simp [intOf]; omega
        · have hI0 : ¬ (i0 : Int) < 2 := by omega
          go_wp2
          go_ret
          exact ⟨rfl, by (repeat (first | exact Below.refl _ _ | refine Below.alloc ?_ (by first | exact Nat.le_refl _ | (simp; done) | (simp; omega)) _ | refine below_ovr_of ?_ | refine drew_below ?_ _ | refine Below.drew ?_ | refine Below.setCell ?_ (by first | exact Nat.le_refl _ | (simp; done) | (simp; omega)) _ | assumption))⟩)
end Go.Proofs.Ytnaceobbbfbhhaa
