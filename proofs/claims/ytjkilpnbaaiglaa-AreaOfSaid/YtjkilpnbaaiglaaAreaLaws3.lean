/- The walk of the law AreaOf. Conditions: none beyond what it says. -/
import Derived.Test.YtjkilpnbaaiglaaAreaLaws
import Derived.Test.YtjkilpnbaaiglaaSpan
namespace Go.Proofs.Ytjkilpnbaaiglaa
open Go.RowKit

theorem cell_keep {w w' : World} {b o : Nat} {v : Value} (hb : Below w.heap.size w w') (h : w.cell? ⟨b, o, none⟩ = some v) : w'.cell? ⟨b, o, none⟩ = some v :=
  (hb.cell (p := ⟨b, o, none⟩) (World.block_lt_of_cell? w _ h)).trans h
theorem cell_lt {w : World} {b o : Nat} {v : Value} (h : w.cell? ⟨b, o, none⟩ = some v) : b < w.heap.size := World.block_lt_of_cell? w _ h

set_option maxRecDepth 100000 in
set_option maxHeartbeats 2000000 in
theorem areaOf_walk (a : Option Addr) (cap : Nat) (L : List ByteArray) (rl rc ml mc mw : Int) (mj : Bool) (mt sa sb sc sd way : Int) (W : World) (hL : LinesAt W a L)
    (ha : 0 ≤ sa ∧ sa ≤ 65535) (hb : 0 ≤ sb ∧ sb ≤ 65535) (hc : 0 ≤ sc ∧ sc ≤ 65535) (hd : 0 ≤ sd ∧ sd ≤ 65535) (hw : 0 ≤ way ∧ way ≤ 255) :
    Calls Try.prog 11 #[.slice a L.length cap, .agg #[.int .i64 rl, .int .i64 rc], .agg #[.int .i64 ml, .int .i64 mc, .int .i64 mw, .bool mj, .int .i64 mt], .int .u16 sa, .int .u16 sb, .int .u16 sc, .int .u16 sd, .int .u8 way] W fun e W' => e = .returned (.bool true) ∧ Below W.heap.size W W' := by
  obtain ⟨hw0, hw1⟩ := hw
  cases hli : textB L with
  | false =>
    go_enter Try.func11, Try.ntmps11
    go_wp2_with (first
      | (go_at_call 35; refine (known27_any _).mono ?_; rintro e w1 ⟨rfl, hbl⟩; obtain ⟨x, rfl⟩ := ovr_of_below hbl; clear hbl)
      | (go_at_call 27; refine (text_any _ _ L _ (by (repeat (first | assumption | refine LinesAt.ovr ?_ _ | refine LinesAt.alloc ?_ _ | refine LinesAt.drewN ?_ _ | refine LinesAt.drew ?_)))).mono ?_; rintro e w1 ⟨rfl, rfl⟩))
    go_ret
    exact ⟨rfl, by (repeat (first | exact Below.refl _ _ | refine Below.alloc ?_ (by first | exact Nat.le_refl _ | (simp; done) | (simp; omega)) _ | refine below_ovr_of ?_ | refine drew_below ?_ _ | refine Below.drew ?_ | refine Below.setCell ?_ (by first | exact Nat.le_refl _ | (simp; done) | (simp; omega)) _ | assumption))⟩
  | true =>
    obtain ⟨h0, hn, htot, _⟩ := text_spec hli
    go_enter Try.func11, Try.ntmps11
    go_wp2_with (first
      | (go_at_call 35; refine (known27_any _).mono ?_; rintro e w1 ⟨rfl, hbl⟩; obtain ⟨x, rfl⟩ := ovr_of_below hbl; clear hbl)
      | (go_at_call 27; refine (text_any _ _ L _ (by (repeat (first | assumption | refine LinesAt.ovr ?_ _ | refine LinesAt.alloc ?_ _ | refine LinesAt.drewN ?_ _ | refine LinesAt.drew ?_)))).mono ?_; rintro e w1 ⟨rfl, rfl⟩))
    go_at_call 33; refine (seat_any _ _ L _ _ _ (by (repeat (first | assumption | refine LinesAt.ovr ?_ _ | refine LinesAt.alloc ?_ _ | refine LinesAt.drewN ?_ _ | refine LinesAt.drew ?_))) h0 ha hb).mono ?_; rintro e w1 ⟨rfl, hbl⟩; obtain ⟨x1, rfl⟩ := ovr_of_below hbl; clear hbl
    go_wp2_with fail
    go_at_call 33; refine (seat_any _ _ L _ _ _ (by (repeat (first | assumption | refine LinesAt.ovr ?_ _ | refine LinesAt.alloc ?_ _ | refine LinesAt.drewN ?_ _ | refine LinesAt.drew ?_))) h0 hc hd).mono ?_; rintro e w1 ⟨rfl, hbl⟩; obtain ⟨x2, rfl⟩ := ovr_of_below hbl; clear hbl
    go_wp2_with fail
    obtain ⟨pl, hpl⟩ : ∃ n, seatL L sa = n := ⟨_, rfl⟩
    obtain ⟨pc, hpc⟩ : ∃ n, seatC L sa sb = n := ⟨_, rfl⟩
    obtain ⟨ql, hql⟩ : ∃ n, seatL L sc = n := ⟨_, rfl⟩
    obtain ⟨qc, hqc⟩ : ∃ n, seatC L sc sd = n := ⟨_, rfl⟩
    rw [hpl, hpc, hql, hqc]
    clear hpl hpc hql hqc
    refine name_world ?_
    intro W0 hW0
    have m0 : W0.cell? ⟨W.heap.size + 1, 0, none⟩ = some (.int .i64 ml) := by rw [hW0]; simp [go_sem]
    have m1 : W0.cell? ⟨W.heap.size + 1, 1, none⟩ = some (.int .i64 mc) := by rw [hW0]; simp [go_sem]
    have m2 : W0.cell? ⟨W.heap.size + 1, 2, none⟩ = some (.int .i64 mw) := by rw [hW0]; simp [go_sem]
    have m3 : W0.cell? ⟨W.heap.size + 1, 3, none⟩ = some (.bool mj) := by rw [hW0]; simp [go_sem]
    have m4 : W0.cell? ⟨W.heap.size + 1, 4, none⟩ = some (.int .i64 mt) := by rw [hW0]; simp [go_sem]
    have q0 : W0.cell? ⟨W.heap.size + 1 + 1 + x.heap.size + x1.heap.size + x2.heap.size + 1, 0, none⟩ = some (.int .i64 ql) := by rw [hW0]; simp [go_sem]
    have q1 : W0.cell? ⟨W.heap.size + 1 + 1 + x.heap.size + x1.heap.size + x2.heap.size + 1, 1, none⟩ = some (.int .i64 qc) := by rw [hW0]; simp [go_sem]
    have f0 : W0.cell? ⟨W.heap.size + 1 + 1 + x.heap.size + x1.heap.size + x2.heap.size + 1 + 1, 0, none⟩ = some (.int .i64 ql) := by rw [hW0]; simp [go_sem]
    have f1 : W0.cell? ⟨W.heap.size + 1 + 1 + x.heap.size + x1.heap.size + x2.heap.size + 1 + 1, 1, none⟩ = some (.int .i64 0) := by rw [hW0]; simp [go_sem]
    have hE : ∀ k : Nat, k < 2 → ∃ xl xc, W0.cell? ⟨W.heap.size + 1 + 1 + x.heap.size + x1.heap.size + x2.heap.size + 1 + 1 + 1, k * 2, none⟩ = some (.int .i64 xl) ∧ W0.cell? ⟨W.heap.size + 1 + 1 + x.heap.size + x1.heap.size + x2.heap.size + 1 + 1 + 1, k * 2 + 1, none⟩ = some (.int .i64 xc) := by
      intro k hk
      obtain rfl | rfl : k = 0 ∨ k = 1 := by omega
      · exact ⟨rl, rc, by rw [hW0]; simp [go_sem], by rw [hW0]; simp [go_sem]⟩
      · exact ⟨pl, pc, by rw [hW0]; simp [go_sem], by rw [hW0]; simp [go_sem]⟩
    have hL0 : LinesAt W0 a L := by rw [hW0]; (repeat (first | assumption | refine LinesAt.ovr ?_ _ | refine LinesAt.alloc ?_ _ | refine LinesAt.drewN ?_ _ | refine LinesAt.drew ?_))
    have hbel : Below W.heap.size W W0 := by rw [hW0]; (repeat (first | exact Below.refl _ _ | refine Below.alloc ?_ (by first | exact Nat.le_refl _ | (simp; done) | (simp; omega)) _ | refine below_ovr_of ?_ | refine drew_below ?_ _ | refine Below.drew ?_ | refine Below.setCell ?_ (by first | exact Nat.le_refl _ | (simp; done) | (simp; omega)) _ | assumption))
    generalize W.heap.size + 1 + 1 + x.heap.size + x1.heap.size + x2.heap.size = N at *
    generalize W.heap.size + 1 = M at *
    clear hW0 hL
    have HE := Lib.hid hE
    clear hE
    have lm := cell_lt m0
    have lq := cell_lt q0
    have lf := cell_lt f0
    go_loopw [51] (fun i wr => ∃ k : Nat, k ≤ 2 ∧ i = .int .i64 k ∧ ∃ z, wr = ovr W0 z) (fun i _ => 2 - (intOf i).toNat)
    case atStart => exact ⟨0, by omega, rfl, { W0 with heap := #[] }, by simp [ovr]⟩
    case round =>
      obtain ⟨k, hk, rfl, z, rfl⟩ := hrel
      by_cases hlt : k < 2
      · obtain ⟨xl, xc, g0, g1⟩ := HE.out k hlt
        have lg := cell_lt g0
        have hkI : (k : Int) < 2 := by omega
        go_wp2
        refine name_world ?_
        intro W1 hW1
        have hb1 : Below W0.heap.size W0 W1 := by rw [hW1]; (repeat (first | exact Below.refl _ _ | refine Below.alloc ?_ (by first | exact Nat.le_refl _ | (simp; done) | (simp; omega)) _ | refine below_ovr_of ?_ | refine drew_below ?_ _ | refine Below.drew ?_ | refine Below.setCell ?_ (by first | exact Nat.le_refl _ | (simp; done) | (simp; omega)) _ | assumption))
        have hx0 : W1.cell? ⟨W0.heap.size + z.heap.size, 0, none⟩ = some (.int .i64 xl) := by rw [hW1]; simp [go_sem]
        have hx1 : W1.cell? ⟨W0.heap.size + z.heap.size, 1, none⟩ = some (.int .i64 xc) := by rw [hW1]; simp [go_sem]
        have hF : ∀ j : Nat, j < 3 → ∃ tl tc, W1.cell? ⟨W0.heap.size + z.heap.size + 1, j * 2, none⟩ = some (.int .i64 tl) ∧ W1.cell? ⟨W0.heap.size + z.heap.size + 1, j * 2 + 1, none⟩ = some (.int .i64 tc) := by
          intro j hj
          obtain rfl | rfl | rfl : j = 0 ∨ j = 1 ∨ j = 2 := by omega
          · exact ⟨ml, mc, by rw [hW1]; simp [go_sem], by rw [hW1]; simp [go_sem]⟩
          · exact ⟨ql, qc, by rw [hW1]; simp [go_sem], by rw [hW1]; simp [go_sem]⟩
          · exact ⟨ql, 0, by rw [hW1]; simp [go_sem], by rw [hW1]; simp [go_sem]⟩
        have n1 := cell_keep hb1 m1
        have n2 := cell_keep hb1 m2
        have n3 := cell_keep hb1 m3
        have n4 := cell_keep hb1 m4
        have lm1 := cell_lt n2
        have lx1 := cell_lt hx0
        have hL1 : LinesAt W1 a L := hL0.below hb1 (Nat.le_refl _)
        have HF := Lib.hid hF
        clear hF hW1
        generalize W0.heap.size + z.heap.size = P at *
        go_loopw [61] (fun i wr => ∃ j : Nat, j ≤ 3 ∧ i = .int .i64 j ∧ ∃ y, wr = ovr W1 y) (fun i _ => 3 - (intOf i).toNat)
        case atStart => exact ⟨0, by omega, rfl, { W1 with heap := #[] }, by simp [ovr]⟩
        case round =>
          obtain ⟨j, hj, rfl, y, rfl⟩ := hrel
          by_cases hlj : j < 3
          · obtain ⟨ul, uc, u0, u1⟩ := HF.out j hlj
            have lu := cell_lt u0
            have hjI : (j : Int) < 3 := by omega
            go_wp2
            refine name_world ?_
            intro W2 hW2
            have hb2 : Below W1.heap.size W1 W2 := by rw [hW2]; (repeat (first | exact Below.refl _ _ | refine Below.alloc ?_ (by first | exact Nat.le_refl _ | (simp; done) | (simp; omega)) _ | refine below_ovr_of ?_ | refine drew_below ?_ _ | refine Below.drew ?_ | refine Below.setCell ?_ (by first | exact Nat.le_refl _ | (simp; done) | (simp; omega)) _ | assumption))
            have hu0 : W2.cell? ⟨W1.heap.size + y.heap.size, 0, none⟩ = some (.int .i64 ul) := by rw [hW2]; simp [go_sem]
            have hu1 : W2.cell? ⟨W1.heap.size + y.heap.size, 1, none⟩ = some (.int .i64 uc) := by rw [hW2]; simp [go_sem]
            have hG : ∀ h : Nat, h < 2 → ∃ d, W2.cell? ⟨W1.heap.size + y.heap.size + 1, h, none⟩ = some (.int .i64 d) := by
              intro h hh
              obtain rfl | rfl : h = 0 ∨ h = 1 := by omega
              · exact ⟨mw, by rw [hW2]; simp [go_sem]⟩
              · exact ⟨way % 3, by rw [hW2]; simp [go_sem]⟩
            have p2 := cell_keep hb2 n2
            have p3 := cell_keep hb2 n3
            have p4 := cell_keep hb2 n4
            have px0 := cell_keep hb2 hx0
            have px1 := cell_keep hb2 hx1
            have lm2 := cell_lt p2
            have lx2 := cell_lt px0
            have lu2 := cell_lt hu0
            have hL2 : LinesAt W2 a L := hL1.below hb2 (Nat.le_refl _)
            have HG := Lib.hid hG
            clear hG hW2
            generalize W1.heap.size + y.heap.size = Q at *
            go_loopw [72] (fun i wr => ∃ h : Nat, h ≤ 2 ∧ i = .int .i64 h ∧ ∃ v, wr = ovr W2 v) (fun i _ => 2 - (intOf i).toNat)
            case atStart => exact ⟨0, by omega, rfl, { W2 with heap := #[] }, by simp [ovr]⟩
            case round =>
              obtain ⟨h, hh, rfl, v, rfl⟩ := hrel
              by_cases hlh : h < 2
              · obtain ⟨d, g⟩ := HG.out h hlh
                have lg2 := cell_lt g
                have hhI : (h : Int) < 2 := by omega
                obtain ⟨r, hr⟩ : ∃ r, areaP L xl xc ul uc d = r := ⟨_, rfl⟩
                obtain ⟨⟨rk, r1, r2, r3, r4⟩, ok⟩ := r
                have hv : ok = true → validB L rk r1 r2 r3 r4 = true := by
                  intro h
                  have := areaP_valid (L := L) (pl := xl) (pc := xc) (ml := ul) (mc := uc) (way := d)
                  rw [hr] at this
                  exact this h
                cases ok with
                | false =>
                  clear hv
                  go_wp2_with (first
                    | (go_at_call 36; refine (areaOf_any _ _ L _ _ _ _ _ _ _ _ (by (repeat (first | assumption | refine LinesAt.ovr ?_ _ | refine LinesAt.alloc ?_ _ | refine LinesAt.drewN ?_ _ | refine LinesAt.drew ?_)))).mono ?_; rw [hr]; rintro e w1 ⟨rfl, hbl⟩; obtain ⟨x3, rfl⟩ := ovr_of_below hbl; clear hbl)
                    | (go_at_call 37; refine (rareaOf_any _ _ L _ _ _ _ _ _ _ _ (by (repeat (first | assumption | refine LinesAt.ovr ?_ _ | refine LinesAt.alloc ?_ _ | refine LinesAt.drewN ?_ _ | refine LinesAt.drew ?_)))).mono ?_; rw [hr]; rintro e w1 ⟨rfl, hbl⟩; obtain ⟨x3, rfl⟩ := ovr_of_below hbl; clear hbl))
                  go_roundw
                  case rel => exact ⟨h + 1, by omega, by go_num, ovr_of_below (by (repeat (first | exact Below.refl _ _ | refine Below.alloc ?_ (by first | exact Nat.le_refl _ | (simp; done) | (simp; omega)) _ | refine below_ovr_of ?_ | refine drew_below ?_ _ | refine Below.drew ?_ | refine Below.setCell ?_ (by first | exact Nat.le_refl _ | (simp; done) | (simp; omega)) _ | assumption)))⟩
                  case measure => simp [intOf]; omega
                | true =>
                  have hv' := hv rfl
                  clear hv
                  go_wp2_with (first
                    | (go_at_call 36; refine (areaOf_any _ _ L _ _ _ _ _ _ _ _ (by (repeat (first | assumption | refine LinesAt.ovr ?_ _ | refine LinesAt.alloc ?_ _ | refine LinesAt.drewN ?_ _ | refine LinesAt.drew ?_)))).mono ?_; rw [hr]; rintro e w1 ⟨rfl, hbl⟩; obtain ⟨x3, rfl⟩ := ovr_of_below hbl; clear hbl)
                    | (go_at_call 37; refine (rareaOf_any _ _ L _ _ _ _ _ _ _ _ (by (repeat (first | assumption | refine LinesAt.ovr ?_ _ | refine LinesAt.alloc ?_ _ | refine LinesAt.drewN ?_ _ | refine LinesAt.drew ?_)))).mono ?_; rw [hr]; rintro e w1 ⟨rfl, hbl⟩; obtain ⟨x3, rfl⟩ := ovr_of_below hbl; clear hbl)
                    | (go_at_call 38; refine (rvalid_any _ _ L _ _ _ _ _ _ (by (repeat (first | assumption | refine LinesAt.ovr ?_ _ | refine LinesAt.alloc ?_ _ | refine LinesAt.drewN ?_ _ | refine LinesAt.drew ?_)))).mono ?_; rw [hv']; rintro e w1 ⟨rfl, hbl⟩; obtain ⟨x3, rfl⟩ := ovr_of_below hbl; clear hbl))
                  go_roundw
                  case rel => exact ⟨h + 1, by omega, by go_num, ovr_of_below (by (repeat (first | exact Below.refl _ _ | refine Below.alloc ?_ (by first | exact Nat.le_refl _ | (simp; done) | (simp; omega)) _ | refine below_ovr_of ?_ | refine drew_below ?_ _ | refine Below.drew ?_ | refine Below.setCell ?_ (by first | exact Nat.le_refl _ | (simp; done) | (simp; omega)) _ | assumption)))⟩
                  case measure => simp [intOf]; omega
              · have hhI : ¬ (h : Int) < 2 := by omega
                go_wp2
                go_roundw
                case rel => exact ⟨j + 1, by omega, by go_num, ovr_of_below (by (repeat (first | exact Below.refl _ _ | refine Below.alloc ?_ (by first | exact Nat.le_refl _ | (simp; done) | (simp; omega)) _ | refine below_ovr_of ?_ | refine drew_below ?_ _ | refine Below.drew ?_ | refine Below.setCell ?_ (by first | exact Nat.le_refl _ | (simp; done) | (simp; omega)) _ | assumption)))⟩
                case measure => simp [intOf]; omega
          · have hjI : ¬ (j : Int) < 3 := by omega
            go_wp2
            go_roundw
            case rel => exact ⟨k + 1, by omega, by go_num, ovr_of_below (by (repeat (first | exact Below.refl _ _ | refine Below.alloc ?_ (by first | exact Nat.le_refl _ | (simp; done) | (simp; omega)) _ | refine below_ovr_of ?_ | refine drew_below ?_ _ | refine Below.drew ?_ | refine Below.setCell ?_ (by first | exact Nat.le_refl _ | (simp; done) | (simp; omega)) _ | assumption)))⟩
            case measure => simp [intOf]; omega
      · have hkI : ¬ (k : Int) < 2 := by omega
        go_wp2
        go_ret
        exact ⟨rfl, by (repeat (first | exact Below.refl _ _ | refine Below.alloc ?_ (by first | exact Nat.le_refl _ | (simp; done) | (simp; omega)) _ | refine below_ovr_of ?_ | refine drew_below ?_ _ | refine Below.drew ?_ | refine Below.setCell ?_ (by first | exact Nat.le_refl _ | (simp; done) | (simp; omega)) _ | assumption))⟩
end Go.Proofs.Ytjkilpnbaaiglaa
