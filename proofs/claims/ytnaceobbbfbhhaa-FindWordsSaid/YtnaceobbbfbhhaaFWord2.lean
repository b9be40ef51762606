/- The contract of find.Word. Conditions: none beyond what it says. -/
import Derived.Test.YtnaceobbbfbhhaaFWord
import Derived.Test.YtnaceobbbfbhhaaPos0
import Derived.Test.YtnaceobbbfbhhaaPara2
import Derived.Deep.RegionHeld3
namespace Go.Proofs.Ytnaceobbbfbhhaa
open Go.RowKit

abbrev fwV (r : (Int × Int) × ByteArray × Bool) : Value := .tuple #[.agg #[.int .i64 r.1.1, .int .i64 r.1.2], .string r.2.1, .bool r.2.2]
set_option maxRecDepth 100000 in
set_option maxHeartbeats 4000000 in
theorem pword_any (a : Option Addr) (cap : Nat) (L : List ByteArray) (pl pc : Int) (w : World) (hL : LinesAt w a L) :
    Calls Try.prog 46 #[.slice a L.length cap, .agg #[.int .i64 pl, .int .i64 pc]] w fun e w' => e = .returned (fwV (wordW L pl pc)) ∧ Below w.heap.size w w' := by
  have hn := hL.2.1
  cases hp : plcB L pl pc with
  | false =>
    have HP := Lib.hid hp
    have HY : Hid (wordW L pl pc = ((0, 0), ⟨#[]⟩, false)) := Lib.hid (by rw [wordW, if_neg (by rw [hp]; decide)])
    clear hp
    go_enter Try.func46, Try.ntmps46
    go_wp2_with (go_at_call 81; refine (place_at _ _ L _ _ _ (by (repeat (first | assumption | refine LinesAt.ovr ?_ _ | refine LinesAt.alloc ?_ _ | refine LinesAt.drewN ?_ _ | refine LinesAt.drew ?_))) HP).mono ?_; rintro e w1 ⟨rfl, hbl⟩; obtain ⟨x, rfl⟩ := ovr_of_below hbl; clear hbl)
    refine bodyPost_ret (v := fwV ((0, 0), ⟨#[]⟩, false)) (by simp [results, Try.results46, go_sem]) rfl ⟨by rw [HY.out], by (repeat (first | with_reducible exact Below.refl _ _ | (with_reducible refine Below.setCell ?_ ?_ _; rotate_left; · (first | exact Nat.le_refl _ | assumption | omega | (simp; done) | (simp; omega))) | (with_reducible refine Below.alloc ?_ ?_ _; rotate_left; · (first | exact Nat.le_refl _ | assumption | omega | (simp; done) | (simp; omega))) | with_reducible refine below_ovr_of ?_ | with_reducible refine drew_below ?_ _ | with_reducible refine Below.drew ?_ | with_reducible assumption))⟩
  | true =>
    have HP := Lib.hid hp
    obtain ⟨p1, p2, p3, p4⟩ := plcB_spec hp
    obtain ⟨l, rfl⟩ := Int.eq_ofNat_of_zero_le p1
    obtain ⟨c, rfl⟩ := Int.eq_ofNat_of_zero_le p3
    have hl : l < L.length := by omega
    obtain ⟨b, off, s, rfl, hb, hcell, hs, HS⟩ := line_facts' hL hl
    rw [Int.toNat_natCast, HS.out] at p4
    have hw := show wordW L l c = _ from by rw [wordW, if_pos hp, ln, Int.toNat_natCast, Int.toNat_natCast, HS.out]
    have HW := Lib.hid hw
    have hlI : (l : Int) < (L.length : Int) := by omega
    have hl0 : (0 : Int) ≤ (l : Int) := by omega
    clear hp hw
    go_enter Try.func46, Try.ntmps46
    go_wp2_with (go_at_call 81; refine (place_at _ _ L _ _ _ (by (repeat (first | assumption | refine LinesAt.ovr ?_ _ | refine LinesAt.alloc ?_ _ | refine LinesAt.drewN ?_ _ | refine LinesAt.drew ?_))) HP).mono ?_; rintro e w1 ⟨rfl, hbl⟩; obtain ⟨x, rfl⟩ := ovr_of_below hbl; clear hbl)
    obtain ⟨Bs, hBs⟩ : ∃ Bs, w.heap.size + 1 + 1 + x.heap.size = Bs := ⟨_, rfl⟩
    rw [hBs]
    refine name_world ?_
    intro W1 hW1
    have cs : W1.cell? ⟨Bs, 0, none⟩ = some (.string s) := by rw [hW1, ← hBs]; simp [go_sem]
    have cp0 : W1.cell? ⟨w.heap.size, 0, none⟩ = some (.int .i64 l) := by rw [hW1]; simp [go_sem]
    have cp1 : W1.cell? ⟨w.heap.size, 1, none⟩ = some (.int .i64 c) := by rw [hW1]; simp [go_sem]
    have cr0 : W1.cell? ⟨w.heap.size + 1, 0, none⟩ = some (.int .i64 0) := by rw [hW1]; simp [go_sem]
    have cr1 : W1.cell? ⟨w.heap.size + 1, 1, none⟩ = some (.int .i64 0) := by rw [hW1]; simp [go_sem]
    have cf0 : W1.frozen? ⟨w.heap.size + 1, 0, none⟩ = false := by rw [hW1]; simp [go_sem]
    have cf1 : W1.frozen? ⟨w.heap.size + 1, 1, none⟩ = false := by rw [hW1]; simp [go_sem]
    have hbel : Below w.heap.size w W1 := by rw [hW1]; (repeat (first | with_reducible exact Below.refl _ _ | (with_reducible refine Below.setCell ?_ ?_ _; rotate_left; · (first | exact Nat.le_refl _ | assumption | omega | (simp; done) | (simp; omega))) | (with_reducible refine Below.alloc ?_ ?_ _; rotate_left; · (first | exact Nat.le_refl _ | assumption | omega | (simp; done) | (simp; omega))) | with_reducible refine below_ovr_of ?_ | with_reducible refine drew_below ?_ _ | with_reducible refine Below.drew ?_ | with_reducible assumption))
    have lR : w.heap.size + 1 < W1.heap.size := World.block_lt_of_cell? _ _ cr0
    have hne : ¬ Bs = w.heap.size + 1 := by omega
    have hne' : ¬ w.heap.size + 1 = Bs := by omega
    clear hW1 hBs
    obtain ⟨f, hf⟩ : ∃ f, wFrom s c = f := ⟨_, rfl⟩
    rw [hf] at HW
    have HF := Lib.hid hf
    have hfin := wFrom_in (s := s) _ c rfl
    rw [hf] at hfin
    obtain ⟨hf1, hf2, _⟩ := hfin
    have HF2 := Lib.hid hf2
    clear hf hf2
    go_loop [9] (fun v => ∃ k : Nat, c ≤ k ∧ k ≤ s.size ∧ v = .int .i64 (k : Int) ∧ Hid (wFrom s k = f)) (fun v => s.size - (intOf v).toNat)
    case atStart => exact ⟨c, Nat.le_refl _, by omega, rfl, HF⟩
    case round =>
      obtain ⟨k, hk, hks, rfl, HK⟩ := hrel
      by_cases hlt : k < s.size
      · have hltI : (k : Int) < (s.size : Int) := by omega
        cases hw : wrdB s k with
        | false =>
          have HI : Hid ((decide ((0 : Int) ≤ (k : Int)) && wrdB s (k : Int).toNat) = false) := Lib.hid (by rw [Int.toNat_natCast, hw, Bool.and_false])
          have HK2 : Hid (wFrom s (k + 1) = f) := Lib.hid (by rw [← HK.out, wFrom_no hlt hw])
          clear hw HK
          go_wp2_with (go_at_call 91; refine (fis_any s _ _ _ hs cs).mono ?_; rw [HI.out]; rintro e9 w9 ⟨rfl, rfl⟩)
          go_round
          case rel => exact ⟨k + 1, by omega, by omega, by go_num, HK2⟩
          case measure => simp [intOf]; omega
        | true =>
          have HI : Hid ((decide ((0 : Int) ≤ (k : Int)) && wrdB s (k : Int).toNat) = true) := Lib.hid (by rw [Int.toNat_natCast, hw, Bool.and_true, decide_eq_true (by omega)])
          have hkf : k = f := by rw [← HK.out, wFrom_yes hw]
          subst hkf
          have hgeI : ¬ (s.size : Int) ≤ (k : Int) := by omega
          have hgeN : decide (s.size ≤ k) = false := decide_eq_false (by omega)
          clear hw HK
          go_wp2_with (go_at_call 91; refine (fis_any s _ _ _ hs cs).mono ?_; rw [HI.out]; rintro e9 w9 ⟨rfl, rfl⟩)
          obtain ⟨g, hg⟩ : ∃ g, wBack s k = g := ⟨_, rfl⟩
          have hgin := wBack_in (s := s) k
          rw [hg] at hgin
          obtain ⟨hg1, hg2, _⟩ := hgin
          have HG2 := Lib.hid hg2
          have HG := Lib.hid hg
          clear hg hg2
          obtain ⟨z, hz⟩ : ∃ z, wEnd s g = z := ⟨_, rfl⟩
          have hzin := wEnd_in (s := s) _ g rfl (by omega)
          rw [hz] at hzin
          obtain ⟨hz1, hz2, hz3, hz4⟩ := hzin
          have HZ := Lib.hid hz
          have HZ3 := Lib.hid hz3
          have HZ4 := Lib.hid hz4
          clear hz hz3 hz4
          have HY : Hid (wordW L l c = (((l : Int), (g : Int)), s.extract g z, true)) := Lib.hid (by rw [HW.out, if_pos hlt, HG.out, HZ.out])
          clear HW HF2
          go_loop [9] (fun v => ∃ j : Nat, j ≤ k ∧ v = .int .i64 (j : Int) ∧ Hid (wBack s j = g)) (fun v => (intOf v).toNat)
          case atStart => exact ⟨k, Nat.le_refl _, rfl, HG⟩
          case round =>
            obtain ⟨j, hj, rfl, HJ⟩ := hrel
            have hq : 0 < j ∧ wrdB s (j - 1) = true ∨ (decide ((0 : Int) ≤ (j : Int) - 1) && wrdB s ((j : Int) - 1).toNat) = false ∧ j = g := by
              cases j with
              | zero => exact .inr ⟨by simp, by have := HJ.out; simpa [wBack] using this⟩
              | succ i =>
                cases hw : wrdB s i with
                | true => exact .inl ⟨by omega, by simpa using hw⟩
                | false => exact .inr ⟨by rw [show ((i + 1 : Nat) : Int) - 1 = (i : Int) by omega, Int.toNat_natCast, hw, Bool.and_false], by rw [← HJ.out, wBack_no hw]⟩
            have HQ := Lib.hid hq
            clear hq
            rcases HQ.out with ⟨hj0, hw⟩ | ⟨hw, hjg⟩
            · have HI : Hid ((decide ((0 : Int) ≤ (j : Int) - 1) && wrdB s ((j : Int) - 1).toNat) = true) := Lib.hid (by rw [show ((j : Int) - 1).toNat = j - 1 by omega, hw, Bool.and_true, decide_eq_true (by omega)])
              have HJ2 : Hid (wBack s (j - 1) = g) := Lib.hid (by
                have h := HJ.out
                obtain ⟨i, rfl⟩ : ∃ i, j = i + 1 := ⟨j - 1, by omega⟩
                rw [Nat.add_sub_cancel] at hw ⊢
                rw [wBack_yes hw] at h
                exact h)
              clear hw HJ HQ
              go_wp2_with (go_at_call 91; refine (fis_any s _ _ _ hs cs).mono ?_; rw [HI.out]; rintro e9 w9 ⟨rfl, rfl⟩)
              go_round
              case rel => exact ⟨j - 1, by omega, by congr 1; omega, HJ2⟩
              case measure => simp [intOf]; omega
            · have HI := Lib.hid hw
              subst hjg
              clear hw HJ HQ
              go_wp2_with (go_at_call 91; refine (fis_any s _ _ _ hs cs).mono ?_; rw [HI.out]; rintro e9 w9 ⟨rfl, rfl⟩)
              go_loop [10] (fun v => ∃ q : Nat, j ≤ q ∧ q ≤ z ∧ v = .int .i64 (q : Int)) (fun v => z - (intOf v).toNat)
              case atStart => exact ⟨j, Nat.le_refl _, hz1, rfl⟩
              case round =>
                obtain ⟨q, hq1, hq2, rfl⟩ := hrel
                by_cases hqz : q < z
                · have HI2 : Hid ((decide ((0 : Int) ≤ (q : Int)) && wrdB s (q : Int).toNat) = true) := Lib.hid (by rw [Int.toNat_natCast, HZ3.out q hq1 hqz, Bool.and_true, decide_eq_true (by omega)])
                  go_wp2_with (go_at_call 91; refine (fis_any s _ _ _ hs cs).mono ?_; rw [HI2.out]; rintro e9 w9 ⟨rfl, rfl⟩)
                  go_round
                  case rel => exact ⟨q + 1, by omega, by omega, by go_num⟩
                  case measure => simp [intOf]; omega
                · have hqe : q = z := by omega
                  subst hqe
                  have HI2 : Hid ((decide ((0 : Int) ≤ (q : Int)) && wrdB s (q : Int).toNat) = false) := Lib.hid (by rw [Int.toNat_natCast, HZ4.out, Bool.and_false])
                  go_wp2_with (go_at_call 91; refine (fis_any s _ _ _ hs cs).mono ?_; rw [HI2.out]; rintro e9 w9 ⟨rfl, rfl⟩)
                  go_region_held3 (fun w' => w.heap.size + 1 < w'.heap.size ∧ w'.cell? ⟨Bs, 0, none⟩ = some (.string s) ∧ w'.cell? ⟨w.heap.size, 0, none⟩ = some (.int .i64 l)) (go_split_ands <;> first | assumption | (simp [go_sem]; done) | (simp [go_sem, *]; done) | (simp [go_sem]; omega)) (fail)
                  go_wp2
                  refine bodyPost_ret (v := fwV (((l : Int), (j : Int)), s.extract j q, true)) (by simp [results, Try.results46, go_sem, cr0, cr1]) rfl ⟨by rw [HY.out], by (repeat (first | with_reducible exact Below.refl _ _ | (with_reducible refine Below.setCell ?_ ?_ _; rotate_left; · (first | exact Nat.le_refl _ | assumption | omega | (simp; done) | (simp; omega))) | (with_reducible refine Below.alloc ?_ ?_ _; rotate_left; · (first | exact Nat.le_refl _ | assumption | omega | (simp; done) | (simp; omega))) | with_reducible refine below_ovr_of ?_ | with_reducible refine drew_below ?_ _ | with_reducible refine Below.drew ?_ | with_reducible assumption))⟩
      · have hltI : ¬ (k : Int) < (s.size : Int) := by omega
        have hkf : k = f := by rw [← HK.out, wFrom_end (by omega)]
        subst hkf
        have HY : Hid (wordW L l c = ((0, 0), ⟨#[]⟩, false)) := Lib.hid (by rw [HW.out, if_neg hlt])
        clear HK HW
        go_wp2
        refine bodyPost_ret (v := fwV ((0, 0), ⟨#[]⟩, false)) (by simp [results, Try.results46, go_sem, cr0, cr1]) rfl ⟨by rw [HY.out], by (repeat (first | with_reducible exact Below.refl _ _ | (with_reducible refine Below.setCell ?_ ?_ _; rotate_left; · (first | exact Nat.le_refl _ | assumption | omega | (simp; done) | (simp; omega))) | (with_reducible refine Below.alloc ?_ ?_ _; rotate_left; · (first | exact Nat.le_refl _ | assumption | omega | (simp; done) | (simp; omega))) | with_reducible refine below_ovr_of ?_ | with_reducible refine drew_below ?_ _ | with_reducible refine Below.drew ?_ | with_reducible assumption))⟩
end Go.Proofs.Ytnaceobbbfbhhaa
