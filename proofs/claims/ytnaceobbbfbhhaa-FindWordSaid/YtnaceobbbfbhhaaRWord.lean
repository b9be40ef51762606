/- The contract of the reference's word at a place. Conditions: none beyond what it says. -/
import Derived.Test.YtnaceobbbfbhhaaFWord2
namespace Go.Proofs.Ytnaceobbbfbhhaa
open Go.RowKit

/-- Back, as long as two bytes side by side are of words. -/
def aBack (s : ByteArray) : Nat → Nat
  | 0 => 0
  | i + 1 => if wrdB s (i + 1) = true ∧ wrdB s i = true then aBack s i else i + 1
theorem aBack_yes {s : ByteArray} {i : Nat} (h : wrdB s (i + 1) = true) (h2 : wrdB s i = true) : aBack s (i + 1) = aBack s i := by rw [aBack, if_pos ⟨h, h2⟩]
theorem aBack_no {s : ByteArray} {i : Nat} (h : ¬ (wrdB s (i + 1) = true ∧ wrdB s i = true)) : aBack s (i + 1) = i + 1 := by rw [aBack, if_neg h]
theorem aBack_le {s : ByteArray} : ∀ i, aBack s i ≤ i
  | 0 => Nat.le_refl _
  | i + 1 => by
    by_cases h : wrdB s (i + 1) = true ∧ wrdB s i = true
    · rw [aBack_yes h.1 h.2]; have := aBack_le (s := s) i; omega
    · rw [aBack_no h]; exact Nat.le_refl _
theorem aBack_back {s : ByteArray} : ∀ i, wrdB s i = true → aBack s i = wBack s i ∧ wrdB s (wBack s i) = true
  | 0, h => ⟨rfl, h⟩
  | i + 1, h => by
    cases h2 : wrdB s i with
    | true => rw [aBack_yes h h2, wBack_yes h2]; exact aBack_back i h2
    | false => rw [aBack_no (fun hh => by rw [h2] at hh; exact absurd hh.2 (by decide)), wBack_no h2]; exact ⟨rfl, h⟩
theorem aBack_out {s : ByteArray} {i : Nat} (h : wrdB s i = false) : aBack s i = i := by
  cases i with
  | zero => rfl
  | succ i => exact aBack_no (fun hh => by rw [h] at hh; exact absurd hh.1 (by decide))
theorem wBack_self {s : ByteArray} {i : Nat} (h : i = 0 ∨ wrdB s (i - 1) = false) : wBack s i = i := by
  cases i with
  | zero => rfl
  | succ i => exact wBack_no (by rcases h with h | h; omega; exact h)
/-- Back and then on: where find.Word's own way leads. -/
theorem rword_plain {s : ByteArray} {c : Nat} : (wFrom s (aBack s c) < s.size ↔ wFrom s c < s.size) ∧ (wFrom s c < s.size → wFrom s (aBack s c) = wBack s (wFrom s c)) := by
  cases hw : wrdB s c with
  | true =>
    obtain ⟨h1, h2⟩ := aBack_back c hw
    have hlt : c < s.size := by simp only [wrdB, Bool.and_eq_true, decide_eq_true_eq] at hw; exact hw.1
    have hlt2 : wBack s c < s.size := by have := (wBack_in (s := s) c).1; omega
    rw [h1, wFrom_yes hw, wFrom_yes h2]
    exact ⟨⟨fun _ => hlt, fun _ => hlt2⟩, fun _ => rfl⟩
  | false =>
    rw [aBack_out hw]
    refine ⟨Iff.rfl, fun hf => ?_⟩
    obtain ⟨h1, h2, h3⟩ := wFrom_in (s := s) _ c rfl
    by_cases e : wFrom s c = c
    · rw [e] at h2 hf; rw [h2 hf] at hw; cases hw
    · rw [wBack_self (.inr (h3 _ (by omega) (by omega)))]
set_option maxRecDepth 100000 in
set_option maxHeartbeats 8000000 in
theorem rword_any (a : Option Addr) (cap : Nat) (L : List ByteArray) (pl pc : Int) (w : World) (hL : LinesAt w a L) :
    Calls Try.prog 47 #[.slice a L.length cap, .agg #[.int .i64 pl, .int .i64 pc]] w fun e w' => e = .returned (fwV (wordW L pl pc)) ∧ Below w.heap.size w w' := by
  have hn := hL.2.1
  cases hp : plcB L pl pc with
  | false =>
    have HQ : Hid ((plcB L pl pc && decide ((1 : Int) ≤ 1)) = false) := Lib.hid (by rw [hp]; rfl)
    have HY : Hid (wordW L pl pc = ((0, 0), ⟨#[]⟩, false)) := Lib.hid (by rw [wordW, if_neg (by rw [hp]; decide)])
    clear hp
    go_enter Try.func47, Try.ntmps47
    go_wp2_with (go_at_call 85; refine (rmay_at _ _ L _ _ _ _ (by (repeat (first | assumption | refine LinesAt.ovr ?_ _ | refine LinesAt.alloc ?_ _ | refine LinesAt.drewN ?_ _ | refine LinesAt.drew ?_))) HQ).mono ?_; rintro e w1 ⟨rfl, hbl⟩; obtain ⟨x, rfl⟩ := ovr_of_below hbl; clear hbl)
    refine bodyPost_ret (v := fwV ((0, 0), ⟨#[]⟩, false)) (by simp [results, Try.results47, go_sem]) rfl ⟨by rw [HY.out], by (repeat (first | with_reducible exact Below.refl _ _ | (with_reducible refine Below.setCell ?_ ?_ _; rotate_left; · (first | exact Nat.le_refl _ | assumption | omega | (simp; done) | (simp; omega))) | (with_reducible refine Below.alloc ?_ ?_ _; rotate_left; · (first | exact Nat.le_refl _ | assumption | omega | (simp; done) | (simp; omega))) | with_reducible refine below_ovr_of ?_ | with_reducible refine drew_below ?_ _ | with_reducible refine Below.drew ?_ | with_reducible assumption))⟩
  | true =>
    have HQ : Hid ((plcB L pl pc && decide ((1 : Int) ≤ 1)) = true) := Lib.hid (by rw [hp]; rfl)
    obtain ⟨p1, p2, p3, p4⟩ := plcB_spec hp
    obtain ⟨l, rfl⟩ := Int.eq_ofNat_of_zero_le p1
    obtain ⟨c, rfl⟩ := Int.eq_ofNat_of_zero_le p3
    have hl : l < L.length := by omega
    obtain ⟨b, off, s, rfl, hb, hcell, hs, HS⟩ := line_facts' hL hl
    rw [Int.toNat_natCast, HS.out] at p4
    have hw := show wordW L l c = _ from by rw [wordW, if_pos hp, ln, Int.toNat_natCast, Int.toNat_natCast, HS.out]
    have HW := Lib.hid hw
    have hlI : (l : Int) < (L.length : Int) := by omega
    have hl0 : (0 : Int) ≤ (l : Int) := by omega
    have hBY : ∀ k : Nat, k < s.size → ∃ (q : Int) (t : Bool), wrdB s k = t ∧ (q == 1) = t ∧ (q != 1) = !t ∧ ∀ W0 : World, ∀ h : k < s.size, Calls Try.prog 48 #[.int .u8 (s[k].toNat : Int), .bool false] W0 fun e w' => e = .returned (.int .i64 q) ∧ W0 = w' := by
      intro k hk
      refine ⟨ofC (s[k].toNat : Int) false, ofC (s[k].toNat : Int) false == 1, ?_, rfl, rfl, fun W0 _ => rof_any _ _ _⟩
      rw [wrdB, byt_atW s k hk, decide_eq_true hk]; rfl
    have HBY := Lib.hid hBY
    obtain ⟨rp1, rp2⟩ := rword_plain (s := s) (c := c)
    have hale := aBack_le (s := s) c
    obtain ⟨A, hA⟩ : ∃ A, aBack s c = A := ⟨_, rfl⟩
    obtain ⟨F, hF⟩ : ∃ F, wFrom s A = F := ⟨_, rfl⟩
    obtain ⟨f, hf⟩ : ∃ f, wFrom s c = f := ⟨_, rfl⟩
    rw [hA] at rp1 rp2 hale
    rw [hF, hf] at rp1 rp2
    rw [hf] at HW
    have hFin := wFrom_in (s := s) _ A rfl
    rw [hF] at hFin
    obtain ⟨hF1, hF2, hF3⟩ := hFin
    have HA := Lib.hid hA
    have HF := Lib.hid hF
    have HF2 := Lib.hid hF2
    have HF3 := Lib.hid hF3
    have RP1 := Lib.hid rp1
    have RP2 := Lib.hid rp2
    clear hp hw hBY hA hF hf hF2 hF3 rp1 rp2
    go_enter Try.func47, Try.ntmps47
    go_wp2_with (go_at_call 85; refine (rmay_at _ _ L _ _ _ _ (by (repeat (first | assumption | refine LinesAt.ovr ?_ _ | refine LinesAt.alloc ?_ _ | refine LinesAt.drewN ?_ _ | refine LinesAt.drew ?_))) HQ).mono ?_; rintro e w1 ⟨rfl, hbl⟩; obtain ⟨x, rfl⟩ := ovr_of_below hbl; clear hbl)
    refine name_world ?_
    intro W1 hW1
    have cp0 : W1.cell? ⟨w.heap.size, 0, none⟩ = some (.int .i64 l) := by rw [hW1]; simp [go_sem]
    have cp1 : W1.cell? ⟨w.heap.size, 1, none⟩ = some (.int .i64 c) := by rw [hW1]; simp [go_sem]
    have cr0 : W1.cell? ⟨w.heap.size + 1, 0, none⟩ = some (.int .i64 0) := by rw [hW1]; simp [go_sem]
    have cr1 : W1.cell? ⟨w.heap.size + 1, 1, none⟩ = some (.int .i64 0) := by rw [hW1]; simp [go_sem]
    have cf0 : W1.frozen? ⟨w.heap.size + 1, 0, none⟩ = false := by rw [hW1]; simp [go_sem]
    have cf1 : W1.frozen? ⟨w.heap.size + 1, 1, none⟩ = false := by rw [hW1]; simp [go_sem]
    have hbel : Below w.heap.size w W1 := by rw [hW1]; (repeat (first | with_reducible exact Below.refl _ _ | (with_reducible refine Below.setCell ?_ ?_ _; rotate_left; · (first | exact Nat.le_refl _ | assumption | omega | (simp; done) | (simp; omega))) | (with_reducible refine Below.alloc ?_ ?_ _; rotate_left; · (first | exact Nat.le_refl _ | assumption | omega | (simp; done) | (simp; omega))) | with_reducible refine below_ovr_of ?_ | with_reducible refine drew_below ?_ _ | with_reducible refine Below.drew ?_ | with_reducible assumption))
    have lR : w.heap.size + 1 < W1.heap.size := World.block_lt_of_cell? _ _ cr0
    clear hW1
    go_loop [8] (fun v => ∃ j : Nat, j ≤ c ∧ v = .int .i64 (j : Int) ∧ Hid (aBack s j = A)) (fun v => (intOf v).toNat)
    case atStart => exact ⟨c, Nat.le_refl _, rfl, HA⟩
    case round =>
      obtain ⟨j, hj, rfl, HJ⟩ := hrel
      by_cases hgo : 0 < j ∧ j < s.size ∧ wrdB s j = true ∧ wrdB s (j - 1) = true
      · obtain ⟨g1, g2, g3, g4⟩ := hgo
        obtain ⟨i, rfl⟩ : ∃ i, j = i + 1 := ⟨j - 1, by omega⟩
        rw [Nat.add_sub_cancel] at g4
        have HJ2 : Hid (aBack s i = A) := Lib.hid (by rw [← HJ.out, aBack_yes g3 g4])
        obtain ⟨qa, ta, e1, e2, e3, e4⟩ := HBY.out (i + 1) g2
        obtain ⟨qb, tb, f1, f2, f3, f4⟩ := HBY.out i (by omega)
        rw [g3] at e1
        rw [g4] at f1
        subst e1
        subst f1
        have E4 := Lib.hid e4
        have F4 := Lib.hid f4
        have hi1 : ((i + 1 : Nat) : Int) = (i : Int) + 1 := by omega
        rw [hi1]
        have hiI : (i : Int) + 1 < (s.size : Int) := by omega
        have hi2 : (i : Int) + 1 - 1 = (i : Int) := by omega
        have hi3 : (i : Int) < (s.size : Int) := by omega
        have hi4 : (0 : Int) ≤ (i : Int) := by omega
        have hi5 : ((i : Int) + 1).toNat = i + 1 := by omega
        clear e4 f4 HJ hi1 e3 f3
        go_wp2_with fail
        go_at_call 48; refine (E4.out _ g2).mono ?_; rintro e9 w9 ⟨rfl, rfl⟩
        go_wp2_with fail
        go_at_call 48; refine (F4.out _ (by omega)).mono ?_; rintro e9 w9 ⟨rfl, rfl⟩
        go_wp2_with fail
        go_round
        case rel => exact ⟨i, by omega, by first | rfl | go_num, HJ2⟩
        case measure => simp [intOf] <;> omega
      · have hjA : j = A := by
          rw [← HJ.out]
          cases j with
          | zero => rfl
          | succ i =>
            refine (aBack_no (fun h => hgo ⟨by omega, ?_, h.1, h.2⟩)).symm
            have := h.1
            simp only [wrdB, Bool.and_eq_true, decide_eq_true_eq] at this
            exact this.1
        subst hjA
        rcases (by
          by_cases h1 : 0 < j
          · by_cases h2 : j < s.size
            · cases h3 : wrdB s j with
              | false => exact .inr (.inr (.inl ⟨h1, h2, rfl⟩))
              | true => exact .inr (.inr (.inr ⟨h1, h2, rfl, by cases h4 : wrdB s (j - 1) with | false => rfl | true => exact absurd ⟨h1, h2, h3, h4⟩ hgo⟩))
            · exact .inr (.inl ⟨h1, h2⟩)
          · exact .inl h1 : ¬ 0 < j ∨ (0 < j ∧ ¬ j < s.size) ∨ (0 < j ∧ j < s.size ∧ wrdB s j = false) ∨ (0 < j ∧ j < s.size ∧ wrdB s j = true ∧ wrdB s (j - 1) = false)) with g1 | ⟨g1, g2⟩ | ⟨g1, g2, g3⟩ | ⟨g1, g2, g3, g4⟩
        case' inl =>
          have g1I : ¬ (0 : Int) < (j : Int) := by omega
          have g1d : decide (0 < j) = false := decide_eq_false g1
          clear hgo HJ
          go_wp2
        case' inr.inl =>
          have g1I : (0 : Int) < (j : Int) := by omega
          have g2I : ¬ (j : Int) < (s.size : Int) := by omega
          have g2d : decide (j < s.size) = false := decide_eq_false g2
          clear hgo HJ
          go_wp2
        case' inr.inr.inl =>
          obtain ⟨qa, ta, e1, e2, e3, e4⟩ := HBY.out j g2
          rw [g3] at e1
          subst e1
          have E4 := Lib.hid e4
          have g1I : (0 : Int) < (j : Int) := by omega
          have g2I : (j : Int) < (s.size : Int) := by omega
          have g2z : (0 : Int) ≤ (j : Int) := by omega
          clear hgo HJ e4 e3
          go_wp2_with fail
          go_at_call 48; refine (E4.out _ g2).mono ?_; rintro e9 w9 ⟨rfl, rfl⟩
          go_wp2_with fail
          clear e2 g3 E4
        case' inr.inr.inr =>
          obtain ⟨qa, ta, e1, e2, e3, e4⟩ := HBY.out j g2
          obtain ⟨qb, tb, f1, f2, f3, f4⟩ := HBY.out (j - 1) (by omega)
          rw [g3] at e1
          rw [g4] at f1
          subst e1
          subst f1
          have E4 := Lib.hid e4
          have F4 := Lib.hid f4
          have g1I : (0 : Int) < (j : Int) := by omega
          have g2I : (j : Int) < (s.size : Int) := by omega
          have g2z : (0 : Int) ≤ (j : Int) := by omega
          have g2y : (0 : Int) ≤ (j : Int) - 1 := by omega
          have g2x : (j : Int) - 1 < (s.size : Int) := by omega
          have g2w : ((j : Int) - 1).toNat = j - 1 := by omega
          clear hgo HJ e4 f4 e3 f3
          go_wp2_with fail
          go_at_call 48; refine (E4.out _ g2).mono ?_; rintro e9 w9 ⟨rfl, rfl⟩
          go_wp2_with fail
          go_at_call 48; refine (F4.out _ (by omega)).mono ?_; rintro e9 w9 ⟨rfl, rfl⟩
          go_wp2_with fail
          clear e2 f2 g3 g4 E4 F4
        all_goals (
          try clear g1d
          try clear g2d
          clear g1 g1I
          try clear g2
          try clear g2I
          go_loop [8] (fun v => ∃ k : Nat, j ≤ k ∧ k ≤ s.size ∧ v = .int .i64 (k : Int) ∧ Hid (wFrom s k = F)) (fun v => s.size - (intOf v).toNat)
          case atStart => exact ⟨j, Nat.le_refl _, by omega, rfl, HF⟩
          case round =>
            obtain ⟨k, hk, hks, rfl, HK⟩ := hrel
            by_cases hlt : k < s.size
            · have hltI : (k : Int) < (s.size : Int) := by omega
              have hk0 : (0 : Int) ≤ (k : Int) := by omega
              obtain ⟨qa, ta, e1, e2, e3, e4⟩ := HBY.out k hlt
              have E4 := Lib.hid e4
              clear e4
              cases ta with
              | false =>
                have HK2 : Hid (wFrom s (k + 1) = F) := Lib.hid (by rw [← HK.out, wFrom_no hlt e1])
                have e3' : (qa != 1) = true := e3
                clear e1 e2 e3 HK
                go_wp2_with fail
                go_at_call 48; refine (E4.out _ hlt).mono ?_; rintro e9 w9 ⟨rfl, rfl⟩
                go_wp2_with fail
                go_round
                case rel => exact ⟨k + 1, by omega, by omega, by go_num, HK2⟩
                case measure => simp [intOf]; omega
              | true =>
                have hkF : k = F := by rw [← HK.out, wFrom_yes e1]
                subst hkF
                have e3' : (qa != 1) = false := e3
                have hfl := RP1.out.1 hlt
                have hbk := RP2.out hfl
                obtain ⟨z, hz⟩ : ∃ z, wEnd s k = z := ⟨_, rfl⟩
                have hzin := wEnd_in (s := s) _ k rfl hks
                rw [hz] at hzin
                obtain ⟨hz1, hz2, hz3, hz4⟩ := hzin
                have HZ3 := Lib.hid hz3
                have HZ4 := Lib.hid hz4
                have HY : Hid (wordW L l c = (((l : Int), (k : Int)), s.extract k z, true)) := Lib.hid (by rw [HW.out, if_pos hfl, ← hbk, hz])
                have hgeI : ¬ (s.size : Int) ≤ (k : Int) := by omega
                have hgeN : decide (s.size ≤ k) = false := decide_eq_false (by omega)
                clear e1 e2 e3 HK hfl hbk hz hz3 hz4 HW
                go_wp2_with fail
                go_at_call 48; refine (E4.out _ hlt).mono ?_; rintro e9 w9 ⟨rfl, rfl⟩
                go_wp2_with fail
                go_loop [9] (fun v => ∃ q : Nat, k ≤ q ∧ q ≤ z ∧ v = .int .i64 (q : Int)) (fun v => z - (intOf v).toNat)
                case atStart => exact ⟨k, Nat.le_refl _, hz1, rfl⟩
                case round =>
                  obtain ⟨q, hq1, hq2, rfl⟩ := hrel
                  have hq0 : (0 : Int) ≤ (q : Int) := by omega
                  by_cases hqz : q < z
                  · have hqs : q < s.size := by omega
                    have hqI : (q : Int) < (s.size : Int) := by omega
                    obtain ⟨qc, tc, u1, u2, u3, u4⟩ := HBY.out q hqs
                    rw [HZ3.out q hq1 hqz] at u1
                    subst u1
                    have U4 := Lib.hid u4
                    clear u3 u4
                    go_wp2_with fail
                    go_at_call 48; refine (U4.out _ hqs).mono ?_; rintro e8 w8 ⟨rfl, rfl⟩
                    go_wp2_with fail
                    go_round
                    case rel => exact ⟨q + 1, by omega, by omega, by go_num⟩
                    case measure => simp [intOf]; omega
                  · have hqe : q = z := by omega
                    subst hqe
                    rcases (by omega : q < s.size ∨ ¬ q < s.size) with hqs | hqs
                    case' inl =>
                      have hqI : (q : Int) < (s.size : Int) := by omega
                      obtain ⟨qc, tc, u1, u2, u3, u4⟩ := HBY.out q hqs
                      rw [HZ4.out] at u1
                      subst u1
                      have U4 := Lib.hid u4
                      clear u3 u4
                      go_wp2_with fail
                      go_at_call 48; refine (U4.out _ hqs).mono ?_; rintro e8 w8 ⟨rfl, rfl⟩
                      go_wp2_with fail
                    case' inr =>
                      have hqI : ¬ (q : Int) < (s.size : Int) := by omega
                      have hqd : decide (q < s.size) = false := decide_eq_false hqs
                      go_wp2_with fail
                    all_goals (
                      go_region_held3 (fun w' => w.heap.size + 1 < w'.heap.size ∧ w'.cell? ⟨w.heap.size, 0, none⟩ = some (.int .i64 l)) (go_split_ands <;> first | assumption | (simp [go_sem]; done) | (simp [go_sem, *]; done) | (simp [go_sem]; omega)) (fail)
                      go_wp2
                      refine bodyPost_ret (v := fwV (((l : Int), (k : Int)), s.extract k q, true)) (by simp [results, Try.results47, go_sem, cr0, cr1]) rfl ⟨by rw [HY.out], by (repeat (first | with_reducible exact Below.refl _ _ | (with_reducible refine Below.setCell ?_ ?_ _; rotate_left; · (first | exact Nat.le_refl _ | assumption | omega | (simp; done) | (simp; omega))) | (with_reducible refine Below.alloc ?_ ?_ _; rotate_left; · (first | exact Nat.le_refl _ | assumption | omega | (simp; done) | (simp; omega))) | with_reducible refine below_ovr_of ?_ | with_reducible refine drew_below ?_ _ | with_reducible refine Below.drew ?_ | with_reducible assumption))⟩)
            · have hltI : ¬ (k : Int) < (s.size : Int) := by omega
              have hltd : decide (k < s.size) = false := decide_eq_false hlt
              have hkF : k = F := by rw [← HK.out, wFrom_end (by omega)]
              subst hkF
              have HY : Hid (wordW L l c = ((0, 0), ⟨#[]⟩, false)) := Lib.hid (by rw [HW.out, if_neg (fun h => hlt (RP1.out.2 h))])
              clear HK HW
              go_wp2
              refine bodyPost_ret (v := fwV ((0, 0), ⟨#[]⟩, false)) (by simp [results, Try.results47, go_sem, cr0, cr1]) rfl ⟨by rw [HY.out], by (repeat (first | with_reducible exact Below.refl _ _ | (with_reducible refine Below.setCell ?_ ?_ _; rotate_left; · (first | exact Nat.le_refl _ | assumption | omega | (simp; done) | (simp; omega))) | (with_reducible refine Below.alloc ?_ ?_ _; rotate_left; · (first | exact Nat.le_refl _ | assumption | omega | (simp; done) | (simp; omega))) | with_reducible refine below_ovr_of ?_ | with_reducible refine drew_below ?_ _ | with_reducible refine Below.drew ?_ | with_reducible assumption))⟩)
end Go.Proofs.Ytnaceobbbfbhhaa
