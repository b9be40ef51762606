/- The walk of the law ParaCounts. Conditions: none beyond what it says. -/
import Derived.Test.YtnaceobbbfbhhaaPObjLaws
import Derived.Test.YtnaceobbbfbhhaaParaEmptyP
namespace Go.Proofs.Ytnaceobbbfbhhaa
open Go.RowKit Go.Shelf

theorem byte0 {L : List ByteArray} {x : Nat} (hx : x < L.length) : byteB L (x : Int) 0 = true := by
  have hp := plc0 hx
  have := byteB_yes (l := x) (c := 0) hp rfl
  rw [show ((0 : Nat) : Int) = 0 from rfl] at this
  rw [this]
  simp only [Bool.or_eq_true, decide_eq_true_eq]
  omega
theorem pc_many {L : List ByteArray} {x k : Nat} (hx : x < L.length) (hk : inR (blkP L) x k) {c : Nat} (hc : 1 ≤ c) : paraOP L (x : Int) 0 (c : Int) false = innB (blkP L) k c := by
  rw [paraOP, if_pos ⟨by omega, byte0 hx⟩, if_neg (by decide), Int.toNat_natCast, Int.toNat_natCast, inF_eq (blkP_chain L) hk]
theorem pc_next {L : List ByteArray} {k : Nat} (hk : k + 1 < (blkP L).length) : inR (blkP L) ((blkP L).getD k (0, 0)).2 (k + 1) ∧ ((blkP L).getD k (0, 0)).2 < L.length ∧ ((blkP L).getD (k + 1) (0, 0)).1 = ((blkP L).getD k (0, 0)).2 := by
  have h1 := ((chain_at (blkP_chain L) (k := k) (by omega)).2.2.2.2.1 hk).1
  obtain ⟨h2, h3⟩ := blk_le (L := L) hk
  exact ⟨⟨hk, by omega, by omega⟩, by omega, h1⟩
theorem pc_last {L : List ByteArray} {k : Nat} (hk : k + 1 = (blkP L).length) : ((blkP L).getD k (0, 0)).2 = L.length := by
  have h := (chain_at (blkP_chain L) (k := k) (by omega)).2.2.2.2.2.1 hk
  rw [blkS_size] at h
  exact h
set_option maxRecDepth 100000 in
set_option maxHeartbeats 8000000 in
theorem paraCounts_walk (a : Option Addr) (cap : Nat) (L : List ByteArray) (x n : Int) (W : World) (hL : LinesAt W a L) (hx : 0 ≤ x ∧ x ≤ 255) (hn' : 0 ≤ n ∧ n ≤ 255) :
    Calls Try.prog 19 #[.slice a L.length cap, .int .u8 x, .int .u8 n] W fun e W' => e = .returned (.bool true) ∧ Below W.heap.size W W' := by
  have hn := hL.2.1
  cases hli : textB L with
  | false =>
    go_enter Try.func19, Try.ntmps19
    go_wp2_with (first | (go_at_call 63; refine (known18_any _).mono ?_; rintro e w1 ⟨rfl, hbl⟩; obtain ⟨x, rfl⟩ := ovr_of_below hbl; clear hbl) | (go_at_call 35; refine (text_any _ _ L _ (by (repeat (first | assumption | refine LinesAt.ovr ?_ _ | refine LinesAt.alloc ?_ _ | refine LinesAt.drewN ?_ _ | refine LinesAt.drew ?_)))).mono ?_; rintro e w1 ⟨rfl, rfl⟩))
    go_ret
    exact ⟨rfl, by (repeat (first | exact Below.refl _ _ | refine Below.alloc ?_ (by first | exact Nat.le_refl _ | (simp; done) | (simp; omega)) _ | refine below_ovr_of ?_ | refine drew_below ?_ _ | refine Below.drew ?_ | refine Below.setCell ?_ (by first | exact Nat.le_refl _ | (simp; done) | (simp; omega)) _ | assumption))⟩
  | true =>
    obtain ⟨h0, hn4, htot, _⟩ := text_spec hli
    obtain ⟨hx0, hx1⟩ := hx
    obtain ⟨hy0, hy1⟩ := hn'
    obtain ⟨l, hat⟩ : ∃ l : Nat, x % (L.length : Int) = l := Int.eq_ofNat_of_zero_le (Int.emod_nonneg _ (by omega))
    have hl : l < L.length := by have := Int.emod_lt_of_pos x (show (0 : Int) < L.length by omega); omega
    obtain ⟨c0, hc0⟩ : ∃ k : Nat, n % 5 = k := Int.eq_ofNat_of_zero_le (Int.emod_nonneg _ (by omega))
    obtain ⟨c, hc⟩ : ∃ c, c0 + 1 = c := ⟨_, rfl⟩
    have hcI : (c0 : Int) + 1 = (c : Int) := by omega
    have hc5 : c ≤ 5 := by have := Int.emod_lt_of_pos n (show (0 : Int) < 5 by omega); omega
    have hc1 : 1 ≤ c := by omega
    obtain ⟨k, hk⟩ := chain_find (blkP_chain L) (Nat.zero_le l) (by rw [blkS_size]; exact hl)
    have hkl := hk.1
    have HM := Lib.hid (fun (c : Nat) (hc : 1 ≤ c) => pc_many hl hk hc)
    have HX := Lib.hid (fun (j : Nat) (hj : j + 1 < (blkP L).length) => pc_next (L := L) hj)
    have HO : Hid (∀ (y j : Nat), y < L.length → inR (blkP L) y j → paraOP L (y : Int) 0 1 false = innB (blkP L) j 1) := Lib.hid (fun y j hy hj => pc_many hy hj (c := 1) (by omega))
    have HE := Lib.hid (fun (j : Nat) (hj : j + 1 = (blkP L).length) => pc_last (L := L) hj)
    have HLE := Lib.hid (fun (j : Nat) (hj : j < (blkP L).length) => blk_le (L := L) hj)
    have HKI := Lib.hid hk
    obtain ⟨R, hR⟩ : ∃ R, blkP L = R := ⟨_, rfl⟩
    rw [hR] at HM HX HO HE HLE HKI hkl
    clear hk hR hc
    go_enter Try.func19, Try.ntmps19
    go_wp2_with (first | (go_at_call 63; refine (known18_any _).mono ?_; rintro e w1 ⟨rfl, hbl⟩; obtain ⟨x, rfl⟩ := ovr_of_below hbl; clear hbl) | (go_at_call 35; refine (text_any _ _ L _ (by (repeat (first | assumption | refine LinesAt.ovr ?_ _ | refine LinesAt.alloc ?_ _ | refine LinesAt.drewN ?_ _ | refine LinesAt.drew ?_)))).mono ?_; rintro e w1 ⟨rfl, rfl⟩))
    refine name_world ?_
    intro W1 hW1
    have hL1 : LinesAt W1 a L := by rw [hW1]; (repeat (first | assumption | refine LinesAt.ovr ?_ _ | refine LinesAt.alloc ?_ _ | refine LinesAt.drewN ?_ _ | refine LinesAt.drew ?_))
    have hbel : Below W.heap.size W W1 := by rw [hW1]; (repeat (first | with_reducible exact Below.refl _ _ | (with_reducible refine Below.setCell ?_ ?_ _; rotate_left; · (first | exact Nat.le_refl _ | assumption | omega | (simp; done) | (simp; omega))) | (with_reducible refine Below.alloc ?_ ?_ _; rotate_left; · (first | exact Nat.le_refl _ | assumption | omega | (simp; done) | (simp; omega))) | with_reducible refine below_ovr_of ?_ | with_reducible refine drew_below ?_ _ | with_reducible refine Below.drew ?_ | with_reducible assumption))
    obtain ⟨pb, hpb⟩ : ∃ pb, W.heap.size + x.heap.size = pb := ⟨_, rfl⟩
    rw [hpb]
    have cp0 : W1.cell? ⟨pb, 0, none⟩ = some (.int .i64 l) := by rw [hW1, ← hpb]; simp [go_sem]
    have cp1 : W1.cell? ⟨pb, 1, none⟩ = some (.int .i64 0) := by rw [hW1, ← hpb]; simp [go_sem]
    have hbelS := hbel.size
    have lpb : pb < W1.heap.size := World.block_lt_of_cell? _ _ cp0
    clear hW1 hpb hat hc0 hcI
    obtain ⟨f0, hf0⟩ : ∃ f, (R.getD k (0, 0)).1 = f := ⟨_, rfl⟩
    have HF0 := Lib.hid hf0
    clear hf0
    go_loopw [9, 10, 11, 12] (fun fv tv okv i wr => ∃ (q : Nat) (f t : Int), q ≤ c ∧ okv = .bool true ∧ i = .int .i64 (q : Int) ∧ fv = .int .i64 f ∧ tv = .int .i64 t ∧ Hid ((q = 0 ∧ f = 0 ∧ t = -1) ∨ (1 ≤ q ∧ k + q ≤ R.length ∧ f = (f0 : Int) ∧ t = ((R.getD (k + q - 1) (0, 0)).2 : Int) - 1)) ∧ ∃ z, wr = ovr W1 z) (fun _ _ _ i _ => c - (intOf i).toNat)
    case atStart => exact ⟨0, 0, -1, Nat.zero_le _, rfl, by go_num, rfl, rfl, Lib.hid (.inl ⟨rfl, rfl, rfl⟩), { W1 with heap := #[] }, by simp [ovr]⟩
    case round =>
      obtain ⟨q, f, t, hq, rfl, rfl, rfl, rfl, HC, z, rfl⟩ := hrel
      by_cases hlt : q < c
      · have hltI : (q : Int) < (c : Int) := by omega
        rcases HC.out with ⟨hq0, rfl, rfl⟩ | ⟨hq1, hkq, rfl, rfl⟩
        · obtain ⟨b0, hb0⟩ : ∃ b, (R.getD k (0, 0)).2 = b := ⟨_, rfl⟩
          have H1 := Lib.hid ((HO.out l k hl HKI.out).trans (innB_yes (by omega) HF0.out (show (R.getD (k + 1 - 1) (0, 0)).2 = b0 from hb0)))
          have hin := HKI.out
          have e1 := hin.2.1
          have e2 := hin.2.2
          rw [HF0.out] at e1
          rw [hb0] at e2
          have hg0 : ¬ (0 : Int) < (q : Int) := by omega
          have hg0N : ¬ 0 < q := by omega
          have hlI : ¬ (L.length : Int) ≤ (l : Int) := by omega
          have hlI2 : (l : Int) < (L.length : Int) := by omega
          have hlN : ¬ L.length ≤ l := by omega
          have e1I : ¬ (l : Int) < (f0 : Int) := by omega
          have e1N : ¬ l < f0 := by omega
          have e2I : ¬ (b0 : Int) - 1 < (l : Int) := by omega
          have hqb : ((q : Int) == 0) = true := beq_iff_eq.2 (by omega)
          have HC2 : Hid ((q + 1 = 0 ∧ (f0 : Int) = 0 ∧ (b0 : Int) - 1 = -1) ∨ (1 ≤ q + 1 ∧ k + (q + 1) ≤ R.length ∧ (f0 : Int) = (f0 : Int) ∧ (b0 : Int) - 1 = ((R.getD (k + (q + 1) - 1) (0, 0)).2 : Int) - 1)) := Lib.hid (.inr ⟨by omega, by omega, rfl, by rw [show k + (q + 1) - 1 = k by omega, hb0]⟩)
          clear HC hin hb0 e1 e2
          go_wp2_with (go_at_call 67; refine (pinner_any _ _ L _ _ _ _ (by (repeat (first | assumption | refine LinesAt.ovr ?_ _ | refine LinesAt.alloc ?_ _ | refine LinesAt.drewN ?_ _ | refine LinesAt.drew ?_))) (by omega) (by omega)).mono ?_; rw [H1.out]; rintro e w1 ⟨rfl, hbl⟩; obtain ⟨x2, rfl⟩ := ovr_of_below hbl; clear hbl)
          go_roundw
          case rel => exact ⟨q + 1, _, _, by omega, rfl, by go_num, rfl, rfl, Lib.hid (HC2.out.imp id (fun ⟨u1, u2, _, u4⟩ => ⟨u1, u2, rfl, u4⟩)), ovr_of_below (by (repeat (first | with_reducible exact Below.refl _ _ | (with_reducible refine Below.setCell ?_ ?_ _; rotate_left; · (first | exact Nat.le_refl _ | assumption | omega | (simp; done) | (simp; omega))) | (with_reducible refine Below.alloc ?_ ?_ _; rotate_left; · (first | exact Nat.le_refl _ | assumption | omega | (simp; done) | (simp; omega))) | with_reducible refine below_ovr_of ?_ | with_reducible refine drew_below ?_ _ | with_reducible refine Below.drew ?_ | with_reducible assumption)))⟩
          case measure => simp [intOf]; omega
        · obtain ⟨j, hj⟩ : ∃ j, k + q - 1 = j := ⟨_, rfl⟩
          rw [hj] at HC
          have hjR : j < R.length := by omega
          obtain ⟨b0, hb0⟩ : ∃ b, (R.getD j (0, 0)).2 = b := ⟨_, rfl⟩
          rw [hj, hb0]
          have hg0 : (0 : Int) < (q : Int) := by omega
          have hg0N : 0 < q := by omega
          by_cases hend : j + 1 = R.length
          · have hbL := HE.out j hend
            rw [hb0] at hbL
            subst hbL
            have H9 : Hid (paraOP L l 0 c false = ((0, 0, 0, 0, 0), false)) := Lib.hid ((HM.out c hc1).trans (innB_no (by omega)))
            clear HC hb0 hj
            go_wp2_with (go_at_call 67; refine (pinner_any _ _ L _ _ _ _ (by (repeat (first | assumption | refine LinesAt.ovr ?_ _ | refine LinesAt.alloc ?_ _ | refine LinesAt.drewN ?_ _ | refine LinesAt.drew ?_))) (by omega) (by omega)).mono ?_; rw [H9.out]; rintro e w1 ⟨rfl, hbl⟩; obtain ⟨x3, rfl⟩ := ovr_of_below hbl; clear hbl)
            go_ret
            exact ⟨by simp, by (repeat (first | with_reducible exact Below.refl _ _ | (with_reducible refine Below.setCell ?_ ?_ _; rotate_left; · (first | exact Nat.le_refl _ | assumption | omega | (simp; done) | (simp; omega))) | (with_reducible refine Below.alloc ?_ ?_ _; rotate_left; · (first | exact Nat.le_refl _ | assumption | omega | (simp; done) | (simp; omega))) | with_reducible refine below_ovr_of ?_ | with_reducible refine drew_below ?_ _ | with_reducible refine Below.drew ?_ | with_reducible assumption))⟩
          · obtain ⟨n1, n2, n3⟩ := HX.out j (by omega)
            rw [hb0] at n1 n2 n3
            obtain ⟨b2, hb2⟩ : ∃ b, (R.getD (j + 1) (0, 0)).2 = b := ⟨_, rfl⟩
            have hlt2 := n1.2.2
            rw [hb2] at hlt2
            have H1 := Lib.hid ((HO.out b0 (j + 1) n2 n1).trans (innB_yes (by omega) n3 (show (R.getD (j + 1 + 1 - 1) (0, 0)).2 = b2 from hb2)))
            have hlI : ¬ (L.length : Int) ≤ (b0 : Int) := by omega
            have hlI2 : (b0 : Int) < (L.length : Int) := by omega
            have hlN : ¬ L.length ≤ b0 := by omega
            have e2I : ¬ (b2 : Int) - 1 < (b0 : Int) := by omega
            have hqb : ((q : Int) == 0) = false := beq_eq_false_iff_ne.2 (by omega)
            have hqN : ¬ q = 0 := by omega
            have HC2 : Hid ((q + 1 = 0 ∧ (f0 : Int) = 0 ∧ (b2 : Int) - 1 = -1) ∨ (1 ≤ q + 1 ∧ k + (q + 1) ≤ R.length ∧ (f0 : Int) = (f0 : Int) ∧ (b2 : Int) - 1 = ((R.getD (k + (q + 1) - 1) (0, 0)).2 : Int) - 1)) := Lib.hid (.inr ⟨by omega, by omega, rfl, by rw [show k + (q + 1) - 1 = j + 1 by omega, hb2]⟩)
            clear HC hb0 hb2 hj n1 n2 n3 hlt2
            go_wp2_with (go_at_call 67; refine (pinner_any _ _ L _ _ _ _ (by (repeat (first | assumption | refine LinesAt.ovr ?_ _ | refine LinesAt.alloc ?_ _ | refine LinesAt.drewN ?_ _ | refine LinesAt.drew ?_))) (by omega) (by omega)).mono ?_; rw [H1.out]; rintro e w1 ⟨rfl, hbl⟩; obtain ⟨x2, rfl⟩ := ovr_of_below hbl; clear hbl)
            go_roundw
            case rel => exact ⟨q + 1, _, _, by omega, rfl, by go_num, rfl, rfl, Lib.hid (HC2.out.imp id (fun ⟨u1, u2, _, u4⟩ => ⟨u1, u2, rfl, u4⟩)), ovr_of_below (by (repeat (first | with_reducible exact Below.refl _ _ | (with_reducible refine Below.setCell ?_ ?_ _; rotate_left; · (first | exact Nat.le_refl _ | assumption | omega | (simp; done) | (simp; omega))) | (with_reducible refine Below.alloc ?_ ?_ _; rotate_left; · (first | exact Nat.le_refl _ | assumption | omega | (simp; done) | (simp; omega))) | with_reducible refine below_ovr_of ?_ | with_reducible refine drew_below ?_ _ | with_reducible refine Below.drew ?_ | with_reducible assumption)))⟩
            case measure => simp [intOf]; omega
      · have hltI : ¬ (q : Int) < (c : Int) := by omega
        obtain rfl : q = c := by omega
        rcases HC.out with ⟨hq0, _, _⟩ | ⟨hq1, hkq, rfl, rfl⟩
        · omega
        · obtain ⟨b0, hb0⟩ : ∃ b, (R.getD (k + q - 1) (0, 0)).2 = b := ⟨_, rfl⟩
          rw [hb0]
          have H9 := Lib.hid ((HM.out q hc1).trans (innB_yes (by omega) HF0.out hb0))
          clear HC hb0
          go_wp2_with (go_at_call 67; refine (pinner_any _ _ L _ _ _ _ (by (repeat (first | assumption | refine LinesAt.ovr ?_ _ | refine LinesAt.alloc ?_ _ | refine LinesAt.drewN ?_ _ | refine LinesAt.drew ?_))) (by omega) (by omega)).mono ?_; rw [H9.out]; rintro e w1 ⟨rfl, hbl⟩; obtain ⟨x3, rfl⟩ := ovr_of_below hbl; clear hbl)
          go_ret
          exact ⟨by simp, by (repeat (first | with_reducible exact Below.refl _ _ | (with_reducible refine Below.setCell ?_ ?_ _; rotate_left; · (first | exact Nat.le_refl _ | assumption | omega | (simp; done) | (simp; omega))) | (with_reducible refine Below.alloc ?_ ?_ _; rotate_left; · (first | exact Nat.le_refl _ | assumption | omega | (simp; done) | (simp; omega))) | with_reducible refine below_ovr_of ?_ | with_reducible refine drew_below ?_ _ | with_reducible refine Below.drew ?_ | with_reducible assumption))⟩
end Go.Proofs.Ytnaceobbbfbhhaa
