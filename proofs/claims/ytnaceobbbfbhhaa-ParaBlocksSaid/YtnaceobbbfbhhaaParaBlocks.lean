/- The walk of the law ParaBlocks. Conditions: none beyond what it says. -/
import Derived.Test.YtnaceobbbfbhhaaPObjLaws
import Derived.Test.YtnaceobbbfbhhaaHeard18
import Derived.Test.YtnaceobbbfbhhaaRBlk
namespace Go.Proofs.Ytnaceobbbfbhhaa
open Go.RowKit Go.Shelf

/-- What is heard of the blocks. -/
theorem heardB_any (Bl : Nat) (a : Option Addr) (cap : Nat) (L : List ByteArray) (most : Nat) (hm : 1 ≤ most) (hm2 : most ≤ 100000) (w : World) (hl4 : L.length ≤ 100000) (hBl : w.cell? ⟨Bl, 0, none⟩ = some (.slice a L.length cap)) (hL : LinesAt w a L) :
    Calls Try.prog 64 #[.func (.func 103) #[] #[.pointer (some ⟨Bl, 0, none⟩)], .int .i64 most] w fun e w' => ∃ sa scap, e = .returned (.tuple #[.slice sa ((blkP L).take most).length scap, .bool true]) ∧ PairsAt w' sa ((blkP L).take most) ∧ Below w.heap.size w w' := by
  have hlt := World.block_lt_of_cell? _ _ hBl
  refine heard18_any L.length _ _ (blkP L) (by have := blkP_len L; omega) most hm hm2 w w.heap.size rfl (enters_of Try.func103 (by kernel_rfl) rfl) (fun W hB => ?_)
  refine blk_stopsK (Below w.heap.size) Bl a cap L W hl4 ((hB.cell (p := ⟨Bl, 0, none⟩) hlt).trans hBl) (hL.below hB (Nat.le_refl _)) (fun X Y h hc hl => ⟨(h.cell (p := ⟨Bl, 0, none⟩) hlt).trans hc, ?_⟩)
  refine ⟨fun i hi => ?_, hl.2⟩
  obtain ⟨b, off, e, hb, _⟩ := hL.1 i hi
  obtain ⟨b', off', e', hb', hc'⟩ := hl.1 i hi
  rw [e] at e'
  cases e'
  exact ⟨b, off, e, Nat.lt_of_lt_of_le hb' h.size, (h.cell (p := ⟨b, _, none⟩) hb).trans hc'⟩
theorem blk_at {L : List ByteArray} {i : Nat} (hi : i < (blkP L).length) : (i = 0 → ((blkP L).getD i (0, 0)).1 = 0) ∧ (i + 1 < (blkP L).length → ((blkP L).getD (i + 1) (0, 0)).1 = ((blkP L).getD i (0, 0)).2) ∧ (i + 1 = (blkP L).length → ((blkP L).getD i (0, 0)).2 = L.length) := by
  obtain ⟨_, _, _, _, h5, h6, h7⟩ := chain_at (blkP_chain L) hi
  rw [blkS_size] at h6
  exact ⟨h7, fun h => (h5 h).1, h6⟩
set_option maxRecDepth 100000 in
set_option maxHeartbeats 8000000 in
theorem paraBlocks_walk (a : Option Addr) (cap : Nat) (L : List ByteArray) (x : Int) (W : World) (hL : LinesAt W a L) (hx : 0 ≤ x ∧ x ≤ 255) :
    Calls Try.prog 17 #[.slice a L.length cap, .int .u8 x] W fun e W' => e = .returned (.bool true) ∧ Below W.heap.size W W' := by
  have hn := hL.2.1
  cases hli : lightB L with
  | false =>
    go_enter Try.func17, Try.ntmps17
    go_wp2_with (first | (go_at_call 63; refine (known18_any _).mono ?_; rintro e w1 ⟨rfl, hbl⟩; obtain ⟨x, rfl⟩ := ovr_of_below hbl; clear hbl) | (go_at_call 22; refine (light_any _ _ L _ (by (repeat (first | assumption | refine LinesAt.ovr ?_ _ | refine LinesAt.alloc ?_ _ | refine LinesAt.drewN ?_ _ | refine LinesAt.drew ?_)))).mono ?_; rintro e w1 ⟨rfl, rfl⟩))
    go_ret
    exact ⟨rfl, by (repeat (first | exact Below.refl _ _ | refine Below.alloc ?_ (by first | exact Nat.le_refl _ | (simp; done) | (simp; omega)) _ | refine below_ovr_of ?_ | refine drew_below ?_ _ | refine Below.drew ?_ | refine Below.setCell ?_ (by first | exact Nat.le_refl _ | (simp; done) | (simp; omega)) _ | assumption))⟩
  | true =>
    obtain ⟨hn4, htot, _⟩ := light_spec hli
    obtain ⟨hx0, hx1⟩ := hx
    have hSl := blkP_len L
    have hat := fun (i : Nat) (hi : i < (blkP L).length) => blk_at hi
    have hnil : (blkP L).length = 0 → L.length = 0 := fun h => by
      have := blkP_chain L
      rw [List.eq_nil_of_length_eq_zero h] at this
      have : 0 = (blkS L).size := this
      rw [blkS_size] at this
      omega
    obtain ⟨R, hR⟩ : ∃ R, blkP L = R := ⟨_, rfl⟩
    have HH := Lib.hid (fun (Bl : Nat) (most : Nat) (hm : 1 ≤ most) (hm2 : most ≤ 100000) (w : World) (hBl : w.cell? ⟨Bl, 0, none⟩ = some (.slice a L.length cap)) (h : LinesAt w a L) => heardB_any Bl a cap L most hm hm2 w (by omega) hBl h)
    have HSN := Lib.hid (fun (w0 : World) (h0 : LinesAt w0 a L) => rblk_any a cap L w0 h0 (by omega))
    rw [hR] at HH HSN hSl hat hnil
    have HT : Hid (R.take 100 = R) := Lib.hid (List.take_of_length_le (by omega))
    obtain ⟨k, hk⟩ : ∃ k : Nat, x % 5 = k := Int.eq_ofNat_of_zero_le (Int.emod_nonneg _ (by omega))
    have hk9 : k ≤ 4 := by have := Int.emod_lt_of_pos x (show (0 : Int) < 5 by omega); omega
    obtain ⟨m, hm⟩ : ∃ m, k + 1 = m := ⟨_, rfl⟩
    have hk1 : (k : Int) + 1 = (m : Int) := by omega
    have hm1 : 1 ≤ m := by omega
    have hm9 : m ≤ 100000 := by omega
    obtain ⟨T, hT⟩ : ∃ T, R.take m = T := ⟨_, rfl⟩
    have hTl : T.length = min m R.length := by rw [← hT, List.length_take]
    have hTg : ∀ i, i < T.length → T.getD i (0, 0) = R.getD i (0, 0) := fun i hi => by
      rw [← hT, List.getD_eq_getElem?_getD, List.getD_eq_getElem?_getD, List.getElem?_take_of_lt (by omega)]
    have HTG := Lib.hid hTg
    have HTL := Lib.hid hTl
    have HTK := Lib.hid hT
    have HAT := Lib.hid hat
    have HNIL := Lib.hid hnil
    have hTR : T.length ≤ R.length := by omega
    clear hR hT hTl hm hat hTg hnil
    go_enter Try.func17, Try.ntmps17
    go_wp2_with (first
      | (go_at_call 63; refine (known18_any _).mono ?_; rintro e w1 ⟨rfl, hbl⟩; obtain ⟨x0, rfl⟩ := ovr_of_below hbl; clear hbl)
      | (go_at_call 22; refine (light_any _ _ L _ (by (repeat (first | assumption | refine LinesAt.ovr ?_ _ | refine LinesAt.alloc ?_ _ | refine LinesAt.drewN ?_ _ | refine LinesAt.drew ?_)))).mono ?_; rintro e w1 ⟨rfl, rfl⟩)
      | (go_at_call 65; refine (pblk_any _ _ L _).mono ?_; rintro e w1 ⟨rfl, rfl⟩))
    go_at_call 64
    have h5 := HH.out (W.heap.size + x0.heap.size) 100 (by omega) (by omega) ((ovr W x0).alloc (.cells #[.slice a L.length cap] 22)) (by simp [go_sem]) (by (repeat (first | assumption | refine LinesAt.ovr ?_ _ | refine LinesAt.alloc ?_ _ | refine LinesAt.drewN ?_ _ | refine LinesAt.drew ?_)))
    rw [HT.out, show ((100 : Nat) : Int) = 100 from rfl] at h5
    refine h5.mono ?_
    rintro e w1 ⟨sa, scap, rfl, hpa, hbl⟩
    obtain ⟨x1, rfl⟩ := ovr_of_below hbl
    clear hbl h5
    go_wp2_with fail
    go_at_call 66
    refine (HSN.out _ (by (repeat (first | assumption | refine LinesAt.ovr ?_ _ | refine LinesAt.alloc ?_ _ | refine LinesAt.drewN ?_ _ | refine LinesAt.drew ?_)))).mono ?_
    rintro e w1 ⟨sw, wcap, rfl, hpw, _, _, hbl⟩
    obtain ⟨x2, rfl⟩ := ovr_of_below hbl
    clear hbl
    go_wp2_with (go_at_call 65; refine (pblk_any _ _ L _).mono ?_; rintro e w1 ⟨rfl, rfl⟩)
    go_at_call 64
    refine (HH.out _ m hm1 hm9 _ ?_ ?_).mono ?_
    · simp [go_sem]
    · (repeat (first | assumption | refine LinesAt.ovr ?_ _ | refine LinesAt.alloc ?_ _ | refine LinesAt.drewN ?_ _ | refine LinesAt.drew ?_))
    rintro e w1 ⟨sb, bcap, he, hpb, hbl⟩
    rw [HTK.out] at he hpb
    subst he
    obtain ⟨x3, rfl⟩ := ovr_of_below hbl
    clear hbl
    have hways : ((R.length : Int) < (m : Int) ∧ (T.length : Int) = (R.length : Int)) ∨ (¬ (R.length : Int) < (m : Int) ∧ (T.length : Int) = (m : Int)) := by have := HTL.out; omega
    rcases hways with ⟨hc1, hc2⟩ | ⟨hc1, hc2⟩
    all_goals (
      go_wp2
      refine name_world ?_
      intro W1 hW1
      have qa : PairsAt W1 sa R := by rw [hW1]; (repeat (first | assumption | refine PairsAt.ovr ?_ _ | refine PairsAt.alloc ?_ _ | refine PairsAt.drewN ?_ _ | refine PairsAt.drew ?_))
      have qw : PairsAt W1 sw R := by rw [hW1]; (repeat (first | assumption | refine PairsAt.ovr ?_ _ | refine PairsAt.alloc ?_ _ | refine PairsAt.drewN ?_ _ | refine PairsAt.drew ?_))
      have qb : PairsAt W1 sb T := by rw [hW1]; (repeat (first | assumption | refine PairsAt.ovr ?_ _ | refine PairsAt.alloc ?_ _ | refine PairsAt.drewN ?_ _ | refine PairsAt.drew ?_))
      have hbel : Below W.heap.size W W1 := by rw [hW1]; (repeat (first | with_reducible exact Below.refl _ _ | (with_reducible refine Below.setCell ?_ ?_ _; rotate_left; · (first | exact Nat.le_refl _ | assumption | omega | (simp; done) | (simp; omega))) | (with_reducible refine Below.alloc ?_ ?_ _; rotate_left; · (first | exact Nat.le_refl _ | assumption | omega | (simp; done) | (simp; omega))) | with_reducible refine below_ovr_of ?_ | with_reducible refine drew_below ?_ _ | with_reducible refine Below.drew ?_ | with_reducible assumption))
      have hbelS := hbel.size
      clear hW1 hpa hpw hpb hc1 hc2
      go_loopw [11, 12] (fun av i wr => ∃ (q t : Nat), q ≤ R.length ∧ i = .int .i64 (q : Int) ∧ av = .int .i64 (t : Int) ∧ Hid ((q < R.length → (R.getD q (0, 0)).1 = t) ∧ (q = R.length → t = L.length)) ∧ ∃ x, wr = ovr W1 x) (fun _ i _ => R.length - (intOf i).toNat)
      case atStart => exact ⟨0, 0, Nat.zero_le _, by go_num, by go_num, Lib.hid ⟨fun h => (HAT.out 0 h).1 rfl, fun h => (HNIL.out h.symm).symm⟩, { W1 with heap := #[] }, by simp [ovr]⟩
      case round =>
        obtain ⟨q, t, hq, rfl, rfl, HT2, z, rfl⟩ := hrel
        by_cases hlt : q < R.length
        · have hltI : (q : Int) < (R.length : Int) := by omega
          have hq0 : (0 : Int) ≤ (q : Int) := by omega
          obtain ⟨g, rfl, hg, c0, c1⟩ := qa q hlt
          obtain ⟨g2, rfl, hg2, d0, d1⟩ := qw q hlt
          have hf1 := HT2.out.1 hlt
          have hat := HAT.out q hlt
          obtain ⟨⟨fx, fy⟩, hxy⟩ : ∃ p, R.getD q (0, 0) = p := ⟨_, rfl⟩
          rw [hxy] at c0 c1 d0 d1 hf1 hat
          simp only at c0 c1 d0 d1 hf1 hat
          subst hf1
          have HT3 : Hid ((q + 1 < R.length → (R.getD (q + 1) (0, 0)).1 = fy) ∧ (q + 1 = R.length → fy = L.length)) := Lib.hid ⟨hat.2.1, hat.2.2⟩
          by_cases hqT : q < T.length
          · have hqTI : (q : Int) < (T.length : Int) := by omega
            obtain ⟨g3, rfl, hg3, b0, b1⟩ := qb q hqT
            rw [HTG.out q hqT, hxy] at b0 b1
            simp only at b0 b1
            clear hxy hat
            go_wp2
            (refine wp_region_ovr (by kernel_rfl) (by kernel_rfl) ?_; (repeat (go_big_quiet_step (fail))); refine wpQuiet_nil ?_; rintro _ ⟨zq, rfl⟩)
            go_wp2
            go_roundw
            case rel => exact ⟨q + 1, fy, by omega, by go_num, by go_num, HT3, ovr_of_below (by (repeat (first | with_reducible exact Below.refl _ _ | (with_reducible refine Below.setCell ?_ ?_ _; rotate_left; · (first | exact Nat.le_refl _ | assumption | omega | (simp; done) | (simp; omega))) | (with_reducible refine Below.alloc ?_ ?_ _; rotate_left; · (first | exact Nat.le_refl _ | assumption | omega | (simp; done) | (simp; omega))) | with_reducible refine below_ovr_of ?_ | with_reducible refine drew_below ?_ _ | with_reducible refine Below.drew ?_ | with_reducible assumption)))⟩
            case measure => simp [intOf]; omega
          · have hqTI : ¬ (q : Int) < (T.length : Int) := by omega
            clear hxy hat
            go_wp2
            (refine wp_region_ovr (by kernel_rfl) (by kernel_rfl) ?_; (repeat (go_big_quiet_step (fail))); refine wpQuiet_nil ?_; rintro _ ⟨zq, rfl⟩)
            go_wp2
            go_roundw
            case rel => exact ⟨q + 1, fy, by omega, by go_num, by go_num, HT3, ovr_of_below (by (repeat (first | with_reducible exact Below.refl _ _ | (with_reducible refine Below.setCell ?_ ?_ _; rotate_left; · (first | exact Nat.le_refl _ | assumption | omega | (simp; done) | (simp; omega))) | (with_reducible refine Below.alloc ?_ ?_ _; rotate_left; · (first | exact Nat.le_refl _ | assumption | omega | (simp; done) | (simp; omega))) | with_reducible refine below_ovr_of ?_ | with_reducible refine drew_below ?_ _ | with_reducible refine Below.drew ?_ | with_reducible assumption)))⟩
            case measure => simp [intOf]; omega
        · have hltI : ¬ (q : Int) < (R.length : Int) := by omega
          have htL : t = L.length := HT2.out.2 (by omega)
          subst htL
          go_wp2
          go_ret
          exact ⟨by simp, by (repeat (first | with_reducible exact Below.refl _ _ | (with_reducible refine Below.setCell ?_ ?_ _; rotate_left; · (first | exact Nat.le_refl _ | assumption | omega | (simp; done) | (simp; omega))) | (with_reducible refine Below.alloc ?_ ?_ _; rotate_left; · (first | exact Nat.le_refl _ | assumption | omega | (simp; done) | (simp; omega))) | with_reducible refine below_ovr_of ?_ | with_reducible refine drew_below ?_ _ | with_reducible refine Below.drew ?_ | with_reducible assumption))⟩)
end Go.Proofs.Ytnaceobbbfbhhaa
