/- The walk of the law FindWords. Conditions: none beyond what it says. -/
import Derived.Test.YtnaceobbbfbhhaaFindLaws
import Derived.Deep.RegionHeld3
import Derived.OpenShut
namespace Go.Proofs.Ytnaceobbbfbhhaa
open Go.RowKit

/-- What a byte's class is to a word. -/
def WByte (u : ByteArray) (f : Nat → Bool) : Prop := ∀ k : Nat, k < u.size → ∃ (q : Int), (q == 1) = f k ∧ (q != 1) = !f k ∧ ∀ W0 : World, ∀ h : k < u.size, Calls Try.prog 48 #[.int .u8 (u[k].toNat : Int), .bool false] W0 fun e w' => e = .returned (.int .i64 q) ∧ W0 = w'
theorem wbyte_line (s : ByteArray) : WByte s (wrdB s) := fun k hk => by
  have e : wrdB s k = (ofC (s[k].toNat : Int) false == 1) := by rw [wrdB, byt_atW s k hk, decide_eq_true hk]; rfl
  exact ⟨ofC (s[k].toNat : Int) false, e.symm, by rw [e]; rfl, fun W0 _ => rof_any _ _ _⟩
theorem wbyte_part (s : ByteArray) (g z : Nat) (hz : z ≤ s.size) (h : ∀ j, g ≤ j → j < z → wrdB s j = true) : WByte (s.extract g z) (fun _ => true) := fun k hk => by
  have hk2 : g + k < z := by rw [ByteArray.size_extract] at hk; omega
  have hk3 : g + k < s.size := by omega
  have e : wrdB s (g + k) = (ofC (s[g + k].toNat : Int) false == 1) := by rw [wrdB, byt_atW s _ hk3, decide_eq_true hk3]; rfl
  have e2 : (s.extract g z)[k] = s[g + k] := by
    have := congrArg (·[k]?) (ByteArray.data_extract (a := s) (b := g) (e := z))
    simp only [ByteArray.getElem_eq_getElem_data, ByteArray.data_extract, Array.getElem_extract]
  rw [h _ (by omega) hk2] at e
  exact ⟨ofC (s[g + k].toNat : Int) false, e.symm, by rw [show (ofC (s[g + k].toNat : Int) false != 1) = !(ofC (s[g + k].toNat : Int) false == 1) from rfl, ← e], fun W0 _ => by rw [e2]; exact rof_any _ _ _⟩
set_option maxRecDepth 100000 in
set_option maxHeartbeats 8000000 in
theorem findWords_walk (a : Option Addr) (cap : Nat) (L : List ByteArray) (sa : Int) (sb : Int) (W : World) (hL : LinesAt W a L) (hsa : 0 ≤ sa ∧ sa ≤ 65535) (hsb : 0 ≤ sb ∧ sb ≤ 65535) :
    Calls Try.prog 11 #[.slice a L.length cap, .int .u16 sa, .int .u16 sb] W fun e W' => e = .returned (.bool true) ∧ Below W.heap.size W W' := by
  cases hli : textB L with
  | false =>
    go_enter Try.func11, Try.ntmps11
    go_wp2_with (first | (go_at_call 37; refine (known12_any _).mono ?_; rintro e w1 ⟨rfl, hbl⟩; obtain ⟨x, rfl⟩ := ovr_of_below hbl; clear hbl) | (go_at_call 35; refine (text_any _ _ L _ (by (repeat (first | assumption | refine LinesAt.ovr ?_ _ | refine LinesAt.alloc ?_ _ | refine LinesAt.drewN ?_ _ | refine LinesAt.drew ?_)))).mono ?_; rintro e w1 ⟨rfl, rfl⟩))
    go_ret
    exact ⟨rfl, by (repeat (first | exact Below.refl _ _ | refine Below.alloc ?_ (by first | exact Nat.le_refl _ | (simp; done) | (simp; omega)) _ | refine below_ovr_of ?_ | refine drew_below ?_ _ | refine Below.drew ?_ | refine Below.setCell ?_ (by first | exact Nat.le_refl _ | (simp; done) | (simp; omega)) _ | assumption))⟩
  | true =>
    obtain ⟨h0, hn, htot, _⟩ := text_spec hli
    obtain ⟨pl, pc, hsl, hsc, hp_pl⟩ := seat_facts (L := L) (x := sa) (y := sb) h0 hsa.1
    obtain ⟨p1, p2, p3, p4⟩ := plcB_spec hp_pl
    obtain ⟨l, rfl⟩ := Int.eq_ofNat_of_zero_le p1
    obtain ⟨c, rfl⟩ := Int.eq_ofNat_of_zero_le p3
    have hl : l < L.length := by omega
    have hlI : (l : Int) < (L.length : Int) := by omega
    have hl0 : (0 : Int) ≤ (l : Int) := by omega
    obtain ⟨b, off, s, hab, hb, hcell, hs, HS⟩ := line_facts' hL hl
    subst hab
    rw [Int.toNat_natCast, HS.out] at p4
    have hss := sizes_le htot s (by rw [← HS.out]; exact getD_mem L .empty l hl)
    have hw := show wordW L l c = _ from by rw [wordW, if_pos hp_pl, ln, Int.toNat_natCast, Int.toNat_natCast, HS.out]
    have HSLpl := Lib.hid hsl
    have HSCpl := Lib.hid hsc
    have HBY := Lib.hid (wbyte_line s)
    have hc0 : (0 : Int) ≤ (c : Int) := by omega
    by_cases hf : wFrom s c < s.size
    · obtain ⟨hf1, hf2, hf3⟩ := wFrom_in (s := s) _ c rfl
      have hf4 := hf2 hf
      obtain ⟨f, hfe⟩ : ∃ f, wFrom s c = f := ⟨_, rfl⟩
      rw [hfe] at hf hf1 hf3 hf4 hw
      obtain ⟨g1, g2, g3⟩ := wBack_in (s := s) f
      obtain ⟨g, hge⟩ : ∃ g, wBack s f = g := ⟨_, rfl⟩
      rw [hge] at g1 g2 g3 hw
      obtain ⟨z1, z2, z3, z4⟩ := wEnd_in (s := s) _ g rfl (by omega)
      obtain ⟨z, hze⟩ : ∃ z, wEnd s g = z := ⟨_, rfl⟩
      rw [hze] at z1 z2 z3 z4 hw
      have hzf : f < z := by
        rcases Nat.lt_or_ge f z with h | h
        · exact h
        · have : wrdB s z = true := by
            by_cases e : z = f
            · rw [e]; exact hf4
            · exact g2 z z1 (by omega)
          rw [this] at z4; cases z4
      rw [if_pos hf] at hw
      have hus : (s.extract g z).size = z - g := by rw [ByteArray.size_extract]; omega
      have hwb := wbyte_part s g z z2 z3
      obtain ⟨u, hu⟩ : ∃ u, s.extract g z = u := ⟨_, rfl⟩
      rw [hu] at hus hwb hw
      have HU := Lib.hid hu
      have HWB := Lib.hid hwb
      have HW := Lib.hid hw
      have HF3 := Lib.hid hf3
      have HG3 := Lib.hid g3
      have hue := str_empty (s := u) (by omega)
      have hzg : (g : Int) + (u.size : Int) = (z : Int) := by omega
      have hzs : ¬ (s.size : Int) < (z : Int) := by omega
      have hzc : ¬ (z : Int) ≤ (c : Int) := by omega
      have hg0 : (0 : Int) ≤ (g : Int) := by omega
      have hg0n : ¬ (g : Int) < 0 := by omega
      have hgz : (g : Int) ≤ (z : Int) := by omega
      have hzsI : (z : Int) ≤ (s.size : Int) := by omega
      have husI : (0 : Int) ≤ (u.size : Int) := by omega
      clear hw hu hwb hf2 hf3 hf4 g2 g3 z3 hfe hge hze hus p1 p3 hsl hsc
      go_enter Try.func11, Try.ntmps11
      go_wp2_with (first | (go_at_call 37; refine (known12_any _).mono ?_; rintro e w1 ⟨rfl, hbl⟩; obtain ⟨x, rfl⟩ := ovr_of_below hbl; clear hbl) | (go_at_call 35; refine (text_any _ _ L _ (by (repeat (first | assumption | refine LinesAt.ovr ?_ _ | refine LinesAt.alloc ?_ _ | refine LinesAt.drewN ?_ _ | refine LinesAt.drew ?_)))).mono ?_; rintro e w1 ⟨rfl, rfl⟩))
      go_at_call 38; refine (seat_at _ _ L _ _ _ (by (repeat (first | assumption | refine LinesAt.ovr ?_ _ | refine LinesAt.alloc ?_ _ | refine LinesAt.drewN ?_ _ | refine LinesAt.drew ?_))) h0 hsa hsb HSLpl HSCpl).mono ?_; rintro e w1 ⟨rfl, hbl⟩; obtain ⟨y1, rfl⟩ := ovr_of_below hbl; clear hbl
      go_wp2_with fail
      go_at_call 46; refine (pword_any _ _ L _ _ _ (by (repeat (first | assumption | refine LinesAt.ovr ?_ _ | refine LinesAt.alloc ?_ _ | refine LinesAt.drewN ?_ _ | refine LinesAt.drew ?_)))).mono ?_; rw [HW.out]; rintro e w1 ⟨rfl, hbl⟩; obtain ⟨y2, rfl⟩ := ovr_of_below hbl; clear hbl
      have hse := HU.out
      have hN1 : ¬ s.size < z := by omega
      have hN2 : ¬ z ≤ c := by omega
      go_wp2_with fail
      refine name_ptr 9 rfl ?_
      intro Q hQ
      rw [← hQ]
      refine name_ptr 7 rfl ?_
      intro P hP
      rw [← hP]
      refine name_world ?_
      intro W1 hW1
      have gp0 : W1.cell? ⟨P, 0, none⟩ = some (.int .i64 (l : Int)) := by rw [hW1, hP]; simp [go_sem]
      have gp1 : W1.cell? ⟨P, 1, none⟩ = some (.int .i64 (c : Int)) := by rw [hW1, hP]; simp [go_sem]
      have gq0 : W1.cell? ⟨Q, 0, none⟩ = some (.int .i64 (l : Int)) := by rw [hW1, hQ]; simp [go_sem]
      have gq1 : W1.cell? ⟨Q, 1, none⟩ = some (.int .i64 (g : Int)) := by rw [hW1, hQ]; simp [go_sem]
      have hbel : Below W.heap.size W W1 := by rw [hW1]; (repeat (first | with_reducible exact Below.refl _ _ | (with_reducible refine Below.setCell ?_ ?_ _; rotate_left; · (first | exact Nat.le_refl _ | assumption | omega | (simp; done) | (simp; omega))) | (with_reducible refine Below.alloc ?_ ?_ _; rotate_left; · (first | exact Nat.le_refl _ | assumption | omega | (simp; done) | (simp; omega))) | with_reducible refine below_ovr_of ?_ | with_reducible refine drew_below ?_ _ | with_reducible refine Below.drew ?_ | with_reducible assumption))
      clear hW1 hP hQ
      clear hse
      go_loop [13] (fun v => ∃ k : Nat, k ≤ u.size ∧ v = .int .i64 (k : Int)) (fun v => u.size - (intOf v).toNat)
      case atStart => exact ⟨0, Nat.zero_le _, rfl⟩
      case round =>
        obtain ⟨k, hk, rfl⟩ := hrel
        by_cases hlt : k < u.size
        · have hltI : (k : Int) < (u.size : Int) := by omega
          have hk0 : (0 : Int) ≤ (k : Int) := by omega
          obtain ⟨q, e1, e2, e4⟩ := HWB.out k hlt
          have e3 : (q != 1) = false := e2
          have E4 := Lib.hid e4
          clear e1 e2 e4
          go_wp2_with fail
          go_at_call 48; refine (E4.out _ hlt).mono ?_; rintro e9 w9 ⟨rfl, rfl⟩
          go_wp2_with fail
          go_round
          case rel => exact ⟨k + 1, by omega, by go_num⟩
          case measure => simp [intOf]; omega
        · have hltI : ¬ (k : Int) < (u.size : Int) := by omega
          have hltd : decide (k < u.size) = false := decide_eq_false hlt
          have hend : ∀ j, j < s.size → wrdB s j = false → ∃ q : Int, (q == 1) = false ∧ ∀ W0 : World, ∀ h : j < s.size, Calls Try.prog 48 #[.int .u8 (s[j].toNat : Int), .bool false] W0 fun e w' => e = .returned (.int .i64 q) ∧ W0 = w' := fun j hj hw => by
            obtain ⟨q, e1, _, e4⟩ := HBY.out j hj
            rw [hw] at e1
            exact ⟨q, e1, e4⟩
          have HE := Lib.hid hend
          have Z4 := Lib.hid z4
          clear hend z4 hzc hN2 hN1
          rcases (by omega : (z < s.size ∧ 0 < g) ∨ (z < s.size ∧ ¬ 0 < g) ∨ (¬ z < s.size ∧ 0 < g) ∨ (¬ z < s.size ∧ ¬ 0 < g)) with ⟨hz, hg⟩ | ⟨hz, hg⟩ | ⟨hz, hg⟩ | ⟨hz, hg⟩
          case' inl =>
            have hzI : (z : Int) < (s.size : Int) := by omega
            have hz0 : (0 : Int) ≤ (z : Int) := by omega
            have hgI : (0 : Int) < (g : Int) := by omega
            have hg1 : (0 : Int) ≤ (g : Int) - 1 := by omega
            have hg2 : (g : Int) - 1 < (s.size : Int) := by omega
            have hg4 : ((g : Int) - 1).toNat = g - 1 := by omega
            obtain ⟨qz, az, bz⟩ := HE.out z hz Z4.out
            obtain ⟨qg, ag, bg⟩ := HE.out (g - 1) (by omega) (HG3.out hg)
            have BZ := Lib.hid bz
            have BG := Lib.hid bg
            clear bz bg
            go_wp2_with fail
            go_at_call 48; refine (BZ.out _ hz).mono ?_; rintro e9 w9 ⟨rfl, rfl⟩
            go_wp2_with fail
            go_at_call 48; refine (BG.out _ (by omega)).mono ?_; rintro e9 w9 ⟨rfl, rfl⟩
            go_wp2_with fail
          case' inr.inl =>
            have hzI : (z : Int) < (s.size : Int) := by omega
            have hz0 : (0 : Int) ≤ (z : Int) := by omega
            have hgI : ¬ (0 : Int) < (g : Int) := by omega
            have hgd : decide (0 < g) = false := decide_eq_false hg
            obtain ⟨qz, az, bz⟩ := HE.out z hz Z4.out
            have BZ := Lib.hid bz
            clear bz
            go_wp2_with fail
            go_at_call 48; refine (BZ.out _ hz).mono ?_; rintro e9 w9 ⟨rfl, rfl⟩
            go_wp2_with fail
          case' inr.inr.inl =>
            have hzI : ¬ (z : Int) < (s.size : Int) := by omega
            have hzd : decide (z < s.size) = false := decide_eq_false hz
            have hgI : (0 : Int) < (g : Int) := by omega
            have hg1 : (0 : Int) ≤ (g : Int) - 1 := by omega
            have hg2 : (g : Int) - 1 < (s.size : Int) := by omega
            have hg4 : ((g : Int) - 1).toNat = g - 1 := by omega
            obtain ⟨qg, ag, bg⟩ := HE.out (g - 1) (by omega) (HG3.out hg)
            have BG := Lib.hid bg
            clear bg
            go_wp2_with fail
            go_at_call 48; refine (BG.out _ (by omega)).mono ?_; rintro e9 w9 ⟨rfl, rfl⟩
            go_wp2_with fail
          case' inr.inr.inr =>
            have hzI : ¬ (z : Int) < (s.size : Int) := by omega
            have hzd : decide (z < s.size) = false := decide_eq_false hz
            have hgI : ¬ (0 : Int) < (g : Int) := by omega
            have hgd : decide (0 < g) = false := decide_eq_false hg
            go_wp2_with fail
          all_goals (
            go_loop [15] (fun v => ∃ k : Nat, c ≤ k ∧ v = .int .i64 (k : Int)) (fun v => g - (intOf v).toNat)
            case atStart => exact ⟨c, Nat.le_refl _, rfl⟩
            case round =>
              obtain ⟨j, hj, rfl⟩ := hrel
              by_cases hjg : j < g
              · first
                | (exfalso; omega)
                | (
                  have hjI : (j : Int) < (g : Int) := by omega
                  have hj0 : (0 : Int) ≤ (j : Int) := by omega
                  have hjs : (j : Int) < (s.size : Int) := by omega
                  obtain ⟨qj, aj, bj⟩ := HE.out j (by omega) (HF3.out j hj (by omega))
                  have BJ := Lib.hid bj
                  clear bj
                  go_wp2_with fail
                  go_at_call 48; refine (BJ.out _ (by omega)).mono ?_; rintro e9 w9 ⟨rfl, rfl⟩
                  go_wp2_with fail
                  go_round
                  case rel => exact ⟨j + 1, by omega, by go_num⟩
                  case measure => simp [intOf]; omega)
              · have hjI : ¬ (j : Int) < (g : Int) := by omega
                go_wp2
                go_ret
                exact ⟨rfl, hbel⟩)
    · have hw2 : wordW L l c = ((0, 0), ⟨#[]⟩, false) := by rw [hw, if_neg hf]
      obtain ⟨hf1, hf2, hf3⟩ := wFrom_in (s := s) _ c rfl
      have hall : ∀ j, c ≤ j → j < s.size → wrdB s j = false := fun j h1 h2 => hf3 j h1 (by omega)
      have HALL := Lib.hid hall
      have HW := Lib.hid hw2
      clear hw hw2 hf1 hf2 hf3 hall p1 p3 hsl hsc hf
      go_enter Try.func11, Try.ntmps11
      go_wp2_with (first | (go_at_call 37; refine (known12_any _).mono ?_; rintro e w1 ⟨rfl, hbl⟩; obtain ⟨x, rfl⟩ := ovr_of_below hbl; clear hbl) | (go_at_call 35; refine (text_any _ _ L _ (by (repeat (first | assumption | refine LinesAt.ovr ?_ _ | refine LinesAt.alloc ?_ _ | refine LinesAt.drewN ?_ _ | refine LinesAt.drew ?_)))).mono ?_; rintro e w1 ⟨rfl, rfl⟩))
      go_at_call 38; refine (seat_at _ _ L _ _ _ (by (repeat (first | assumption | refine LinesAt.ovr ?_ _ | refine LinesAt.alloc ?_ _ | refine LinesAt.drewN ?_ _ | refine LinesAt.drew ?_))) h0 hsa hsb HSLpl HSCpl).mono ?_; rintro e w1 ⟨rfl, hbl⟩; obtain ⟨y1, rfl⟩ := ovr_of_below hbl; clear hbl
      go_wp2_with fail
      go_at_call 46; refine (pword_any _ _ L _ _ _ (by (repeat (first | assumption | refine LinesAt.ovr ?_ _ | refine LinesAt.alloc ?_ _ | refine LinesAt.drewN ?_ _ | refine LinesAt.drew ?_)))).mono ?_; rw [HW.out]; rintro e w1 ⟨rfl, hbl⟩; obtain ⟨y2, rfl⟩ := ovr_of_below hbl; clear hbl
      go_wp2_with fail
      refine name_ptr 9 rfl ?_
      intro Q hQ
      rw [← hQ]
      refine name_ptr 7 rfl ?_
      intro P hP
      rw [← hP]
      refine name_world ?_
      intro W1 hW1
      have gp0 : W1.cell? ⟨P, 0, none⟩ = some (.int .i64 (l : Int)) := by rw [hW1, hP]; simp [go_sem]
      have gp1 : W1.cell? ⟨P, 1, none⟩ = some (.int .i64 (c : Int)) := by rw [hW1, hP]; simp [go_sem]
      have gq0 : W1.cell? ⟨Q, 0, none⟩ = some (.int .i64 0) := by rw [hW1, hQ]; simp [go_sem]
      have gq1 : W1.cell? ⟨Q, 1, none⟩ = some (.int .i64 0) := by rw [hW1, hQ]; simp [go_sem]
      have hbel : Below W.heap.size W W1 := by rw [hW1]; (repeat (first | with_reducible exact Below.refl _ _ | (with_reducible refine Below.setCell ?_ ?_ _; rotate_left; · (first | exact Nat.le_refl _ | assumption | omega | (simp; done) | (simp; omega))) | (with_reducible refine Below.alloc ?_ ?_ _; rotate_left; · (first | exact Nat.le_refl _ | assumption | omega | (simp; done) | (simp; omega))) | with_reducible refine below_ovr_of ?_ | with_reducible refine drew_below ?_ _ | with_reducible refine Below.drew ?_ | with_reducible assumption))
      clear hW1 hP hQ
      go_loop [12] (fun v => ∃ k : Nat, c ≤ k ∧ k ≤ s.size ∧ v = .int .i64 (k : Int)) (fun v => s.size - (intOf v).toNat)
      case atStart => exact ⟨c, Nat.le_refl _, by omega, rfl⟩
      case round =>
        obtain ⟨k, hk, hks, rfl⟩ := hrel
        by_cases hlt : k < s.size
        · have hltI : (k : Int) < (s.size : Int) := by omega
          have hk0 : (0 : Int) ≤ (k : Int) := by omega
          obtain ⟨q, e1, e2, e4⟩ := HBY.out k hlt
          rw [HALL.out k hk hlt] at e1
          have E4 := Lib.hid e4
          clear e2 e4
          go_wp2_with fail
          go_at_call 48; refine (E4.out _ hlt).mono ?_; rintro e9 w9 ⟨rfl, rfl⟩
          go_wp2_with fail
          go_round
          case rel => exact ⟨k + 1, by omega, by omega, by go_num⟩
          case measure => simp [intOf]; omega
        · have hltI : ¬ (k : Int) < (s.size : Int) := by omega
          go_wp2
          go_ret
          exact ⟨by simp, hbel⟩
end Go.Proofs.Ytnaceobbbfbhhaa
