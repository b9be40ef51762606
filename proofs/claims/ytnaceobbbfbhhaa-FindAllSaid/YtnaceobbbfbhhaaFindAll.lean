/- The walk of the law FindAll. Conditions: none beyond what it says. -/
import Derived.Test.YtnaceobbbfbhhaaFindLaws
import Derived.Test.YtnaceobbbfbhhaaPlaces
import Derived.Test.YtnaceobbbfbhhaaRunsCap
import Derived.Deep.RegionHeld3
import Derived.OpenShut
namespace Go.Proofs.Ytnaceobbbfbhhaa
open Go.RowKit

theorem all_stopsL (Bl Bt m : Nat) (a : Option Addr) (cap : Nat) (L : List ByteArray) (t : ByteArray) (E : List Nat) (W : World) (hsz : L.length + total L ≤ 100000) (hm : L.length + total L ≤ m) (ht : t.size ≤ 100000)
    (hBl : W.cell? ⟨Bl, 0, none⟩ = some (.slice a L.length cap)) (hBt : W.cell? ⟨Bt, 0, none⟩ = some (.string t)) (hL : LinesAt W a L) (hBE : Bl ∉ E) (hTE : Bt ∉ E) (hE : 0 < L.length → ∀ b off, a = some ⟨b, off, none⟩ → b < W.heap.size ∧ b ∉ E) :
    SeqStopsK Fence.wide 8 Try.prog 79 #[.pointer (some ⟨Bt, 0, none⟩), .pointer (some ⟨Bl, 0, none⟩)] (fun x : Plc m => #[Value.agg #[Value.int .i64 (x.1.1 : Int), Value.int .i64 (x.1.2 : Int)]]) (Typ 3 W.heap.size E)
      (fun ys => ys.map Subtype.val = allP L t) (fun pre => pre.map Subtype.val <+: allP L t) 100000 W := fun l J Jx X hX hJ _ hY h0 =>
  all1_in 8 (by omega) l Bl Bt m a cap L t (Typ 3 W.heap.size E) 100000 hsz hm hsz ht
    (fun A B hk hc hl => ⟨hk.cell (World.block_lt_of_cell? _ _ hBl) hBE hc, by
      by_cases h0 : 0 < L.length
      · exact lines_typ hk hl (hE h0)
      · exact ⟨fun i hi => by omega, hl.2⟩⟩)
    (fun A B hk hc => hk.cell (World.block_lt_of_cell? _ _ hBt) hTE hc)
    J Jx (fun pre A B h g => hJ pre A B none h g (fun r e => by cases e)) (fun pre x A h hl => hY pre x A h hl)
    X ((hX.cell (p := ⟨Bl, 0, none⟩) (World.block_lt_of_cell? _ _ hBl)).trans hBl) ((hX.cell (p := ⟨Bt, 0, none⟩) (World.block_lt_of_cell? _ _ hBt)).trans hBt) (hL.below hX (Nat.le_refl _)) h0
/-- What is heard of a pattern's places. -/
theorem heardA_any (Bl Bt : Nat) (a : Option Addr) (cap : Nat) (L : List ByteArray) (t : ByteArray) (most : Nat) (hm : 1 ≤ most) (hm2 : most ≤ 100000) (w : World) (htot : L.length + total L ≤ 100000) (ht : t.size ≤ 100000) (hBl : w.cell? ⟨Bl, 0, none⟩ = some (.slice a L.length cap)) (hBt : w.cell? ⟨Bt, 0, none⟩ = some (.string t)) (hL : LinesAt w a L) :
    Calls Try.prog 39 #[.func (.func 79) #[] #[.pointer (some ⟨Bt, 0, none⟩), .pointer (some ⟨Bl, 0, none⟩)], .int .i64 most] w fun e w' => ∃ sa scap, e = .returned (.tuple #[.slice sa ((allP L t).take most).length scap, .bool true]) ∧ PairsAt w' sa ((allP L t).take most) ∧ Below w.heap.size w w' := by
  have hlt := World.block_lt_of_cell? _ _ hBl
  have hlt2 := World.block_lt_of_cell? _ _ hBt
  refine heard12_any 100000 _ _ (allP L t) (by have := (allP_in (L := L) (t := t)).2; omega) most hm hm2 w (enters_of Try.func79 (by kernel_rfl) rfl) (fun W hB hsz => ?_)
  refine all_stopsL Bl Bt 100000 a cap L t [w.heap.size + 1] W htot htot ht ((hB.cell (p := ⟨Bl, 0, none⟩) hlt).trans hBl) ((hB.cell (p := ⟨Bt, 0, none⟩) hlt2).trans hBt) (hL.below hB (Nat.le_refl _)) (by simp; simp only at hlt; omega) (by simp; simp only at hlt2; omega) (fun h0 b off e => ?_)
  obtain ⟨b', off', e', hb', _⟩ := hL.1 0 h0
  rw [e] at e'
  cases e'
  exact ⟨by omega, by simp; omega⟩
set_option maxRecDepth 100000 in
set_option maxHeartbeats 4000000 in
theorem findAll_walk (a : Option Addr) (cap : Nat) (L : List ByteArray) (pat : ByteArray) (sa : Int) (sb : Int) (key : Int) (most : Int) (W : World) (hL : LinesAt W a L) (_hspat : pat.size ≤ 140737488351232) (hsa : 0 ≤ sa ∧ sa ≤ 65535) (hsb : 0 ≤ sb ∧ sb ≤ 65535) (hkey : 0 ≤ key ∧ key ≤ 255) (hmost : 0 ≤ most ∧ most ≤ 255) :
    Calls Try.prog 6 #[.slice a L.length cap, .string pat, .int .u16 sa, .int .u16 sb, .int .u8 key, .int .u8 most] W fun e W' => e = .returned (.bool true) ∧ Below W.heap.size W W' := by
  obtain ⟨hmo0, hmo1⟩ := hmost
  obtain ⟨km, hkm⟩ : ∃ k : Nat, most % 9 = k := Int.eq_ofNat_of_zero_le (Int.emod_nonneg _ (by omega))
  have hk9 : km ≤ 8 := by have := Int.emod_lt_of_pos most (show (0 : Int) < 9 by omega); omega
  obtain ⟨mo, hmo⟩ : ∃ m, km + 1 = m := ⟨_, rfl⟩
  have hk1 : (km : Int) + 1 = (mo : Int) := by omega
  have hm1 : 1 ≤ mo := by omega
  have hm9 : mo ≤ 100000 := by omega
  clear hmo
  cases hli : textB L with
  | false =>
    go_enter Try.func6, Try.ntmps6
    go_wp2_with (first | (go_at_call 37; refine (known12_any _).mono ?_; rintro e w1 ⟨rfl, hbl⟩; obtain ⟨x, rfl⟩ := ovr_of_below hbl; clear hbl) | (go_at_call 35; refine (text_any _ _ L _ (by (repeat (first | assumption | refine LinesAt.ovr ?_ _ | refine LinesAt.alloc ?_ _ | refine LinesAt.drewN ?_ _ | refine LinesAt.drew ?_)))).mono ?_; rintro e w1 ⟨rfl, rfl⟩))
    go_ret
    exact ⟨rfl, by (repeat (first | exact Below.refl _ _ | refine Below.alloc ?_ (by first | exact Nat.le_refl _ | (simp; done) | (simp; omega)) _ | refine below_ovr_of ?_ | refine drew_below ?_ _ | refine Below.drew ?_ | refine Below.setCell ?_ (by first | exact Nat.le_refl _ | (simp; done) | (simp; omega)) _ | assumption))⟩
  | true =>
    rcases Nat.lt_or_ge 60 pat.size with hpat | hpat
    · have hpI : (60 : Int) < (pat.size : Int) := by omega
      go_enter Try.func6, Try.ntmps6
      go_wp2_with (first | (go_at_call 37; refine (known12_any _).mono ?_; rintro e w1 ⟨rfl, hbl⟩; obtain ⟨x, rfl⟩ := ovr_of_below hbl; clear hbl) | (go_at_call 35; refine (text_any _ _ L _ (by (repeat (first | assumption | refine LinesAt.ovr ?_ _ | refine LinesAt.alloc ?_ _ | refine LinesAt.drewN ?_ _ | refine LinesAt.drew ?_)))).mono ?_; rintro e w1 ⟨rfl, rfl⟩))
      go_ret
      exact ⟨rfl, by (repeat (first | exact Below.refl _ _ | refine Below.alloc ?_ (by first | exact Nat.le_refl _ | (simp; done) | (simp; omega)) _ | refine below_ovr_of ?_ | refine drew_below ?_ _ | refine Below.drew ?_ | refine Below.setCell ?_ (by first | exact Nat.le_refl _ | (simp; done) | (simp; omega)) _ | assumption))⟩
    have hpI : ¬ (60 : Int) < (pat.size : Int) := by omega
    obtain ⟨h0, hn, htot, _⟩ := text_spec hli
    obtain ⟨pl, pc, hsl, hsc, hp_pl⟩ := seat_facts (L := L) (x := sa) (y := sb) h0 hsa.1
    have HSLpl := Lib.hid hsl
    have HSCpl := Lib.hid hsc
    clear hsl hsc
    go_enter Try.func6, Try.ntmps6
    go_wp2_with (first | (go_at_call 37; refine (known12_any _).mono ?_; rintro e w1 ⟨rfl, hbl⟩; obtain ⟨x, rfl⟩ := ovr_of_below hbl; clear hbl) | (go_at_call 35; refine (text_any _ _ L _ (by (repeat (first | assumption | refine LinesAt.ovr ?_ _ | refine LinesAt.alloc ?_ _ | refine LinesAt.drewN ?_ _ | refine LinesAt.drew ?_)))).mono ?_; rintro e w1 ⟨rfl, rfl⟩))
    go_at_call 38; refine (seat_at _ _ L _ _ _ (by (repeat (first | assumption | refine LinesAt.ovr ?_ _ | refine LinesAt.alloc ?_ _ | refine LinesAt.drewN ?_ _ | refine LinesAt.drew ?_))) h0 hsa hsb HSLpl HSCpl).mono ?_; rintro e w1 ⟨rfl, hbl⟩; obtain ⟨y1, rfl⟩ := ovr_of_below hbl; clear hbl
    obtain ⟨p1, p2, p3, p4⟩ := plcB_spec hp_pl
    obtain ⟨l, rfl⟩ := Int.eq_ofNat_of_zero_le p1
    obtain ⟨c, rfl⟩ := Int.eq_ofNat_of_zero_le p3
    have hl : l < L.length := by omega
    have hlI : (l : Int) < (L.length : Int) := by omega
    have hl0 : (0 : Int) ≤ (l : Int) := by omega
    have hsz := sizes_le htot
    obtain ⟨b, off, s, hab, hb, hcell, hs, HS⟩ := line_facts' hL hl
    subst hab
    rw [Int.toNat_natCast, HS.out] at p4
    have hss := hsz s (by rw [← HS.out]; exact getD_mem L .empty l hl)
    have htl : L.length + total L ≤ 100000 := by omega
    go_wp2
    refine name_ptr 13 rfl ?_
    intro Q hQ
    rw [← hQ]
    refine name_world ?_
    intro W9 hW9
    have gq0 : W9.cell? ⟨Q, 0, none⟩ = some (.int .i64 (l : Int)) := by rw [hW9, hQ]; simp [go_sem]
    have gq1 : W9.cell? ⟨Q, 1, none⟩ = some (.int .i64 (c : Int)) := by rw [hW9, hQ]; simp [go_sem]
    have gcell : W9.cell? ⟨b, off + l, none⟩ = some (.string s) := by rw [hW9]; simp [go_sem, hcell, hb]
    have hL9 : LinesAt W9 (some ⟨b, off, none⟩) L := by rw [hW9]; (repeat (first | assumption | refine LinesAt.ovr ?_ _ | refine LinesAt.alloc ?_ _ | refine LinesAt.drewN ?_ _ | refine LinesAt.drew ?_))
    have hbel9 : Below W.heap.size W W9 := by rw [hW9]; (repeat (first | exact Below.refl _ _ | refine Below.alloc ?_ (by first | exact Nat.le_refl _ | (simp; done) | (simp; omega)) _ | refine below_ovr_of ?_ | refine drew_below ?_ _ | refine Below.drew ?_ | refine Below.setCell ?_ (by first | exact Nat.le_refl _ | (simp; done) | (simp; omega)) _ | assumption))
    have hs9 := hbel9.size
    have gQl := cell_lt9 gq0
    clear hW9 hQ hsz hs p1 p3
    go_quiet (fail)
    obtain ⟨W8, hW8⟩ : ∃ W8, W9.drewN nq = W8 := ⟨_, rfl⟩
    rw [hW8]
    have gq8 : W8.cell? ⟨Q, 0, none⟩ = some (.int .i64 (l : Int)) := by rw [← hW8]; exact gq0
    have gp8 : W8.cell? ⟨Q, 1, none⟩ = some (.int .i64 (c : Int)) := by rw [← hW8]; exact gq1
    have gc8 : W8.cell? ⟨b, off + l, none⟩ = some (.string s) := by rw [← hW8]; exact gcell
    have hL8 : LinesAt W8 (some ⟨b, off, none⟩) L := by rw [← hW8]; exact hL9.drewN nq
    have hbel8 : Below W.heap.size W W8 := by rw [← hW8]; exact drew_below hbel9 nq
    have hs8 := hbel8.size
    have gl8 := cell_lt9 gq8
    clear hW8 gq0 gq1 gcell hL9 hbel9 hs9 gQl
    have hus : (s.extract c s.size).size ≤ 100000 := by rw [ByteArray.size_extract]; omega
    obtain ⟨u, hu⟩ : ∃ u, s.extract c s.size = u := ⟨_, rfl⟩
    rw [hu] at hus ⊢
    obtain ⟨m, hm⟩ : ∃ m : Nat, key % 5 = (m : Int) := ⟨(key % 5).toNat, by omega⟩
    obtain ⟨hk1, hk2⟩ := hkey
    have hm4 : (m : Int) < 5 := by omega
    have HU := Lib.hid hu
    clear hu
    rcases (by omega : (m : Int) ≤ (u.size : Int) ∨ (u.size : Int) < (m : Int)) with hmu | hmu
    all_goals go_wp2
    all_goals clear hm
    all_goals first
      | (obtain ⟨sx, hse, hsx⟩ : ∃ sx, u.extract 0 m = sx ∧ sx.size ≤ 100000 := ⟨_, rfl, by rw [ByteArray.size_extract]; omega⟩
         rw [hse]
         clear hse)
      | (obtain ⟨sx, hse, hsx⟩ : ∃ sx, u = sx ∧ sx.size ≤ 100000 := ⟨_, rfl, hus⟩
         rw [hse]
         clear hse)
    all_goals (
      refine name_block 54 rfl ?_
      intro W0 B0 hW hB
      rw [← hB]
      have hE : ∀ q : Nat, q < 2 → ∃ tt, W0.cell? ⟨B0, q, none⟩ = some (.string tt) ∧ tt.size ≤ 100000 := by
        intro q hq
        obtain rfl | rfl : q = 0 ∨ q = 1 := by omega
        · exact ⟨pat, by subst hW hB; simp [go_sem], by omega⟩
        · exact ⟨sx, by subst hW hB; simp [go_sem], hsx⟩
      have hL0 : LinesAt W0 (some ⟨b, off, none⟩) L := by rw [hW]; (repeat (first | assumption | refine LinesAt.ovr ?_ _ | refine LinesAt.alloc ?_ _ | refine LinesAt.drewN ?_ _ | refine LinesAt.drew ?_))
      have hbel : Below W.heap.size W W0 := by rw [hW]; (repeat (first | with_reducible exact Below.refl _ _ | (with_reducible refine Below.setCell ?_ ?_ _; rotate_left; · (first | exact Nat.le_refl _ | assumption | omega | (simp; done) | (simp; omega))) | (with_reducible refine Below.alloc ?_ ?_ _; rotate_left; · (first | exact Nat.le_refl _ | assumption | omega | (simp; done) | (simp; omega))) | with_reducible refine below_ovr_of ?_ | with_reducible refine drew_below ?_ _ | with_reducible refine Below.drew ?_ | with_reducible assumption))
      have hszW := hbel.size
      have HE0 := Lib.hid hE
      clear hE hW
      clear hB
      go_loopw [56] (fun i wr => ∃ k : Nat, k ≤ 2 ∧ i = .int .i64 k ∧ ∃ x, wr = ovr W0 x) (fun i _ => 2 - (intOf i).toNat)
      case atStart => exact ⟨0, by omega, rfl, { W0 with heap := #[] }, by simp [ovr]⟩
      case round =>
        obtain ⟨i0, hk0, rfl, z0, rfl⟩ := hrel
        by_cases hlt0 : i0 < 2
        · obtain ⟨tt, g0_0, htt⟩ := HE0.out i0 hlt0
          have lg0 := cell_lt9 g0_0
          have hI0 : (i0 : Int) < 2 := by omega
          have hSl := (allP_in (L := L) (t := tt)).2
          obtain ⟨R, hR⟩ : ∃ R, allP L tt = R := ⟨_, rfl⟩
          have HH := Lib.hid (fun (Bl Bt most : Nat) (hm : 1 ≤ most) (hm2 : most ≤ 100000) (w : World) (hBl : w.cell? ⟨Bl, 0, none⟩ = some (.slice (some ⟨b, off, none⟩) L.length cap)) (hBt : w.cell? ⟨Bt, 0, none⟩ = some (.string tt)) (h : LinesAt w (some ⟨b, off, none⟩) L) => heardA_any Bl Bt _ cap L tt most hm hm2 w htl htt hBl hBt h)
          have HSN := Lib.hid (fun (w0 : World) (h0 : LinesAt w0 (some ⟨b, off, none⟩) L) => rall_any _ cap L tt w0 h0 htl htt)
          rw [hR] at HH HSN hSl
          have HT : Hid (R.take 5000 = R) := Lib.hid (List.take_of_length_le (by omega))
          obtain ⟨T, hT⟩ : ∃ T, R.take mo = T := ⟨_, rfl⟩
          have hTl : T.length = min mo R.length := by rw [← hT, List.length_take]
          have hmn : min (mo : Int) (R.length : Int) = (T.length : Int) := by omega
          have hjR : T.length ≤ R.length := by omega
          have HTK := Lib.hid hT
          clear hR hT hTl
          go_wp2_with fail
          go_at_call 40
          refine (pall_any _ _ L tt _).mono ?_
          rintro e w1 ⟨rfl, rfl⟩
          go_wp2_with fail
          go_at_call 39
          have h5 := HH.out (W0.heap.size + z0.heap.size) (W0.heap.size + z0.heap.size + 1) 5000 (by omega) (by omega) (((ovr W0 z0).alloc (.cells #[.slice (some ⟨b, off, none⟩) L.length cap] 22)).alloc (.cells #[.string tt] 9)) (by simp [go_sem]) (by simp [go_sem]) (by (repeat (first | assumption | refine LinesAt.ovr ?_ _ | refine LinesAt.alloc ?_ _ | refine LinesAt.drewN ?_ _ | refine LinesAt.drew ?_)))
          rw [HT.out, show ((5000 : Nat) : Int) = 5000 from rfl] at h5
          refine h5.mono ?_
          rintro e w1 ⟨sa1, scap, rfl, hpa, hbl⟩
          obtain ⟨x1, rfl⟩ := ovr_of_below hbl
          clear hbl h5
          go_wp2_with fail
          go_at_call 41
          refine (HSN.out _ (by (repeat (first | assumption | refine LinesAt.ovr ?_ _ | refine LinesAt.alloc ?_ _ | refine LinesAt.drewN ?_ _ | refine LinesAt.drew ?_)))).mono ?_
          rintro e w1 ⟨v, rfl, hrow, hbl⟩
          obtain ⟨sw, wcap, rfl, hpw, hwc⟩ := pairs_of_owns_cap hrow
          have hsw : (sw = none ∧ wcap = 0 ∧ R.length = 0) ∨ ∃ g, sw = some ⟨g, 0, none⟩ := by
            rcases hrow.2 with ⟨h1, h0⟩ | ⟨g, _, _, h1, _⟩
            · simp only [Value.slice.injEq] at h1; exact .inl ⟨h1.1, h1.2.2, h0⟩
            · simp only [Value.slice.injEq] at h1; exact .inr ⟨g, h1.1⟩
          have HSW := Lib.hid hsw
          obtain ⟨x2, rfl⟩ := ovr_of_below hbl
          clear hbl hrow hsw
          go_wp2_with fail
          go_at_call 40
          refine (pall_any _ _ L tt _).mono ?_
          rintro e w1 ⟨rfl, rfl⟩
          go_wp2_with fail
          go_at_call 39
          refine (HH.out _ _ mo hm1 hm9 _ ?_ ?_ ?_).mono ?_
          · simp [go_sem]
          · simp [go_sem]
          · (repeat (first | assumption | refine LinesAt.ovr ?_ _ | refine LinesAt.alloc ?_ _ | refine LinesAt.drewN ?_ _ | refine LinesAt.drew ?_))
          rintro e w1 ⟨sb1, bcap, he, hpb, hbl⟩
          rw [HTK.out] at he hpb
          subst he
          obtain ⟨x3, rfl⟩ := ovr_of_below hbl
          clear hbl
          have hT0 : (0 : Int) ≤ (T.length : Int) := by omega
          have hTc : T.length ≤ wcap := by omega
          have hTI : (T.length : Int) ≤ (wcap : Int) := by omega
          have hTR : (T.length : Int) ≤ (R.length : Int) := by omega
          have hpt := pairs_take hpw mo
          rw [HTK.out] at hpt
          rcases HSW.out with ⟨rfl, rfl, hr0⟩ | ⟨g, rfl⟩
          case' inl =>
            have hr1 : R = [] := List.eq_nil_of_length_eq_zero hr0
            have hr2 : T = [] := List.eq_nil_of_length_eq_zero (by omega)
            subst hr1 hr2
            simp only [List.length_nil] at hmn hTR hTI hTc hT0 hjR
            have hmoI : (0 : Int) < (mo : Int) := by omega
            go_wp2_with (go_at_call 42; first | (refine (places_at _ _ _ _ [] (by simp) _ (by intro i hi; simp at hi) (by intro i hi; simp at hi)).mono ?_; rintro e w1 ⟨rfl, hbl⟩; obtain ⟨y1, rfl⟩ := ovr_of_below hbl; clear hbl))
          case' inr =>
            rcases Nat.lt_or_ge R.length mo with hmR | hmR
          case' inr.inl =>
            obtain rfl : T = R := by rw [← HTK.out, List.take_of_length_le (by omega)]
            have hmRI : (T.length : Int) < (mo : Int) := by omega
            clear hmn
            go_wp2_with (go_at_call 42; refine (places_at _ _ _ _ T (by omega) _ (by (repeat (first | assumption | refine PairsAt.ovr ?_ _ | refine PairsAt.alloc ?_ _ | refine PairsAt.drewN ?_ _ | refine PairsAt.drew ?_))) (by (repeat (first | assumption | refine PairsAt.ovr ?_ _ | refine PairsAt.alloc ?_ _ | refine PairsAt.drewN ?_ _ | refine PairsAt.drew ?_)))).mono ?_; rintro e w1 ⟨rfl, hbl⟩; obtain ⟨y1, rfl⟩ := ovr_of_below hbl; clear hbl)
          case' inr.inr =>
            obtain rfl : mo = T.length := by omega
            have hmRI : ¬ (R.length : Int) < (T.length : Int) := by omega
            clear hmn
            go_wp2_with fail
            go_at_call 42
            refine (places_at _ _ _ _ R (by omega) _ (by (repeat (first | assumption | refine PairsAt.ovr ?_ _ | refine PairsAt.alloc ?_ _ | refine PairsAt.drewN ?_ _ | refine PairsAt.drew ?_))) (by (repeat (first | assumption | refine PairsAt.ovr ?_ _ | refine PairsAt.alloc ?_ _ | refine PairsAt.drewN ?_ _ | refine PairsAt.drew ?_)))).mono ?_
            rintro e w1 ⟨rfl, hbl⟩
            obtain ⟨y1, rfl⟩ := ovr_of_below hbl
            clear hbl
            go_wp2_with fail
            go_at_call 42
            refine (places_at _ _ _ _ T (by omega) _ (by (repeat (first | assumption | refine PairsAt.ovr ?_ _ | refine PairsAt.alloc ?_ _ | refine PairsAt.drewN ?_ _ | refine PairsAt.drew ?_))) (by (repeat (first | assumption | refine PairsAt.ovr ?_ _ | refine PairsAt.alloc ?_ _ | refine PairsAt.drewN ?_ _ | refine PairsAt.drew ?_)))).mono ?_
            rintro e w1 ⟨rfl, hbl⟩
            obtain ⟨y2, rfl⟩ := ovr_of_below hbl
            clear hbl
            go_wp2
          all_goals (
            go_roundw
            case rel => exact ⟨i0 + 1, by omega, by go_num, ovr_of_below (by (repeat (first | with_reducible exact Below.refl _ _ | (with_reducible refine Below.setCell ?_ ?_ _; rotate_left; · (first | exact Nat.le_refl _ | assumption | omega | (simp; done) | (simp; omega))) | (with_reducible refine Below.alloc ?_ ?_ _; rotate_left; · (first | exact Nat.le_refl _ | assumption | omega | (simp; done) | (simp; omega))) | with_reducible refine below_ovr_of ?_ | with_reducible refine drew_below ?_ _ | with_reducible refine Below.drew ?_ | with_reducible assumption)))⟩
            case measure => simp [intOf]; omega)
        · have hI0 : ¬ (i0 : Int) < 2 := by omega
          go_wp2
          go_ret
          exact ⟨rfl, by (repeat (first | exact Below.refl _ _ | refine Below.alloc ?_ (by first | exact Nat.le_refl _ | (simp; done) | (simp; omega)) _ | refine below_ovr_of ?_ | refine drew_below ?_ _ | refine Below.drew ?_ | refine Below.setCell ?_ (by first | exact Nat.le_refl _ | (simp; done) | (simp; omega)) _ | assumption))⟩)
end Go.Proofs.Ytnaceobbbfbhhaa
