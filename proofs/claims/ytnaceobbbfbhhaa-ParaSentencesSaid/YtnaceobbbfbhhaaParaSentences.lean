/- The walk of the law ParaSentences. Conditions: none beyond what it says. -/
import Derived.Test.YtnaceobbbfbhhaaParaLaws
import Derived.Test.YtnaceobbbfbhhaaPlaces
import Derived.Test.YtnaceobbbfbhhaaRunsCap
import Derived.Test.YtnaceobbbfbhhaaSentO
namespace Go.Proofs.Ytnaceobbbfbhhaa
open Go.RowKit Go.Shelf

theorem sent_stopsL (Bl m : Nat) (a : Option Addr) (cap : Nat) (L : List ByteArray) (E : List Nat) (W : World) (hsz : L.length + total L ≤ 100000) (hm : L.length + total L ≤ m)
    (hBl : W.cell? ⟨Bl, 0, none⟩ = some (.slice a L.length cap)) (hL : LinesAt W a L) (hEn : ∀ k ∈ E, k < W.heap.size) (hBE : Bl ∉ E) (hE : 0 < L.length → ∀ b off, a = some ⟨b, off, none⟩ → b < W.heap.size ∧ b ∉ E) :
    SeqStopsK Fence.wide 8 Try.prog 98 #[.pointer (some ⟨Bl, 0, none⟩)] (fun x : Plc m => #[Value.agg #[Value.int .i64 (x.1.1 : Int), Value.int .i64 (x.1.2 : Int)]]) (Typ 3 W.heap.size E)
      (fun ys => ys.map Subtype.val = sentP L) (fun pre => pre.map Subtype.val <+: sentP L) 100000 W := fun l J Jx X hX hJ _ hY h0 =>
  sent1_in 8 (by omega) l Bl m a cap L (Typ 3 W.heap.size E) 100000 hsz hm hsz X
    (fun A B hk hc hl => ⟨hk.cell (World.block_lt_of_cell? _ _ hBl) hBE hc, by
      by_cases h0 : 0 < L.length
      · exact lines_typ hk hl (hE h0)
      · exact ⟨fun i hi => by omega, hl.2⟩⟩)
    (fun A B g cs q hk hg hc => hk.row g cs q hc (fun he => by have := hEn g he; have := hX.size; omega))
    (fun A B hk => hk.size)
    J Jx (fun pre A B h g => hJ pre A B none h g (fun r e => by cases e)) (fun pre x A h hl => hY pre x A h hl)
    ((hX.cell (p := ⟨Bl, 0, none⟩) (World.block_lt_of_cell? _ _ hBl)).trans hBl) (hL.below hX (Nat.le_refl _)) h0
/-- What is heard of the sentences. -/
theorem heardS_any (Bl : Nat) (a : Option Addr) (cap : Nat) (L : List ByteArray) (most : Nat) (hm : 1 ≤ most) (hm2 : most ≤ 100000) (w : World) (htot : L.length + total L ≤ 100000) (hBl : w.cell? ⟨Bl, 0, none⟩ = some (.slice a L.length cap)) (hL : LinesAt w a L) :
    Calls Try.prog 55 #[.func (.func 98) #[] #[.pointer (some ⟨Bl, 0, none⟩)], .int .i64 most] w fun e w' => ∃ sa scap, e = .returned (.tuple #[.slice sa ((sentP L).take most).length scap, .bool true]) ∧ PairsAt w' sa ((sentP L).take most) ∧ Below w.heap.size w w' := by
  have hlt := World.block_lt_of_cell? _ _ hBl
  refine heard10_any 100000 _ _ (sentP L) (by have := (sentP_in (L := L)).2; omega) most hm hm2 w (enters_of Try.func98 (by kernel_rfl) rfl) (fun W hB hsz => ?_)
  refine sent_stopsL Bl 100000 a cap L [w.heap.size + 1] W htot htot ((hB.cell (p := ⟨Bl, 0, none⟩) hlt).trans hBl) (hL.below hB (Nat.le_refl _)) (by intro k hk; simp at hk; omega) (by simp; simp only at hlt; omega) (fun h0 b off e => ?_)
  obtain ⟨b', off', e', hb', _⟩ := hL.1 0 h0
  rw [e] at e'
  cases e'
  exact ⟨by omega, by simp; omega⟩
theorem sorted_less {R : List (Nat × Nat)} {i : Nat} (hs : R.Pairwise ltN) (hi : i + 1 < R.length) : lessB ((R.getD i (0, 0)).1 : Int) ((R.getD i (0, 0)).2 : Int) ((R.getD (i + 1) (0, 0)).1 : Int) ((R.getD (i + 1) (0, 0)).2 : Int) = true := by
  refine ltN_less.2 ?_
  have h := List.pairwise_iff_getElem.1 hs i (i + 1) (by omega) hi (by omega)
  rw [List.getD_eq_getElem?_getD, List.getD_eq_getElem?_getD, List.getElem?_eq_getElem (by omega), List.getElem?_eq_getElem hi]
  exact h
set_option maxRecDepth 100000 in
set_option maxHeartbeats 4000000 in
theorem paraSentences_walk (a : Option Addr) (cap : Nat) (L : List ByteArray) (x : Int) (W : World) (hL : LinesAt W a L) (hx : 0 ≤ x ∧ x ≤ 255) :
    Calls Try.prog 13 #[.slice a L.length cap, .int .u8 x] W fun e W' => e = .returned (.bool true) ∧ Below W.heap.size W W' := by
  have hn := hL.2.1
  cases hli : lightB L with
  | false =>
    go_enter Try.func13, Try.ntmps13
    go_wp2_with (first | (go_at_call 49; refine (known10_any _).mono ?_; rintro e w1 ⟨rfl, hbl⟩; obtain ⟨x, rfl⟩ := ovr_of_below hbl; clear hbl) | (go_at_call 22; refine (light_any _ _ L _ (by (repeat (first | assumption | refine LinesAt.ovr ?_ _ | refine LinesAt.alloc ?_ _ | refine LinesAt.drewN ?_ _ | refine LinesAt.drew ?_)))).mono ?_; rintro e w1 ⟨rfl, rfl⟩))
    go_ret
    exact ⟨rfl, by (repeat (first | exact Below.refl _ _ | refine Below.alloc ?_ (by first | exact Nat.le_refl _ | (simp; done) | (simp; omega)) _ | refine below_ovr_of ?_ | refine drew_below ?_ _ | refine Below.drew ?_ | refine Below.setCell ?_ (by first | exact Nat.le_refl _ | (simp; done) | (simp; omega)) _ | assumption))⟩
  | true =>
    obtain ⟨hn4, htot, _⟩ := light_spec hli
    obtain ⟨hx0, hx1⟩ := hx
    have hSl := (sentP_in (L := L)).2
    have hS := sentP_sorted L
    obtain ⟨R, hR⟩ : ∃ R, sentP L = R := ⟨_, rfl⟩
    have HH := Lib.hid (fun (Bl : Nat) (most : Nat) (hm : 1 ≤ most) (hm2 : most ≤ 100000) (w : World) (hBl : w.cell? ⟨Bl, 0, none⟩ = some (.slice a L.length cap)) (h : LinesAt w a L) => heardS_any Bl a cap L most hm hm2 w (by omega) hBl h)
    have HSN := Lib.hid (fun (w0 : World) (h0 : LinesAt w0 a L) => rsent_any a cap L w0 h0 (by omega))
    rw [hR] at HH HSN hS hSl
    have HT : Hid (R.take 5000 = R) := Lib.hid (List.take_of_length_le (by omega))
    obtain ⟨k, hk⟩ : ∃ k : Nat, x % 10 = k := Int.eq_ofNat_of_zero_le (Int.emod_nonneg _ (by omega))
    have hk9 : k ≤ 9 := by have := Int.emod_lt_of_pos x (show (0 : Int) < 10 by omega); omega
    obtain ⟨m, hm⟩ : ∃ m, k + 1 = m := ⟨_, rfl⟩
    have hk1 : (k : Int) + 1 = (m : Int) := by omega
    have hm1 : 1 ≤ m := by omega
    have hm9 : m ≤ 100000 := by omega
    obtain ⟨T, hT⟩ : ∃ T, R.take m = T := ⟨_, rfl⟩
    have hTl : T.length = min m R.length := by rw [← hT, List.length_take]
    have hmn : min (m : Int) (R.length : Int) = (T.length : Int) := by omega
    have hjR : T.length ≤ R.length := by omega
    have HTK := Lib.hid hT
    have HSO := Lib.hid hS
    clear hR hS hT hTl hm
    go_enter Try.func13, Try.ntmps13
    go_wp2_with (first
      | (go_at_call 49; refine (known10_any _).mono ?_; rintro e w1 ⟨rfl, hbl⟩; obtain ⟨x0, rfl⟩ := ovr_of_below hbl; clear hbl)
      | (go_at_call 22; refine (light_any _ _ L _ (by (repeat (first | assumption | refine LinesAt.ovr ?_ _ | refine LinesAt.alloc ?_ _ | refine LinesAt.drewN ?_ _ | refine LinesAt.drew ?_)))).mono ?_; rintro e w1 ⟨rfl, rfl⟩)
      | (go_at_call 56; refine (psent_any _ _ L _).mono ?_; rintro e w1 ⟨rfl, rfl⟩))
    go_at_call 55
    have h5 := HH.out (W.heap.size + x0.heap.size) 5000 (by omega) (by omega) ((ovr W x0).alloc (.cells #[.slice a L.length cap] 22)) (by simp [go_sem]) (by (repeat (first | assumption | refine LinesAt.ovr ?_ _ | refine LinesAt.alloc ?_ _ | refine LinesAt.drewN ?_ _ | refine LinesAt.drew ?_)))
    rw [HT.out, show ((5000 : Nat) : Int) = 5000 from rfl] at h5
    refine h5.mono ?_
    rintro e w1 ⟨sa, scap, rfl, hpa, hbl⟩
    obtain ⟨x1, rfl⟩ := ovr_of_below hbl
    clear hbl h5
    go_wp2_with fail
    go_at_call 57
    refine (HSN.out _ (by (repeat (first | assumption | refine LinesAt.ovr ?_ _ | refine LinesAt.alloc ?_ _ | refine LinesAt.drewN ?_ _ | refine LinesAt.drew ?_)))).mono ?_
    rintro e w1 ⟨v, rfl, hrow, hbl⟩
    obtain ⟨sw, wcap, rfl, hpw, hwc⟩ := pairs_of_owns_cap hrow
    have hsw : (sw = none ∧ wcap = 0 ∧ R.length = 0) ∨ ∃ g, sw = some ⟨g, 0, none⟩ := by
      rcases hrow.2 with ⟨h1, h0⟩ | ⟨g, _, _, h1, _⟩
      · simp only [Value.slice.injEq] at h1; exact .inl ⟨h1.1, h1.2.2, h0⟩
      · simp only [Value.slice.injEq] at h1; exact .inr ⟨g, h1.1⟩
    have HSW := Lib.hid hsw
    obtain ⟨x2, rfl⟩ := ovr_of_below hbl
    clear hbl hrow hsw
    go_wp2_with (go_at_call 56; refine (psent_any _ _ L _).mono ?_; rintro e w1 ⟨rfl, rfl⟩)
    go_at_call 55
    refine (HH.out _ m hm1 hm9 _ ?_ ?_).mono ?_
    · simp [go_sem]
    · (repeat (first | assumption | refine LinesAt.ovr ?_ _ | refine LinesAt.alloc ?_ _ | refine LinesAt.drewN ?_ _ | refine LinesAt.drew ?_))
    rintro e w1 ⟨sb, bcap, he, hpb, hbl⟩
    rw [HTK.out] at he hpb
    subst he
    obtain ⟨x3, rfl⟩ := ovr_of_below hbl
    clear hbl
    go_wp2
    refine name_world ?_
    intro W1 hW1
    have qa : PairsAt W1 sa R := by rw [hW1]; (repeat (first | assumption | refine PairsAt.ovr ?_ _ | refine PairsAt.alloc ?_ _ | refine PairsAt.drewN ?_ _ | refine PairsAt.drew ?_))
    have qw : PairsAt W1 sw R := by rw [hW1]; (repeat (first | assumption | refine PairsAt.ovr ?_ _ | refine PairsAt.alloc ?_ _ | refine PairsAt.drewN ?_ _ | refine PairsAt.drew ?_))
    have qt : PairsAt W1 sw T := by have := pairs_take qw m; rwa [HTK.out] at this
    have qb : PairsAt W1 sb T := by rw [hW1]; (repeat (first | assumption | refine PairsAt.ovr ?_ _ | refine PairsAt.alloc ?_ _ | refine PairsAt.drewN ?_ _ | refine PairsAt.drew ?_))
    have hbel : Below W.heap.size W W1 := by rw [hW1]; (repeat (first | with_reducible exact Below.refl _ _ | (with_reducible refine Below.setCell ?_ ?_ _; rotate_left; · (first | exact Nat.le_refl _ | assumption | omega | (simp; done) | (simp; omega))) | (with_reducible refine Below.alloc ?_ ?_ _; rotate_left; · (first | exact Nat.le_refl _ | assumption | omega | (simp; done) | (simp; omega))) | with_reducible refine below_ovr_of ?_ | with_reducible refine drew_below ?_ _ | with_reducible refine Below.drew ?_ | with_reducible assumption))
    have hbelS := hbel.size
    clear hW1 hpa hpw hpb
    go_loopw [11] (fun i wr => ∃ q : Nat, q ≤ R.length ∧ i = .int .i64 ((q : Int) + 1) ∧ ∃ x, wr = ovr W1 x) (fun i _ => R.length + 1 - (intOf i).toNat)
    case atStart => exact ⟨0, Nat.zero_le _, by go_num, { W1 with heap := #[] }, by simp [ovr]⟩
    case round =>
      obtain ⟨q, hq, rfl, z, rfl⟩ := hrel
      by_cases hlt : q + 1 < R.length
      · have hltI : (q : Int) + 1 < (R.length : Int) := by omega
        have hq0 : (0 : Int) ≤ (q : Int) := by omega
        have hq01 : (0 : Int) ≤ (q : Int) + 1 := by omega
        have hqI : (q : Int) < (R.length : Int) := by omega
        have hqn : ((q : Int) + 1).toNat = q + 1 := by omega
        obtain ⟨g, rfl, hg, c0, c1⟩ := qa q (by omega)
        obtain ⟨g2, e2, _, d0, d1⟩ := qa (q + 1) hlt
        cases e2
        have hls := sorted_less HSO.out hlt
        obtain ⟨⟨fx, fy⟩, hxy⟩ : ∃ p, R.getD q (0, 0) = p := ⟨_, rfl⟩
        obtain ⟨⟨gx, gy⟩, hxy2⟩ : ∃ p, R.getD (q + 1) (0, 0) = p := ⟨_, rfl⟩
        rw [hxy] at c0 c1 hls
        rw [hxy2] at d0 d1 hls
        simp only at c0 c1 d0 d1 hls
        have HQ2 := Lib.hid hls
        clear hxy hxy2 hls
        go_wp2
        (refine wp_region_ovr (by kernel_rfl) (by kernel_rfl) ?_; (repeat (go_big_quiet_step ((go_at_call 58; exact quiet_ovr (rless_at _ _ _ _ _ HQ2))))); refine wpQuiet_nil ?_; rintro _ ⟨zq, rfl⟩)
        go_wp2
        go_roundw
        case rel => exact ⟨q + 1, by omega, by go_num, ovr_of_below (by (repeat (first | with_reducible exact Below.refl _ _ | (with_reducible refine Below.setCell ?_ ?_ _; rotate_left; · (first | exact Nat.le_refl _ | assumption | omega | (simp; done) | (simp; omega))) | (with_reducible refine Below.alloc ?_ ?_ _; rotate_left; · (first | exact Nat.le_refl _ | assumption | omega | (simp; done) | (simp; omega))) | with_reducible refine below_ovr_of ?_ | with_reducible refine drew_below ?_ _ | with_reducible refine Below.drew ?_ | with_reducible assumption)))⟩
        case measure => simp [intOf]; omega
      · have hltI : ¬ (q : Int) + 1 < (R.length : Int) := by omega
        have hT0 : (0 : Int) ≤ (T.length : Int) := by omega
        have hTc : T.length ≤ wcap := by omega
        have hTI : (T.length : Int) ≤ (wcap : Int) := by omega
        have hTR : (T.length : Int) ≤ (R.length : Int) := by omega
        rcases HSW.out with ⟨rfl, rfl, hr0⟩ | ⟨g, rfl⟩
        · have hr1 : R = [] := List.eq_nil_of_length_eq_zero hr0
          have hr2 : T = [] := List.eq_nil_of_length_eq_zero (by omega)
          subst hr1 hr2
          simp only [List.length_nil] at hmn hr0 hTR hTI hTc hT0 hjR hltI
          go_wp2_with (go_at_call 42; first | (refine (places_at _ _ _ _ [] (by simp) _ (by intro i hi; simp at hi) (by intro i hi; simp at hi)).mono ?_; rintro e w1 ⟨rfl, hbl⟩; obtain ⟨y1, rfl⟩ := ovr_of_below hbl; clear hbl))
          go_ret
          exact ⟨rfl, by (repeat (first | with_reducible exact Below.refl _ _ | (with_reducible refine Below.setCell ?_ ?_ _; rotate_left; · (first | exact Nat.le_refl _ | assumption | omega | (simp; done) | (simp; omega))) | (with_reducible refine Below.alloc ?_ ?_ _; rotate_left; · (first | exact Nat.le_refl _ | assumption | omega | (simp; done) | (simp; omega))) | with_reducible refine below_ovr_of ?_ | with_reducible refine drew_below ?_ _ | with_reducible refine Below.drew ?_ | with_reducible assumption))⟩
        · rcases Nat.lt_or_ge R.length m with hmR | hmR
          · obtain rfl : T = R := by rw [← HTK.out, List.take_of_length_le (by omega)]
            have hmRI : (T.length : Int) < (m : Int) := by omega
            clear hmn
            go_wp2_with (go_at_call 42; refine (places_at _ _ _ _ T (by omega) _ (by (repeat (first | assumption | refine PairsAt.ovr ?_ _ | refine PairsAt.alloc ?_ _ | refine PairsAt.drewN ?_ _ | refine PairsAt.drew ?_))) (by (repeat (first | assumption | refine PairsAt.ovr ?_ _ | refine PairsAt.alloc ?_ _ | refine PairsAt.drewN ?_ _ | refine PairsAt.drew ?_)))).mono ?_; rintro e w1 ⟨rfl, hbl⟩; obtain ⟨y1, rfl⟩ := ovr_of_below hbl; clear hbl)
            go_ret
            exact ⟨rfl, by (repeat (first | with_reducible exact Below.refl _ _ | (with_reducible refine Below.setCell ?_ ?_ _; rotate_left; · (first | exact Nat.le_refl _ | assumption | omega | (simp; done) | (simp; omega))) | (with_reducible refine Below.alloc ?_ ?_ _; rotate_left; · (first | exact Nat.le_refl _ | assumption | omega | (simp; done) | (simp; omega))) | with_reducible refine below_ovr_of ?_ | with_reducible refine drew_below ?_ _ | with_reducible refine Below.drew ?_ | with_reducible assumption))⟩
          · obtain rfl : m = T.length := by omega
            have hmRI : ¬ (R.length : Int) < (T.length : Int) := by omega
            clear hmn
            go_wp2_with fail
            go_at_call 42
            refine (places_at _ _ _ _ R (by omega) _ (by (repeat (first | assumption | refine PairsAt.ovr ?_ _ | refine PairsAt.alloc ?_ _ | refine PairsAt.drewN ?_ _ | refine PairsAt.drew ?_))) (by (repeat (first | assumption | refine PairsAt.ovr ?_ _ | refine PairsAt.alloc ?_ _ | refine PairsAt.drewN ?_ _ | refine PairsAt.drew ?_)))).mono ?_
            rintro e w1 ⟨rfl, hbl⟩
            obtain ⟨y1, rfl⟩ := ovr_of_below hbl
            clear hbl
            go_wp2_with fail
            go_at_call 42
            refine (places_at _ _ _ _ T (by omega) _ (by (repeat (first | assumption | refine PairsAt.ovr ?_ _ | refine PairsAt.alloc ?_ _ | refine PairsAt.drewN ?_ _ | refine PairsAt.drew ?_))) (by (repeat (first | assumption | refine PairsAt.ovr ?_ _ | refine PairsAt.alloc ?_ _ | refine PairsAt.drewN ?_ _ | refine PairsAt.drew ?_)))).mono ?_
            rintro e w1 ⟨rfl, hbl⟩
            obtain ⟨y2, rfl⟩ := ovr_of_below hbl
            clear hbl
            go_wp2
            go_ret
            exact ⟨rfl, by (repeat (first | with_reducible exact Below.refl _ _ | (with_reducible refine Below.setCell ?_ ?_ _; rotate_left; · (first | exact Nat.le_refl _ | assumption | omega | (simp; done) | (simp; omega))) | (with_reducible refine Below.alloc ?_ ?_ _; rotate_left; · (first | exact Nat.le_refl _ | assumption | omega | (simp; done) | (simp; omega))) | with_reducible refine below_ovr_of ?_ | with_reducible refine drew_below ?_ _ | with_reducible refine Below.drew ?_ | with_reducible assumption))⟩
end Go.Proofs.Ytnaceobbbfbhhaa
