/- The walk of the law AreaBreaks. Conditions: none beyond what it says. -/
import Derived.Test.YtjkilpnbaaiglaaAreaLaws
namespace Go.Proofs.Ytjkilpnbaaiglaa
open Go.RowKit

set_option maxHeartbeats 1000000 in
theorem areaBreaks_walk (a : Option Addr) (cap : Nat) (L : List ByteArray) (sa sb sk : Int) (W : World) (hL : LinesAt W a L) (ha : 0 ≤ sa ∧ sa ≤ 65535) (hb : 0 ≤ sb ∧ sb ≤ 65535) (hk : 0 ≤ sk ∧ sk ≤ 255) :
    Calls Try.prog 13 #[.slice a L.length cap, .int .u16 sa, .int .u16 sb, .int .u8 sk] W fun e W' => e = .returned (.bool true) ∧ Below W.heap.size W W' := by
  obtain ⟨hk0, hk1⟩ := hk
  cases hli : textB L with
  | false =>
    go_enter Try.func13, Try.ntmps13
    go_wp2_with (first
      | (go_at_call 35; refine (known27_any _).mono ?_; rintro e w1 ⟨rfl, hbl⟩; obtain ⟨x, rfl⟩ := ovr_of_below hbl; clear hbl)
      | (go_at_call 27; refine (text_any _ _ L _ (by (repeat (first | assumption | refine LinesAt.ovr ?_ _ | refine LinesAt.alloc ?_ _ | refine LinesAt.drewN ?_ _ | refine LinesAt.drew ?_)))).mono ?_; rintro e w1 ⟨rfl, rfl⟩))
    go_ret
    exact ⟨rfl, by (repeat (first | exact Below.refl _ _ | refine Below.alloc ?_ (by first | exact Nat.le_refl _ | (simp; done) | (simp; omega)) _ | refine below_ovr_of ?_ | refine drew_below ?_ _ | refine Below.drew ?_ | refine Below.setCell ?_ (by first | exact Nat.le_refl _ | (simp; done) | (simp; omega)) _ | assumption))⟩
  | true =>
    obtain ⟨h0, hn, htot, _⟩ := text_spec hli
    obtain ⟨pl, pc, hsl, hsc, hp⟩ := seat_facts (L := L) (x := sa) (y := sb) h0 ha.1
    have hseat := fun w h => seat_any a cap L sa sb w h h0 ha hb
    rw [hsl, hsc] at hseat
    have HSEAT := Lib.hid hseat
    clear hseat hsl hsc
    obtain ⟨p1, p2, p3, p4⟩ := plcB_spec hp
    obtain ⟨kk, hkk⟩ : ∃ kk, sk % 4 = kk := ⟨_, rfl⟩
    have k1 : 0 ≤ kk := by omega
    have k2 : kk ≤ 3 := by omega
    by_cases hl : pl + 1 + kk < (L.length : Int)
    · have hA := areaBreaks_plain hp (l := pl + 1 + kk) (by omega) hl
      obtain ⟨b, off, rfl, hbb, hc, hcs⟩ := hL.line (i := pl.toNat) (by omega)
      obtain ⟨s, hs'⟩ : ∃ s, L.getD pl.toNat .empty = s := ⟨_, rfl⟩
      have hfs : fsI L pl = (firstL s.data.toList : Int) := by unfold fsI; rw [hs']
      rw [hs'] at hc hcs
      rw [hfs] at hA
      clear hfs
      by_cases hf : pc ≤ (firstL s.data.toList : Int)
      · rw [if_pos hf] at hA
        clear hs'
        go_enter Try.func13, Try.ntmps13
        go_wp2_with (first
          | (go_at_call 35; refine (known27_any _).mono ?_; rintro e w1 ⟨rfl, hbl⟩; obtain ⟨x, rfl⟩ := ovr_of_below hbl; clear hbl)
          | (go_at_call 27; refine (text_any _ _ L _ (by (repeat (first | assumption | refine LinesAt.ovr ?_ _ | refine LinesAt.alloc ?_ _ | refine LinesAt.drewN ?_ _ | refine LinesAt.drew ?_)))).mono ?_; rintro e w1 ⟨rfl, rfl⟩)
          | (go_at_call 33; refine (HSEAT.out _ (by (repeat (first | assumption | refine LinesAt.ovr ?_ _ | refine LinesAt.alloc ?_ _ | refine LinesAt.drewN ?_ _ | refine LinesAt.drew ?_)))).mono ?_; rintro e w1 ⟨rfl, hbl⟩; obtain ⟨x, rfl⟩ := ovr_of_below hbl; clear hbl)
          | (go_at_call 36; refine (areaOf_any _ _ L _ _ _ _ _ _ _ _ (by (repeat (first | assumption | refine LinesAt.ovr ?_ _ | refine LinesAt.alloc ?_ _ | refine LinesAt.drewN ?_ _ | refine LinesAt.drew ?_)))).mono ?_; rintro e w1 ⟨rfl, hbl⟩; obtain ⟨x4, rfl⟩ := ovr_of_below hbl; clear hbl))
        (refine wp_region_ovr (by kernel_rfl) (by kernel_rfl) ?_; (repeat (go_big_quiet_step ((go_at_call 19; exact quiet_same (rfirst_any _ _ (by omega)))))); refine wpQuiet_nil ?_; rintro _ ⟨zq, rfl⟩)
        go_wp2
        go_ret
        exact ⟨rfl, by (repeat (first | exact Below.refl _ _ | refine Below.alloc ?_ (by first | exact Nat.le_refl _ | (simp; done) | (simp; omega)) _ | refine below_ovr_of ?_ | refine drew_below ?_ _ | refine Below.drew ?_ | refine Below.setCell ?_ (by first | exact Nat.le_refl _ | (simp; done) | (simp; omega)) _ | assumption))⟩
      · rw [if_neg hf] at hA
        by_cases hk0' : kk = 0
        · subst hk0'
          rw [Int.add_zero, show pl + 1 - 1 = pl from by omega] at hA
          obtain ⟨u, hu'⟩ : ∃ u, s = u := ⟨_, rfl⟩
          have hz : szI L pl = (s.size : Int) := by unfold szI; rw [hs']
          rw [hz] at hA
          clear hz hs' hu'
          rw [Int.add_zero] at hl
          by_cases hpu : pc = (s.size : Int)
          · subst hpu
            rw [someR_eq] at hA
            go_enter Try.func13, Try.ntmps13
            go_wp2_with (first
              | (go_at_call 35; refine (known27_any _).mono ?_; rintro e w1 ⟨rfl, hbl⟩; obtain ⟨x, rfl⟩ := ovr_of_below hbl; clear hbl)
              | (go_at_call 27; refine (text_any _ _ L _ (by (repeat (first | assumption | refine LinesAt.ovr ?_ _ | refine LinesAt.alloc ?_ _ | refine LinesAt.drewN ?_ _ | refine LinesAt.drew ?_)))).mono ?_; rintro e w1 ⟨rfl, rfl⟩)
              | (go_at_call 33; refine (HSEAT.out _ (by (repeat (first | assumption | refine LinesAt.ovr ?_ _ | refine LinesAt.alloc ?_ _ | refine LinesAt.drewN ?_ _ | refine LinesAt.drew ?_)))).mono ?_; rintro e w1 ⟨rfl, hbl⟩; obtain ⟨x, rfl⟩ := ovr_of_below hbl; clear hbl)
              | (go_at_call 36; refine (areaOf_any _ _ L _ _ _ _ _ _ _ _ (by (repeat (first | assumption | refine LinesAt.ovr ?_ _ | refine LinesAt.alloc ?_ _ | refine LinesAt.drewN ?_ _ | refine LinesAt.drew ?_)))).mono ?_; rintro e w1 ⟨rfl, hbl⟩; obtain ⟨x4, rfl⟩ := ovr_of_below hbl; clear hbl))
            (refine wp_region_ovr (by kernel_rfl) (by kernel_rfl) ?_; (repeat (go_big_quiet_step ((go_at_call 19; exact quiet_same (rfirst_any _ _ (by omega)))))); refine wpQuiet_nil ?_; rintro _ ⟨zq, rfl⟩)
            go_wp2
            go_ret
            exact ⟨rfl, by (repeat (first | exact Below.refl _ _ | refine Below.alloc ?_ (by first | exact Nat.le_refl _ | (simp; done) | (simp; omega)) _ | refine below_ovr_of ?_ | refine drew_below ?_ _ | refine Below.drew ?_ | refine Below.setCell ?_ (by first | exact Nat.le_refl _ | (simp; done) | (simp; omega)) _ | assumption))⟩
          · rw [someR_ne2 hpu] at hA
            have hne : ¬ (s.size : Int) = pc := fun e => hpu e.symm
            go_enter Try.func13, Try.ntmps13
            go_wp2_with (first
              | (go_at_call 35; refine (known27_any _).mono ?_; rintro e w1 ⟨rfl, hbl⟩; obtain ⟨x, rfl⟩ := ovr_of_below hbl; clear hbl)
              | (go_at_call 27; refine (text_any _ _ L _ (by (repeat (first | assumption | refine LinesAt.ovr ?_ _ | refine LinesAt.alloc ?_ _ | refine LinesAt.drewN ?_ _ | refine LinesAt.drew ?_)))).mono ?_; rintro e w1 ⟨rfl, rfl⟩)
              | (go_at_call 33; refine (HSEAT.out _ (by (repeat (first | assumption | refine LinesAt.ovr ?_ _ | refine LinesAt.alloc ?_ _ | refine LinesAt.drewN ?_ _ | refine LinesAt.drew ?_)))).mono ?_; rintro e w1 ⟨rfl, hbl⟩; obtain ⟨x, rfl⟩ := ovr_of_below hbl; clear hbl)
              | (go_at_call 36; refine (areaOf_any _ _ L _ _ _ _ _ _ _ _ (by (repeat (first | assumption | refine LinesAt.ovr ?_ _ | refine LinesAt.alloc ?_ _ | refine LinesAt.drewN ?_ _ | refine LinesAt.drew ?_)))).mono ?_; rintro e w1 ⟨rfl, hbl⟩; obtain ⟨x4, rfl⟩ := ovr_of_below hbl; clear hbl))
            (refine wp_region_ovr (by kernel_rfl) (by kernel_rfl) ?_; (repeat (go_big_quiet_step ((go_at_call 19; exact quiet_same (rfirst_any _ _ (by omega)))))); refine wpQuiet_nil ?_; rintro _ ⟨zq, rfl⟩)
            go_wp2
            go_ret
            exact ⟨rfl, by (repeat (first | exact Below.refl _ _ | refine Below.alloc ?_ (by first | exact Nat.le_refl _ | (simp; done) | (simp; omega)) _ | refine below_ovr_of ?_ | refine drew_below ?_ _ | refine Below.drew ?_ | refine Below.setCell ?_ (by first | exact Nat.le_refl _ | (simp; done) | (simp; omega)) _ | assumption))⟩
        · obtain ⟨_, _, e1, hbd, hd, hds⟩ := hL.line (i := (pl + 1 + kk).toNat - 1) (by omega)
          cases e1
          obtain ⟨u, hu'⟩ : ∃ u, L.getD ((pl + 1 + kk).toNat - 1) .empty = u := ⟨_, rfl⟩
          have hz : szI L (pl + 1 + kk - 1) = (u.size : Int) := by unfold szI; rw [show (pl + 1 + kk - 1).toNat = (pl + 1 + kk).toNat - 1 from by omega, hu']
          rw [hu'] at hd hds
          rw [hz, someR_ne1 (by omega)] at hA
          clear hz hu' hs'
          have i1 : 0 ≤ pl + 1 + kk - 1 := by omega
          have i2 : pl + 1 + kk - 1 < (L.length : Int) := by omega
          have i3 : ¬ pl + 1 + kk - 1 = pl := by omega
          go_enter Try.func13, Try.ntmps13
          go_wp2_with (first
            | (go_at_call 35; refine (known27_any _).mono ?_; rintro e w1 ⟨rfl, hbl⟩; obtain ⟨x, rfl⟩ := ovr_of_below hbl; clear hbl)
            | (go_at_call 27; refine (text_any _ _ L _ (by (repeat (first | assumption | refine LinesAt.ovr ?_ _ | refine LinesAt.alloc ?_ _ | refine LinesAt.drewN ?_ _ | refine LinesAt.drew ?_)))).mono ?_; rintro e w1 ⟨rfl, rfl⟩)
            | (go_at_call 33; refine (HSEAT.out _ (by (repeat (first | assumption | refine LinesAt.ovr ?_ _ | refine LinesAt.alloc ?_ _ | refine LinesAt.drewN ?_ _ | refine LinesAt.drew ?_)))).mono ?_; rintro e w1 ⟨rfl, hbl⟩; obtain ⟨x, rfl⟩ := ovr_of_below hbl; clear hbl)
            | (go_at_call 36; refine (areaOf_any _ _ L _ _ _ _ _ _ _ _ (by (repeat (first | assumption | refine LinesAt.ovr ?_ _ | refine LinesAt.alloc ?_ _ | refine LinesAt.drewN ?_ _ | refine LinesAt.drew ?_)))).mono ?_; rintro e w1 ⟨rfl, hbl⟩; obtain ⟨x4, rfl⟩ := ovr_of_below hbl; clear hbl))
          (refine wp_region_ovr (by kernel_rfl) (by kernel_rfl) ?_; (repeat (go_big_quiet_step ((go_at_call 19; exact quiet_same (rfirst_any _ _ (by omega)))))); refine wpQuiet_nil ?_; rintro _ ⟨zq, rfl⟩)
          go_wp2
          go_ret
          exact ⟨rfl, by (repeat (first | exact Below.refl _ _ | refine Below.alloc ?_ (by first | exact Nat.le_refl _ | (simp; done) | (simp; omega)) _ | refine below_ovr_of ?_ | refine drew_below ?_ _ | refine Below.drew ?_ | refine Below.setCell ?_ (by first | exact Nat.le_refl _ | (simp; done) | (simp; omega)) _ | assumption))⟩
    · go_enter Try.func13, Try.ntmps13
      go_wp2_with (first
        | (go_at_call 35; refine (known27_any _).mono ?_; rintro e w1 ⟨rfl, hbl⟩; obtain ⟨x, rfl⟩ := ovr_of_below hbl; clear hbl)
        | (go_at_call 27; refine (text_any _ _ L _ (by (repeat (first | assumption | refine LinesAt.ovr ?_ _ | refine LinesAt.alloc ?_ _ | refine LinesAt.drewN ?_ _ | refine LinesAt.drew ?_)))).mono ?_; rintro e w1 ⟨rfl, rfl⟩)
        | (go_at_call 33; refine (HSEAT.out _ (by (repeat (first | assumption | refine LinesAt.ovr ?_ _ | refine LinesAt.alloc ?_ _ | refine LinesAt.drewN ?_ _ | refine LinesAt.drew ?_)))).mono ?_; rintro e w1 ⟨rfl, hbl⟩; obtain ⟨x, rfl⟩ := ovr_of_below hbl; clear hbl))
      go_ret
      exact ⟨rfl, by (repeat (first | exact Below.refl _ _ | refine Below.alloc ?_ (by first | exact Nat.le_refl _ | (simp; done) | (simp; omega)) _ | refine below_ovr_of ?_ | refine drew_below ?_ _ | refine Below.drew ?_ | refine Below.setCell ?_ (by first | exact Nat.le_refl _ | (simp; done) | (simp; omega)) _ | assumption))⟩
end Go.Proofs.Ytjkilpnbaaiglaa
