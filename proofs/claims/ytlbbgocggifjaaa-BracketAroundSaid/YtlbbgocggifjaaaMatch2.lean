/- The contract of the reference's Match. Conditions: none beyond what it says. -/
import Derived.Test.YtlbbgocggifjaaaMatch
namespace Go.Proofs.Ytlbbgocggifjaaa
open Go.RowKit

theorem rkind_ways (c : Int) (w : World) {k1 k2 : Int} {k3 k4 : Bool} (h : Hid (kindP c = (k1, k2, k3, k4))) : Calls Try.prog 49 #[.int .u8 c] w fun e w' =>
    e = .returned (.tuple #[.int .u8 k1, .int .u8 k2, .bool k3, .bool k4]) ∧ w = w' := by
  have := rkind_any c w
  rw [h.out] at this
  exact this
set_option maxRecDepth 100000 in
set_option maxHeartbeats 4000000 in
theorem rmatch_any (a : Option Addr) (cap : Nat) (L : List ByteArray) (pl pc : Int) (w : World) (hL : LinesAt w a L) (htot : total L ≤ 1000000) :
    Calls Try.prog 46 #[.slice a L.length cap, .agg #[.int .i64 pl, .int .i64 pc]] w fun e w' => e = .returned (movV (matchP L pl pc)) ∧ Below w.heap.size w w' := by
  have hn := hL.2.1
  cases hp : plcB L pl pc with
  | false =>
    have HP := Lib.hid (matchP_no hp)
    have HQ : Hid ((plcB L pl pc && decide ((1 : Int) ≤ 1)) = false) := Lib.hid (by rw [hp]; rfl)
    go_enter Try.func46, Try.ntmps46
    go_wp2_with (first | (go_at_call 111; refine (rmay_any _ _ L _ _ _ _ (by (repeat (first | assumption | refine LinesAt.ovr ?_ _ | refine LinesAt.alloc ?_ _ | refine LinesAt.drewN ?_ _ | refine LinesAt.drew ?_)))).mono ?_; rw [HQ.out]; rintro e w1 ⟨rfl, hbl⟩; obtain ⟨x, rfl⟩ := ovr_of_below hbl; clear hbl) | (go_at_call 112; refine (rnone_any _).mono ?_; rintro e w1 ⟨rfl, hbl⟩; obtain ⟨x, rfl⟩ := ovr_of_below hbl; clear hbl))
    refine bodyPost_ret (v := movV noMov) (by simp [results, Try.results46, go_sem, noMov]) rfl ⟨by rw [HP.out], by (repeat (first | with_reducible exact Below.refl _ _ | (with_reducible refine Below.setCell ?_ ?_ _; rotate_left; · (first | exact Nat.le_refl _ | assumption | omega | (simp; done) | (simp; omega))) | (with_reducible refine Below.alloc ?_ ?_ _; rotate_left; · (first | exact Nat.le_refl _ | assumption | omega | (simp; done) | (simp; omega))) | with_reducible refine below_ovr_of ?_ | with_reducible refine drew_below ?_ _ | with_reducible refine Below.drew ?_ | with_reducible assumption))⟩
  | true =>
    obtain ⟨p1, p2, p3, p4⟩ := plcB_spec hp
    obtain ⟨l, rfl⟩ := Int.eq_ofNat_of_zero_le p1
    obtain ⟨c, rfl⟩ := Int.eq_ofNat_of_zero_le p3
    have hl : l < L.length := by omega
    obtain ⟨b, off, s, rfl, hb, hcell, hs, HS⟩ := line_facts' hL hl
    rw [Int.toNat_natCast, HS.out] at p4
    have hc : c ≤ s.size := by omega
    obtain ⟨R, hR⟩ : ∃ R, brkN s c = R := ⟨_, rfl⟩
    have hy := matchP_yes hp HS.out
    rw [hR] at hy
    have HY := Lib.hid hy
    have HQ : Hid ((plcB L l c && decide ((1 : Int) ≤ 1)) = true) := Lib.hid (by rw [hp]; rfl)
    have HR := Lib.hid hR
    clear hy hR p4
    go_enter Try.func46, Try.ntmps46
    go_wp2_with (go_at_call 111; refine (rmay_any _ _ L _ _ _ _ (by (repeat (first | assumption | refine LinesAt.ovr ?_ _ | refine LinesAt.alloc ?_ _ | refine LinesAt.drewN ?_ _ | refine LinesAt.drew ?_)))).mono ?_; rw [HQ.out]; rintro e w1 ⟨rfl, hbl⟩; obtain ⟨x, rfl⟩ := ovr_of_below hbl; clear hbl)
    go_loop [7] (fun q => ∃ k : Nat, k ≤ s.size ∧ q = .int .i64 k ∧ Hid (brkN s k = R)) (fun q => s.size - (intOf q).toNat)
    case atStart => exact ⟨c, hc, rfl, HR⟩
    case round =>
      obtain ⟨k, hk, rfl, HK⟩ := hrel
      by_cases hlt : k < s.size
      · have hltI : (k : Int) < (s.size : Int) := by omega
        have hbt := flat_byte hl HS.out hlt
        have hbs := byt_atM s k hlt
        obtain ⟨⟨k1, k2, k3, k4⟩, hkk⟩ : ∃ r, kindP (s[k].toNat : Int) = r := ⟨_, rfl⟩
        have HKK := Lib.hid hkk
        cases k4 with
        | false =>
          have HG := Lib.hid ((brkN_miss hlt (by rw [hbs, hkk]; simp)).symm.trans HK.out)
          clear hbt hbs hkk
          go_wp2_with (go_at_call 49; refine (rkind_ways _ _ HKK).mono ?_; rintro e w1 ⟨rfl, rfl⟩)
          go_round
          case rel => exact ⟨k + 1, by omega, by go_num, HG⟩
          case measure => first | (simp [intOf]; done) | (simp [intOf]; omega)
        | true =>
          have HG := Lib.hid (HK.out.symm.trans (brkN_hit hlt (by rw [hbs, hkk])))
          have hkt : (kindP (btI (flat L) (idx L l k))).2.2.2 = true := by rw [hbt, hkk]
          have hkl : k < (L.getD l .empty).size := by rw [HS.out]; exact hlt
          have HO := fun (w0 : World) (h : LinesAt w0 (some ⟨b, off, none⟩) L) => rother_any (some ⟨b, off, none⟩) cap L l k w0 h hl hkl htot hkt
          have HOO := Lib.hid HO
          obtain ⟨T, hT⟩ : ∃ T, otherP (flat L) (idx L l k) = T := ⟨_, rfl⟩
          have HT := Lib.hid hT
          clear hbt hbs hkk hkt hkl HO hT
          cases T with
          | none =>
            go_wp2_with (first
              | (go_at_call 49; refine (rkind_ways _ _ HKK).mono ?_; rintro e w1 ⟨rfl, rfl⟩)
              | (go_at_call 112; refine (rnone_any _).mono ?_; rintro e w1 ⟨rfl, hbl⟩; obtain ⟨x, rfl⟩ := ovr_of_below hbl; clear hbl)
              | (go_at_call 113; refine (HOO.out _ (by (repeat (first | assumption | refine LinesAt.ovr ?_ _ | refine LinesAt.alloc ?_ _ | refine LinesAt.drewN ?_ _ | refine LinesAt.drew ?_)))).mono ?_; rw [HT.out, optP, noPlc]; rintro e w1 ⟨rfl, hbl⟩; obtain ⟨x1, rfl⟩ := ovr_of_below hbl; clear hbl))
            refine bodyPost_ret (v := movV noMov) (by simp [results, Try.results46, go_sem, noMov]) rfl ⟨by rw [HY.out, HG.out, matchK, HT.out, matchT], by (repeat (first | with_reducible exact Below.refl _ _ | (with_reducible refine Below.setCell ?_ ?_ _; rotate_left; · (first | exact Nat.le_refl _ | assumption | omega | (simp; done) | (simp; omega))) | (with_reducible refine Below.alloc ?_ ?_ _; rotate_left; · (first | exact Nat.le_refl _ | assumption | omega | (simp; done) | (simp; omega))) | with_reducible refine below_ovr_of ?_ | with_reducible refine drew_below ?_ _ | with_reducible refine Below.drew ?_ | with_reducible assumption))⟩
          | some t =>
            go_wp2_with (first
              | (go_at_call 49; refine (rkind_ways _ _ HKK).mono ?_; rintro e w1 ⟨rfl, rfl⟩)
              | (go_at_call 112; refine (rnone_any _).mono ?_; rintro e w1 ⟨rfl, hbl⟩; obtain ⟨x, rfl⟩ := ovr_of_below hbl; clear hbl)
              | (go_at_call 113; refine (HOO.out _ (by (repeat (first | assumption | refine LinesAt.ovr ?_ _ | refine LinesAt.alloc ?_ _ | refine LinesAt.drewN ?_ _ | refine LinesAt.drew ?_)))).mono ?_; rw [HT.out, optP, atPlc]; rintro e w1 ⟨rfl, hbl⟩; obtain ⟨x1, rfl⟩ := ovr_of_below hbl; clear hbl))
            refine bodyPost_ret (v := movV ((((plcOf L t).1 : Int), ((plcOf L t).2 : Int), 1, true, -1), true)) (by simp [results, Try.results46, go_sem]) rfl ⟨by rw [HY.out, HG.out, matchK, HT.out, matchT], by (repeat (first | with_reducible exact Below.refl _ _ | (with_reducible refine Below.setCell ?_ ?_ _; rotate_left; · (first | exact Nat.le_refl _ | assumption | omega | (simp; done) | (simp; omega))) | (with_reducible refine Below.alloc ?_ ?_ _; rotate_left; · (first | exact Nat.le_refl _ | assumption | omega | (simp; done) | (simp; omega))) | with_reducible refine below_ovr_of ?_ | with_reducible refine drew_below ?_ _ | with_reducible refine Below.drew ?_ | with_reducible assumption))⟩
      · have hge : (s.size : Int) ≤ (k : Int) := by omega
        have HG := Lib.hid (HK.out.symm.trans (brkN_end (by omega)))
        go_wp2_with (go_at_call 112; refine (rnone_any _).mono ?_; rintro e w1 ⟨rfl, hbl⟩; obtain ⟨x, rfl⟩ := ovr_of_below hbl; clear hbl)
        refine bodyPost_ret (v := movV noMov) (by simp [results, Try.results46, go_sem, noMov]) rfl ⟨by rw [HY.out, HG.out, matchK], by (repeat (first | with_reducible exact Below.refl _ _ | (with_reducible refine Below.setCell ?_ ?_ _; rotate_left; · (first | exact Nat.le_refl _ | assumption | omega | (simp; done) | (simp; omega))) | (with_reducible refine Below.alloc ?_ ?_ _; rotate_left; · (first | exact Nat.le_refl _ | assumption | omega | (simp; done) | (simp; omega))) | with_reducible refine below_ovr_of ?_ | with_reducible refine drew_below ?_ _ | with_reducible refine Below.drew ?_ | with_reducible assumption))⟩
end Go.Proofs.Ytlbbgocggifjaaa
