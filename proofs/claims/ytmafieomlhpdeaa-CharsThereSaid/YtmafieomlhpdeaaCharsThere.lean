/- The walk of the law CharsThere. Conditions: none beyond what it says. -/
import Derived.Test.YtmafieomlhpdeaaCharsLaws
import Derived.Deep.Cut
namespace Go.Proofs.Ytmafieomlhpdeaa
open Go.RowKit

theorem light_one {s : ByteArray} (w : World) (t : TypeId) (hs : s.size ≤ 200) {n : Nat} (hn : n = w.heap.size) : LinesAt (w.alloc (.cells #[.string s] t)) (some ⟨n, 0, none⟩) [s] :=
  lines_new _ _ [s] (by simp) (by intro x hx; simp at hx; subst hx; omega) rfl hn

set_option maxHeartbeats 1000000 in
theorem charsThere_walk (s : ByteArray) (sa c n : Int) (W : World) (hs : s.size ≤ 140737488351232) (hsa : 0 ≤ sa ∧ sa ≤ 65535) (_hc : 0 ≤ c ∧ c ≤ 255) (hnn : 0 ≤ n ∧ n ≤ 255) :
    Calls Try.prog 7 #[.string s, .int .u16 sa, .int .u8 c, .int .u8 n] W fun e W' => e = .returned (.bool true) ∧ Below W.heap.size W W' := by
  obtain ⟨n0, n1⟩ := hnn
  by_cases h200 : s.size ≤ 200
  · have h200' : (s.size : Int) ≤ 200 := by omega
    cases hli : lightB [s] with
    | false =>
      go_enter Try.func7, Try.ntmps7
      go_wp2_with (first
        | (go_at_call 23; refine (known7_any _).mono ?_; rintro e w1 ⟨rfl, hbl⟩; obtain ⟨x, rfl⟩ := ovr_of_below hbl; clear hbl)
        | (go_at_call 27; refine (light_any _ _ [s] _ (light_one _ _ h200 (by simp))).mono ?_; rintro e w1 ⟨rfl, rfl⟩))
      go_ret
      exact ⟨rfl, by (repeat (first | exact Below.refl _ _ | refine Below.alloc ?_ (by first | exact Nat.le_refl _ | (simp; done) | (simp; omega)) _ | refine below_ovr_of ?_ | refine drew_below ?_ _ | refine Below.drew ?_ | refine Below.setCell ?_ (by first | exact Nat.le_refl _ | (simp; done) | (simp; omega)) _ | assumption))⟩
    | true =>
      have hsl0 : seatL [s] 0 = 0 := by simp [seatL]
      have hsc0 : seatC [s] 0 sa = sa % ((s.size : Int) + 1) := by simp [seatC, hsl0]
      obtain ⟨pc, hpc⟩ : ∃ pc : Int, sa % ((s.size : Int) + 1) = pc := ⟨_, rfl⟩
      have hp0 : 0 ≤ pc := by rw [← hpc]; exact Int.emod_nonneg _ (by omega)
      have hp1 : pc < (s.size : Int) + 1 := by rw [← hpc]; exact Int.emod_lt_of_pos _ (by omega)
      rw [hpc] at hsc0
      obtain ⟨pc, rfl⟩ := Int.eq_ofNat_of_zero_le hp0
      have HSL := Lib.hid hsl0
      have HSC := Lib.hid hsc0
      have hp : plcB [s] 0 pc = true := plcB_mk (by omega) (by simp) (by omega) (by simp [szI]; omega)
      obtain ⟨k, hk⟩ : ∃ k : Int, n % 4 + 1 = k := ⟨_, rfl⟩
      have k1 : 1 ≤ k := by omega
      have k2 : k ≤ 4 := by omega
      obtain ⟨A, hA⟩ : ∃ A, fwdN s c k (pc + 1) = A := ⟨_, rfl⟩
      have hsp := fwdN_spec (s := s) (c := c) (s.size - (pc + 1)) (pc + 1) k rfl
      rw [hA] at hsp
      have hf := seekP_fwd (L := [s]) (pl := 0) (key := 102) (c := c) (pc := pc) (s := s) hp k1 (by simp) rfl hA
      have ht := seekP_fwd (L := [s]) (pl := 0) (key := 116) (c := c) (pc := pc) (s := s) hp k1 (by simp) rfl hA
      have HA := Lib.hid hA
      clear hA hsl0 hsc0 hpc
      rcases hsp with hA1 | ⟨a1, a2⟩
      · subst hA1
        rw [seekM_no] at hf ht
        have HF := Lib.hid (hf.trans (rfl : noMov = ((0, 0, 0, false, 0), false)))
        have HT := Lib.hid (ht.trans (rfl : noMov = ((0, 0, 0, false, 0), false)))
        clear hf ht
        go_enter Try.func7, Try.ntmps7
        go_upto_region 6 with (first
          | (go_at_call 23; refine (known7_any _).mono ?_; rintro e w1 ⟨rfl, hbl⟩; obtain ⟨x, rfl⟩ := ovr_of_below hbl; clear hbl)
          | (go_at_call 27; refine (light_any _ _ [s] _ (light_one _ _ h200 (by simp))).mono ?_; rintro e w1 ⟨rfl, rfl⟩))
        refine name_block 9 rfl ?_
        intro W0 B hW hB
        rw [← hB]
        have hl : LinesAt W0 (some ⟨B, 0, none⟩) [s] := by subst hW hB; exact light_one _ _ h200 (by simp)
        have hbel : Below W.heap.size W W0 := by subst hW; (repeat (first | with_reducible exact Below.refl _ _ | (with_reducible refine Below.setCell ?_ ?_ _; rotate_left; · (first | exact Nat.le_refl _ | assumption | omega | (simp; done) | (simp; omega))) | (with_reducible refine Below.alloc ?_ ?_ _; rotate_left; · (first | exact Nat.le_refl _ | assumption | omega | (simp; done) | (simp; omega))) | with_reducible refine below_ovr_of ?_ | with_reducible refine drew_below ?_ _ | with_reducible refine Below.drew ?_ | with_reducible assumption))
        have hszW := hbel.size
        clear hW hB
        go_wp2_with fail
        go_at_call 17; refine (seat_at _ _ [s] _ _ _ (by (repeat (first | assumption | refine LinesAt.ovr ?_ _ | refine LinesAt.alloc ?_ _ | refine LinesAt.drewN ?_ _ | refine LinesAt.drew ?_))) (by simp) (by decide) hsa HSL HSC).mono ?_; rintro e w1 ⟨rfl, hbl⟩; obtain ⟨y, rfl⟩ := ovr_of_below hbl; clear hbl
        go_wp2_with fail
        go_at_call 24; refine (cseek_any _ _ [s] _ _ _ _ _ _ (by (repeat (first | assumption | refine LinesAt.ovr ?_ _ | refine LinesAt.alloc ?_ _ | refine LinesAt.drewN ?_ _ | refine LinesAt.drew ?_))) (by omega)).mono ?_; rw [HF.out]; rintro e w1 ⟨rfl, hbl⟩; obtain ⟨x1, rfl⟩ := ovr_of_below hbl; clear hbl
        go_wp2_with fail
        go_at_call 24; refine (cseek_any _ _ [s] _ _ _ _ _ _ (by (repeat (first | assumption | refine LinesAt.ovr ?_ _ | refine LinesAt.alloc ?_ _ | refine LinesAt.drewN ?_ _ | refine LinesAt.drew ?_))) (by omega)).mono ?_; rw [HT.out]; rintro e w1 ⟨rfl, hbl⟩; obtain ⟨x2, rfl⟩ := ovr_of_below hbl; clear hbl
        go_wp2_with fail
        go_loop [16, 17] (fun q i => ∃ (j : Nat) (m : Int), j ≤ s.size + 1 ∧ i = .int .i64 j ∧ q = .int .i64 (k - m) ∧ 1 ≤ m ∧ m ≤ k ∧ Hid (fwdN s c m j = -1)) (fun _ i => s.size + 1 - (intOf i).toNat)
        case atStart => exact ⟨pc + 1, k, by omega, by go_num, by go_num, k1, Int.le_refl _, HA⟩
        case round =>
          obtain ⟨j, m, hj, rfl, rfl, hm1, hm2, HM⟩ := hrel
          by_cases hlt : j < s.size
          · by_cases hb : byt s j = c
            · have hbb : ((s[j].toNat : Int) != c) = false := by rw [bne_eq_false_iff_eq, ← hb]; exact (byt_at s j hlt).symm
              have hm : m ≠ 1 := by
                intro e
                have := HM.out
                rw [fwdN_hit hlt hb e] at this
                omega
              have HG := Lib.hid ((fwdN_more (c := c) hlt hb hm).symm.trans HM.out)
              have hm3 : 2 ≤ m := by omega
              have hq : (k - m + 1 == k) = false := beq_eq_false_iff_ne.2 (by omega)
              clear hb hm
              go_wp2
              go_round
              case rel => exact ⟨j + 1, m - 1, by omega, by go_num, by go_num, by omega, by omega, HG⟩
              case measure => first | (simp [intOf]; done) | (simp [intOf]; omega)
            · have hbb : ((s[j].toNat : Int) != c) = true := by rw [bne_iff_ne]; intro e; exact hb (by rw [byt_at s j hlt]; exact e)
              have HG := Lib.hid ((fwdN_miss (c := c) (n := m) hlt hb).symm.trans HM.out)
              clear hb
              go_wp2
              go_round
              case rel => exact ⟨j + 1, m, by omega, by go_num, rfl, by omega, by omega, HG⟩
              case measure => first | (simp [intOf]; done) | (simp [intOf]; omega)
          · go_wp2
            go_ret
            exact ⟨rfl, by (repeat (first | with_reducible exact Below.refl _ _ | (with_reducible refine Below.setCell ?_ ?_ _; rotate_left; · (first | exact Nat.le_refl _ | assumption | omega | (simp; done) | (simp; omega))) | (with_reducible refine Below.alloc ?_ ?_ _; rotate_left; · (first | exact Nat.le_refl _ | assumption | omega | (simp; done) | (simp; omega))) | with_reducible refine below_ovr_of ?_ | with_reducible refine drew_below ?_ _ | with_reducible refine Below.drew ?_ | with_reducible assumption))⟩
      · have a0 : 0 ≤ A := by omega
        rw [seekM_102 a0] at hf
        rw [seekM_116 a0] at ht
        have HF := Lib.hid hf
        have HT := Lib.hid ht
        clear hf ht
        go_enter Try.func7, Try.ntmps7
        go_upto_region 6 with (first
          | (go_at_call 23; refine (known7_any _).mono ?_; rintro e w1 ⟨rfl, hbl⟩; obtain ⟨x, rfl⟩ := ovr_of_below hbl; clear hbl)
          | (go_at_call 27; refine (light_any _ _ [s] _ (light_one _ _ h200 (by simp))).mono ?_; rintro e w1 ⟨rfl, rfl⟩))
        refine name_block 9 rfl ?_
        intro W0 B hW hB
        rw [← hB]
        have hl : LinesAt W0 (some ⟨B, 0, none⟩) [s] := by subst hW hB; exact light_one _ _ h200 (by simp)
        have hbel : Below W.heap.size W W0 := by subst hW; (repeat (first | with_reducible exact Below.refl _ _ | (with_reducible refine Below.setCell ?_ ?_ _; rotate_left; · (first | exact Nat.le_refl _ | assumption | omega | (simp; done) | (simp; omega))) | (with_reducible refine Below.alloc ?_ ?_ _; rotate_left; · (first | exact Nat.le_refl _ | assumption | omega | (simp; done) | (simp; omega))) | with_reducible refine below_ovr_of ?_ | with_reducible refine drew_below ?_ _ | with_reducible refine Below.drew ?_ | with_reducible assumption))
        have hszW := hbel.size
        clear hW hB
        go_wp2_with fail
        go_at_call 17; refine (seat_at _ _ [s] _ _ _ (by (repeat (first | assumption | refine LinesAt.ovr ?_ _ | refine LinesAt.alloc ?_ _ | refine LinesAt.drewN ?_ _ | refine LinesAt.drew ?_))) (by simp) (by decide) hsa HSL HSC).mono ?_; rintro e w1 ⟨rfl, hbl⟩; obtain ⟨y, rfl⟩ := ovr_of_below hbl; clear hbl
        go_wp2_with fail
        go_at_call 24; refine (cseek_any _ _ [s] _ _ _ _ _ _ (by (repeat (first | assumption | refine LinesAt.ovr ?_ _ | refine LinesAt.alloc ?_ _ | refine LinesAt.drewN ?_ _ | refine LinesAt.drew ?_))) (by omega)).mono ?_; rw [HF.out]; rintro e w1 ⟨rfl, hbl⟩; obtain ⟨x1, rfl⟩ := ovr_of_below hbl; clear hbl
        go_wp2_with fail
        go_at_call 24; refine (cseek_any _ _ [s] _ _ _ _ _ _ (by (repeat (first | assumption | refine LinesAt.ovr ?_ _ | refine LinesAt.alloc ?_ _ | refine LinesAt.drewN ?_ _ | refine LinesAt.drew ?_))) (by omega)).mono ?_; rw [HT.out]; rintro e w1 ⟨rfl, hbl⟩; obtain ⟨x2, rfl⟩ := ovr_of_below hbl; clear hbl
        go_wp2_with fail
        go_loop [16, 17] (fun q i => ∃ (j : Nat) (m : Int), j ≤ s.size + 1 ∧ i = .int .i64 j ∧ q = .int .i64 (k - m) ∧ 1 ≤ m ∧ m ≤ k ∧ Hid (fwdN s c m j = A)) (fun _ i => s.size + 1 - (intOf i).toNat)
        case atStart => exact ⟨pc + 1, k, by omega, by go_num, by go_num, k1, Int.le_refl _, HA⟩
        case round =>
          obtain ⟨j, m, hj, rfl, rfl, hm1, hm2, HM⟩ := hrel
          by_cases hlt : j < s.size
          · by_cases hb : byt s j = c
            · have hbb : ((s[j].toNat : Int) != c) = false := by rw [bne_eq_false_iff_eq, ← hb]; exact (byt_at s j hlt).symm
              by_cases hm : m = 1
              · have HG := Lib.hid ((fwdN_hit (c := c) hlt hb hm).symm.trans HM.out)
                subst hm
                have hq : (k - 1 + 1 == k) = true := beq_iff_eq.2 (by omega)
                clear hb
                have hAj : A = (j : Int) := HG.out.symm
                subst hAj
                go_wp2
                go_ret
                exact ⟨ret_bool (by simp), by (repeat (first | with_reducible exact Below.refl _ _ | (with_reducible refine Below.setCell ?_ ?_ _; rotate_left; · (first | exact Nat.le_refl _ | assumption | omega | (simp; done) | (simp; omega))) | (with_reducible refine Below.alloc ?_ ?_ _; rotate_left; · (first | exact Nat.le_refl _ | assumption | omega | (simp; done) | (simp; omega))) | with_reducible refine below_ovr_of ?_ | with_reducible refine drew_below ?_ _ | with_reducible refine Below.drew ?_ | with_reducible assumption))⟩
              · have HG := Lib.hid ((fwdN_more (c := c) hlt hb hm).symm.trans HM.out)
                have hm3 : 2 ≤ m := by omega
                have hq : (k - m + 1 == k) = false := beq_eq_false_iff_ne.2 (by omega)
                clear hb hm
                go_wp2
                go_round
                case rel => exact ⟨j + 1, m - 1, by omega, by go_num, by go_num, by omega, by omega, HG⟩
                case measure => first | (simp [intOf]; done) | (simp [intOf]; omega)
            · have hbb : ((s[j].toNat : Int) != c) = true := by rw [bne_iff_ne]; intro e; exact hb (by rw [byt_at s j hlt]; exact e)
              have HG := Lib.hid ((fwdN_miss (c := c) (n := m) hlt hb).symm.trans HM.out)
              clear hb
              go_wp2
              go_round
              case rel => exact ⟨j + 1, m, by omega, by go_num, rfl, by omega, by omega, HG⟩
              case measure => first | (simp [intOf]; done) | (simp [intOf]; omega)
          · exfalso
            have := HM.out
            rw [fwdN_end (by omega)] at this
            omega
  · have h200' : (200 : Int) < (s.size : Int) := by omega
    go_enter Try.func7, Try.ntmps7
    go_wp2_with (go_at_call 23; refine (known7_any _).mono ?_; rintro e w1 ⟨rfl, hbl⟩; obtain ⟨x, rfl⟩ := ovr_of_below hbl; clear hbl)
    go_ret
    exact ⟨rfl, by (repeat (first | exact Below.refl _ _ | refine Below.alloc ?_ (by first | exact Nat.le_refl _ | (simp; done) | (simp; omega)) _ | refine below_ovr_of ?_ | refine drew_below ?_ _ | refine Below.drew ?_ | refine Below.setCell ?_ (by first | exact Nat.le_refl _ | (simp; done) | (simp; omega)) _ | assumption))⟩
end Go.Proofs.Ytmafieomlhpdeaa
