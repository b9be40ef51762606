/- The walk of the law WordCounts. Conditions: none beyond what it says. -/
import Derived.Test.YtnaikdmkabfnlaaWordLaws
import Derived.OpenShut
namespace Go.Proofs.Ytnaikdmkabfnlaa
open Go.RowKit Go.Shelf

theorem lines_one (w : World) (t : TypeId) (s : ByteArray) (hs : s.size ≤ 100) {n : Nat} (hw : n = w.heap.size) : LinesAt (w.alloc (.cells #[.string s] t)) (some ⟨n, 0, none⟩) [s] :=
  lines_new w t [s] (by simp) (by intro u hu; simp at hu; subst hu; omega) (by simp) hw
theorem inner_one {s : ByteArray} {c m : Nat} {big : Bool} (hc : c < s.size) (hm : 1 ≤ m) : ∃ k, k < (runF s big 0 0).length ∧ ((runF s big 0 0).getD k (0, 0)).1 ≤ c ∧ c < ((runF s big 0 0).getD k (0, 0)).2 ∧ (∀ j, j < k → ((runF s big 0 0).getD j (0, 0)).2 ≤ c) ∧
    wordP [s] 0 c m big false = innrO 0 (runF s big 0 0) k m := by
  have hb : byteB [s] ((0 : Nat) : Int) (c : Int) = true := byteB_at (by simp) (by simpa using hc)
  obtain ⟨l', c', m', k, e1, e2, e3, hl, _, _, hch, hk, _, hw⟩ := word_in (L := [s]) (pl := ((0 : Nat) : Int)) (pc := (c : Int)) (n := (m : Int)) ⟨by omega, hb, by rw [show ln [s] ((0 : Nat) : Int) = s from rfl]; omega⟩ big
  obtain rfl : 0 = l' := by omega
  obtain rfl : c = c' := by omega
  obtain rfl : m = m' := by omega
  have hw := hw false
  rw [if_neg (by decide)] at hw
  simp only [List.getD_cons_zero] at hw hk hch
  refine ⟨k, hk.1, hk.2.1, hk.2.2, fun j hj => ?_, hw⟩
  have := chain_mono hch hj hk.1
  have := hk.2.1
  omega
set_option maxRecDepth 100000 in
set_option maxHeartbeats 4000000 in
theorem wordCounts_walk (s : ByteArray) (ap np : Int) (big : Bool) (W : World) (_hs : s.size ≤ 140737488351232) (hap : 0 ≤ ap ∧ ap ≤ 65535) (hnp : 0 ≤ np ∧ np ≤ 255) :
    Calls Try.prog 10 #[.string s, .int .u16 ap, .int .u8 np, .bool big] W fun e W' => e = .returned (.bool true) ∧ Below W.heap.size W W' := by
  by_cases h3 : s.size ≤ 100
  · have h3I : ¬ (100 : Int) < (s.size : Int) := by omega
    have h3d : decide (100 < s.size) = false := decide_eq_false (by omega)
    by_cases h0 : s.size = 0
    · obtain rfl := str_nil h0
      clear h0 h3I h3d
      go_enter Try.func10, Try.ntmps10
      go_wp2_with (go_at_call 37; refine (known15_any _).mono ?_; rintro e w1 ⟨rfl, hbl⟩; obtain ⟨x, rfl⟩ := ovr_of_below hbl; clear hbl)
      go_ret
      exact ⟨rfl, by (repeat (first | exact Below.refl _ _ | refine Below.alloc ?_ (by first | exact Nat.le_refl _ | (simp; done) | (simp; omega)) _ | refine below_ovr_of ?_ | refine drew_below ?_ _ | refine Below.drew ?_ | refine Below.setCell ?_ (by first | exact Nat.le_refl _ | (simp; done) | (simp; omega)) _ | assumption))⟩
    · have hse := str_empty h0
      have hs1 : (1 : Int) ≤ (s.size : Int) := by omega
      obtain ⟨c, hcq⟩ : ∃ c : Nat, ap % (s.size : Int) = (c : Int) := Int.eq_ofNat_of_zero_le (Int.emod_nonneg _ (by omega))
      have hcs : c < s.size := by have := Int.emod_lt_of_pos ap (show (0 : Int) < (s.size : Int) by omega); omega
      obtain ⟨m, hmq⟩ : ∃ m : Nat, np % 12 = (m : Int) - 1 := ⟨(np % 12 + 1).toNat, by omega⟩
      have hm1 : 1 ≤ m := by omega
      have hm5 : m ≤ 12 := by omega
      cases hli : lightB [s] with
      | false =>
        have HLI := Lib.hid hli
        clear hli
        go_enter Try.func10, Try.ntmps10
        go_wp2_with (first | (go_at_call 37; refine (known15_any _).mono ?_; rintro e w1 ⟨rfl, hbl⟩; obtain ⟨x, rfl⟩ := ovr_of_below hbl; clear hbl) | (go_at_call 26; refine (light_any _ _ [s] _ (lines_one _ _ _ h3 (by simp))).mono ?_; rw [HLI.out]; rintro e w1 ⟨rfl, rfl⟩))
        go_ret
        exact ⟨rfl, by (repeat (first | exact Below.refl _ _ | refine Below.alloc ?_ (by first | exact Nat.le_refl _ | (simp; done) | (simp; omega)) _ | refine below_ovr_of ?_ | refine drew_below ?_ _ | refine Below.drew ?_ | refine Below.setCell ?_ (by first | exact Nat.le_refl _ | (simp; done) | (simp; omega)) _ | assumption))⟩
      | true =>
        have HLI := Lib.hid hli
        obtain ⟨k, hk1, hk2, hk3, hk4, hw⟩ := inner_one (s := s) (c := c) (m := m) (big := big) hcs hm1
        have hlen := chain_len (runF_all (s := s) (big := big))
        have HRQ := fun (w0 : World) => rruns_any s big w0 (by omega)
        obtain ⟨R, hR⟩ : ∃ R, runF s big 0 0 = R := ⟨_, rfl⟩
        rw [hR] at hk1 hk2 hk3 hk4 hw hlen HRQ
        have HRR := Lib.hid HRQ
        have HK4 := Lib.hid hk4
        have HW := Lib.hid hw
        have hkI : (k : Int) < (R.length : Int) := by omega
        have hk0 : (0 : Int) ≤ (k : Int) := by omega
        have hR4 : (R.length : Int) ≤ 100 := by omega
        obtain ⟨fb, hfb⟩ : ∃ fb, (R.getD k (0, 0)).2 = fb := ⟨_, rfl⟩
        obtain ⟨fx, hfx⟩ : ∃ fx, (R.getD k (0, 0)).1 = fx := ⟨_, rfl⟩
        rw [hfb] at hk3
        have HFB := Lib.hid hfb
        have HFX := Lib.hid hfx
        have hbI : ¬ (fb : Int) ≤ (c : Int) := by omega
        clear hli hR hk4 hw HRQ hfb hfx hk2
        go_enter Try.func10, Try.ntmps10
        go_wp2_with (first | (go_at_call 37; refine (known15_any _).mono ?_; rintro e w1 ⟨rfl, hbl⟩; obtain ⟨x, rfl⟩ := ovr_of_below hbl; clear hbl) | (go_at_call 26; refine (light_any _ _ [s] _ (lines_one _ _ _ h3 (by simp))).mono ?_; rw [HLI.out]; rintro e w1 ⟨rfl, rfl⟩))
        go_at_call 40; refine (HRR.out _).mono ?_; rintro e w1 ⟨ra, rcap, rfl, hp, _, _, hbl⟩; obtain ⟨x2, rfl⟩ := ovr_of_below hbl; clear hbl
        go_wp2
        refine name_block 9 rfl ?_
        intro W0 Bl hW0 hBl
        rw [← hBl]
        refine name_ptr 10 rfl ?_
        intro Bp hBp
        rw [← hBp]
        have hL0 : LinesAt W0 (some ⟨Bl, 0, none⟩) [s] := by
          subst hW0 hBl
          refine LinesAt.ovr (LinesAt.alloc (lines_one _ _ _ h3 (by simp)) _) _
        have p0 : W0.cell? ⟨Bp, 0, none⟩ = some (.int .i64 0) := by subst hW0 hBp hBl; simp [go_sem]
        have p1 : W0.cell? ⟨Bp, 1, none⟩ = some (.int .i64 c) := by subst hW0 hBp hBl; simp [go_sem]
        have hpW : PairsAt W0 ra R := by rw [hW0]; (repeat (first | assumption | refine PairsAt.ovr ?_ _ | refine PairsAt.alloc ?_ _ | refine PairsAt.drewN ?_ _ | refine PairsAt.drew ?_))
        have hbel : Below W.heap.size W W0 := by rw [hW0]; (repeat (first | with_reducible exact Below.refl _ _ | (with_reducible refine Below.setCell ?_ ?_ _; rotate_left; · (first | exact Nat.le_refl _ | assumption | omega | (simp; done) | (simp; omega))) | (with_reducible refine Below.alloc ?_ ?_ _; rotate_left; · (first | exact Nat.le_refl _ | assumption | omega | (simp; done) | (simp; omega))) | with_reducible refine below_ovr_of ?_ | with_reducible refine drew_below ?_ _ | with_reducible refine Below.drew ?_ | with_reducible assumption))
        have hszW := hbel.size
        have lp := cell_lt9 p0
        obtain ⟨g, rfl, hg, ck1, ck2⟩ := hpW k hk1
        have HP : Hid (∀ i, i < R.length → W0.cell? ⟨g, i * 2 + 1, none⟩ = some (.int .i64 ((R.getD i (0, 0)).2 : Int))) := Lib.hid (fun i hi => by
          obtain ⟨g', e, _, _, c2⟩ := hpW i hi
          obtain rfl : g = g' := by simpa using e
          exact c2)
        rw [HFX.out] at ck1
        rw [HFB.out] at ck2
        clear hW0 hBl hBp hp hpW
        go_loopw [12] (fun i wr => ∃ j : Nat, j ≤ k ∧ i = .int .i64 j ∧ ∃ x, wr = ovr W0 x) (fun i _ => k - (intOf i).toNat)
        case atStart => exact ⟨0, Nat.zero_le _, rfl, { W0 with heap := #[] }, by simp [ovr]⟩
        case round =>
          obtain ⟨j, hj, rfl, x, rfl⟩ := hrel
          by_cases hlt : j < k
          · have hjI : (j : Int) < (R.length : Int) := by omega
            have hj0 : (0 : Int) ≤ (j : Int) := by omega
            have cj := HP.out j (by omega)
            have hj4 := HK4.out j hlt
            obtain ⟨fj, hfj⟩ : ∃ fj, (R.getD j (0, 0)).2 = fj := ⟨_, rfl⟩
            rw [hfj] at cj hj4
            have hj4I : (fj : Int) ≤ (c : Int) := by omega
            clear hfj hj4
            go_wp2
            (refine wp_region_ovr (by kernel_rfl) (by kernel_rfl) ?_; (repeat (go_big_quiet_step (fail))); refine wpQuiet_nil ?_; rintro _ ⟨zq, rfl⟩)
            go_wp2
            go_roundw
            case rel => exact ⟨j + 1, by omega, by go_num, ovr_of_below (by (repeat (first | exact Below.refl _ _ | refine Below.alloc ?_ (by first | exact Nat.le_refl _ | (simp; done) | (simp; omega)) _ | refine below_ovr_of ?_ | refine drew_below ?_ _ | refine Below.drew ?_ | refine Below.setCell ?_ (by first | exact Nat.le_refl _ | (simp; done) | (simp; omega)) _ | assumption)))⟩
            case measure => simp [intOf]; omega
          · obtain rfl : j = k := by omega
            go_wp2
            (refine wp_region_ovr (by kernel_rfl) (by kernel_rfl) ?_; (repeat (go_big_quiet_step (fail))); refine wpQuiet_nil ?_; rintro _ ⟨zq, rfl⟩)
            by_cases hmk : m ≤ R.length - j
            · obtain ⟨k5, hk5⟩ : ∃ k5 : Nat, j + m - 1 = k5 := ⟨_, rfl⟩
              obtain ⟨fy, hfy⟩ : ∃ fy, (R.getD k5 (0, 0)).2 = fy := ⟨_, rfl⟩
              have cy := HP.out k5 (by omega)
              rw [hfy] at cy
              have HR1 : Hid (wordP [s] 0 c m big false = ((0, 0, (fx : Int), 0, (fy : Int)), true)) := Lib.hid (by
                rw [HW.out, innrO, if_pos hmk, hk5, hfy, HFX.out]; rfl)
              have e1 : (j : Int) + (m : Int) - 1 = (k5 : Int) := by omega
              have ew1 : IntKind.i64.wrap ((j : Int) + (m : Int)) = (j : Int) + (m : Int) := IntWalk.i64_in _ (by omega)
              have ew2 : IntKind.i64.wrap (k5 : Int) = (k5 : Int) := IntWalk.i64_in _ (by omega)
              have h5 : (k5 : Int) < (R.length : Int) := by omega
              have h50 : (0 : Int) ≤ (k5 : Int) := by omega
              have hmI : (j : Int) + (m : Int) ≤ (R.length : Int) := by omega
              clear hk5 hfy
              go_wp2_with fail
              go_at_call 42; refine (winner_any _ _ [s] _ _ _ _ _ (by (repeat (first | assumption | refine LinesAt.ovr ?_ _ | refine LinesAt.alloc ?_ _ | refine LinesAt.drewN ?_ _ | refine LinesAt.drew ?_))) (by simp [total]; omega)).mono ?_; rw [HR1.out]; rintro e w1 ⟨rfl, hbl⟩; obtain ⟨y1, rfl⟩ := ovr_of_below hbl; clear hbl
              go_wp2
              go_quiet (fail)
              go_wp2
              go_ret
              exact ⟨rfl, by (repeat (first | exact Below.refl _ _ | refine Below.alloc ?_ (by first | exact Nat.le_refl _ | (simp; done) | (simp; omega)) _ | refine below_ovr_of ?_ | refine drew_below ?_ _ | refine Below.drew ?_ | refine Below.setCell ?_ (by first | exact Nat.le_refl _ | (simp; done) | (simp; omega)) _ | assumption))⟩
            · have HR1 : Hid (wordP [s] 0 c m big false = ((0, 0, 0, 0, 0), false)) := Lib.hid (by
                rw [HW.out, innrO, if_neg hmk]; rfl)
              have hmI : ¬ (j : Int) + (m : Int) ≤ (R.length : Int) := by omega
              go_wp2_with fail
              go_at_call 42; refine (winner_any _ _ [s] _ _ _ _ _ (by (repeat (first | assumption | refine LinesAt.ovr ?_ _ | refine LinesAt.alloc ?_ _ | refine LinesAt.drewN ?_ _ | refine LinesAt.drew ?_))) (by simp [total]; omega)).mono ?_; rw [HR1.out]; rintro e w1 ⟨rfl, hbl⟩; obtain ⟨y1, rfl⟩ := ovr_of_below hbl; clear hbl
              go_wp2
              go_quiet (fail)
              go_wp2
              go_ret
              exact ⟨rfl, by (repeat (first | exact Below.refl _ _ | refine Below.alloc ?_ (by first | exact Nat.le_refl _ | (simp; done) | (simp; omega)) _ | refine below_ovr_of ?_ | refine drew_below ?_ _ | refine Below.drew ?_ | refine Below.setCell ?_ (by first | exact Nat.le_refl _ | (simp; done) | (simp; omega)) _ | assumption))⟩
  · have h3' : (100 : Int) < (s.size : Int) := by omega
    go_enter Try.func10, Try.ntmps10
    go_wp2_with (go_at_call 37; refine (known15_any _).mono ?_; rintro e w1 ⟨rfl, hbl⟩; obtain ⟨x, rfl⟩ := ovr_of_below hbl; clear hbl)
    go_ret
    exact ⟨rfl, by (repeat (first | exact Below.refl _ _ | refine Below.alloc ?_ (by first | exact Nat.le_refl _ | (simp; done) | (simp; omega)) _ | refine below_ovr_of ?_ | refine drew_below ?_ _ | refine Below.drew ?_ | refine Below.setCell ?_ (by first | exact Nat.le_refl _ | (simp; done) | (simp; omega)) _ | assumption))⟩
end Go.Proofs.Ytnaikdmkabfnlaa
