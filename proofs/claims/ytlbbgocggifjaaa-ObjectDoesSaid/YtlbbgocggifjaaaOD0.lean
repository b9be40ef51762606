/- Several texts in one: RValid, Word7. Conditions: none beyond what each says. -/
import Derived.Test.YtlbbgocggifjaaaOI1
import Derived.Test.YtlbbgocggifjaaaOI8
import Derived.Test.YtlbbgocggifjaaaOI37
namespace Go.Proofs.Ytlbbgocggifjaaa
open Go.RowKit

set_option maxHeartbeats 1000000 in
theorem rvalidD_any (a : Option Addr) (cap : Nat) (L : List ByteArray) (k fl fc tl tc : Int) (w : World) (hL : LinesAt w a L) :
    Calls Try.prog 90 #[.slice a L.length cap, .agg #[.int .i64 k, .int .i64 fl, .int .i64 fc, .int .i64 tl, .int .i64 tc]] w fun e w' =>
      e = .returned (.bool (validB L k fl fc tl tc)) ∧ Below w.heap.size w w' := by
  have hn := hL.2.1
  by_cases h1 : fl < 0
  · have hy := Lib.hid (validB_fl (L := L) (k := k) (fc := fc) (tl := tl) (tc := tc) h1)
    go_enter Try.func90, Try.ntmps90
    go_wp2
    go_ret
    exact ⟨ret_bool (by rw [hy.out]), by (repeat (first | exact Below.refl _ _ | refine Below.alloc ?_ (by first | exact Nat.le_refl _ | (simp; done) | (simp; omega)) _ | refine below_ovr_of ?_ | refine drew_below ?_ _ | refine Below.drew ?_ | refine Below.setCell ?_ (by first | exact Nat.le_refl _ | (simp; done) | (simp; omega)) _ | assumption))⟩
  · by_cases h2 : tl < fl
    · have hy := Lib.hid (validB_tl (L := L) (k := k) (fc := fc) (tc := tc) h2)
      go_enter Try.func90, Try.ntmps90
      go_wp2
      all_goals (go_ret; exact ⟨ret_bool (by rw [hy.out]), by (repeat (first | exact Below.refl _ _ | refine Below.alloc ?_ (by first | exact Nat.le_refl _ | (simp; done) | (simp; omega)) _ | refine below_ovr_of ?_ | refine drew_below ?_ _ | refine Below.drew ?_ | refine Below.setCell ?_ (by first | exact Nat.le_refl _ | (simp; done) | (simp; omega)) _ | assumption))⟩)
    · by_cases h3 : (L.length : Int) ≤ tl
      · have hy := Lib.hid (validB_len (L := L) (k := k) (fl := fl) (fc := fc) (tc := tc) h3)
        go_enter Try.func90, Try.ntmps90
        go_wp2
        all_goals (go_ret; exact ⟨ret_bool (by rw [hy.out]), by (repeat (first | exact Below.refl _ _ | refine Below.alloc ?_ (by first | exact Nat.le_refl _ | (simp; done) | (simp; omega)) _ | refine below_ovr_of ?_ | refine drew_below ?_ _ | refine Below.drew ?_ | refine Below.setCell ?_ (by first | exact Nat.le_refl _ | (simp; done) | (simp; omega)) _ | assumption))⟩)
      · by_cases k0 : k = 0
        · subst k0
          have hy := Lib.hid (validB_char (fc := fc) (tc := tc) (by omega : 0 ≤ fl) (by omega : fl ≤ tl) (by omega : tl < (L.length : Int)))
          cases hp1 : plcB L fl fc with
          | false =>
            go_enter Try.func90, Try.ntmps90
            go_wp2_with (go_at_call 52; refine (rplace_any _ _ L _ _ _ (by (repeat (first | assumption | refine LinesAt.ovr ?_ _ | refine LinesAt.alloc ?_ _ | refine LinesAt.drewN ?_ _ | refine LinesAt.drew ?_)))).mono ?_; rintro e w1 ⟨rfl, hbl⟩; obtain ⟨x, rfl⟩ := ovr_of_below hbl; clear hbl)
            go_ret
            exact ⟨ret_bool (by rw [hy.out, hp1]; rfl), by (repeat (first | exact Below.refl _ _ | refine Below.alloc ?_ (by first | exact Nat.le_refl _ | (simp; done) | (simp; omega)) _ | refine below_ovr_of ?_ | refine drew_below ?_ _ | refine Below.drew ?_ | refine Below.setCell ?_ (by first | exact Nat.le_refl _ | (simp; done) | (simp; omega)) _ | assumption))⟩
          | true =>
            cases hp2 : plcB L tl tc with
            | false =>
              go_enter Try.func90, Try.ntmps90
              go_wp2_with fail
              go_at_call 52; refine (rplace_any _ _ L _ _ _ (by (repeat (first | assumption | refine LinesAt.ovr ?_ _ | refine LinesAt.alloc ?_ _ | refine LinesAt.drewN ?_ _ | refine LinesAt.drew ?_)))).mono ?_; rintro e w1 ⟨rfl, hbl⟩; obtain ⟨x, rfl⟩ := ovr_of_below hbl; clear hbl
              go_wp2_with fail
              go_at_call 52; refine (rplace_any _ _ L _ _ _ (by (repeat (first | assumption | refine LinesAt.ovr ?_ _ | refine LinesAt.alloc ?_ _ | refine LinesAt.drewN ?_ _ | refine LinesAt.drew ?_)))).mono ?_; rintro e w1 ⟨rfl, hbl⟩; obtain ⟨x, rfl⟩ := ovr_of_below hbl; clear hbl
              go_wp2_with fail
              go_ret
              exact ⟨ret_bool (by rw [hy.out, hp1, hp2]; rfl), by (repeat (first | exact Below.refl _ _ | refine Below.alloc ?_ (by first | exact Nat.le_refl _ | (simp; done) | (simp; omega)) _ | refine below_ovr_of ?_ | refine drew_below ?_ _ | refine Below.drew ?_ | refine Below.setCell ?_ (by first | exact Nat.le_refl _ | (simp; done) | (simp; omega)) _ | assumption))⟩
            | true =>
              go_enter Try.func90, Try.ntmps90
              go_wp2_with fail
              go_at_call 52; refine (rplace_any _ _ L _ _ _ (by (repeat (first | assumption | refine LinesAt.ovr ?_ _ | refine LinesAt.alloc ?_ _ | refine LinesAt.drewN ?_ _ | refine LinesAt.drew ?_)))).mono ?_; rintro e w1 ⟨rfl, hbl⟩; obtain ⟨x, rfl⟩ := ovr_of_below hbl; clear hbl
              go_wp2_with fail
              go_at_call 52; refine (rplace_any _ _ L _ _ _ (by (repeat (first | assumption | refine LinesAt.ovr ?_ _ | refine LinesAt.alloc ?_ _ | refine LinesAt.drewN ?_ _ | refine LinesAt.drew ?_)))).mono ?_; rintro e w1 ⟨rfl, hbl⟩; obtain ⟨x, rfl⟩ := ovr_of_below hbl; clear hbl
              go_wp2_with (go_at_call 72; refine (rless_any _ _ _ _ _).mono ?_; rintro e w1 ⟨rfl, hbl⟩; obtain ⟨x, rfl⟩ := ovr_of_below hbl; clear hbl)
              go_ret
              exact ⟨ret_bool (by rw [hy.out, hp1, hp2]; rfl), by (repeat (first | exact Below.refl _ _ | refine Below.alloc ?_ (by first | exact Nat.le_refl _ | (simp; done) | (simp; omega)) _ | refine below_ovr_of ?_ | refine drew_below ?_ _ | refine Below.drew ?_ | refine Below.setCell ?_ (by first | exact Nat.le_refl _ | (simp; done) | (simp; omega)) _ | assumption))⟩
        · by_cases k1 : k = 1
          · subst k1
            have hy := Lib.hid (validB_line (fc := fc) (tc := tc) (by omega : 0 ≤ fl) (by omega : fl ≤ tl) (by omega : tl < (L.length : Int)))
            go_enter Try.func90, Try.ntmps90
            go_wp2
            go_ret
            exact ⟨ret_bool (by rw [hy.out]), by (repeat (first | exact Below.refl _ _ | refine Below.alloc ?_ (by first | exact Nat.le_refl _ | (simp; done) | (simp; omega)) _ | refine below_ovr_of ?_ | refine drew_below ?_ _ | refine Below.drew ?_ | refine Below.setCell ?_ (by first | exact Nat.le_refl _ | (simp; done) | (simp; omega)) _ | assumption))⟩
          · by_cases k2 : k = 2
            · subst k2
              have hy := Lib.hid (validB_block (fc := fc) (tc := tc) (by omega : 0 ≤ fl) (by omega : fl ≤ tl) (by omega : tl < (L.length : Int)))
              go_enter Try.func90, Try.ntmps90
              go_wp2
              all_goals (go_ret; refine ⟨ret_bool ?_, by (repeat (first | exact Below.refl _ _ | refine Below.alloc ?_ (by first | exact Nat.le_refl _ | (simp; done) | (simp; omega)) _ | refine below_ovr_of ?_ | refine drew_below ?_ _ | refine Below.drew ?_ | refine Below.setCell ?_ (by first | exact Nat.le_refl _ | (simp; done) | (simp; omega)) _ | assumption))⟩; rw [hy.out, Bool.eq_iff_iff]; simp; try omega)
            · have hy := Lib.hid (validB_other (L := L) (fl := fl) (fc := fc) (tl := tl) (tc := tc) k0 k1 k2)
              go_enter Try.func90, Try.ntmps90
              go_wp2
              go_ret
              exact ⟨ret_bool (by rw [hy.out]), by (repeat (first | exact Below.refl _ _ | refine Below.alloc ?_ (by first | exact Nat.le_refl _ | (simp; done) | (simp; omega)) _ | refine below_ovr_of ?_ | refine drew_below ?_ _ | refine Below.drew ?_ | refine Below.setCell ?_ (by first | exact Nat.le_refl _ | (simp; done) | (simp; omega)) _ | assumption))⟩
end Go.Proofs.Ytlbbgocggifjaaa
namespace Go.Proofs.Ytlbbgocggifjaaa
open Go.RowKit

set_option maxRecDepth 100000 in
set_option maxHeartbeats 4000000 in
theorem rwinner_no (a : Option Addr) (cap : Nat) (L : List ByteArray) (pl pc n : Int) (big : Bool) (w : World) (hL : LinesAt w a L) (h : ¬ (1 ≤ n ∧ byteB L pl pc = true ∧ ¬ (ln L pl).size = 0)) :
    Calls Try.prog 41 #[.slice a L.length cap, .agg #[.int .i64 pl, .int .i64 pc], .int .i64 n, .bool big] w fun e w' => e = .returned (rngV noR) ∧ Below w.heap.size w w' := by
  have hn := hL.2.1
  by_cases h1 : 1 ≤ n ∧ byteB L pl pc = true
  · obtain ⟨h1, hb⟩ := h1
    have h2 : (ln L pl).size = 0 := by
      by_cases h2 : (ln L pl).size = 0
      · exact h2
      · exact absurd ⟨h1, hb, h2⟩ h
    have HON : Hid ((byteB L pl pc && decide (1 ≤ n)) = true) := Lib.hid (by rw [hb, decide_eq_true h1]; rfl)
    obtain ⟨l, c, rfl, rfl, hl, hc, hp⟩ := byteB_spec hb
    obtain ⟨b, off, s, rfl, hbb, hcell, hs, HS⟩ := line_facts' hL hl
    rw [ln, Int.toNat_natCast, HS.out] at h2
    obtain rfl := str_nil h2
    have hlI : (l : Int) < (L.length : Int) := by omega
    have hl0 : (0 : Int) ≤ (l : Int) := by omega
    clear h hb hp h2 hs hc
    go_enter Try.func41, Try.ntmps41
    go_wp2_with fail
    go_at_call 100; refine (on_at _ _ L _ _ _ _ (by (repeat (first | assumption | refine LinesAt.ovr ?_ _ | refine LinesAt.alloc ?_ _ | refine LinesAt.drewN ?_ _ | refine LinesAt.drew ?_))) HON).mono ?_; rintro e w1 ⟨rfl, hbl⟩; obtain ⟨x, rfl⟩ := ovr_of_below hbl; clear hbl
    go_wp2_with fail
    refine bodyPost_ret (v := rngV noR) (by simp [results, Try.results41, go_sem, noR]) rfl ⟨rfl, by (repeat (first | with_reducible exact Below.refl _ _ | (with_reducible refine Below.setCell ?_ ?_ _; rotate_left; · (first | exact Nat.le_refl _ | assumption | omega | (simp; done) | (simp; omega))) | (with_reducible refine Below.alloc ?_ ?_ _; rotate_left; · (first | exact Nat.le_refl _ | assumption | omega | (simp; done) | (simp; omega))) | with_reducible refine below_ovr_of ?_ | with_reducible refine drew_below ?_ _ | with_reducible refine Below.drew ?_ | with_reducible assumption))⟩
  · have HON : Hid ((byteB L pl pc && decide (1 ≤ n)) = false) := Lib.hid (by
      rw [Bool.eq_false_iff]; intro e; simp only [Bool.and_eq_true, decide_eq_true_eq] at e; exact h1 ⟨e.2, e.1⟩)
    clear h h1
    go_enter Try.func41, Try.ntmps41
    go_wp2_with fail
    go_at_call 100; refine (on_at _ _ L _ _ _ _ (by (repeat (first | assumption | refine LinesAt.ovr ?_ _ | refine LinesAt.alloc ?_ _ | refine LinesAt.drewN ?_ _ | refine LinesAt.drew ?_))) HON).mono ?_; rintro e w1 ⟨rfl, hbl⟩; obtain ⟨x, rfl⟩ := ovr_of_below hbl; clear hbl
    go_wp2_with fail
    refine bodyPost_ret (v := rngV noR) (by simp [results, Try.results41, go_sem, noR]) rfl ⟨rfl, by (repeat (first | with_reducible exact Below.refl _ _ | (with_reducible refine Below.setCell ?_ ?_ _; rotate_left; · (first | exact Nat.le_refl _ | assumption | omega | (simp; done) | (simp; omega))) | (with_reducible refine Below.alloc ?_ ?_ _; rotate_left; · (first | exact Nat.le_refl _ | assumption | omega | (simp; done) | (simp; omega))) | with_reducible refine below_ovr_of ?_ | with_reducible refine drew_below ?_ _ | with_reducible refine Below.drew ?_ | with_reducible assumption))⟩
set_option maxRecDepth 100000 in
set_option maxHeartbeats 4000000 in
theorem rwaround_no (a : Option Addr) (cap : Nat) (L : List ByteArray) (pl pc n : Int) (big : Bool) (w : World) (hL : LinesAt w a L) (h : ¬ (1 ≤ n ∧ byteB L pl pc = true ∧ ¬ (ln L pl).size = 0)) :
    Calls Try.prog 43 #[.slice a L.length cap, .agg #[.int .i64 pl, .int .i64 pc], .int .i64 n, .bool big] w fun e w' => e = .returned (rngV noR) ∧ Below w.heap.size w w' := by
  have hn := hL.2.1
  by_cases h1 : 1 ≤ n ∧ byteB L pl pc = true
  · obtain ⟨h1, hb⟩ := h1
    have h2 : (ln L pl).size = 0 := by
      by_cases h2 : (ln L pl).size = 0
      · exact h2
      · exact absurd ⟨h1, hb, h2⟩ h
    have HON : Hid ((byteB L pl pc && decide (1 ≤ n)) = true) := Lib.hid (by rw [hb, decide_eq_true h1]; rfl)
    obtain ⟨l, c, rfl, rfl, hl, hc, hp⟩ := byteB_spec hb
    obtain ⟨b, off, s, rfl, hbb, hcell, hs, HS⟩ := line_facts' hL hl
    rw [ln, Int.toNat_natCast, HS.out] at h2
    obtain rfl := str_nil h2
    have hlI : (l : Int) < (L.length : Int) := by omega
    have hl0 : (0 : Int) ≤ (l : Int) := by omega
    clear h hb hp h2 hs hc
    go_enter Try.func43, Try.ntmps43
    go_wp2_with fail
    go_at_call 100; refine (on_at _ _ L _ _ _ _ (by (repeat (first | assumption | refine LinesAt.ovr ?_ _ | refine LinesAt.alloc ?_ _ | refine LinesAt.drewN ?_ _ | refine LinesAt.drew ?_))) HON).mono ?_; rintro e w1 ⟨rfl, hbl⟩; obtain ⟨x, rfl⟩ := ovr_of_below hbl; clear hbl
    go_wp2_with fail
    refine bodyPost_ret (v := rngV noR) (by simp [results, Try.results43, go_sem, noR]) rfl ⟨rfl, by (repeat (first | with_reducible exact Below.refl _ _ | (with_reducible refine Below.setCell ?_ ?_ _; rotate_left; · (first | exact Nat.le_refl _ | assumption | omega | (simp; done) | (simp; omega))) | (with_reducible refine Below.alloc ?_ ?_ _; rotate_left; · (first | exact Nat.le_refl _ | assumption | omega | (simp; done) | (simp; omega))) | with_reducible refine below_ovr_of ?_ | with_reducible refine drew_below ?_ _ | with_reducible refine Below.drew ?_ | with_reducible assumption))⟩
  · have HON : Hid ((byteB L pl pc && decide (1 ≤ n)) = false) := Lib.hid (by
      rw [Bool.eq_false_iff]; intro e; simp only [Bool.and_eq_true, decide_eq_true_eq] at e; exact h1 ⟨e.2, e.1⟩)
    clear h h1
    go_enter Try.func43, Try.ntmps43
    go_wp2_with fail
    go_at_call 100; refine (on_at _ _ L _ _ _ _ (by (repeat (first | assumption | refine LinesAt.ovr ?_ _ | refine LinesAt.alloc ?_ _ | refine LinesAt.drewN ?_ _ | refine LinesAt.drew ?_))) HON).mono ?_; rintro e w1 ⟨rfl, hbl⟩; obtain ⟨x, rfl⟩ := ovr_of_below hbl; clear hbl
    go_wp2_with fail
    refine bodyPost_ret (v := rngV noR) (by simp [results, Try.results43, go_sem, noR]) rfl ⟨rfl, by (repeat (first | with_reducible exact Below.refl _ _ | (with_reducible refine Below.setCell ?_ ?_ _; rotate_left; · (first | exact Nat.le_refl _ | assumption | omega | (simp; done) | (simp; omega))) | (with_reducible refine Below.alloc ?_ ?_ _; rotate_left; · (first | exact Nat.le_refl _ | assumption | omega | (simp; done) | (simp; omega))) | with_reducible refine below_ovr_of ?_ | with_reducible refine drew_below ?_ _ | with_reducible refine Below.drew ?_ | with_reducible assumption))⟩

set_option maxRecDepth 100000 in
set_option maxHeartbeats 4000000 in
theorem rwinner_any (a : Option Addr) (cap : Nat) (L : List ByteArray) (pl pc n : Int) (big : Bool) (w : World) (hL : LinesAt w a L) (htot : total L ≤ 100000) :
    Calls Try.prog 41 #[.slice a L.length cap, .agg #[.int .i64 pl, .int .i64 pc], .int .i64 n, .bool big] w fun e w' => e = .returned (rngV (wordP L pl pc n big false)) ∧ Below w.heap.size w w' := by
  have hn := hL.2.1
  by_cases h : 1 ≤ n ∧ byteB L pl pc = true ∧ ¬ (ln L pl).size = 0
  · have HON : Hid ((byteB L pl pc && decide (1 ≤ n)) = true) := Lib.hid (by rw [h.2.1, decide_eq_true h.1]; rfl)
    obtain ⟨l, c, m, k, rfl, rfl, rfl, hl, hm, hc, hch, hk, hi, hw⟩ := word_in h big
    replace hw := hw false
    rw [if_neg (by decide)] at hw
    have hst := size_le_total L l hl
    have hrl := chain_len hch
    have hne : ¬ (L.getD l .empty).size = 0 := by omega
    have hlast : ∀ j, j < k → ¬ c < ((runF (L.getD l .empty) big 0 0).getD j (0, 0)).2 := fun j hj => by
      have := chain_mono hch hj hk.1
      have := hk.2.1
      omega
    obtain ⟨k1, k2, k3⟩ := hk
    obtain ⟨b, off, s, rfl, hbb, hcell, hs, HS⟩ := line_facts' hL hl
    rw [HS.out] at hlast hw k1 k2 k3 hrl hst hne
    have HRR := Lib.hid (fun (w0 : World) => rruns_any s big w0 (by omega))
    obtain ⟨R, hR⟩ : ∃ R, runF s big 0 0 = R := ⟨_, rfl⟩
    rw [hR] at hw k1 k2 k3 hrl hlast HRR
    have hse := str_empty hne
    have HLA := Lib.hid hlast
    have HKK := Lib.hid (And.intro k2 k3)
    have hlI : (l : Int) < (L.length : Int) := by omega
    have hl0 : (0 : Int) ≤ (l : Int) := by omega
    have hkI : (k : Int) < (R.length : Int) := by omega
    have hk0 : (0 : Int) ≤ (k : Int) := by omega
    have hk4 : (k : Int) ≤ 100000 := by omega
    have hR4 : (R.length : Int) ≤ 100000 := by omega
    have hR5 : R.length ≤ 100000 := by omega
    have e0 : (R.length : Int) - (k : Int) = ((R.length - k : Nat) : Int) := by omega
    clear h hR hi hc hne hl k2 k3 hlast hch hs
    by_cases hmk : m ≤ R.length - k
    · rw [innrO, if_pos hmk] at hw
      have HY := Lib.hid hw
      clear hw
      have hmI : ¬ ((R.length : Int) - (k : Int) < (m : Int)) := by omega
      obtain ⟨k5, hk5⟩ : ∃ k5 : Nat, k + m - 1 = k5 := ⟨_, rfl⟩
      rw [hk5] at HY
      have e1 : (k : Int) + (m : Int) - 1 = (k5 : Int) := by omega
      have ew1 : IntKind.i64.wrap ((k : Int) + (m : Int)) = (k : Int) + (m : Int) := IntWalk.i64_in _ (by omega)
      have ew2 : IntKind.i64.wrap (k5 : Int) = (k5 : Int) := IntWalk.i64_in _ (by omega)
      have h5 : (k5 : Int) < (R.length : Int) := by omega
      have h50 : (0 : Int) ≤ (k5 : Int) := by omega
      have h5n : k5 < R.length := by omega
      have hm4 : (m : Int) ≤ 100000 := by omega
      clear hk5
      go_enter Try.func41, Try.ntmps41
      go_wp2_with fail
      go_at_call 100; refine (on_at _ _ L _ _ _ _ (by (repeat (first | assumption | refine LinesAt.ovr ?_ _ | refine LinesAt.alloc ?_ _ | refine LinesAt.drewN ?_ _ | refine LinesAt.drew ?_))) HON).mono ?_; rintro e w1 ⟨rfl, hbl⟩; obtain ⟨x1, rfl⟩ := ovr_of_below hbl; clear hbl
      go_wp2_with fail
      go_at_call 38; refine (HRR.out _).mono ?_; rintro e w1 ⟨ra, rcap, rfl, hp, _, hbs, hbl⟩; obtain ⟨x2, rfl⟩ := ovr_of_below hbl; clear hbl
      have HP := Lib.hid hp
      obtain ⟨g, rfl, hg, ca, _⟩ := hp k k1
      obtain ⟨g', hgg, _, _, cb⟩ := hp k5 h5n
      obtain rfl : g = g' := by simpa using hgg
      have hgb := hbs g rfl
      simp at hg hgb
      have g1 : ¬ g = w.heap.size := by omega
      have g2 : ¬ g = w.heap.size + 1 := by omega
      have g3 : ¬ g < w.heap.size := by omega
      obtain ⟨fx, hfx⟩ : ∃ fx, (R.getD k (0, 0)).1 = fx := ⟨_, rfl⟩
      obtain ⟨fy, hfy⟩ : ∃ fy, (R.getD k5 (0, 0)).2 = fy := ⟨_, rfl⟩
      rw [hfx] at HY ca
      rw [hfy] at HY cb
      clear hfx hfy hp hgg hbs
      go_wp2_with fail
      go_at_call 107; refine (rfind_any _ _ R hR5 c k _ HP.out k1 HKK.out HLA.out).mono ?_; rintro e w1 ⟨rfl, rfl⟩
      go_wp2_with fail
      go_region_held3 (fun w' => w.heap.size < w'.heap.size ∧ g < w'.heap.size ∧ w'.cell? ⟨w.heap.size, 0, none⟩ = some (.int .i64 l) ∧ w'.cell? ⟨w.heap.size, 1, none⟩ = some (.int .i64 c) ∧ w'.cell? ⟨g, k * 2, none⟩ = some (.int .i64 fx) ∧ w'.cell? ⟨g, k5 * 2 + 1, none⟩ = some (.int .i64 fy)) (((repeat' apply And.intro) <;> first | assumption | (refine cell_ovr_drew ?_; assumption) | (refine cell_ovr_swap (by assumption) ?_ ?_ <;> (simp; try omega)) | (simp [go_sem]; done) | (simp [go_sem, *]; done) | (simp [go_sem]; omega))) ((go_at_call 102; refine (in_any _ _ _ _).mono ?_; rintro e w1 ⟨rfl, hbl⟩; obtain ⟨x, rfl⟩ := ovr_of_below hbl; clear hbl))
      all_goals go_wp2
      all_goals (refine bodyPost_ret (v := rngV ((0, (l : Int), (fx : Int), (l : Int), (fy : Int)), true)) (by simp [results, Try.results41, go_sem]) rfl ⟨by rw [HY.out], by (repeat (first | with_reducible exact Below.refl _ _ | (with_reducible refine Below.setCell ?_ ?_ _; rotate_left; · (first | exact Nat.le_refl _ | assumption | omega | (simp; done) | (simp; omega))) | (with_reducible refine Below.alloc ?_ ?_ _; rotate_left; · (first | exact Nat.le_refl _ | assumption | omega | (simp; done) | (simp; omega))) | with_reducible refine below_ovr_of ?_ | with_reducible refine drew_below ?_ _ | with_reducible refine Below.drew ?_ | with_reducible assumption))⟩)
    · rw [innrO, if_neg hmk] at hw
      have HY := Lib.hid hw
      clear hw
      have hmI : ((R.length : Int) - (k : Int) < (m : Int)) := by omega
      go_enter Try.func41, Try.ntmps41
      go_wp2_with fail
      go_at_call 100; refine (on_at _ _ L _ _ _ _ (by (repeat (first | assumption | refine LinesAt.ovr ?_ _ | refine LinesAt.alloc ?_ _ | refine LinesAt.drewN ?_ _ | refine LinesAt.drew ?_))) HON).mono ?_; rintro e w1 ⟨rfl, hbl⟩; obtain ⟨x1, rfl⟩ := ovr_of_below hbl; clear hbl
      go_wp2_with fail
      go_at_call 38; refine (HRR.out _).mono ?_; rintro e w1 ⟨ra, rcap, rfl, hp, _, hbs, hbl⟩; obtain ⟨x2, rfl⟩ := ovr_of_below hbl; clear hbl hbs
      have HP := Lib.hid hp
      clear hp
      go_wp2_with fail
      go_at_call 107; refine (rfind_any _ _ R hR5 c k _ HP.out k1 HKK.out HLA.out).mono ?_; rintro e w1 ⟨rfl, rfl⟩
      go_wp2_with fail
      refine bodyPost_ret (v := rngV noR) (by simp [results, Try.results41, go_sem, noR]) rfl ⟨by rw [HY.out], by (repeat (first | with_reducible exact Below.refl _ _ | (with_reducible refine Below.setCell ?_ ?_ _; rotate_left; · (first | exact Nat.le_refl _ | assumption | omega | (simp; done) | (simp; omega))) | (with_reducible refine Below.alloc ?_ ?_ _; rotate_left; · (first | exact Nat.le_refl _ | assumption | omega | (simp; done) | (simp; omega))) | with_reducible refine below_ovr_of ?_ | with_reducible refine drew_below ?_ _ | with_reducible refine Below.drew ?_ | with_reducible assumption))⟩
  · rw [wordP_no h]
    exact rwinner_no a cap L pl pc n big w hL h
end Go.Proofs.Ytlbbgocggifjaaa
