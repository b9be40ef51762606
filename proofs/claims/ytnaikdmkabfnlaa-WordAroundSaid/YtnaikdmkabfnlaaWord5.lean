/- The contracts of wordobj.within and Inner. Conditions: none beyond what each says. -/
import Derived.Test.YtnaikdmkabfnlaaWord4
import Derived.Test.YtnaikdmkabfnlaaWord5P
import Derived.Test.YtnaikdmkabfnlaaQuote4
import Derived.Test.YtnaikdmkabfnlaaLawKit
namespace Go.Proofs.Ytnaikdmkabfnlaa
open Go.RowKit

theorem wwithin_any (l c fx fy : Int) (w : World) :
    Calls Try.prog 74 #[.agg #[.int .i64 l, .int .i64 c], .int .i64 fx, .int .i64 fy] w fun e w' => e = .returned (rngV ((0, l, fx, l, fy), true)) ∧ Below w.heap.size w w' := by
  go_enter Try.func74, Try.ntmps74
  go_wp2
  refine bodyPost_ret (v := rngV ((0, l, fx, l, fy), true)) (by simp [results, Try.results74, go_sem]) rfl ⟨rfl, by (repeat (first | with_reducible exact Below.refl _ _ | (with_reducible refine Below.setCell ?_ ?_ _; rotate_left; · (first | exact Nat.le_refl _ | assumption | omega | (simp; done) | (simp; omega))) | (with_reducible refine Below.alloc ?_ ?_ _; rotate_left; · (first | exact Nat.le_refl _ | assumption | omega | (simp; done) | (simp; omega))) | with_reducible refine below_ovr_of ?_ | with_reducible refine drew_below ?_ _ | with_reducible refine Below.drew ?_ | with_reducible assumption))⟩
theorem cell_ovr_drew {A x1 x : World} {b o : Nat} {v : Value} (h : (ovr A x1).cell? ⟨b, o, none⟩ = some v) : (ovr (ovr A x1.drew) x).cell? ⟨b, o, none⟩ = some v := by
  have h' : (ovr A x1.drew).cell? ⟨b, o, none⟩ = some v := h
  exact (cell?_ovr _ _ _ _ (World.block_lt_of_cell? _ _ h')).trans h'
theorem cell_ovr_swap {A A' x1 x : World} {b o : Nat} {v : Value} (h : (ovr A x1).cell? ⟨b, o, none⟩ = some v) (hs : A'.heap.size = A.heap.size) (hg : A.heap.size ≤ b) : (ovr (ovr A' x1.drew) x).cell? ⟨b, o, none⟩ = some v := by
  refine cell_ovr_drew ?_
  have e : (ovr A' x1).heap[b]? = (ovr A x1).heap[b]? := by
    simp only [ovr, Array.getElem?_append]
    rw [if_neg (by omega), if_neg (by omega), hs]
  rw [← h]
  simp [World.cell?, e]
theorem byteB_at {L : List ByteArray} {l c : Nat} (hl : l < L.length) (hc : c < (L.getD l .empty).size) : byteB L l c = true := by
  have hp : plcB L l c = true := by rw [plcB]; simp only [decide_eq_true_eq]; refine ⟨?_, ?_, ?_, ?_⟩ <;> first | omega | (simp only [Int.toNat_natCast]; omega)
  rw [byteB_yes hp rfl]
  simp only [Bool.or_eq_true, decide_eq_true_eq]
  exact .inl (by omega)

set_option maxRecDepth 100000 in
set_option maxHeartbeats 4000000 in
theorem winner_any (a : Option Addr) (cap : Nat) (L : List ByteArray) (pl pc n : Int) (big : Bool) (w : World) (hL : LinesAt w a L) (htot : total L ≤ 100000) :
    Calls Try.prog 42 #[.slice a L.length cap, .agg #[.int .i64 pl, .int .i64 pc], .int .i64 n, .bool big] w fun e w' => e = .returned (rngV (wordP L pl pc n big false)) ∧ Below w.heap.size w w' := by
  have hn := hL.2.1
  by_cases h : 1 ≤ n ∧ byteB L pl pc = true ∧ ¬ (ln L pl).size = 0
  · obtain ⟨l, c, m, k, rfl, rfl, rfl, hl, hm, hc, hch, hk, hi, hw⟩ := word_in h big
    have hw := hw false
    rw [if_neg (by decide)] at hw
    have hb := byteB_at hl hc
    have hst := size_le_total L l hl
    have hrl := chain_len hch
    have hne : ¬ (L.getD l .empty).size = 0 := by omega
    obtain ⟨k1, k2, k3⟩ := hk
    clear h hch
    obtain ⟨R, hR⟩ : ∃ R, runF (L.getD l .empty) big 0 0 = R := ⟨_, rfl⟩
    have HRUN := Lib.hid (fun (w0 : World) (h0 : LinesAt w0 a L) => wruns_yes a cap L l c m big w0 h0 htot hl hb (by omega) hne)
    rw [hR] at hw k1 k2 k3 hrl hi
    rw [hR, hi] at HRUN
    have hkI : (k : Int) < (R.length : Int) := by omega
    have hk0 : (0 : Int) ≤ (k : Int) := by omega
    have hk4 : (k : Int) ≤ 100000 := by omega
    have hR4 : (R.length : Int) ≤ 100000 := by omega
    have e0 : (R.length : Int) - (k : Int) = ((R.length - k : Nat) : Int) := by omega
    clear hb hR hi hc hne hl k2 k3
    by_cases hmk : m ≤ R.length - k
    · rw [innrO, if_pos hmk] at hw
      have HY := Lib.hid hw
      clear hw
      have hmI : ¬ ((R.length : Int) - (k : Int) < (m : Int)) := by omega
      obtain ⟨k5, hk5⟩ : ∃ k5 : Nat, k + m - 1 = k5 := ⟨_, rfl⟩
      rw [hk5] at HY
      have e1 : (k : Int) + (m : Int) - 1 = (k5 : Int) := by omega
      have ew1 : IntKind.i64.wrap ((k : Int) + (m : Int)) = (k : Int) + (m : Int) := IntWalk.i64_in _ (by omega)
      have ew2 : IntKind.i64.wrap (k5 : Int) = (k5 : Int) := IntWalk.i64_in _ (by omega)
      have h5 : (k5 : Int) < (R.length : Int) := by omega
      have h50 : (0 : Int) ≤ (k5 : Int) := by omega
      have h5n : k5 < R.length := by omega
      have hm4 : (m : Int) ≤ 100000 := by omega
      clear hk5
      go_enter Try.func42, Try.ntmps42
      go_wp2_with fail
      go_at_call 73; refine (HRUN.out _ (by (repeat (first | assumption | refine LinesAt.ovr ?_ _ | refine LinesAt.alloc ?_ _ | refine LinesAt.drewN ?_ _ | refine LinesAt.drew ?_)))).mono ?_; rintro e w1 ⟨ra, rcap, rfl, ht, hbs, hbl⟩
      obtain ⟨x1, rfl⟩ := ovr_of_below hbl; clear hbl
      obtain ⟨g, rfl, hg, ca, _, _⟩ := ht k (by omega)
      obtain ⟨g', hgg, _, _, cb, _⟩ := ht k5 (by omega)
      obtain rfl : g = g' := by simpa using hgg
      have hgb := hbs g rfl
      simp at hg hgb
      have g1 : ¬ g = w.heap.size := by omega
      have g2 : ¬ g = w.heap.size + 1 := by omega
      have g3 : ¬ g < w.heap.size := by omega
      clear ht hgg HRUN hbs
      obtain ⟨fx, hfx⟩ : ∃ fx, (R.getD k (0, 0)).1 = fx := ⟨_, rfl⟩
      obtain ⟨fy, hfy⟩ : ∃ fy, (R.getD k5 (0, 0)).2 = fy := ⟨_, rfl⟩
      rw [hfx] at HY ca
      rw [hfy] at HY cb
      clear hfx hfy
      go_wp2_with fail
      go_region_held3 (fun w' => w.heap.size < w'.heap.size ∧ g < w'.heap.size ∧ w'.cell? ⟨w.heap.size, 0, none⟩ = some (.int .i64 l) ∧ w'.cell? ⟨w.heap.size, 1, none⟩ = some (.int .i64 c) ∧ w'.cell? ⟨g, k * 3, none⟩ = some (.int .i64 fx) ∧ w'.cell? ⟨g, k5 * 3 + 1, none⟩ = some (.int .i64 fy)) (((repeat' apply And.intro) <;> first | assumption | (refine cell_ovr_drew ?_; assumption) | (refine cell_ovr_swap (by assumption) ?_ ?_ <;> (simp; try omega)) | (simp [go_sem]; done) | (simp [go_sem, *]; done) | (simp [go_sem]; omega))) ((go_at_call 74; refine (wwithin_any _ _ _ _ _).mono ?_; rintro e w1 ⟨rfl, hbl⟩; obtain ⟨x, rfl⟩ := ovr_of_below hbl; clear hbl))
      all_goals go_wp2
      all_goals (refine bodyPost_ret (v := rngV ((0, (l : Int), (fx : Int), (l : Int), (fy : Int)), true)) (by simp [results, Try.results42, go_sem]) rfl ⟨by rw [HY.out], by (repeat (first | with_reducible exact Below.refl _ _ | (with_reducible refine Below.setCell ?_ ?_ _; rotate_left; · (first | exact Nat.le_refl _ | assumption | omega | (simp; done) | (simp; omega))) | (with_reducible refine Below.alloc ?_ ?_ _; rotate_left; · (first | exact Nat.le_refl _ | assumption | omega | (simp; done) | (simp; omega))) | with_reducible refine below_ovr_of ?_ | with_reducible refine drew_below ?_ _ | with_reducible refine Below.drew ?_ | with_reducible assumption))⟩)
    · rw [innrO, if_neg hmk] at hw
      have HY := Lib.hid hw
      clear hw
      have hmI : ((R.length : Int) - (k : Int) < (m : Int)) := by omega
      go_enter Try.func42, Try.ntmps42
      go_wp2_with (go_at_call 73; refine (HRUN.out _ (by (repeat (first | assumption | refine LinesAt.ovr ?_ _ | refine LinesAt.alloc ?_ _ | refine LinesAt.drewN ?_ _ | refine LinesAt.drew ?_)))).mono ?_; rintro e w1 ⟨ra, rcap, rfl, ht, hbs, hbl⟩; clear ht hbs; obtain ⟨x1, rfl⟩ := ovr_of_below hbl; clear hbl)
      refine bodyPost_ret (v := rngV noR) (by simp [results, Try.results42, go_sem, noR]) rfl ⟨by rw [HY.out], by (repeat (first | with_reducible exact Below.refl _ _ | (with_reducible refine Below.setCell ?_ ?_ _; rotate_left; · (first | exact Nat.le_refl _ | assumption | omega | (simp; done) | (simp; omega))) | (with_reducible refine Below.alloc ?_ ?_ _; rotate_left; · (first | exact Nat.le_refl _ | assumption | omega | (simp; done) | (simp; omega))) | with_reducible refine below_ovr_of ?_ | with_reducible refine drew_below ?_ _ | with_reducible refine Below.drew ?_ | with_reducible assumption))⟩
  · have HY := Lib.hid (wordP_no (big := big) (around := false) h)
    go_enter Try.func42, Try.ntmps42
    go_wp2_with (go_at_call 73; refine (wruns_no _ _ L _ _ _ _ _ (by (repeat (first | assumption | refine LinesAt.ovr ?_ _ | refine LinesAt.alloc ?_ _ | refine LinesAt.drewN ?_ _ | refine LinesAt.drew ?_))) h).mono ?_; rintro e w1 ⟨rfl, hbl⟩; obtain ⟨x, rfl⟩ := ovr_of_below hbl; clear hbl)
    refine bodyPost_ret (v := rngV noR) (by simp [results, Try.results42, go_sem, noR]) rfl ⟨by rw [HY.out], by (repeat (first | with_reducible exact Below.refl _ _ | (with_reducible refine Below.setCell ?_ ?_ _; rotate_left; · (first | exact Nat.le_refl _ | assumption | omega | (simp; done) | (simp; omega))) | (with_reducible refine Below.alloc ?_ ?_ _; rotate_left; · (first | exact Nat.le_refl _ | assumption | omega | (simp; done) | (simp; omega))) | with_reducible refine below_ovr_of ?_ | with_reducible refine drew_below ?_ _ | with_reducible refine Below.drew ?_ | with_reducible assumption))⟩
end Go.Proofs.Ytnaikdmkabfnlaa
