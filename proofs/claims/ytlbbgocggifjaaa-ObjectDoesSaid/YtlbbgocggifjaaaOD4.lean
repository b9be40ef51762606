/- Several texts in one: RBlk2. Conditions: none beyond what each says. -/
import Derived.Test.YtlbbgocggifjaaaOD3
import Derived.Test.YtlbbgocggifjaaaOI27
import Derived.Test.YtlbbgocggifjaaaOI36
namespace Go.Proofs.Ytlbbgocggifjaaa
open Go.RowKit Go.Shelf

theorem rpwhole_any (f t : Int) (w : World) :
    Calls Try.prog 138 #[.int .i64 f, .int .i64 t] w fun e w' => e = .returned (rngV ((1, f, 0, t, 0), true)) ∧ Below w.heap.size w w' := by
  go_enter Try.func138, Try.ntmps138
  go_wp2
  refine bodyPost_ret (v := rngV ((1, f, 0, t, 0), true)) (by simp [results, Try.results138, go_sem]) rfl ⟨rfl, by (repeat (first | with_reducible exact Below.refl _ _ | (with_reducible refine Below.setCell ?_ ?_ _; rotate_left; · (first | exact Nat.le_refl _ | assumption | omega | (simp; done) | (simp; omega))) | (with_reducible refine Below.alloc ?_ ?_ _; rotate_left; · (first | exact Nat.le_refl _ | assumption | omega | (simp; done) | (simp; omega))) | with_reducible refine below_ovr_of ?_ | with_reducible refine drew_below ?_ _ | with_reducible refine Below.drew ?_ | with_reducible assumption))⟩
set_option maxRecDepth 100000 in
set_option maxHeartbeats 8000000 in
theorem rpinner_any (a : Option Addr) (cap : Nat) (L : List ByteArray) (pl pc n : Int) (w : World) (hL : LinesAt w a L) (hl4 : L.length ≤ 100000) (hn2 : n ≤ 9223372036854775807) :
    Calls Try.prog 82 #[.slice a L.length cap, .agg #[.int .i64 pl, .int .i64 pc], .int .i64 n] w fun e w' => e = .returned (rngV (paraOP L pl pc n false)) ∧ Below w.heap.size w w' := by
  have hn := hL.2.1
  by_cases h : 1 ≤ n ∧ byteB L pl pc = true
  · have HON : Hid ((byteB L pl pc && decide (1 ≤ n)) = true) := Lib.hid (by rw [h.2, decide_eq_true h.1]; rfl)
    obtain ⟨l, c, m, k, rfl, rfl, rfl, hl, hm, hb, hk, hi, hw⟩ := blk_in h
    have hw := hw false
    rw [if_neg (by decide)] at hw
    have hk1 := hk.1
    have hk2 := hk.2
    have hRl := blkP_len L
    have HRUN := Lib.hid (fun (w0 : World) (h0 : LinesAt w0 a L) => rblk_any a cap L w0 h0 hl4)
    have HFD := Lib.hid (fun (ra : Option Addr) (rcap : Nat) (w0 : World) (h0 : PairsAt w0 ra (blkP L)) => rfind_any ra rcap (blkP L) (by omega) l k w0 h0 hk1 hk2 (fun j hj => by have := chain_mono (blkP_chain L) hj hk1; omega))
    have HLE := Lib.hid (fun (j : Nat) (hj : j < (blkP L).length) => blk_le (L := L) hj)
    obtain ⟨R, hR⟩ : ∃ R, blkP L = R := ⟨_, rfl⟩
    rw [hR] at HRUN HFD HLE hw hk1 hRl
    have hkI : (k : Int) < (R.length : Int) := by omega
    have hk0 : (0 : Int) ≤ (k : Int) := by omega
    clear h hb hk hi hR hk2
    by_cases hmk : m ≤ R.length - k
    · obtain ⟨q, hq⟩ : ∃ q, k + m - 1 = q := ⟨_, rfl⟩
      have eq1 : (k : Int) + (m : Int) - 1 = (q : Int) := by omega
      have hm5 : (m : Int) ≤ 100000 := by omega
      have ew1 : IntKind.i64.wrap ((k : Int) + (m : Int)) = (k : Int) + (m : Int) := IntWalk.i64_in _ (by omega)
      have ew2 : IntKind.i64.wrap ((k : Int) + (m : Int) - 1) = (k : Int) + (m : Int) - 1 := IntWalk.i64_in _ (by omega)
      have ew3 : IntKind.i64.wrap (q : Int) = (q : Int) := IntWalk.i64_in _ (by omega)
      obtain ⟨fx, hfx⟩ : ∃ fx, (R.getD k (0, 0)).1 = fx := ⟨_, rfl⟩
      obtain ⟨fy, hfy⟩ : ∃ fy, (R.getD (k + m - 1) (0, 0)).2 = fy := ⟨_, rfl⟩
      have HY := Lib.hid (hw.trans (innB_yes hmk hfx hfy))
      rw [hq] at hfy
      have hqN : q < R.length := by omega
      have hfy5 : fy ≤ 100000 := by have := (HLE.out q hqN).2; omega
      have ew4 : IntKind.i64.wrap ((fy : Int) - 1) = (fy : Int) - 1 := IntWalk.i64_in _ (by omega)
      have hqI : (q : Int) < (R.length : Int) := by omega
      have hq0 : (0 : Int) ≤ (q : Int) := by omega
      have hmI : (m : Int) ≤ (R.length : Int) - (k : Int) := by omega
      have HX := Lib.hid hfx
      have HYY := Lib.hid hfy
      have HQN := Lib.hid hqN
      have HKN := Lib.hid hk1
      clear hw hfx hfy hq hqN
      go_enter Try.func82, Try.ntmps82
      go_wp2_with (go_at_call 100; refine (on_at _ _ L _ _ _ _ (by (repeat (first | assumption | refine LinesAt.ovr ?_ _ | refine LinesAt.alloc ?_ _ | refine LinesAt.drewN ?_ _ | refine LinesAt.drew ?_))) HON).mono ?_; rintro e w1 ⟨rfl, hbl⟩; obtain ⟨x, rfl⟩ := ovr_of_below hbl; clear hbl)
      go_at_call 80
      refine (HRUN.out _ (by (repeat (first | assumption | refine LinesAt.ovr ?_ _ | refine LinesAt.alloc ?_ _ | refine LinesAt.drewN ?_ _ | refine LinesAt.drew ?_)))).mono ?_
      rintro e w1 ⟨ra, rcap, rfl, hpa, _, hbase, hbl⟩
      obtain ⟨x1, rfl⟩ := ovr_of_below hbl
      clear hbl
      go_wp2_with fail
      go_at_call 107
      refine (HFD.out _ _ _ (by (repeat (first | assumption | refine PairsAt.ovr ?_ _ | refine PairsAt.alloc ?_ _ | refine PairsAt.drewN ?_ _ | refine PairsAt.drew ?_)))).mono ?_
      rintro e w1 ⟨rfl, rfl⟩
      obtain ⟨g, rfl, hg, hca, _⟩ := hpa k (by exact HKN.out)
      obtain ⟨g', e', _, _, hcb⟩ := hpa q (by exact HQN.out)
      cases e'
      have hgl := hbase g rfl
      rw [HX.out] at hca
      rw [HYY.out] at hcb
      clear hpa hbase
      go_wp2_with fail
      refine name_world ?_
      intro W0 hW0
      have ca0 : W0.cell? ⟨g, k * 2, none⟩ = some (.int .i64 fx) := by rw [hW0]; exact hca
      have cb0 : W0.cell? ⟨g, q * 2 + 1, none⟩ = some (.int .i64 fy) := by rw [hW0]; exact hcb
      have cr0 : W0.cell? ⟨w.heap.size + 1, 0, none⟩ = some (.int .i64 0) := by rw [hW0]; simp [go_sem]
      have cr1 : W0.cell? ⟨w.heap.size + 1, 1, none⟩ = some (.int .i64 0) := by rw [hW0]; simp [go_sem]
      have cr2 : W0.cell? ⟨w.heap.size + 1, 2, none⟩ = some (.int .i64 0) := by rw [hW0]; simp [go_sem]
      have cr3 : W0.cell? ⟨w.heap.size + 1, 3, none⟩ = some (.int .i64 0) := by rw [hW0]; simp [go_sem]
      have cr4 : W0.cell? ⟨w.heap.size + 1, 4, none⟩ = some (.int .i64 0) := by rw [hW0]; simp [go_sem]
      have cf0 : W0.frozen? ⟨w.heap.size + 1, 0, none⟩ = false := by rw [hW0]; simp [go_sem]
      have cf1 : W0.frozen? ⟨w.heap.size + 1, 1, none⟩ = false := by rw [hW0]; simp [go_sem]
      have cf2 : W0.frozen? ⟨w.heap.size + 1, 2, none⟩ = false := by rw [hW0]; simp [go_sem]
      have cf3 : W0.frozen? ⟨w.heap.size + 1, 3, none⟩ = false := by rw [hW0]; simp [go_sem]
      have cf4 : W0.frozen? ⟨w.heap.size + 1, 4, none⟩ = false := by rw [hW0]; simp [go_sem]
      have cp0 : W0.cell? ⟨w.heap.size, 0, none⟩ = some (.int .i64 l) := by rw [hW0]; simp [go_sem]
      have hb0 : Below w.heap.size w W0 := by rw [hW0]; (repeat (first | with_reducible exact Below.refl _ _ | (with_reducible refine Below.setCell ?_ ?_ _; rotate_left; · (first | exact Nat.le_refl _ | assumption | omega | (simp; done) | (simp; omega))) | (with_reducible refine Below.alloc ?_ ?_ _; rotate_left; · (first | exact Nat.le_refl _ | assumption | omega | (simp; done) | (simp; omega))) | with_reducible refine below_ovr_of ?_ | with_reducible refine drew_below ?_ _ | with_reducible refine Below.drew ?_ | with_reducible assumption))
      have lR : w.heap.size + 1 < W0.heap.size := by rw [hW0]; simp <;> omega
      have lg : g < W0.heap.size := World.block_lt_of_cell? _ _ ca0
      have n1 : ¬ g = w.heap.size + 1 := by simp at hgl; omega
      clear hW0 hca hcb hgl hg
      go_region_held3 (fun w' => w'.cell? ⟨g, k * 2, none⟩ = some (.int .i64 fx) ∧ w'.cell? ⟨g, q * 2 + 1, none⟩ = some (.int .i64 fy)) (((repeat' apply And.intro) <;> first | with_reducible assumption | (with_reducible refine cell_ovr_drew0 ?_; with_reducible assumption) | (simp [go_sem, lg, ca0, cb0]; done))) ((go_at_call 138; refine (rpwhole_any _ _ _).mono ?_; rintro e w1 ⟨rfl, hbl⟩; obtain ⟨x, rfl⟩ := ovr_of_below hbl; clear hbl))
      all_goals go_wp2
      all_goals (refine bodyPost_ret (v := rngV ((1, (fx : Int), 0, (fy : Int) - 1, 0), true)) (by simp [results, Try.results82, go_sem, lR, cr0, cr1, cr2, cr3, cr4]) rfl ⟨by rw [HY.out], by (repeat (first | with_reducible exact Below.refl _ _ | (with_reducible refine Below.setCell ?_ ?_ _; rotate_left; · (first | exact Nat.le_refl _ | assumption | omega | (simp; done) | (simp; omega))) | (with_reducible refine Below.alloc ?_ ?_ _; rotate_left; · (first | exact Nat.le_refl _ | assumption | omega | (simp; done) | (simp; omega))) | with_reducible refine below_ovr_of ?_ | with_reducible refine drew_below ?_ _ | with_reducible refine Below.drew ?_ | with_reducible assumption))⟩)
    · have HY := Lib.hid (hw.trans (innB_no hmk))
      have hmI : (R.length : Int) - (k : Int) < (m : Int) := by omega
      clear hw
      go_enter Try.func82, Try.ntmps82
      go_wp2_with (go_at_call 100; refine (on_at _ _ L _ _ _ _ (by (repeat (first | assumption | refine LinesAt.ovr ?_ _ | refine LinesAt.alloc ?_ _ | refine LinesAt.drewN ?_ _ | refine LinesAt.drew ?_))) HON).mono ?_; rintro e w1 ⟨rfl, hbl⟩; obtain ⟨x, rfl⟩ := ovr_of_below hbl; clear hbl)
      go_at_call 80
      refine (HRUN.out _ (by (repeat (first | assumption | refine LinesAt.ovr ?_ _ | refine LinesAt.alloc ?_ _ | refine LinesAt.drewN ?_ _ | refine LinesAt.drew ?_)))).mono ?_
      rintro e w1 ⟨ra, rcap, rfl, hpa, _, hbase, hbl⟩
      obtain ⟨x1, rfl⟩ := ovr_of_below hbl
      clear hbl
      go_wp2_with fail
      go_at_call 107
      refine (HFD.out _ _ _ (by (repeat (first | assumption | refine PairsAt.ovr ?_ _ | refine PairsAt.alloc ?_ _ | refine PairsAt.drewN ?_ _ | refine PairsAt.drew ?_)))).mono ?_
      rintro e w1 ⟨rfl, rfl⟩
      clear hpa hbase
      go_wp2
      refine bodyPost_ret (v := rngV noR) (by simp [results, Try.results82, go_sem, noR]) rfl ⟨by rw [HY.out], by (repeat (first | with_reducible exact Below.refl _ _ | (with_reducible refine Below.setCell ?_ ?_ _; rotate_left; · (first | exact Nat.le_refl _ | assumption | omega | (simp; done) | (simp; omega))) | (with_reducible refine Below.alloc ?_ ?_ _; rotate_left; · (first | exact Nat.le_refl _ | assumption | omega | (simp; done) | (simp; omega))) | with_reducible refine below_ovr_of ?_ | with_reducible refine drew_below ?_ _ | with_reducible refine Below.drew ?_ | with_reducible assumption))⟩
  · have HY := Lib.hid (paraOP_no (around := false) h)
    have HON : Hid ((byteB L pl pc && decide (1 ≤ n)) = false) := Lib.hid (by
      rw [Bool.eq_false_iff]; intro e; simp only [Bool.and_eq_true, decide_eq_true_eq] at e; exact h ⟨e.2, e.1⟩)
    clear h
    go_enter Try.func82, Try.ntmps82
    go_wp2_with (go_at_call 100; refine (on_at _ _ L _ _ _ _ (by (repeat (first | assumption | refine LinesAt.ovr ?_ _ | refine LinesAt.alloc ?_ _ | refine LinesAt.drewN ?_ _ | refine LinesAt.drew ?_))) HON).mono ?_; rintro e w1 ⟨rfl, hbl⟩; obtain ⟨x, rfl⟩ := ovr_of_below hbl; clear hbl)
    refine bodyPost_ret (v := rngV noR) (by simp [results, Try.results82, go_sem, noR]) rfl ⟨by rw [HY.out], by (repeat (first | with_reducible exact Below.refl _ _ | (with_reducible refine Below.setCell ?_ ?_ _; rotate_left; · (first | exact Nat.le_refl _ | assumption | omega | (simp; done) | (simp; omega))) | (with_reducible refine Below.alloc ?_ ?_ _; rotate_left; · (first | exact Nat.le_refl _ | assumption | omega | (simp; done) | (simp; omega))) | with_reducible refine below_ovr_of ?_ | with_reducible refine drew_below ?_ _ | with_reducible refine Below.drew ?_ | with_reducible assumption))⟩
end Go.Proofs.Ytlbbgocggifjaaa
namespace Go.Proofs.Ytlbbgocggifjaaa
open Go.RowKit Go.Shelf

set_option maxRecDepth 100000 in
set_option maxHeartbeats 8000000 in
theorem rparound_any (a : Option Addr) (cap : Nat) (L : List ByteArray) (pl pc n : Int) (w : World) (hL : LinesAt w a L) (hl4 : L.length ≤ 100000) (hn2 : n ≤ 9223372036854775807) :
    Calls Try.prog 84 #[.slice a L.length cap, .agg #[.int .i64 pl, .int .i64 pc], .int .i64 n] w fun e w' => e = .returned (rngV (paraOP L pl pc n true)) ∧ Below w.heap.size w w' := by
  have hn := hL.2.1
  by_cases h : 1 ≤ n ∧ byteB L pl pc = true
  · have HON : Hid ((byteB L pl pc && decide (1 ≤ n)) = true) := Lib.hid (by rw [h.2, decide_eq_true h.1]; rfl)
    obtain ⟨l, c, m, k, rfl, rfl, rfl, hl, hm, hb, hk, hi, hw⟩ := blk_in h
    have hw := hw true
    rw [if_pos rfl] at hw
    have hk1 := hk.1
    have hk2 := hk.2
    have hRl := blkP_len L
    have HRUN := Lib.hid (fun (w0 : World) (h0 : LinesAt w0 a L) => rblk_any a cap L w0 h0 hl4)
    have HFD := Lib.hid (fun (ra : Option Addr) (rcap : Nat) (w0 : World) (h0 : PairsAt w0 ra (blkP L)) => rfind_any ra rcap (blkP L) (by omega) l k w0 h0 hk1 hk2 (fun j hj => by have := chain_mono (blkP_chain L) hj hk1; omega))
    have HLE := Lib.hid (fun (j : Nat) (hj : j < (blkP L).length) => blk_le (L := L) hj)
    obtain ⟨R, hR⟩ : ∃ R, blkP L = R := ⟨_, rfl⟩
    rw [hR] at HRUN HFD HLE hw hk1 hRl
    have hkI : (k : Int) < (R.length : Int) := by omega
    have hk0 : (0 : Int) ≤ (k : Int) := by omega
    obtain ⟨bl, ol, s, rfl, hbl, hcl, hwl⟩ := emp_facts hL hl
    have hlI : (l : Int) < (L.length : Int) := by omega
    have hl0 : (0 : Int) ≤ (l : Int) := by omega
    clear h hb hk hi hR hk2
    by_cases hm1 : R.length < m
    · have HY := Lib.hid (hw.trans (aroB_no (by omega) (by omega)))
      have hmI : (R.length : Int) < (m : Int) := by omega
      clear hw hwl
      go_enter Try.func84, Try.ntmps84
      go_wp2_with (go_at_call 100; refine (on_at _ _ L _ _ _ _ (by (repeat (first | assumption | refine LinesAt.ovr ?_ _ | refine LinesAt.alloc ?_ _ | refine LinesAt.drewN ?_ _ | refine LinesAt.drew ?_))) HON).mono ?_; rintro e w1 ⟨rfl, hbl⟩; obtain ⟨x, rfl⟩ := ovr_of_below hbl; clear hbl)
      go_at_call 80
      refine (HRUN.out _ (by (repeat (first | assumption | refine LinesAt.ovr ?_ _ | refine LinesAt.alloc ?_ _ | refine LinesAt.drewN ?_ _ | refine LinesAt.drew ?_)))).mono ?_
      rintro e w1 ⟨ra, rcap, rfl, hpa, _, hbase, hbl⟩
      obtain ⟨x1, rfl⟩ := ovr_of_below hbl
      clear hbl
      go_wp2_with fail
      go_at_call 107
      refine (HFD.out _ _ _ (by (repeat (first | assumption | refine PairsAt.ovr ?_ _ | refine PairsAt.alloc ?_ _ | refine PairsAt.drewN ?_ _ | refine PairsAt.drew ?_)))).mono ?_
      rintro e w1 ⟨rfl, rfl⟩
      clear hpa hbase
      go_wp2
      refine bodyPost_ret (v := rngV noR) (by simp [results, Try.results84, go_sem, noR]) rfl ⟨by rw [HY.out], by (repeat (first | with_reducible exact Below.refl _ _ | (with_reducible refine Below.setCell ?_ ?_ _; rotate_left; · (first | exact Nat.le_refl _ | assumption | omega | (simp; done) | (simp; omega))) | (with_reducible refine Below.alloc ?_ ?_ _; rotate_left; · (first | exact Nat.le_refl _ | assumption | omega | (simp; done) | (simp; omega))) | with_reducible refine below_ovr_of ?_ | with_reducible refine drew_below ?_ _ | with_reducible refine Below.drew ?_ | with_reducible assumption))⟩
    · have hm1I : ¬ (R.length : Int) < (m : Int) := by omega
      have hm5 : (m : Int) ≤ 200000 := by omega
      have hm0 : (1 : Int) ≤ (m : Int) := by omega
      obtain ⟨m2, hm2⟩ : ∃ m2, 2 * m = m2 := ⟨_, rfl⟩
      have e2 : 2 * (m : Int) = (m2 : Int) := by omega
      obtain ⟨q, hq⟩ : ∃ q, k + m2 - 1 = q := ⟨_, rfl⟩
      have eq1 : (k : Int) + (m2 : Int) - 1 = (q : Int) := by omega
      have hq0 : (0 : Int) ≤ (q : Int) := by omega
      rcases (by omega : k + 2 * m ≤ R.length ∨ k + 2 * m = R.length + 1 ∨ R.length + 1 < k + 2 * m) with hc | hc | hc
      · obtain ⟨fx, hfx⟩ : ∃ fx, (R.getD k (0, 0)).1 = fx := ⟨_, rfl⟩
        obtain ⟨fy, hfy⟩ : ∃ fy, (R.getD (k + 2 * m - 1) (0, 0)).2 = fy := ⟨_, rfl⟩
        have HY := Lib.hid (hw.trans (aroB_in hc hfx hfy))
        rw [hm2, hq] at hfy
        have hqN : q < R.length := by omega
        have hfy5 : fy ≤ 100000 := by have := (HLE.out q hqN).2; omega
        have ew4 : IntKind.i64.wrap ((fy : Int) - 1) = (fy : Int) - 1 := IntWalk.i64_in _ (by omega)
        have hqI : (q : Int) < (R.length : Int) := by omega
        have HX := Lib.hid hfx
        have HYY := Lib.hid hfy
        have HQN := Lib.hid hqN
        have HKN := Lib.hid hk1
        clear hw hwl hfx hfy hq hc hm2 hm1
        go_enter Try.func84, Try.ntmps84
        go_wp2_with (go_at_call 100; refine (on_at _ _ L _ _ _ _ (by (repeat (first | assumption | refine LinesAt.ovr ?_ _ | refine LinesAt.alloc ?_ _ | refine LinesAt.drewN ?_ _ | refine LinesAt.drew ?_))) HON).mono ?_; rintro e w1 ⟨rfl, hbl⟩; obtain ⟨x, rfl⟩ := ovr_of_below hbl; clear hbl)
        go_at_call 80
        refine (HRUN.out _ (by (repeat (first | assumption | refine LinesAt.ovr ?_ _ | refine LinesAt.alloc ?_ _ | refine LinesAt.drewN ?_ _ | refine LinesAt.drew ?_)))).mono ?_
        rintro e w1 ⟨ra, rcap, rfl, hpa, _, hbase, hbl⟩
        obtain ⟨x1, rfl⟩ := ovr_of_below hbl
        clear hbl
        go_wp2_with fail
        go_at_call 107
        refine (HFD.out _ _ _ (by (repeat (first | assumption | refine PairsAt.ovr ?_ _ | refine PairsAt.alloc ?_ _ | refine PairsAt.drewN ?_ _ | refine PairsAt.drew ?_)))).mono ?_
        rintro e w1 ⟨rfl, rfl⟩
        obtain ⟨g, rfl, hg, hca, _⟩ := hpa k (by exact HKN.out)
        obtain ⟨g', e', _, _, hcb⟩ := hpa q (by exact HQN.out)
        cases e'
        have hgl := hbase g rfl
        rw [HX.out] at hca
        rw [HYY.out] at hcb
        clear hpa hbase
        go_wp2_with fail
        refine name_world ?_
        intro W0 hW0
        have ca0 : W0.cell? ⟨g, k * 2, none⟩ = some (.int .i64 fx) := by rw [hW0]; exact hca
        have cb0 : W0.cell? ⟨g, q * 2 + 1, none⟩ = some (.int .i64 fy) := by rw [hW0]; exact hcb
        have cr0 : W0.cell? ⟨w.heap.size + 1, 0, none⟩ = some (.int .i64 0) := by rw [hW0]; simp [go_sem]
        have cr1 : W0.cell? ⟨w.heap.size + 1, 1, none⟩ = some (.int .i64 0) := by rw [hW0]; simp [go_sem]
        have cr2 : W0.cell? ⟨w.heap.size + 1, 2, none⟩ = some (.int .i64 0) := by rw [hW0]; simp [go_sem]
        have cr3 : W0.cell? ⟨w.heap.size + 1, 3, none⟩ = some (.int .i64 0) := by rw [hW0]; simp [go_sem]
        have cr4 : W0.cell? ⟨w.heap.size + 1, 4, none⟩ = some (.int .i64 0) := by rw [hW0]; simp [go_sem]
        have cf0 : W0.frozen? ⟨w.heap.size + 1, 0, none⟩ = false := by rw [hW0]; simp [go_sem]
        have cf1 : W0.frozen? ⟨w.heap.size + 1, 1, none⟩ = false := by rw [hW0]; simp [go_sem]
        have cf2 : W0.frozen? ⟨w.heap.size + 1, 2, none⟩ = false := by rw [hW0]; simp [go_sem]
        have cf3 : W0.frozen? ⟨w.heap.size + 1, 3, none⟩ = false := by rw [hW0]; simp [go_sem]
        have cf4 : W0.frozen? ⟨w.heap.size + 1, 4, none⟩ = false := by rw [hW0]; simp [go_sem]
        have cp0 : W0.cell? ⟨w.heap.size, 0, none⟩ = some (.int .i64 l) := by rw [hW0]; simp [go_sem]
        have hb0 : Below w.heap.size w W0 := by rw [hW0]; (repeat (first | with_reducible exact Below.refl _ _ | (with_reducible refine Below.setCell ?_ ?_ _; rotate_left; · (first | exact Nat.le_refl _ | assumption | omega | (simp; done) | (simp; omega))) | (with_reducible refine Below.alloc ?_ ?_ _; rotate_left; · (first | exact Nat.le_refl _ | assumption | omega | (simp; done) | (simp; omega))) | with_reducible refine below_ovr_of ?_ | with_reducible refine drew_below ?_ _ | with_reducible refine Below.drew ?_ | with_reducible assumption))
        have lR : w.heap.size + 1 < W0.heap.size := by rw [hW0]; simp <;> omega
        have lg : g < W0.heap.size := World.block_lt_of_cell? _ _ ca0
        have n1 : ¬ g = w.heap.size + 1 := by simp at hgl; omega
        clear hW0 hca hcb hgl hg
        go_region_held3 (fun w' => w'.cell? ⟨g, k * 2, none⟩ = some (.int .i64 fx) ∧ w'.cell? ⟨g, q * 2 + 1, none⟩ = some (.int .i64 fy)) (((repeat' apply And.intro) <;> first | with_reducible assumption | (with_reducible refine cell_ovr_drew0 ?_; with_reducible assumption) | (simp [go_sem, lg, ca0, cb0]; done))) ((go_at_call 138; refine (rpwhole_any _ _ _).mono ?_; rintro e w1 ⟨rfl, hbl⟩; obtain ⟨x, rfl⟩ := ovr_of_below hbl; clear hbl))
        all_goals go_wp2
        all_goals (refine bodyPost_ret (v := rngV ((1, (fx : Int), 0, (fy : Int) - 1, 0), true)) (by simp [results, Try.results84, go_sem, lR, cr0, cr1, cr2, cr3, cr4]) rfl ⟨by rw [HY.out], by (repeat (first | with_reducible exact Below.refl _ _ | (with_reducible refine Below.setCell ?_ ?_ _; rotate_left; · (first | exact Nat.le_refl _ | assumption | omega | (simp; done) | (simp; omega))) | (with_reducible refine Below.alloc ?_ ?_ _; rotate_left; · (first | exact Nat.le_refl _ | assumption | omega | (simp; done) | (simp; omega))) | with_reducible refine below_ovr_of ?_ | with_reducible refine drew_below ?_ _ | with_reducible refine Below.drew ?_ | with_reducible assumption))⟩)
      · have hqe : q = R.length := by omega
        have hqI : ¬ (q : Int) < (R.length : Int) := by omega
        have hqb : ((q : Int) == (R.length : Int)) = true := beq_iff_eq.2 (by omega)
        rcases hwl with ⟨he, rfl⟩ | ⟨he, hse, _⟩
        · have HY := Lib.hid (hw.trans (aroB_no (by omega) (fun h => by rw [he] at h; cases h.2.1)))
          subst hqe
          clear hw he
          go_enter Try.func84, Try.ntmps84
          go_wp2_with (go_at_call 100; refine (on_at _ _ L _ _ _ _ (by (repeat (first | assumption | refine LinesAt.ovr ?_ _ | refine LinesAt.alloc ?_ _ | refine LinesAt.drewN ?_ _ | refine LinesAt.drew ?_))) HON).mono ?_; rintro e w1 ⟨rfl, hbl⟩; obtain ⟨x, rfl⟩ := ovr_of_below hbl; clear hbl)
          go_at_call 80
          refine (HRUN.out _ (by (repeat (first | assumption | refine LinesAt.ovr ?_ _ | refine LinesAt.alloc ?_ _ | refine LinesAt.drewN ?_ _ | refine LinesAt.drew ?_)))).mono ?_
          rintro e w1 ⟨ra, rcap, rfl, hpa, _, hbase, hbl⟩
          obtain ⟨x1, rfl⟩ := ovr_of_below hbl
          clear hbl
          go_wp2_with fail
          go_at_call 107
          refine (HFD.out _ _ _ (by (repeat (first | assumption | refine PairsAt.ovr ?_ _ | refine PairsAt.alloc ?_ _ | refine PairsAt.drewN ?_ _ | refine PairsAt.drew ?_)))).mono ?_
          rintro e w1 ⟨rfl, rfl⟩
          clear hpa hbase
          go_wp2
          refine bodyPost_ret (v := rngV noR) (by simp [results, Try.results84, go_sem, noR]) rfl ⟨by rw [HY.out], by (repeat (first | with_reducible exact Below.refl _ _ | (with_reducible refine Below.setCell ?_ ?_ _; rotate_left; · (first | exact Nat.le_refl _ | assumption | omega | (simp; done) | (simp; omega))) | (with_reducible refine Below.alloc ?_ ?_ _; rotate_left; · (first | exact Nat.le_refl _ | assumption | omega | (simp; done) | (simp; omega))) | with_reducible refine below_ovr_of ?_ | with_reducible refine drew_below ?_ _ | with_reducible refine Below.drew ?_ | with_reducible assumption))⟩
        · rw [he] at hw
          rcases Nat.eq_zero_or_pos k with hkz | hkz
          · have HY := Lib.hid (hw.trans (aroB_no (by omega) (fun h => by omega)))
            have hkzI : ¬ (0 : Int) < (k : Int) := by omega
            have hkzN : ¬ 0 < k := by omega
            have hkzd : decide (0 < k) = false := decide_eq_false hkzN
            subst hqe
            clear hw he hkz
            go_enter Try.func84, Try.ntmps84
            go_wp2_with (go_at_call 100; refine (on_at _ _ L _ _ _ _ (by (repeat (first | assumption | refine LinesAt.ovr ?_ _ | refine LinesAt.alloc ?_ _ | refine LinesAt.drewN ?_ _ | refine LinesAt.drew ?_))) HON).mono ?_; rintro e w1 ⟨rfl, hbl⟩; obtain ⟨x, rfl⟩ := ovr_of_below hbl; clear hbl)
            go_at_call 80
            refine (HRUN.out _ (by (repeat (first | assumption | refine LinesAt.ovr ?_ _ | refine LinesAt.alloc ?_ _ | refine LinesAt.drewN ?_ _ | refine LinesAt.drew ?_)))).mono ?_
            rintro e w1 ⟨ra, rcap, rfl, hpa, _, hbase, hbl⟩
            obtain ⟨x1, rfl⟩ := ovr_of_below hbl
            clear hbl
            go_wp2_with fail
            go_at_call 107
            refine (HFD.out _ _ _ (by (repeat (first | assumption | refine PairsAt.ovr ?_ _ | refine PairsAt.alloc ?_ _ | refine PairsAt.drewN ?_ _ | refine PairsAt.drew ?_)))).mono ?_
            rintro e w1 ⟨rfl, rfl⟩
            clear hpa hbase
            go_wp2
            refine bodyPost_ret (v := rngV noR) (by simp [results, Try.results84, go_sem, noR]) rfl ⟨by rw [HY.out], by (repeat (first | with_reducible exact Below.refl _ _ | (with_reducible refine Below.setCell ?_ ?_ _; rotate_left; · (first | exact Nat.le_refl _ | assumption | omega | (simp; done) | (simp; omega))) | (with_reducible refine Below.alloc ?_ ?_ _; rotate_left; · (first | exact Nat.le_refl _ | assumption | omega | (simp; done) | (simp; omega))) | with_reducible refine below_ovr_of ?_ | with_reducible refine drew_below ?_ _ | with_reducible refine Below.drew ?_ | with_reducible assumption))⟩
          · have hkzI : (0 : Int) < (k : Int) := by omega
            obtain ⟨k1, hk1e⟩ : ∃ k1, k = k1 + 1 := ⟨k - 1, by omega⟩
            have ek1 : (k : Int) - 1 = (k1 : Int) := by omega
            have hk1I : (k1 : Int) < (R.length : Int) := by omega
            have hk10 : (0 : Int) ≤ (k1 : Int) := by omega
            obtain ⟨q1, hq1e⟩ : ∃ q1, R.length - 1 = q1 := ⟨_, rfl⟩
            have eq11 : (R.length : Int) - 1 = (q1 : Int) := by omega
            have hq1I : (q1 : Int) < (R.length : Int) := by omega
            have hq10 : (0 : Int) ≤ (q1 : Int) := by omega
            have ew5 : IntKind.i64.wrap ((k : Int) - 1) = (k : Int) - 1 := IntWalk.i64_in _ (by omega)
            have ew6 : IntKind.i64.wrap (k1 : Int) = (k1 : Int) := IntWalk.i64_in _ (by omega)
            have ew7 : IntKind.i64.wrap (q1 : Int) = (q1 : Int) := IntWalk.i64_in _ (by omega)
            have ew8 : IntKind.i64.wrap ((R.length : Int) - 1) = (R.length : Int) - 1 := IntWalk.i64_in _ (by omega)
            obtain ⟨fx, hfx⟩ : ∃ fx, (R.getD (k - 1) (0, 0)).1 = fx := ⟨_, rfl⟩
            obtain ⟨fy, hfy⟩ : ∃ fy, (R.getD (R.length - 1) (0, 0)).2 = fy := ⟨_, rfl⟩
            have HY := Lib.hid (hw.trans (aroB_end hc hkz hfx hfy))
            rw [hq1e] at hfy
            rw [show k - 1 = k1 by omega] at hfx
            have hfy5 : fy ≤ 100000 := by have := (HLE.out q1 (by omega)).2; omega
            have ew4 : IntKind.i64.wrap ((fy : Int) - 1) = (fy : Int) - 1 := IntWalk.i64_in _ (by omega)
            have HX := Lib.hid hfx
            have HYY := Lib.hid hfy
            have HQN := Lib.hid (show q1 < R.length by omega)
            have HKN := Lib.hid (show k1 < R.length by omega)
            subst hqe
            clear hw hfx hfy hq hc hm2 he hm1 hk1e hkz hq1e
            go_enter Try.func84, Try.ntmps84
            go_wp2_with (go_at_call 100; refine (on_at _ _ L _ _ _ _ (by (repeat (first | assumption | refine LinesAt.ovr ?_ _ | refine LinesAt.alloc ?_ _ | refine LinesAt.drewN ?_ _ | refine LinesAt.drew ?_))) HON).mono ?_; rintro e w1 ⟨rfl, hbl⟩; obtain ⟨x, rfl⟩ := ovr_of_below hbl; clear hbl)
            go_at_call 80
            refine (HRUN.out _ (by (repeat (first | assumption | refine LinesAt.ovr ?_ _ | refine LinesAt.alloc ?_ _ | refine LinesAt.drewN ?_ _ | refine LinesAt.drew ?_)))).mono ?_
            rintro e w1 ⟨ra, rcap, rfl, hpa, _, hbase, hbl⟩
            obtain ⟨x1, rfl⟩ := ovr_of_below hbl
            clear hbl
            go_wp2_with fail
            go_at_call 107
            refine (HFD.out _ _ _ (by (repeat (first | assumption | refine PairsAt.ovr ?_ _ | refine PairsAt.alloc ?_ _ | refine PairsAt.drewN ?_ _ | refine PairsAt.drew ?_)))).mono ?_
            rintro e w1 ⟨rfl, rfl⟩
            obtain ⟨g, rfl, hg, hca, _⟩ := hpa k1 (by exact HKN.out)
            obtain ⟨g', e', _, _, hcb⟩ := hpa q1 (by exact HQN.out)
            cases e'
            have hgl := hbase g rfl
            rw [HX.out] at hca
            rw [HYY.out] at hcb
            clear hpa hbase
            go_wp2_with fail
            refine name_world ?_
            intro W0 hW0
            have ca0 : W0.cell? ⟨g, k1 * 2, none⟩ = some (.int .i64 fx) := by rw [hW0]; exact hca
            have cb0 : W0.cell? ⟨g, q1 * 2 + 1, none⟩ = some (.int .i64 fy) := by rw [hW0]; exact hcb
            have cr0 : W0.cell? ⟨w.heap.size + 1, 0, none⟩ = some (.int .i64 0) := by rw [hW0]; simp [go_sem]
            have cr1 : W0.cell? ⟨w.heap.size + 1, 1, none⟩ = some (.int .i64 0) := by rw [hW0]; simp [go_sem]
            have cr2 : W0.cell? ⟨w.heap.size + 1, 2, none⟩ = some (.int .i64 0) := by rw [hW0]; simp [go_sem]
            have cr3 : W0.cell? ⟨w.heap.size + 1, 3, none⟩ = some (.int .i64 0) := by rw [hW0]; simp [go_sem]
            have cr4 : W0.cell? ⟨w.heap.size + 1, 4, none⟩ = some (.int .i64 0) := by rw [hW0]; simp [go_sem]
            have cf0 : W0.frozen? ⟨w.heap.size + 1, 0, none⟩ = false := by rw [hW0]; simp [go_sem]
            have cf1 : W0.frozen? ⟨w.heap.size + 1, 1, none⟩ = false := by rw [hW0]; simp [go_sem]
            have cf2 : W0.frozen? ⟨w.heap.size + 1, 2, none⟩ = false := by rw [hW0]; simp [go_sem]
            have cf3 : W0.frozen? ⟨w.heap.size + 1, 3, none⟩ = false := by rw [hW0]; simp [go_sem]
            have cf4 : W0.frozen? ⟨w.heap.size + 1, 4, none⟩ = false := by rw [hW0]; simp [go_sem]
            have cp0 : W0.cell? ⟨w.heap.size, 0, none⟩ = some (.int .i64 l) := by rw [hW0]; simp [go_sem]
            have hb0 : Below w.heap.size w W0 := by rw [hW0]; (repeat (first | with_reducible exact Below.refl _ _ | (with_reducible refine Below.setCell ?_ ?_ _; rotate_left; · (first | exact Nat.le_refl _ | assumption | omega | (simp; done) | (simp; omega))) | (with_reducible refine Below.alloc ?_ ?_ _; rotate_left; · (first | exact Nat.le_refl _ | assumption | omega | (simp; done) | (simp; omega))) | with_reducible refine below_ovr_of ?_ | with_reducible refine drew_below ?_ _ | with_reducible refine Below.drew ?_ | with_reducible assumption))
            have lR : w.heap.size + 1 < W0.heap.size := by rw [hW0]; simp <;> omega
            have lg : g < W0.heap.size := World.block_lt_of_cell? _ _ ca0
            have n1 : ¬ g = w.heap.size + 1 := by simp at hgl; omega
            clear hW0 hca hcb hgl hg
            go_region_held3 (fun w' => w'.cell? ⟨g, k1 * 2, none⟩ = some (.int .i64 fx) ∧ w'.cell? ⟨g, q1 * 2 + 1, none⟩ = some (.int .i64 fy)) (((repeat' apply And.intro) <;> first | with_reducible assumption | (with_reducible refine cell_ovr_drew0 ?_; with_reducible assumption) | (simp [go_sem, lg, ca0, cb0]; done))) ((go_at_call 138; refine (rpwhole_any _ _ _).mono ?_; rintro e w1 ⟨rfl, hbl⟩; obtain ⟨x, rfl⟩ := ovr_of_below hbl; clear hbl))
            all_goals go_wp2
            all_goals (refine bodyPost_ret (v := rngV ((1, (fx : Int), 0, (fy : Int) - 1, 0), true)) (by simp [results, Try.results84, go_sem, lR, cr0, cr1, cr2, cr3, cr4]) rfl ⟨by rw [HY.out], by (repeat (first | with_reducible exact Below.refl _ _ | (with_reducible refine Below.setCell ?_ ?_ _; rotate_left; · (first | exact Nat.le_refl _ | assumption | omega | (simp; done) | (simp; omega))) | (with_reducible refine Below.alloc ?_ ?_ _; rotate_left; · (first | exact Nat.le_refl _ | assumption | omega | (simp; done) | (simp; omega))) | with_reducible refine below_ovr_of ?_ | with_reducible refine drew_below ?_ _ | with_reducible refine Below.drew ?_ | with_reducible assumption))⟩)
      · have HY := Lib.hid (hw.trans (aroB_no (by omega) (by omega)))
        have hqI : ¬ (q : Int) < (R.length : Int) := by omega
        have hqb : ((q : Int) == (R.length : Int)) = false := beq_eq_false_iff_ne.2 (by omega)
        have hqN : ¬ q = R.length := by omega
        clear hw hwl
        go_enter Try.func84, Try.ntmps84
        go_wp2_with (go_at_call 100; refine (on_at _ _ L _ _ _ _ (by (repeat (first | assumption | refine LinesAt.ovr ?_ _ | refine LinesAt.alloc ?_ _ | refine LinesAt.drewN ?_ _ | refine LinesAt.drew ?_))) HON).mono ?_; rintro e w1 ⟨rfl, hbl⟩; obtain ⟨x, rfl⟩ := ovr_of_below hbl; clear hbl)
        go_at_call 80
        refine (HRUN.out _ (by (repeat (first | assumption | refine LinesAt.ovr ?_ _ | refine LinesAt.alloc ?_ _ | refine LinesAt.drewN ?_ _ | refine LinesAt.drew ?_)))).mono ?_
        rintro e w1 ⟨ra, rcap, rfl, hpa, _, hbase, hbl⟩
        obtain ⟨x1, rfl⟩ := ovr_of_below hbl
        clear hbl
        go_wp2_with fail
        go_at_call 107
        refine (HFD.out _ _ _ (by (repeat (first | assumption | refine PairsAt.ovr ?_ _ | refine PairsAt.alloc ?_ _ | refine PairsAt.drewN ?_ _ | refine PairsAt.drew ?_)))).mono ?_
        rintro e w1 ⟨rfl, rfl⟩
        clear hpa hbase
        go_wp2
        refine bodyPost_ret (v := rngV noR) (by simp [results, Try.results84, go_sem, noR]) rfl ⟨by rw [HY.out], by (repeat (first | with_reducible exact Below.refl _ _ | (with_reducible refine Below.setCell ?_ ?_ _; rotate_left; · (first | exact Nat.le_refl _ | assumption | omega | (simp; done) | (simp; omega))) | (with_reducible refine Below.alloc ?_ ?_ _; rotate_left; · (first | exact Nat.le_refl _ | assumption | omega | (simp; done) | (simp; omega))) | with_reducible refine below_ovr_of ?_ | with_reducible refine drew_below ?_ _ | with_reducible refine Below.drew ?_ | with_reducible assumption))⟩
  · have HY := Lib.hid (paraOP_no (around := true) h)
    have HON : Hid ((byteB L pl pc && decide (1 ≤ n)) = false) := Lib.hid (by
      rw [Bool.eq_false_iff]; intro e; simp only [Bool.and_eq_true, decide_eq_true_eq] at e; exact h ⟨e.2, e.1⟩)
    clear h
    go_enter Try.func84, Try.ntmps84
    go_wp2_with (go_at_call 100; refine (on_at _ _ L _ _ _ _ (by (repeat (first | assumption | refine LinesAt.ovr ?_ _ | refine LinesAt.alloc ?_ _ | refine LinesAt.drewN ?_ _ | refine LinesAt.drew ?_))) HON).mono ?_; rintro e w1 ⟨rfl, hbl⟩; obtain ⟨x, rfl⟩ := ovr_of_below hbl; clear hbl)
    refine bodyPost_ret (v := rngV noR) (by simp [results, Try.results84, go_sem, noR]) rfl ⟨by rw [HY.out], by (repeat (first | with_reducible exact Below.refl _ _ | (with_reducible refine Below.setCell ?_ ?_ _; rotate_left; · (first | exact Nat.le_refl _ | assumption | omega | (simp; done) | (simp; omega))) | (with_reducible refine Below.alloc ?_ ?_ _; rotate_left; · (first | exact Nat.le_refl _ | assumption | omega | (simp; done) | (simp; omega))) | with_reducible refine below_ovr_of ?_ | with_reducible refine drew_below ?_ _ | with_reducible refine Below.drew ?_ | with_reducible assumption))⟩
end Go.Proofs.Ytlbbgocggifjaaa
