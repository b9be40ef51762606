/- The contracts of paraobj.whole and Inner. Conditions: none beyond what each says. -/
import Derived.Test.YtnaceobbbfbhhaaBlk2
import Derived.Test.YtnaceobbbfbhhaaBlkO
import Derived.Deep.RegionHeld3
namespace Go.Proofs.Ytnaceobbbfbhhaa
open Go.RowKit Go.Shelf

theorem cell_ovr_drew0 {W x : World} {b o : Nat} {v : Value} (h : W.cell? ⟨b, o, none⟩ = some v) : (ovr W.drew x).cell? ⟨b, o, none⟩ = some v := by
  have h' : W.drew.cell? ⟨b, o, none⟩ = some v := h
  exact (cell?_ovr _ _ _ _ (World.block_lt_of_cell? _ _ h')).trans h'
@[go_sem] theorem frozen?_ovr9 (w x : World) (b o : Nat) (h : b < w.heap.size) : (ovr w.drew x).frozen? ⟨b, o, none⟩ = w.frozen? ⟨b, o, none⟩ := frozen?_ovr w.drew x b o h
@[go_sem] theorem cell?_ovr9 (w x : World) (b o : Nat) (h : b < w.heap.size) : (ovr w.drew x).cell? ⟨b, o, none⟩ = w.cell? ⟨b, o, none⟩ := cell?_ovr w.drew x b o h
@[go_sem] theorem setCell_ovr9 (w x : World) (b o : Nat) (v : Value) (h : b < w.heap.size) : (ovr w.drew x).setCell ⟨b, o, none⟩ v = ovr ((w.setCell ⟨b, o, none⟩ v).drew) x := setCell_ovr w.drew x b o v h
@[go_sem] theorem size_setCell9 (w : World) (p : Addr) (v : Value) : (w.setCell p v).heap.size = w.heap.size := by simp [World.setCell]
theorem pwhole_any (f t : Nat) (ht : t ≤ 1000000) (w : World) :
    Calls Try.prog 105 #[.int .i64 f, .int .i64 t] w fun e w' => e = .returned (rngV ((1, (f : Int), 0, (t : Int) - 1, 0), true)) ∧ Below w.heap.size w w' := by
  go_enter Try.func105, Try.ntmps105
  go_wp2
  refine bodyPost_ret (v := rngV ((1, (f : Int), 0, (t : Int) - 1, 0), true)) (by simp [results, Try.results105, go_sem]) rfl ⟨rfl, by (repeat (first | with_reducible exact Below.refl _ _ | (with_reducible refine Below.setCell ?_ ?_ _; rotate_left; · (first | exact Nat.le_refl _ | assumption | omega | (simp; done) | (simp; omega))) | (with_reducible refine Below.alloc ?_ ?_ _; rotate_left; · (first | exact Nat.le_refl _ | assumption | omega | (simp; done) | (simp; omega))) | with_reducible refine below_ovr_of ?_ | with_reducible refine drew_below ?_ _ | with_reducible refine Below.drew ?_ | with_reducible assumption))⟩
theorem beg_at {s : ByteArray} {big : Bool} {R : List (Nat × Nat)} (h : chainR s big 0 R) {k : Nat} (hk : k < R.length) : (begN R).getD k 0 = (R.getD k (0, 0)).1 ∧ (begN R).getD (k + 1) 0 = (R.getD k (0, 0)).2 := by
  have h2 : ∀ j, j < R.length → (begN R).getD (j + 1) 0 = (R.getD j (0, 0)).2 := fun j hj => by
    rw [begN, List.getD_cons_succ, List.getD_eq_getElem?_getD, List.getElem?_map, List.getD_eq_getElem?_getD, List.getElem?_eq_getElem hj]
    rfl
  refine ⟨?_, h2 k hk⟩
  cases k with
  | zero =>
    have := (chain_at h hk).2.2.2.2.2.2 rfl
    rw [this]; rfl
  | succ k =>
    rw [h2 k (by omega)]
    exact ((chain_at h (k := k) (by omega)).2.2.2.2.1 hk).1.symm
set_option maxRecDepth 100000 in
set_option maxHeartbeats 4000000 in
theorem pinner_any (a : Option Addr) (cap : Nat) (L : List ByteArray) (pl pc n : Int) (w : World) (hL : LinesAt w a L) (hl4 : L.length ≤ 100000) (hn2 : n ≤ 9223372036854775807) :
    Calls Try.prog 67 #[.slice a L.length cap, .agg #[.int .i64 pl, .int .i64 pc], .int .i64 n] w fun e w' => e = .returned (rngV (paraOP L pl pc n false)) ∧ Below w.heap.size w w' := by
  have hn := hL.2.1
  by_cases h : 1 ≤ n ∧ byteB L pl pc = true
  · obtain ⟨l, c, m, k, rfl, rfl, rfl, hl, hm, hb, hk, hi, hw⟩ := blk_in h
    have hw := hw false
    rw [if_neg (by decide)] at hw
    have hk1 := hk.1
    have hRl := blkP_len L
    have HRUN := Lib.hid (fun (w0 : World) (h0 : LinesAt w0 a L) => pblocks_yes a cap L l c m w0 h0 hl4 hl hb (by omega))
    have HBE := Lib.hid (fun (j : Nat) (hj : j < (blkP L).length) => beg_at (blkP_chain L) hj)
    have HLE := Lib.hid (fun (j : Nat) (hj : j < (blkP L).length) => blk_le (L := L) hj)
    rw [hi] at HRUN
    obtain ⟨R, hR⟩ : ∃ R, blkP L = R := ⟨_, rfl⟩
    rw [hR] at HRUN HBE HLE hw hk1 hRl
    have HNL : Hid ((begN R).length = R.length + 1) := Lib.hid (begN_len R)
    have hkI : (k : Int) < (R.length : Int) := by omega
    have hk0 : (0 : Int) ≤ (k : Int) := by omega
    clear h hb hk hi hR
    by_cases hmk : m ≤ R.length - k
    · obtain ⟨fx, hfx⟩ : ∃ fx, (R.getD k (0, 0)).1 = fx := ⟨_, rfl⟩
      obtain ⟨fy, hfy⟩ : ∃ fy, (R.getD (k + m - 1) (0, 0)).2 = fy := ⟨_, rfl⟩
      have HY := Lib.hid (hw.trans (innB_yes hmk hfx hfy))
      have hx := (HBE.out k hk1).1
      have hy := (HBE.out (k + m - 1) (by omega)).2
      have hfy5 : fy ≤ 1000000 := by have := (HLE.out (k + m - 1) (by omega)).2; omega
      rw [show k + m - 1 + 1 = k + m by omega, hfy] at hy
      rw [hfx] at hx
      have hmI : ¬ (R.length : Int) - (k : Int) < (m : Int) := by omega
      have HX := Lib.hid hx
      obtain ⟨q, hq⟩ : ∃ q, k + m = q := ⟨_, rfl⟩
      have eq1 : (k : Int) + (m : Int) = (q : Int) := by omega
      have ew1 : IntKind.i64.wrap ((k : Int) + (m : Int)) = (k : Int) + (m : Int) := IntWalk.i64_in _ (by omega)
      have ew2 : IntKind.i64.wrap (q : Int) = (q : Int) := IntWalk.i64_in _ (by omega)
      have hkmI : (q : Int) < (R.length : Int) + 1 := by omega
      have hkmJ : q < R.length + 1 := by omega
      have hkJ : k < R.length + 1 := by omega
      have hkm0 : (0 : Int) ≤ (q : Int) := by omega
      rw [hq] at hy
      have hkI2 : (k : Int) < (R.length : Int) + 1 := by omega
      have hm5 : (m : Int) ≤ 100000 := by omega
      have hmk2 : (m : Int) ≤ (R.length : Int) - (k : Int) := by omega
      have HYY := Lib.hid hy
      have HQN := Lib.hid (show q < R.length + 1 by omega)
      clear hw hfx hfy hx hy hq
      go_enter Try.func67, Try.ntmps67
      go_wp2_with fail
      go_at_call 104
      refine (HRUN.out _ (by (repeat (first | assumption | refine LinesAt.ovr ?_ _ | refine LinesAt.alloc ?_ _ | refine LinesAt.drewN ?_ _ | refine LinesAt.drew ?_)))).mono ?_
      rintro e w1 ⟨v, rfl, hrow, hbl⟩
      obtain ⟨g, rcap, rfl, hca⟩ := row_cell hrow (i := k) (by rw [HNL.out]; omega)
      obtain ⟨g', rcap', e', hcb⟩ := row_cell hrow (i := q) (by rw [HNL.out]; exact HQN.out)
      cases e'
      have hgl := hrow.lt g rfl
      rw [HNL.out]
      rw [HX.out] at hca
      rw [HYY.out] at hcb
      obtain ⟨x1, rfl⟩ := ovr_of_below hbl
      clear hbl hrow
      go_wp2_with fail
      refine name_world ?_
      intro W0 hW0
      have ca0 : W0.cell? ⟨g, k, none⟩ = some (.int .i64 fx) := by rw [hW0]; exact hca
      have cb0 : W0.cell? ⟨g, q, none⟩ = some (.int .i64 fy) := by rw [hW0]; exact hcb
      have cr0 : W0.cell? ⟨w.heap.size + 1, 0, none⟩ = some (.int .i64 0) := by rw [hW0]; simp [go_sem]
      have cr1 : W0.cell? ⟨w.heap.size + 1, 1, none⟩ = some (.int .i64 0) := by rw [hW0]; simp [go_sem]
      have cr2 : W0.cell? ⟨w.heap.size + 1, 2, none⟩ = some (.int .i64 0) := by rw [hW0]; simp [go_sem]
      have cr3 : W0.cell? ⟨w.heap.size + 1, 3, none⟩ = some (.int .i64 0) := by rw [hW0]; simp [go_sem]
      have cr4 : W0.cell? ⟨w.heap.size + 1, 4, none⟩ = some (.int .i64 0) := by rw [hW0]; simp [go_sem]
      have cf0 : W0.frozen? ⟨w.heap.size + 1, 0, none⟩ = false := by rw [hW0]; simp [go_sem]
      have cf1 : W0.frozen? ⟨w.heap.size + 1, 1, none⟩ = false := by rw [hW0]; simp [go_sem]
      have cf2 : W0.frozen? ⟨w.heap.size + 1, 2, none⟩ = false := by rw [hW0]; simp [go_sem]
      have cf3 : W0.frozen? ⟨w.heap.size + 1, 3, none⟩ = false := by rw [hW0]; simp [go_sem]
      have cf4 : W0.frozen? ⟨w.heap.size + 1, 4, none⟩ = false := by rw [hW0]; simp [go_sem]
      have hb0 : Below w.heap.size w W0 := by rw [hW0]; (repeat (first | with_reducible exact Below.refl _ _ | (with_reducible refine Below.setCell ?_ ?_ _; rotate_left; · (first | exact Nat.le_refl _ | assumption | omega | (simp; done) | (simp; omega))) | (with_reducible refine Below.alloc ?_ ?_ _; rotate_left; · (first | exact Nat.le_refl _ | assumption | omega | (simp; done) | (simp; omega))) | with_reducible refine below_ovr_of ?_ | with_reducible refine drew_below ?_ _ | with_reducible refine Below.drew ?_ | with_reducible assumption))
      have lR : w.heap.size + 1 < W0.heap.size := by rw [hW0]; simp <;> omega
      have lg : g < W0.heap.size := World.block_lt_of_cell? _ _ ca0
      have hgl1 := hgl.1
      have n1 : ¬ g = w.heap.size + 1 := by simp at hgl1; omega
      clear hW0 hca hcb hgl hgl1
      go_region_held3 (fun w' => w'.cell? ⟨g, k, none⟩ = some (.int .i64 fx) ∧ w'.cell? ⟨g, q, none⟩ = some (.int .i64 fy)) (((repeat' apply And.intro) <;> first | with_reducible assumption | (with_reducible refine cell_ovr_drew0 ?_; with_reducible assumption) | (simp [go_sem, lg, ca0, cb0]; done))) ((go_at_call 105; refine (pwhole_any _ _ (by omega) _).mono ?_; rintro e w1 ⟨rfl, hbl⟩; obtain ⟨x, rfl⟩ := ovr_of_below hbl; clear hbl))
      all_goals go_wp2
      all_goals (refine bodyPost_ret (v := rngV ((1, (fx : Int), 0, (fy : Int) - 1, 0), true)) (by simp [results, Try.results67, go_sem, lR, cr0, cr1, cr2, cr3, cr4]) rfl ⟨by rw [HY.out], by (repeat (first | with_reducible exact Below.refl _ _ | (with_reducible refine Below.setCell ?_ ?_ _; rotate_left; · (first | exact Nat.le_refl _ | assumption | omega | (simp; done) | (simp; omega))) | (with_reducible refine Below.alloc ?_ ?_ _; rotate_left; · (first | exact Nat.le_refl _ | assumption | omega | (simp; done) | (simp; omega))) | with_reducible refine below_ovr_of ?_ | with_reducible refine drew_below ?_ _ | with_reducible refine Below.drew ?_ | with_reducible assumption))⟩)
    · have HY := Lib.hid (hw.trans (innB_no hmk))
      have hmI : (R.length : Int) - (k : Int) < (m : Int) := by omega
      clear hw
      go_enter Try.func67, Try.ntmps67
      go_wp2_with fail
      go_at_call 104
      refine (HRUN.out _ (by (repeat (first | assumption | refine LinesAt.ovr ?_ _ | refine LinesAt.alloc ?_ _ | refine LinesAt.drewN ?_ _ | refine LinesAt.drew ?_)))).mono ?_
      rintro e w1 ⟨v, rfl, hrow, hbl⟩
      obtain ⟨va, vcap, rfl⟩ := own_slice hrow
      rw [HNL.out]
      obtain ⟨x1, rfl⟩ := ovr_of_below hbl
      clear hbl hrow
      go_wp2
      refine bodyPost_ret (v := rngV noR) (by simp [results, Try.results67, go_sem, noR]) rfl ⟨by rw [HY.out], by (repeat (first | with_reducible exact Below.refl _ _ | (with_reducible refine Below.setCell ?_ ?_ _; rotate_left; · (first | exact Nat.le_refl _ | assumption | omega | (simp; done) | (simp; omega))) | (with_reducible refine Below.alloc ?_ ?_ _; rotate_left; · (first | exact Nat.le_refl _ | assumption | omega | (simp; done) | (simp; omega))) | with_reducible refine below_ovr_of ?_ | with_reducible refine drew_below ?_ _ | with_reducible refine Below.drew ?_ | with_reducible assumption))⟩
  · have HY := Lib.hid (paraOP_no (around := false) h)
    go_enter Try.func67, Try.ntmps67
    go_wp2_with (go_at_call 104; refine (pblocks_no _ _ L _ _ _ _ (by (repeat (first | assumption | refine LinesAt.ovr ?_ _ | refine LinesAt.alloc ?_ _ | refine LinesAt.drewN ?_ _ | refine LinesAt.drew ?_))) h).mono ?_; rintro e w1 ⟨rfl, hbl⟩; obtain ⟨x, rfl⟩ := ovr_of_below hbl; clear hbl)
    refine bodyPost_ret (v := rngV noR) (by simp [results, Try.results67, go_sem, noR]) rfl ⟨by rw [HY.out], by (repeat (first | with_reducible exact Below.refl _ _ | (with_reducible refine Below.setCell ?_ ?_ _; rotate_left; · (first | exact Nat.le_refl _ | assumption | omega | (simp; done) | (simp; omega))) | (with_reducible refine Below.alloc ?_ ?_ _; rotate_left; · (first | exact Nat.le_refl _ | assumption | omega | (simp; done) | (simp; omega))) | with_reducible refine below_ovr_of ?_ | with_reducible refine drew_below ?_ _ | with_reducible refine Below.drew ?_ | with_reducible assumption))⟩
end Go.Proofs.Ytnaceobbbfbhhaa
namespace Go.Proofs.Ytnaceobbbfbhhaa
open Go.RowKit Go.Shelf

set_option maxRecDepth 100000 in
set_option maxHeartbeats 8000000 in
theorem paround_any (a : Option Addr) (cap : Nat) (L : List ByteArray) (pl pc n : Int) (w : World) (hL : LinesAt w a L) (hl4 : L.length ≤ 100000) (hn2 : n ≤ 9223372036854775807) :
    Calls Try.prog 69 #[.slice a L.length cap, .agg #[.int .i64 pl, .int .i64 pc], .int .i64 n] w fun e w' => e = .returned (rngV (paraOP L pl pc n true)) ∧ Below w.heap.size w w' := by
  have hn := hL.2.1
  by_cases h : 1 ≤ n ∧ byteB L pl pc = true
  · obtain ⟨l, c, m, k, rfl, rfl, rfl, hl, hm, hb, hk, hi, hw⟩ := blk_in h
    have hw := hw true
    rw [if_pos rfl] at hw
    have hk1 := hk.1
    have hRl := blkP_len L
    have HRUN := Lib.hid (fun (w0 : World) (h0 : LinesAt w0 a L) => pblocks_yes a cap L l c m w0 h0 hl4 hl hb (by omega))
    have HBE := Lib.hid (fun (j : Nat) (hj : j < (blkP L).length) => beg_at (blkP_chain L) hj)
    have HLE := Lib.hid (fun (j : Nat) (hj : j < (blkP L).length) => blk_le (L := L) hj)
    rw [hi] at HRUN
    obtain ⟨R, hR⟩ : ∃ R, blkP L = R := ⟨_, rfl⟩
    rw [hR] at HRUN HBE HLE hw hk1 hRl
    have HNL : Hid ((begN R).length = R.length + 1) := Lib.hid (begN_len R)
    have hkI : (k : Int) < (R.length : Int) := by omega
    have hk0 : (0 : Int) ≤ (k : Int) := by omega
    obtain ⟨bl, ol, s, rfl, hbl, hcl, hwl⟩ := emp_facts hL hl
    have hlI : (l : Int) < (L.length : Int) := by omega
    have hl0 : (0 : Int) ≤ (l : Int) := by omega
    clear h hb hk hi hR
    by_cases hm1 : R.length + 1 < m
    · have HY := Lib.hid (hw.trans (aroB_no (by omega) (by omega)))
      have hmI : (R.length : Int) + 1 < (m : Int) := by omega
      clear hw hwl
      go_enter Try.func69, Try.ntmps69
      go_wp2_with fail
      go_at_call 104
      refine (HRUN.out _ (by (repeat (first | assumption | refine LinesAt.ovr ?_ _ | refine LinesAt.alloc ?_ _ | refine LinesAt.drewN ?_ _ | refine LinesAt.drew ?_)))).mono ?_
      rintro e w1 ⟨v, rfl, hrow, hbl⟩
      obtain ⟨va, vcap, rfl⟩ := own_slice hrow
      rw [HNL.out]
      obtain ⟨x1, rfl⟩ := ovr_of_below hbl
      clear hbl hrow
      go_wp2
      refine bodyPost_ret (v := rngV noR) (by simp [results, Try.results69, go_sem, noR]) rfl ⟨by rw [HY.out], by (repeat (first | with_reducible exact Below.refl _ _ | (with_reducible refine Below.setCell ?_ ?_ _; rotate_left; · (first | exact Nat.le_refl _ | assumption | omega | (simp; done) | (simp; omega))) | (with_reducible refine Below.alloc ?_ ?_ _; rotate_left; · (first | exact Nat.le_refl _ | assumption | omega | (simp; done) | (simp; omega))) | with_reducible refine below_ovr_of ?_ | with_reducible refine drew_below ?_ _ | with_reducible refine Below.drew ?_ | with_reducible assumption))⟩
    · have hm1I : ¬ (R.length : Int) + 1 < (m : Int) := by omega
      have hm5 : (m : Int) ≤ 200000 := by omega
      have hm0 : (1 : Int) ≤ (m : Int) := by omega
      obtain ⟨d, hd⟩ : ∃ d, R.length - k = d := ⟨_, rfl⟩
      have ed : (R.length : Int) - (k : Int) = (d : Int) := by omega
      obtain ⟨m2, hm2⟩ : ∃ m2, 2 * m = m2 := ⟨_, rfl⟩
      have e2 : 2 * (m : Int) = (m2 : Int) := by omega
      obtain ⟨m3, hm3⟩ : ∃ m3, m2 - 1 = m3 := ⟨_, rfl⟩
      have e3 : (m2 : Int) - 1 = (m3 : Int) := by omega
      have ew1 : IntKind.i64.wrap (2 * (m : Int)) = 2 * (m : Int) := IntWalk.i64_in _ (by omega)
      have ew2 : IntKind.i64.wrap (m2 : Int) = (m2 : Int) := IntWalk.i64_in _ (by omega)
      have ew3 : IntKind.i64.wrap ((k : Int) + (m2 : Int)) = (k : Int) + (m2 : Int) := IntWalk.i64_in _ (by omega)
      rcases (by omega : k + 2 * m ≤ R.length ∨ k + 2 * m = R.length + 1 ∨ R.length + 1 < k + 2 * m) with hc | hc | hc
      · have hmd : (m2 : Int) ≤ (d : Int) := by omega
        have hmdN : m2 ≤ d := by omega
        obtain ⟨q, hq⟩ : ∃ q, k + m2 = q := ⟨_, rfl⟩
        have eq1 : (k : Int) + (m2 : Int) = (q : Int) := by omega
        have ew4 : IntKind.i64.wrap (q : Int) = (q : Int) := IntWalk.i64_in _ (by omega)
        have hqI : (q : Int) < (R.length : Int) + 1 := by omega
        have hq0 : (0 : Int) ≤ (q : Int) := by omega
        have hkI2 : (k : Int) < (R.length : Int) + 1 := by omega
        obtain ⟨fx, hfx⟩ : ∃ fx, (R.getD k (0, 0)).1 = fx := ⟨_, rfl⟩
        obtain ⟨fy, hfy⟩ : ∃ fy, (R.getD (k + 2 * m - 1) (0, 0)).2 = fy := ⟨_, rfl⟩
        have HY := Lib.hid (hw.trans (aroB_in hc hfx hfy))
        have hx := (HBE.out k hk1).1
        have hy := (HBE.out (k + 2 * m - 1) (by omega)).2
        have hfy5 : fy ≤ 1000000 := by have := (HLE.out (k + 2 * m - 1) (by omega)).2; omega
        rw [show k + 2 * m - 1 + 1 = q by omega, hfy] at hy
        rw [hfx] at hx
        have HX := Lib.hid hx
        have HYY := Lib.hid hy
        have HQN := Lib.hid (show q < R.length + 1 by omega)
        have HKN := Lib.hid (show k < R.length + 1 by omega)
        clear hw hfx hfy hx hy hq hc hm2 hm3 hd hwl hm1
        go_enter Try.func69, Try.ntmps69
        go_wp2_with fail
        go_at_call 104
        refine (HRUN.out _ (by (repeat (first | assumption | refine LinesAt.ovr ?_ _ | refine LinesAt.alloc ?_ _ | refine LinesAt.drewN ?_ _ | refine LinesAt.drew ?_)))).mono ?_
        rintro e w1 ⟨v, rfl, hrow, hbl⟩
        obtain ⟨g, rcap, rfl, hca⟩ := row_cell hrow (i := k) (by rw [HNL.out]; exact HKN.out)
        obtain ⟨g', rcap', e', hcb⟩ := row_cell hrow (i := q) (by rw [HNL.out]; exact HQN.out)
        cases e'
        have hgl := hrow.lt g rfl
        rw [HNL.out]
        rw [HX.out] at hca
        rw [HYY.out] at hcb
        obtain ⟨x1, rfl⟩ := ovr_of_below hbl
        clear hbl hrow
        go_wp2_with fail
        refine name_world ?_
        intro W0 hW0
        have ca0 : W0.cell? ⟨g, k, none⟩ = some (.int .i64 fx) := by rw [hW0]; exact hca
        have cb0 : W0.cell? ⟨g, q, none⟩ = some (.int .i64 fy) := by rw [hW0]; exact hcb
        have cr0 : W0.cell? ⟨w.heap.size + 1, 0, none⟩ = some (.int .i64 0) := by rw [hW0]; simp [go_sem]
        have cr1 : W0.cell? ⟨w.heap.size + 1, 1, none⟩ = some (.int .i64 0) := by rw [hW0]; simp [go_sem]
        have cr2 : W0.cell? ⟨w.heap.size + 1, 2, none⟩ = some (.int .i64 0) := by rw [hW0]; simp [go_sem]
        have cr3 : W0.cell? ⟨w.heap.size + 1, 3, none⟩ = some (.int .i64 0) := by rw [hW0]; simp [go_sem]
        have cr4 : W0.cell? ⟨w.heap.size + 1, 4, none⟩ = some (.int .i64 0) := by rw [hW0]; simp [go_sem]
        have cf0 : W0.frozen? ⟨w.heap.size + 1, 0, none⟩ = false := by rw [hW0]; simp [go_sem]
        have cf1 : W0.frozen? ⟨w.heap.size + 1, 1, none⟩ = false := by rw [hW0]; simp [go_sem]
        have cf2 : W0.frozen? ⟨w.heap.size + 1, 2, none⟩ = false := by rw [hW0]; simp [go_sem]
        have cf3 : W0.frozen? ⟨w.heap.size + 1, 3, none⟩ = false := by rw [hW0]; simp [go_sem]
        have cf4 : W0.frozen? ⟨w.heap.size + 1, 4, none⟩ = false := by rw [hW0]; simp [go_sem]
        have hb0 : Below w.heap.size w W0 := by rw [hW0]; (repeat (first | with_reducible exact Below.refl _ _ | (with_reducible refine Below.setCell ?_ ?_ _; rotate_left; · (first | exact Nat.le_refl _ | assumption | omega | (simp; done) | (simp; omega))) | (with_reducible refine Below.alloc ?_ ?_ _; rotate_left; · (first | exact Nat.le_refl _ | assumption | omega | (simp; done) | (simp; omega))) | with_reducible refine below_ovr_of ?_ | with_reducible refine drew_below ?_ _ | with_reducible refine Below.drew ?_ | with_reducible assumption))
        have lR : w.heap.size + 1 < W0.heap.size := by rw [hW0]; simp <;> omega
        have lg : g < W0.heap.size := World.block_lt_of_cell? _ _ ca0
        have hgl1 := hgl.1
        have n1 : ¬ g = w.heap.size + 1 := by simp at hgl1; omega
        clear hW0 hca hcb hgl hgl1
        go_region_held3 (fun w' => w'.cell? ⟨g, k, none⟩ = some (.int .i64 fx) ∧ w'.cell? ⟨g, q, none⟩ = some (.int .i64 fy)) (((repeat' apply And.intro) <;> first | with_reducible assumption | (with_reducible refine cell_ovr_drew0 ?_; with_reducible assumption) | (simp [go_sem, lg, ca0, cb0]; done))) ((go_at_call 105; refine (pwhole_any _ _ (by omega) _).mono ?_; rintro e w1 ⟨rfl, hbl⟩; obtain ⟨x, rfl⟩ := ovr_of_below hbl; clear hbl))
        all_goals go_wp2
        all_goals (refine bodyPost_ret (v := rngV ((1, (fx : Int), 0, (fy : Int) - 1, 0), true)) (by simp [results, Try.results69, go_sem, lR, cr0, cr1, cr2, cr3, cr4]) rfl ⟨by rw [HY.out], by (repeat (first | with_reducible exact Below.refl _ _ | (with_reducible refine Below.setCell ?_ ?_ _; rotate_left; · (first | exact Nat.le_refl _ | assumption | omega | (simp; done) | (simp; omega))) | (with_reducible refine Below.alloc ?_ ?_ _; rotate_left; · (first | exact Nat.le_refl _ | assumption | omega | (simp; done) | (simp; omega))) | with_reducible refine below_ovr_of ?_ | with_reducible refine drew_below ?_ _ | with_reducible refine Below.drew ?_ | with_reducible assumption))⟩)
      · obtain ⟨hdm, hdm3⟩ : d = m3 ∧ ¬ m2 ≤ d := by omega
        have hmd : ¬ (m2 : Int) ≤ (d : Int) := by omega
        have hmdN : ¬ m2 ≤ d := hdm3
        rcases hwl with ⟨he, rfl⟩ | ⟨he, hse, _⟩
        · have HY := Lib.hid (hw.trans (aroB_no (by omega) (fun h => by rw [he] at h; cases h.2.1)))
          have hdmI : (d : Int) = (m3 : Int) := by omega
          subst hdm
          clear hw hdmI he
          go_enter Try.func69, Try.ntmps69
          go_wp2_with fail
          go_at_call 104
          refine (HRUN.out _ (by (repeat (first | assumption | refine LinesAt.ovr ?_ _ | refine LinesAt.alloc ?_ _ | refine LinesAt.drewN ?_ _ | refine LinesAt.drew ?_)))).mono ?_
          rintro e w1 ⟨v, rfl, hrow, hbl⟩
          obtain ⟨va, vcap, rfl⟩ := own_slice hrow
          rw [HNL.out]
          obtain ⟨x1, rfl⟩ := ovr_of_below hbl
          clear hbl hrow
          go_wp2
          refine bodyPost_ret (v := rngV noR) (by simp [results, Try.results69, go_sem, noR]) rfl ⟨by rw [HY.out], by (repeat (first | with_reducible exact Below.refl _ _ | (with_reducible refine Below.setCell ?_ ?_ _; rotate_left; · (first | exact Nat.le_refl _ | assumption | omega | (simp; done) | (simp; omega))) | (with_reducible refine Below.alloc ?_ ?_ _; rotate_left; · (first | exact Nat.le_refl _ | assumption | omega | (simp; done) | (simp; omega))) | with_reducible refine below_ovr_of ?_ | with_reducible refine drew_below ?_ _ | with_reducible refine Below.drew ?_ | with_reducible assumption))⟩
        · rw [he] at hw
          rcases Nat.eq_zero_or_pos k with hkz | hkz
          · have HY := Lib.hid (hw.trans (aroB_no (by omega) (fun h => by omega)))
            have hkzI : ¬ (0 : Int) < (k : Int) := by omega
            have hkzN : ¬ 0 < k := by omega
            have hkzd : decide (0 < k) = false := decide_eq_false hkzN
            subst hdm
            clear hw he hkz
            go_enter Try.func69, Try.ntmps69
            go_wp2_with fail
            go_at_call 104
            refine (HRUN.out _ (by (repeat (first | assumption | refine LinesAt.ovr ?_ _ | refine LinesAt.alloc ?_ _ | refine LinesAt.drewN ?_ _ | refine LinesAt.drew ?_)))).mono ?_
            rintro e w1 ⟨v, rfl, hrow, hbl⟩
            obtain ⟨va, vcap, rfl⟩ := own_slice hrow
            rw [HNL.out]
            obtain ⟨x1, rfl⟩ := ovr_of_below hbl
            clear hbl hrow
            go_wp2
            refine bodyPost_ret (v := rngV noR) (by simp [results, Try.results69, go_sem, noR]) rfl ⟨by rw [HY.out], by (repeat (first | with_reducible exact Below.refl _ _ | (with_reducible refine Below.setCell ?_ ?_ _; rotate_left; · (first | exact Nat.le_refl _ | assumption | omega | (simp; done) | (simp; omega))) | (with_reducible refine Below.alloc ?_ ?_ _; rotate_left; · (first | exact Nat.le_refl _ | assumption | omega | (simp; done) | (simp; omega))) | with_reducible refine below_ovr_of ?_ | with_reducible refine drew_below ?_ _ | with_reducible refine Below.drew ?_ | with_reducible assumption))⟩
          · have hkzI : (0 : Int) < (k : Int) := by omega
            obtain ⟨k1, hk1e⟩ : ∃ k1, k = k1 + 1 := ⟨k - 1, by omega⟩
            have ek1 : (k : Int) - 1 = (k1 : Int) := by omega
            have hk1I : (k1 : Int) < (R.length : Int) + 1 := by omega
            have hk10 : (0 : Int) ≤ (k1 : Int) := by omega
            obtain ⟨q, hq⟩ : ∃ q, R.length = q := ⟨_, rfl⟩
            have ekd : (k : Int) + (d : Int) = (R.length : Int) := by omega
            have ew4 : IntKind.i64.wrap ((k : Int) + (d : Int)) = (k : Int) + (d : Int) := IntWalk.i64_in _ (by omega)
            have ew5 : IntKind.i64.wrap (R.length : Int) = (R.length : Int) := IntWalk.i64_in _ (by omega)
            have ew6 : IntKind.i64.wrap ((k : Int) - 1) = (k : Int) - 1 := IntWalk.i64_in _ (by omega)
            have ew7 : IntKind.i64.wrap (k1 : Int) = (k1 : Int) := IntWalk.i64_in _ (by omega)
            have hqI : (R.length : Int) < (R.length : Int) + 1 := by omega
            have hq0 : (0 : Int) ≤ (R.length : Int) := by omega
            obtain ⟨fx, hfx⟩ : ∃ fx, (R.getD (k - 1) (0, 0)).1 = fx := ⟨_, rfl⟩
            obtain ⟨fy, hfy⟩ : ∃ fy, (R.getD (R.length - 1) (0, 0)).2 = fy := ⟨_, rfl⟩
            have HY := Lib.hid (hw.trans (aroB_end hc hkz hfx hfy))
            have hx := (HBE.out (k - 1) (by omega)).1
            have hy := (HBE.out (R.length - 1) (by omega)).2
            have hfy5 : fy ≤ 1000000 := by have := (HLE.out (R.length - 1) (by omega)).2; omega
            rw [show R.length - 1 + 1 = R.length by omega, hfy] at hy
            rw [hfx, show k - 1 = k1 by omega] at hx
            have HX := Lib.hid hx
            have HYY := Lib.hid hy
            have HQN := Lib.hid (show R.length < R.length + 1 by omega)
            have HKN := Lib.hid (show k1 < R.length + 1 by omega)
            subst hdm
            clear hw hfx hfy hx hy hq hc hm2 hm3 hd he hm1 hk1e hkz
            go_enter Try.func69, Try.ntmps69
            go_wp2_with fail
            go_at_call 104
            refine (HRUN.out _ (by (repeat (first | assumption | refine LinesAt.ovr ?_ _ | refine LinesAt.alloc ?_ _ | refine LinesAt.drewN ?_ _ | refine LinesAt.drew ?_)))).mono ?_
            rintro e w1 ⟨v, rfl, hrow, hbl⟩
            obtain ⟨g, rcap, rfl, hca⟩ := row_cell hrow (i := k1) (by rw [HNL.out]; exact HKN.out)
            obtain ⟨g', rcap', e', hcb⟩ := row_cell hrow (i := R.length) (by rw [HNL.out]; exact HQN.out)
            cases e'
            have hgl := hrow.lt g rfl
            rw [HNL.out]
            rw [HX.out] at hca
            rw [HYY.out] at hcb
            obtain ⟨x1, rfl⟩ := ovr_of_below hbl
            clear hbl hrow
            go_wp2_with fail
            refine name_world ?_
            intro W0 hW0
            have ca0 : W0.cell? ⟨g, k1, none⟩ = some (.int .i64 fx) := by rw [hW0]; exact hca
            have cb0 : W0.cell? ⟨g, R.length, none⟩ = some (.int .i64 fy) := by rw [hW0]; exact hcb
            have cr0 : W0.cell? ⟨w.heap.size + 1, 0, none⟩ = some (.int .i64 0) := by rw [hW0]; simp [go_sem]
            have cr1 : W0.cell? ⟨w.heap.size + 1, 1, none⟩ = some (.int .i64 0) := by rw [hW0]; simp [go_sem]
            have cr2 : W0.cell? ⟨w.heap.size + 1, 2, none⟩ = some (.int .i64 0) := by rw [hW0]; simp [go_sem]
            have cr3 : W0.cell? ⟨w.heap.size + 1, 3, none⟩ = some (.int .i64 0) := by rw [hW0]; simp [go_sem]
            have cr4 : W0.cell? ⟨w.heap.size + 1, 4, none⟩ = some (.int .i64 0) := by rw [hW0]; simp [go_sem]
            have cf0 : W0.frozen? ⟨w.heap.size + 1, 0, none⟩ = false := by rw [hW0]; simp [go_sem]
            have cf1 : W0.frozen? ⟨w.heap.size + 1, 1, none⟩ = false := by rw [hW0]; simp [go_sem]
            have cf2 : W0.frozen? ⟨w.heap.size + 1, 2, none⟩ = false := by rw [hW0]; simp [go_sem]
            have cf3 : W0.frozen? ⟨w.heap.size + 1, 3, none⟩ = false := by rw [hW0]; simp [go_sem]
            have cf4 : W0.frozen? ⟨w.heap.size + 1, 4, none⟩ = false := by rw [hW0]; simp [go_sem]
            have hb0 : Below w.heap.size w W0 := by rw [hW0]; (repeat (first | with_reducible exact Below.refl _ _ | (with_reducible refine Below.setCell ?_ ?_ _; rotate_left; · (first | exact Nat.le_refl _ | assumption | omega | (simp; done) | (simp; omega))) | (with_reducible refine Below.alloc ?_ ?_ _; rotate_left; · (first | exact Nat.le_refl _ | assumption | omega | (simp; done) | (simp; omega))) | with_reducible refine below_ovr_of ?_ | with_reducible refine drew_below ?_ _ | with_reducible refine Below.drew ?_ | with_reducible assumption))
            have lR : w.heap.size + 1 < W0.heap.size := by rw [hW0]; simp <;> omega
            have lg : g < W0.heap.size := World.block_lt_of_cell? _ _ ca0
            have hgl1 := hgl.1
            have n1 : ¬ g = w.heap.size + 1 := by simp at hgl1; omega
            clear hW0 hca hcb hgl hgl1
            go_region_held3 (fun w' => w'.cell? ⟨g, k1, none⟩ = some (.int .i64 fx) ∧ w'.cell? ⟨g, R.length, none⟩ = some (.int .i64 fy)) (((repeat' apply And.intro) <;> first | with_reducible assumption | (with_reducible refine cell_ovr_drew0 ?_; with_reducible assumption) | (simp [go_sem, lg, ca0, cb0]; done))) ((go_at_call 105; refine (pwhole_any _ _ (by omega) _).mono ?_; rintro e w1 ⟨rfl, hbl⟩; obtain ⟨x, rfl⟩ := ovr_of_below hbl; clear hbl))
            all_goals go_wp2
            all_goals (refine bodyPost_ret (v := rngV ((1, (fx : Int), 0, (fy : Int) - 1, 0), true)) (by simp [results, Try.results69, go_sem, lR, cr0, cr1, cr2, cr3, cr4]) rfl ⟨by rw [HY.out], by (repeat (first | with_reducible exact Below.refl _ _ | (with_reducible refine Below.setCell ?_ ?_ _; rotate_left; · (first | exact Nat.le_refl _ | assumption | omega | (simp; done) | (simp; omega))) | (with_reducible refine Below.alloc ?_ ?_ _; rotate_left; · (first | exact Nat.le_refl _ | assumption | omega | (simp; done) | (simp; omega))) | with_reducible refine below_ovr_of ?_ | with_reducible refine drew_below ?_ _ | with_reducible refine Below.drew ?_ | with_reducible assumption))⟩)
      · have HY := Lib.hid (hw.trans (aroB_no (by omega) (by omega)))
        have hmd : ¬ (m2 : Int) ≤ (d : Int) := by omega
        have hmdN : ¬ m2 ≤ d := by omega
        have hne : ((d : Int) == (m3 : Int)) = false := beq_eq_false_iff_ne.2 (by omega)
        have hneN : ¬ d = m3 := by omega
        clear hw hwl
        go_enter Try.func69, Try.ntmps69
        go_wp2_with fail
        go_at_call 104
        refine (HRUN.out _ (by (repeat (first | assumption | refine LinesAt.ovr ?_ _ | refine LinesAt.alloc ?_ _ | refine LinesAt.drewN ?_ _ | refine LinesAt.drew ?_)))).mono ?_
        rintro e w1 ⟨v, rfl, hrow, hbl⟩
        obtain ⟨va, vcap, rfl⟩ := own_slice hrow
        rw [HNL.out]
        obtain ⟨x1, rfl⟩ := ovr_of_below hbl
        clear hbl hrow
        go_wp2
        refine bodyPost_ret (v := rngV noR) (by simp [results, Try.results69, go_sem, noR]) rfl ⟨by rw [HY.out], by (repeat (first | with_reducible exact Below.refl _ _ | (with_reducible refine Below.setCell ?_ ?_ _; rotate_left; · (first | exact Nat.le_refl _ | assumption | omega | (simp; done) | (simp; omega))) | (with_reducible refine Below.alloc ?_ ?_ _; rotate_left; · (first | exact Nat.le_refl _ | assumption | omega | (simp; done) | (simp; omega))) | with_reducible refine below_ovr_of ?_ | with_reducible refine drew_below ?_ _ | with_reducible refine Below.drew ?_ | with_reducible assumption))⟩
  · have HY := Lib.hid (paraOP_no (around := true) h)
    go_enter Try.func69, Try.ntmps69
    go_wp2_with (go_at_call 104; refine (pblocks_no _ _ L _ _ _ _ (by (repeat (first | assumption | refine LinesAt.ovr ?_ _ | refine LinesAt.alloc ?_ _ | refine LinesAt.drewN ?_ _ | refine LinesAt.drew ?_))) h).mono ?_; rintro e w1 ⟨rfl, hbl⟩; obtain ⟨x, rfl⟩ := ovr_of_below hbl; clear hbl)
    refine bodyPost_ret (v := rngV noR) (by simp [results, Try.results69, go_sem, noR]) rfl ⟨by rw [HY.out], by (repeat (first | with_reducible exact Below.refl _ _ | (with_reducible refine Below.setCell ?_ ?_ _; rotate_left; · (first | exact Nat.le_refl _ | assumption | omega | (simp; done) | (simp; omega))) | (with_reducible refine Below.alloc ?_ ?_ _; rotate_left; · (first | exact Nat.le_refl _ | assumption | omega | (simp; done) | (simp; omega))) | with_reducible refine below_ovr_of ?_ | with_reducible refine drew_below ?_ _ | with_reducible refine Below.drew ?_ | with_reducible assumption))⟩
end Go.Proofs.Ytnaceobbbfbhhaa
