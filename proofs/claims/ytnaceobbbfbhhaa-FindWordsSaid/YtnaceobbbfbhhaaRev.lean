/- The contract of slices.Reverse, of places. Conditions: lengths that a machine bears. -/
import Derived.Test.YtnaceobbbfbhhaaAppSrc
import Derived.Test.YtnaceobbbfbhhaaPara
namespace Go.Proofs.Ytnaceobbbfbhhaa
open Go.RowKit Go.Shelf

/-- A list of which the first i and the last i have changed places. -/
def revS (R : List (Nat × Nat)) (i : Nat) : List (Nat × Nat) := (List.range R.length).map (fun j => if j < i ∨ R.length ≤ j + i then R.getD (R.length - 1 - j) (0, 0) else R.getD j (0, 0))
theorem revS_len (R : List (Nat × Nat)) (i : Nat) : (revS R i).length = R.length := by simp [revS]
theorem revS_getD {R : List (Nat × Nat)} {i j : Nat} (h : j < R.length) : (revS R i).getD j (0, 0) = if j < i ∨ R.length ≤ j + i then R.getD (R.length - 1 - j) (0, 0) else R.getD j (0, 0) := by
  rw [List.getD_eq_getElem?_getD, revS, List.getElem?_map, List.getElem?_range h]; rfl
theorem ext_getD {A B : List (Nat × Nat)} (h : A.length = B.length) (hh : ∀ j, j < A.length → A.getD j (0, 0) = B.getD j (0, 0)) : A = B := by
  refine List.ext_getElem h fun j h1 h2 => ?_
  have := hh j h1
  rw [List.getD_eq_getElem?_getD, List.getD_eq_getElem?_getD, List.getElem?_eq_getElem h1, List.getElem?_eq_getElem h2] at this
  exact this
theorem revS_zero (R : List (Nat × Nat)) : revS R 0 = R := ext_getD (revS_len R 0) fun j hj => by
  rw [revS_len] at hj
  rw [revS_getD hj, if_neg (by omega)]
theorem revS_end {R : List (Nat × Nat)} {i : Nat} (h : R.length ≤ i + i + 1) : revS R i = R.reverse := ext_getD (by rw [revS_len, List.length_reverse]) fun j hj => by
  rw [revS_len] at hj
  have e : R.reverse.getD j (0, 0) = R.getD (R.length - 1 - j) (0, 0) := by
    rw [List.getD_eq_getElem?_getD, List.getD_eq_getElem?_getD, List.getElem?_reverse hj]
  rw [revS_getD hj, e]
  split
  · rfl
  · rw [show R.length - 1 - j = j by omega]
theorem revS_step {R : List (Nat × Nat)} {i k : Nat} (h : i < k) (hk : k + i + 1 = R.length) : ((revS R i).set i (R.getD k (0, 0))).set k (R.getD i (0, 0)) = revS R (i + 1) := ext_getD (by simp [revS_len]) fun j hj => by
  have hj' : j < R.length := by simpa [revS_len] using hj
  have hl := revS_len R i
  rw [revS_getD (i := i + 1) hj', List.getD_eq_getElem?_getD, List.getElem?_set, List.getElem?_set]
  simp only [List.length_set, hl]
  by_cases e1 : k = j
  · subst e1
    rw [if_pos rfl, if_pos hj', if_pos (by omega), show R.length - 1 - k = i by omega]; rfl
  · rw [if_neg e1]
    by_cases e2 : i = j
    · subst e2
      rw [if_pos rfl, if_pos hj', if_pos (by omega), show R.length - 1 - i = k by omega]; rfl
    · rw [if_neg e2, ← List.getD_eq_getElem?_getD, revS_getD hj']
      by_cases c : j < i ∨ R.length ≤ j + i
      · rw [if_pos c, if_pos (by omega)]
      · rw [if_neg c, if_neg (by omega)]
theorem cellsV_setAt : ∀ (S : List (Nat × Nat)) (i x y : Nat), i < S.length → ((cellsV S).set (i * 2) (.int .i64 (x : Int))).set (i * 2 + 1) (.int .i64 (y : Int)) = cellsV (S.set i (x, y))
  | [], i, x, y, h => by simp at h
  | p :: S, 0, x, y, h => by simp [cellsV]
  | p :: S, i + 1, x, y, h => by
    have := cellsV_setAt S i x y (by simpa using h)
    rw [show (i + 1) * 2 = i * 2 + 1 + 1 by omega, cellsV, List.set_cons_succ, List.set_cons_succ, List.set_cons_succ, List.set_cons_succ, this]
    rfl
theorem grown_drew' (w : World) (r : Option Nat) : w.grownBy w.drew r := ⟨rfl, rfl, rfl, Nat.le_refl _, fun _ _ _ => rfl⟩
set_option maxRecDepth 100000 in
set_option maxHeartbeats 4000000 in
theorem prev_any (base : Nat) (v : Value) (R : List (Nat × Nat)) (w : World) (hrow : w.ownsRow base 46 2 v R.length (cellsV R)) (hR : R.length ≤ 100000) :
    Calls Try.prog 83 #[v] w fun e w' => (∃ x, e = .returned x) ∧ w'.ownsRow base 46 2 v R.length (cellsV R.reverse) ∧ w.grownBy w' v.ownBlock := by
  obtain ⟨a, cap, rfl, hp⟩ := pairs_of_owns hrow
  by_cases h1 : R.length ≤ 1
  · have e : R.reverse = R := by rw [← revS_end (i := 0) (by omega), revS_zero]
    have hlt : ¬ (0 : Int) < (R.length : Int) - 1 := by omega
    rw [e]
    clear e
    go_enter Try.func83, Try.ntmps83
    go_wp2
    go_loop [2, 3] (fun i j => i = .int .i64 0 ∧ j = .int .i64 ((R.length : Int) - 1)) (fun _ _ => 0)
    case atStart => exact ⟨rfl, rfl⟩
    case round =>
      obtain ⟨rfl, rfl⟩ := hrel
      go_wp2
      go_end0
      exact ⟨⟨_, rfl⟩, hrow, World.grownBy.refl _ _⟩
  · obtain ⟨g, rfl⟩ : ∃ g, a = some ⟨g, 0, none⟩ := by obtain ⟨g, e, _⟩ := hp 0 (by omega); exact ⟨g, e⟩
    clear hp
    go_enter Try.func83, Try.ntmps83
    go_wp2
    go_loopw [2, 3] (fun i j wr => ∃ k q : Nat, i = .int .i64 k ∧ j = .int .i64 q ∧ q + k + 1 = R.length ∧ k ≤ q + 1 ∧ wr.ownsRow base 46 2 (.slice (some ⟨g, 0, none⟩) R.length cap) R.length (cellsV (revS R k)) ∧ w.grownBy wr (some g)) (fun _ j _ => (intOf j).toNat)
    case atStart => exact ⟨0, R.length - 1, rfl, by congr 1; omega, by omega, by omega, by rw [revS_zero]; exact hrow, World.grownBy.refl _ _⟩
    case round =>
      obtain ⟨k, q, rfl, rfl, hkq, hle, hro, hgr⟩ := hrel
      by_cases hlt : k < q
      · have hltI : (k : Int) < (q : Int) := by omega
        obtain ⟨_, _, e', hpV⟩ := pairs_of_owns (rs := revS R k) (by rw [revS_len]; exact hro)
        simp only [Value.slice.injEq] at e'
        obtain ⟨rfl, -, rfl⟩ := e'
        obtain ⟨g', e', hg, c1, c2⟩ := hpV k (by rw [revS_len]; omega)
        cases e'
        obtain ⟨g', e', _, d1, d2⟩ := hpV q (by rw [revS_len]; omega)
        cases e'
        rw [revS_getD (by omega), if_neg (by omega)] at c1 c2
        rw [revS_getD (by omega), if_neg (by omega)] at d1 d2
        have hst := revS_step (R := R) hlt (by omega)
        obtain ⟨⟨xk, yk⟩, hxk⟩ : ∃ p, R.getD k (0, 0) = p := ⟨_, rfl⟩
        obtain ⟨⟨xq, yq⟩, hxq⟩ : ∃ p, R.getD q (0, 0) = p := ⟨_, rfl⟩
        rw [hxk, hxq] at hst
        rw [hxk] at c1 c2
        rw [hxq] at d1 d2
        simp only at c1 c2 d1 d2
        have fz := hro.frozenAt
        have f1 := fz (k * 2)
        have f2 := fz (k * 2 + 1)
        have f3 := fz (q * 2)
        have f4 := fz (q * 2 + 1)
        have hfin : (((((wr.setCell ⟨g, k * 2, none⟩ (.int .i64 (xq : Int))).setCell ⟨g, k * 2 + 1, none⟩ (.int .i64 (yq : Int))).setCell ⟨g, q * 2, none⟩ (.int .i64 (xk : Int))).setCell ⟨g, q * 2 + 1, none⟩ (.int .i64 (yk : Int))).drew).ownsRow base 46 2 (.slice (some ⟨g, 0, none⟩) R.length cap) R.length (cellsV (revS R (k + 1))) ∧
            w.grownBy ((((wr.setCell ⟨g, k * 2, none⟩ (.int .i64 (xq : Int))).setCell ⟨g, k * 2 + 1, none⟩ (.int .i64 (yq : Int))).setCell ⟨g, q * 2, none⟩ (.int .i64 (xk : Int))).setCell ⟨g, q * 2 + 1, none⟩ (.int .i64 (yk : Int))).drew (some g) := by
          obtain ⟨r1, g1⟩ := hro.stored (k * 2) (.int .i64 (xq : Int))
          obtain ⟨r2, g2⟩ := r1.stored (k * 2 + 1) (.int .i64 (yq : Int))
          obtain ⟨r3, g3⟩ := r2.stored (q * 2) (.int .i64 (xk : Int))
          obtain ⟨r4, g4⟩ := r3.stored (q * 2 + 1) (.int .i64 (yk : Int))
          rw [cellsV_setAt _ _ _ _ (by rw [revS_len]; omega), cellsV_setAt _ _ _ _ (by simp [revS_len]; omega), hst] at r4
          exact ⟨r4, ((((hgr.trans g1).trans g2).trans g3).trans g4).trans (grown_drew' _ _)⟩
        have HF := Lib.hid hfin
        clear hst hfin hro hgr
        have hk0 : (0 : Int) ≤ (k : Int) := by omega
        have hq0 : (0 : Int) ≤ (q : Int) := by omega
        have hkR : (k : Int) < (R.length : Int) := by omega
        have hqR : (q : Int) < (R.length : Int) := by omega
        clear hpV hxk hxq fz
        go_wp2
        go_region
        go_wp2
        go_roundw
        case rel => exact ⟨k + 1, q - 1, by go_num, by congr 1; omega, by omega, by omega, HF.out.1, HF.out.2⟩
        case measure => simp [intOf]; omega
      · have hltI : ¬ (k : Int) < (q : Int) := by omega
        go_wp2
        go_end0
        exact ⟨⟨_, rfl⟩, by rw [← revS_end (i := k) (by omega)]; exact hro, hgr⟩
end Go.Proofs.Ytnaceobbbfbhhaa
