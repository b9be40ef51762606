/- The contracts of the reference's lists of places behind and ahead. Conditions: none beyond what each says. -/
import Derived.Test.YtnaceobbbfbhhaaSent4
import Derived.Test.YtnaceobbbfbhhaaPara2
namespace Go.Proofs.Ytnaceobbbfbhhaa
open Go.RowKit Go.Shelf

/-- The places behind one; those ahead of it, the last first. -/
def behR (l c : Int) (R : List (Nat × Nat)) : List (Nat × Nat) := R.filter (fun s => lessB l c (s.1 : Int) (s.2 : Int))
def ahdR (l c : Int) (R : List (Nat × Nat)) : List (Nat × Nat) := (R.filter (fun s => lessB (s.1 : Int) (s.2 : Int) l c)).reverse
theorem behR_len (l c : Int) (R : List (Nat × Nat)) : (behR l c R).length ≤ R.length := List.length_filter_le _ _
theorem ahdR_len (l c : Int) (R : List (Nat × Nat)) : (ahdR l c R).length ≤ R.length := by rw [ahdR, List.length_reverse]; exact List.length_filter_le _ _
theorem behR_step {l c : Int} {R : List (Nat × Nat)} {k : Nat} (hk : k < R.length) : behR l c (R.take (k + 1)) = behR l c (R.take k) ++ (if lessB l c ((R.getD k (0, 0)).1 : Int) ((R.getD k (0, 0)).2 : Int) = true then [R.getD k (0, 0)] else []) := by
  rw [take_snoc_getD R (0, 0) k hk, behR, behR, List.filter_append]
  congr 1
  rw [List.filter_cons, List.filter_nil]
theorem ahdR_step {l c : Int} {R : List (Nat × Nat)} {k : Nat} (hk : k < R.length) : ahdR l c (R.drop k) = ahdR l c (R.drop (k + 1)) ++ (if lessB ((R.getD k (0, 0)).1 : Int) ((R.getD k (0, 0)).2 : Int) l c = true then [R.getD k (0, 0)] else []) := by
  have e : R.drop k = R.getD k (0, 0) :: R.drop (k + 1) := by
    rw [List.drop_eq_getElem_cons hk, List.getD_eq_getElem?_getD, List.getElem?_eq_getElem hk]; rfl
  rw [e, ahdR, ahdR, List.filter_cons]
  split
  · rw [List.reverse_cons]
  · rw [List.append_nil]
theorem cell_two_new' {w : World} {n : Nat} (h : n = w.heap.size) (a b : Value) (t : TypeId) : ∀ j u, [a, b][j]? = some u → (w.alloc (.cells #[a, b] t)).cell? ((⟨n, 0, none⟩ : Addr).add j) = some u := by
  subst h
  exact cell_two_new w a b t
theorem own_ovr {w x : World} {base size k : Nat} {t : TypeId} {v : Value} {xs : List Value} (h : w.ownsRow base t size v k xs) : (ovr w x).ownsRow base t size v k xs := h.kept (grown_below (below_ovr w x)) (by
  cases hv : v.ownBlock with
  | none => exact .inl rfl
  | some j => exact .inr (by simp))
set_option maxRecDepth 100000 in
set_option maxHeartbeats 4000000 in
theorem rbehind_any (a : Option Addr) (cap : Nat) (R : List (Nat × Nat)) (l c : Int) (w : World) (ha : PairsAt w a R) (hR : R.length ≤ 100000) : Calls Try.prog 87 #[.slice a R.length cap, .agg #[.int .i64 l, .int .i64 c], .bool false] w fun e w' =>
    ∃ v, e = .returned v ∧ w'.ownsRow w.heap.size 46 2 v (behR l c R).length (cellsV (behR l c R)) ∧ Below w.heap.size w w' := by
  obtain ⟨i0, hi, hz0, hz1, hz2⟩ := info_parts infoPos
  obtain ⟨B, hB0⟩ : ∃ B, behR l c R = B := ⟨_, rfl⟩
  rw [hB0]
  have HB := Lib.hid hB0
  clear hB0
  go_enter Try.func87, Try.ntmps87
  go_wp2
  refine name_world ?_
  intro W0 hW0
  have p0 : W0.cell? ⟨w.heap.size, 0, none⟩ = some (.int .i64 l) := by rw [hW0]; simp [go_sem]
  have p1 : W0.cell? ⟨w.heap.size, 1, none⟩ = some (.int .i64 c) := by rw [hW0]; simp [go_sem]
  have hb0 : Below w.heap.size w W0 := by rw [hW0]; (repeat (first | with_reducible exact Below.refl _ _ | (with_reducible refine Below.setCell ?_ ?_ _; rotate_left; · (first | exact Nat.le_refl _ | assumption | omega | (simp; done) | (simp; omega))) | (with_reducible refine Below.alloc ?_ ?_ _; rotate_left; · (first | exact Nat.le_refl _ | assumption | omega | (simp; done) | (simp; omega))) | with_reducible refine below_ovr_of ?_ | with_reducible refine drew_below ?_ _ | with_reducible refine Below.drew ?_ | with_reducible assumption))
  have hs0 : W0.heap.size = w.heap.size + 1 := by rw [hW0]; simp
  clear hW0
  go_loopw [7, 8] (fun v i wr => ∃ (k : Nat) (pre : List (Nat × Nat)), k ≤ R.length ∧ i = .int .i64 k ∧ pre.length ≤ k ∧ Hid (behR l c (R.take k) = pre) ∧ wr.ownsRow W0.heap.size 46 2 v pre.length (cellsV pre) ∧ Below W0.heap.size W0 wr)
    (fun _ i _ => R.length - (intOf i).toNat)
  case atStart => exact ⟨0, [], Nat.zero_le _, rfl, Nat.le_refl _, Lib.hid rfl, World.ownsRow_nil _ _ _ _, Below.refl _ _⟩
  case round =>
    obtain ⟨k, pre, hk, rfl, hp, HP, hrow, hB⟩ := hrel
    have c0 := cell_keep_b hB p0
    have c1 := cell_keep_b hB p1
    have lw : w.heap.size < wr.heap.size := by have := hB.size; omega
    by_cases hlt : k < R.length
    · have hltI : (k : Int) < (R.length : Int) := by omega
      have hk0 : (0 : Int) ≤ (k : Int) := by omega
      have haV := (ha.below hb0 (Nat.le_refl _)).below hB (Nat.le_refl _)
      obtain ⟨g, rfl, hg, d0, d1⟩ := haV k hlt
      have hst := behR_step (l := l) (c := c) hlt
      obtain ⟨⟨x, y⟩, hxy⟩ : ∃ p, R.getD k (0, 0) = p := ⟨_, rfl⟩
      rw [hxy] at d0 d1 hst
      rw [HP.out] at hst
      simp only at d0 d1 hst
      obtain ⟨q, hq⟩ : ∃ q, lessB l c (x : Int) (y : Int) = q := ⟨_, rfl⟩
      rw [hq] at hst
      have HQ2 := Lib.hid hq
      clear hxy hq haV
      cases q with
      | false =>
        have HP2 : Hid (behR l c (R.take (k + 1)) = pre) := Lib.hid (by rw [hst]; simp)
        clear hst HP
        go_wp2
        (refine wp_region_ovr (by kernel_rfl) (by kernel_rfl) ?_; (repeat (go_big_quiet_step ((go_at_call 58; exact quiet_ovr (rless_at _ _ _ _ _ HQ2))))); refine wpQuiet_nil ?_; rintro _ ⟨zq, rfl⟩)
        have hrow1 := own_ovr (x := zq) hrow
        go_wp2
        go_roundw
        case rel => exact ⟨k + 1, pre, by omega, by go_num, by omega, HP2, hrow1, hB.trans ((below_ovr wr zq).mono (by have := hB.size; omega))⟩
        case measure => simp [intOf]; omega
      | true =>
        have HP2 : Hid (behR l c (R.take (k + 1)) = pre ++ [(x, y)]) := Lib.hid (by rw [hst]; simp)
        have HC := Lib.hid (cellsV_snoc pre (x, y))
        clear hst HP
        go_wp2
        (refine wp_region_ovr (by kernel_rfl) (by kernel_rfl) ?_; (repeat (go_big_quiet_step ((go_at_call 58; exact quiet_ovr (rless_at _ _ _ _ _ HQ2))))); refine wpQuiet_nil ?_; rintro _ ⟨zq, rfl⟩)
        have hrow1 := own_ovr (x := zq) hrow
        have hB1 := hB.trans ((below_ovr wr zq).mono (by have := hB.size; omega))
        have d0' := cell_keep_b (below_ovr wr zq) d0
        have d1' := cell_keep_b (below_ovr wr zq) d1
        go_wp2_with (at_builtin; refine wpList_append_own _ rfl _ _ 48 rfl W0.heap.size 46 i0 (.agg #[.int .i64 0, .int .i64 0]) 2 16 Try.underlying48 hi hz0 hz1 hz2 rfl (by decide) _ _ _ rfl (hrow1.alloc _) ⟨wr.heap.size + zq.heap.size, 0, none⟩ 1 1 [.int .i64 (x : Int), .int .i64 (y : Int)] rfl rfl (cell_two_new' (by simp) _ _ _) (by intro u hu; simp at hu; rcases hu with rfl | rfl <;> rfl) (by unfold maxLen; omega) (by omega) (by have := hB1.size; simp at this ⊢; omega) ?_; intro v' w1 hown' hgrow _)
        have hB2 : Below W0.heap.size W0 w1 := (hB1.alloc hB1.size _).grown hgrow (by have := hB1.size; simp at this ⊢; omega) (fun r e => (hrow1.lt r e).1)
        go_roundw
        case rel => exact ⟨k + 1, pre ++ [(x, y)], by omega, by go_num, by simp; omega, HP2, by rw [HC.out]; simpa using hown', hB2⟩
        case measure => simp [intOf]; omega
    · have e : pre = B := by rw [← HP.out, List.take_of_length_le (by omega)]; exact HB.out
      subst e
      go_wp2
      go_ret
      exact ⟨_, rfl, row_base hrow (by omega), hb0.trans (hB.mono (by omega))⟩
end Go.Proofs.Ytnaceobbbfbhhaa
