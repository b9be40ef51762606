/- The contracts of the references' motions by sentences. Conditions: none beyond what each says. -/
import Derived.Test.YtnaceobbbfbhhaaSent5
import Derived.Deep.RegionHeld3
namespace Go.Proofs.Ytnaceobbbfbhhaa
open Go.RowKit Go.Shelf

def jumpM (s : Nat × Nat) : Mov × Bool := (((s.1 : Int), (s.2 : Int), 0, true, -1), true)
def sentNextO (B : List (Nat × Nat)) (l c : Int) (e ec : Nat) (op : Bool) (m : Nat) : Mov × Bool :=
  if m ≤ B.length then jumpM (B.getD (m - 1) (0, 0)) else if op = true ∧ m = B.length + 1 ∧ lessB l c (e : Int) (ec : Int) = true then jumpM (e, ec) else noMov
/-- The n-th sentence behind a place; the text's end, for an operator. -/
def sentNextP (L : List ByteArray) (pl pc n : Int) (op : Bool) : Mov × Bool :=
  if plcB L pl pc = true ∧ 1 ≤ n then sentNextO (behR pl pc (sentP L)) pl pc (L.length - 1) (L.getD (L.length - 1) .empty).size op n.toNat else noMov
def sentBackO (A : List (Nat × Nat)) (m : Nat) : Mov × Bool := if m ≤ A.length then jumpM (A.getD (m - 1) (0, 0)) else noMov
def sentBackP (L : List ByteArray) (pl pc n : Int) : Mov × Bool := if plcB L pl pc = true ∧ 1 ≤ n then sentBackO (ahdR pl pc (sentP L)) n.toNat else noMov
theorem sentNextP_no {L : List ByteArray} {pl pc n : Int} {op : Bool} (h : ¬ (plcB L pl pc = true ∧ 1 ≤ n)) : sentNextP L pl pc n op = noMov := by rw [sentNextP, if_neg h]
theorem sentBackP_no {L : List ByteArray} {pl pc n : Int} (h : ¬ (plcB L pl pc = true ∧ 1 ≤ n)) : sentBackP L pl pc n = noMov := by rw [sentBackP, if_neg h]
theorem sent_in {L : List ByteArray} {pl pc n : Int} (h : plcB L pl pc = true ∧ 1 ≤ n) : ∃ l c m : Nat, pl = l ∧ pc = c ∧ n = m ∧ l < L.length ∧ 1 ≤ m ∧ (∀ op, sentNextP L l c m op = sentNextO (behR l c (sentP L)) l c (L.length - 1) (L.getD (L.length - 1) .empty).size op m) ∧ sentBackP L l c m = sentBackO (ahdR l c (sentP L)) m := by
  obtain ⟨h1, h2⟩ := h
  obtain ⟨p1, p2, p3, p4⟩ := plcB_spec h1
  obtain ⟨l, rfl⟩ := Int.eq_ofNat_of_zero_le p1
  obtain ⟨c, rfl⟩ := Int.eq_ofNat_of_zero_le p3
  obtain ⟨m, rfl⟩ := Int.eq_ofNat_of_zero_le (show 0 ≤ n by omega)
  exact ⟨l, c, m, rfl, rfl, rfl, by omega, by omega, fun op => by rw [sentNextP, if_pos ⟨h1, h2⟩]; rfl, by rw [sentBackP, if_pos ⟨h1, h2⟩]; rfl⟩
theorem sentNextO_in {B : List (Nat × Nat)} {l c : Int} {e ec m x y : Nat} {op : Bool} (h : m ≤ B.length) (hx : B.getD (m - 1) (0, 0) = (x, y)) : sentNextO B l c e ec op m = (((x : Int), (y : Int), 0, true, -1), true) := by rw [sentNextO, if_pos h, hx]; rfl
theorem sentNextO_end {B : List (Nat × Nat)} {l c : Int} {e ec m : Nat} (h : m = B.length + 1) (hl : lessB l c (e : Int) (ec : Int) = true) : sentNextO B l c e ec true m = (((e : Int), (ec : Int), 0, true, -1), true) := by rw [sentNextO, if_neg (by omega), if_pos ⟨rfl, h, hl⟩]; rfl
theorem sentNextO_no {B : List (Nat × Nat)} {l c : Int} {e ec m : Nat} {op : Bool} (h : ¬ m ≤ B.length) (hl : ¬ (op = true ∧ m = B.length + 1 ∧ lessB l c (e : Int) (ec : Int) = true)) : sentNextO B l c e ec op m = noMov := by rw [sentNextO, if_neg h, if_neg hl]
set_option maxRecDepth 100000 in
set_option maxHeartbeats 4000000 in
theorem rahead_any (a : Option Addr) (cap : Nat) (R : List (Nat × Nat)) (l c : Int) (w : World) (ha : PairsAt w a R) (hR : R.length ≤ 100000) : Calls Try.prog 88 #[.slice a R.length cap, .agg #[.int .i64 l, .int .i64 c]] w fun e w' =>
    ∃ v, e = .returned v ∧ w'.ownsRow w.heap.size 46 2 v (ahdR l c R).length (cellsV (ahdR l c R)) ∧ Below w.heap.size w w' := by
  obtain ⟨i0, hi, hz0, hz1, hz2⟩ := info_parts infoPos
  obtain ⟨B, hB0⟩ : ∃ B, ahdR l c R = B := ⟨_, rfl⟩
  rw [hB0]
  have HB := Lib.hid hB0
  clear hB0
  go_enter Try.func88, Try.ntmps88
  go_wp2
  refine name_world ?_
  intro W0 hW0
  have p0 : W0.cell? ⟨w.heap.size, 0, none⟩ = some (.int .i64 l) := by rw [hW0]; simp [go_sem]
  have p1 : W0.cell? ⟨w.heap.size, 1, none⟩ = some (.int .i64 c) := by rw [hW0]; simp [go_sem]
  have hb0 : Below w.heap.size w W0 := by rw [hW0]; (repeat (first | with_reducible exact Below.refl _ _ | (with_reducible refine Below.setCell ?_ ?_ _; rotate_left; · (first | exact Nat.le_refl _ | assumption | omega | (simp; done) | (simp; omega))) | (with_reducible refine Below.alloc ?_ ?_ _; rotate_left; · (first | exact Nat.le_refl _ | assumption | omega | (simp; done) | (simp; omega))) | with_reducible refine below_ovr_of ?_ | with_reducible refine drew_below ?_ _ | with_reducible refine Below.drew ?_ | with_reducible assumption))
  have hs0 : W0.heap.size = w.heap.size + 1 := by rw [hW0]; simp
  clear hW0
  go_loopw [5, 6] (fun v i wr => ∃ (k : Nat) (pre : List (Nat × Nat)), k ≤ R.length ∧ i = .int .i64 ((k : Int) - 1) ∧ pre.length + k ≤ R.length ∧ Hid (ahdR l c (R.drop k) = pre) ∧ wr.ownsRow W0.heap.size 46 2 v pre.length (cellsV pre) ∧ Below W0.heap.size W0 wr)
    (fun _ i _ => (intOf i + 1).toNat)
  case atStart => exact ⟨R.length, [], Nat.le_refl _, by go_num, by simp, Lib.hid (by rw [List.drop_length]; rfl), World.ownsRow_nil _ _ _ _, Below.refl _ _⟩
  case round =>
    obtain ⟨k', pre, hk, rfl, hp, HP, hrow, hB⟩ := hrel
    have c0 := cell_keep_b hB p0
    have c1 := cell_keep_b hB p1
    have lw : w.heap.size < wr.heap.size := by have := hB.size; omega
    rcases k' with _ | k
    · have e : pre = B := by rw [← HP.out, List.drop_zero]; exact HB.out
      subst e
      have e0 : ((0 : Nat) : Int) - 1 = -1 := by omega
      rw [e0]
      clear e0
      go_wp2
      go_ret
      exact ⟨_, rfl, row_base hrow (by omega), hb0.trans (hB.mono (by omega))⟩
    · have e0 : ((k + 1 : Nat) : Int) - 1 = (k : Int) := by omega
      rw [e0]
      clear e0
      have hlt : k < R.length := by omega
      have hltI : (k : Int) < (R.length : Int) := by omega
      have hk0 : (0 : Int) ≤ (k : Int) := by omega
      have haV := (ha.below hb0 (Nat.le_refl _)).below hB (Nat.le_refl _)
      obtain ⟨g, rfl, hg, d0, d1⟩ := haV k hlt
      have hst := ahdR_step (l := l) (c := c) hlt
      obtain ⟨⟨x, y⟩, hxy⟩ : ∃ p, R.getD k (0, 0) = p := ⟨_, rfl⟩
      rw [hxy] at d0 d1 hst
      rw [HP.out] at hst
      simp only at d0 d1 hst
      obtain ⟨q, hq⟩ : ∃ q, lessB (x : Int) (y : Int) l c = q := ⟨_, rfl⟩
      rw [hq] at hst
      have HQ2 := Lib.hid hq
      clear hxy hq haV
      cases q with
      | false =>
        have HP2 : Hid (ahdR l c (R.drop k) = pre) := Lib.hid (by rw [hst]; simp)
        clear hst HP
        go_wp2
        (refine wp_region_ovr (by kernel_rfl) (by kernel_rfl) ?_; (repeat (go_big_quiet_step ((go_at_call 58; exact quiet_ovr (rless_at _ _ _ _ _ HQ2))))); refine wpQuiet_nil ?_; rintro _ ⟨zq, rfl⟩)
        have hrow1 := own_ovr (x := zq) hrow
        go_wp2
        go_roundw
        case rel => exact ⟨k, pre, by omega, by go_num, by omega, HP2, hrow1, hB.trans ((below_ovr wr zq).mono (by have := hB.size; omega))⟩
        case measure => simp [intOf] <;> omega
      | true =>
        have HP2 : Hid (ahdR l c (R.drop k) = pre ++ [(x, y)]) := Lib.hid (by rw [hst]; simp)
        have HC := Lib.hid (cellsV_snoc pre (x, y))
        clear hst HP
        go_wp2
        (refine wp_region_ovr (by kernel_rfl) (by kernel_rfl) ?_; (repeat (go_big_quiet_step ((go_at_call 58; exact quiet_ovr (rless_at _ _ _ _ _ HQ2))))); refine wpQuiet_nil ?_; rintro _ ⟨zq, rfl⟩)
        have hrow1 := own_ovr (x := zq) hrow
        have hB1 := hB.trans ((below_ovr wr zq).mono (by have := hB.size; omega))
        have d0' := cell_keep_b (below_ovr wr zq) d0
        have d1' := cell_keep_b (below_ovr wr zq) d1
        go_wp2_with (at_builtin; refine wpList_append_own _ rfl _ _ 48 rfl W0.heap.size 46 i0 (.agg #[.int .i64 0, .int .i64 0]) 2 16 Try.underlying48 hi hz0 hz1 hz2 rfl (by decide) _ _ _ rfl (hrow1.alloc _) ⟨wr.heap.size + zq.heap.size, 0, none⟩ 1 1 [.int .i64 (x : Int), .int .i64 (y : Int)] rfl rfl (cell_two_new' (by simp) _ _ _) (by intro u hu; simp at hu; rcases hu with rfl | rfl <;> rfl) (by unfold maxLen; omega) (by omega) (by have := hB1.size; simp at this ⊢; omega) ?_; intro v' w1 hown' hgrow _)
        have hB2 : Below W0.heap.size W0 w1 := (hB1.alloc hB1.size _).grown hgrow (by have := hB1.size; simp at this ⊢; omega) (fun r e => (hrow1.lt r e).1)
        go_roundw
        case rel => exact ⟨k, pre ++ [(x, y)], by omega, by go_num, by simp; omega, HP2, by rw [HC.out]; simpa using hown', hB2⟩
        case measure => simp [intOf] <;> omega
end Go.Proofs.Ytnaceobbbfbhhaa
