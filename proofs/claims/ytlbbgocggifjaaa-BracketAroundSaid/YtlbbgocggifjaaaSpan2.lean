/- The contracts of Columns, Text of package span. Conditions: none beyond what each says. -/
import Derived.Test.YtlbbgocggifjaaaSpan
namespace Go.Proofs.Ytlbbgocggifjaaa
open Go.RowKit
set_option maxRecDepth 100000

theorem colsP_char (n : Nat) (fl fc tl tc i : Int) : colsP n 0 fl fc tl tc i = (if i = fl then fc else 0, if i = tl then tc else n) := by simp [colsP]
theorem colsP_block (n : Nat) (fl fc tl tc i : Int) : colsP n 2 fl fc tl tc i = (min fc n, min tc ((n : Int) - 1) + 1) := by simp [colsP]
theorem colsP_else (n : Nat) (k fl fc tl tc i : Int) (h0 : k ≠ 0) (h2 : k ≠ 2) : colsP n k fl fc tl tc i = (0, (n : Int)) := by simp [colsP, h0, h2]
theorem eq_ways (a b : Int) : ((a == b) = true ∧ Hid (a = b)) ∨ ((a == b) = false ∧ Hid (¬ a = b)) := by
  by_cases h : a = b
  · exact .inl ⟨beq_iff_eq.2 h, h⟩
  · exact .inr ⟨beq_eq_false_iff_ne.2 h, h⟩
theorem ret_two {k : IntKind} {a b c d : Int} (h : a = c) (h' : b = d) : Ending.returned (.tuple #[.int k a, .int k b]) = Ending.returned (.tuple #[.int k c, .int k d]) := by rw [h, h']

set_option maxHeartbeats 1000000 in
theorem columns_any (a : Option Addr) (cap : Nat) (L : List ByteArray) (k fl fc tl tc : Int) (i : Nat) (s : ByteArray) (w : World) (hL : LinesAt w a L) (hi : i < L.length) (hs' : L.getD i .empty = s) (hv : k = 2 → 0 ≤ fc ∧ fc ≤ tc) :
    Calls Try.prog 142 #[.slice a L.length cap, .agg #[.int .i64 k, .int .i64 fl, .int .i64 fc, .int .i64 tl, .int .i64 tc], .int .i64 i] w fun e w' =>
      e = .returned (.tuple #[.int .i64 (colsP s.size k fl fc tl tc i).1, .int .i64 (colsP s.size k fl fc tl tc i).2]) ∧ Below w.heap.size w w' := by
  have hn := hL.2.1
  obtain ⟨b, off, rfl, hb, hcell, hs⟩ := hL.line hi
  rw [hs'] at hcell hs
  clear hs'
  have hi' : (i : Int) < (L.length : Int) := by omega
  have hi0 : (0 : Int) ≤ (i : Int) := by omega
  by_cases k0 : k = 0
  · subst k0
    clear hv
    have hy := Lib.hid (colsP_char s.size fl fc tl tc i)
    rcases eq_ways (i : Int) fl with ⟨b1, E1⟩ | ⟨b1, E1⟩ <;> rcases eq_ways (i : Int) tl with ⟨b2, E2⟩ | ⟨b2, E2⟩
    all_goals (
      go_enter Try.func142, Try.ntmps142
      go_wp2
      go_quiet (fail)
      go_wp2
      go_ret2
      have e1 := E1.out
      have e2 := E2.out
      exact ⟨ret_two (by rw [hy.out]; simp [e1]) (by rw [hy.out]; simp [e2]), by (repeat (first | exact Below.refl _ _ | refine Below.alloc ?_ (by first | exact Nat.le_refl _ | (simp; done) | (simp; omega)) _ | refine below_ovr_of ?_ | refine drew_below ?_ _ | refine Below.drew ?_ | refine Below.setCell ?_ (by first | exact Nat.le_refl _ | (simp; done) | (simp; omega)) _ | assumption))⟩)
  · by_cases k2 : k = 2
    · subst k2
      have hy := Lib.hid (colsP_block s.size fl fc tl tc i)
      have t0 : 0 ≤ tc := by have := hv rfl; omega
      clear hv k0
      rcases (by omega : fc ≤ (s.size : Int) ∨ (s.size : Int) < fc) with f1 | f1 <;> rcases (by omega : tc ≤ (s.size : Int) - 1 ∨ (s.size : Int) - 1 < tc) with f2 | f2
      all_goals (
        go_enter Try.func142, Try.ntmps142
        go_wp2
        go_quiet (fail)
        go_wp2
        go_quiet (fail)
        go_wp2
        go_ret2
        exact ⟨ret_two (by rw [hy.out]; dsimp only; omega) (by rw [hy.out]; dsimp only; omega), by (repeat (first | exact Below.refl _ _ | refine Below.alloc ?_ (by first | exact Nat.le_refl _ | (simp; done) | (simp; omega)) _ | refine below_ovr_of ?_ | refine drew_below ?_ _ | refine Below.drew ?_ | refine Below.setCell ?_ (by first | exact Nat.le_refl _ | (simp; done) | (simp; omega)) _ | assumption))⟩)
    · have hy := Lib.hid (colsP_else s.size k fl fc tl tc i k0 k2)
      clear hv
      go_enter Try.func142, Try.ntmps142
      go_wp2
      go_quiet (fail)
      go_wp2
      go_ret2
      exact ⟨ret_two (by rw [hy.out]) (by rw [hy.out]), by (repeat (first | exact Below.refl _ _ | refine Below.alloc ?_ (by first | exact Nat.le_refl _ | (simp; done) | (simp; omega)) _ | refine below_ovr_of ?_ | refine drew_below ?_ _ | refine Below.drew ?_ | refine Below.setCell ?_ (by first | exact Nat.le_refl _ | (simp; done) | (simp; omega)) _ | assumption))⟩

theorem infoStr : (Try.prog.info? 9).map (fun i => (i.zero, i.size, i.bytes)) = some (some (.string ByteArray.empty), 1, 16) := by kernel_rfl
/-- A text comes out, in memory of the call's own. -/
def LinesOut (w : World) (R : List ByteArray) (e : Ending) (w' : World) : Prop := ∃ a c, e = .returned (.slice a R.length c) ∧ Below w.heap.size w w' ∧ LinesAt w' a R

set_option maxHeartbeats 1000000 in
theorem spanText_any (a : Option Addr) (cap : Nat) (L : List ByteArray) (k fl fc tl tc : Int) (w : World) (hL : LinesAt w a L) (hn : L.length ≤ 100000) :
    Calls Try.prog 94 #[.slice a L.length cap, .agg #[.int .i64 k, .int .i64 fl, .int .i64 fc, .int .i64 tl, .int .i64 tc]] w (LinesOut w (spanT L k fl fc tl tc)) := by
  cases hv : validB L k fl fc tl tc with
  | false =>
    have hy := Lib.hid (spanT_no hv)
    go_enter Try.func94, Try.ntmps94
    go_wp2_with (go_at_call 92; refine (valid_any _ _ L _ _ _ _ _ _ (by (repeat (first | assumption | refine LinesAt.ovr ?_ _ | refine LinesAt.alloc ?_ _ | refine LinesAt.drewN ?_ _ | refine LinesAt.drew ?_)))).mono ?_; rintro e w1 ⟨rfl, hbl⟩; obtain ⟨x, rfl⟩ := ovr_of_below hbl; clear hbl)
    go_ret
    rw [hy.out]
    exact ⟨none, 0, rfl, by (repeat (first | exact Below.refl _ _ | refine Below.alloc ?_ (by first | exact Nat.le_refl _ | (simp; done) | (simp; omega)) _ | refine below_ovr_of ?_ | refine drew_below ?_ _ | refine Below.drew ?_ | refine Below.setCell ?_ (by first | exact Nat.le_refl _ | (simp; done) | (simp; omega)) _ | assumption)), fun i hi => absurd hi (by simp), by simp, by simp⟩
  | true =>
    have hvv := hv
    simp only [validB, Bool.and_eq_true, decide_eq_true_eq] at hvv
    obtain ⟨⟨⟨a1, a2⟩, a3⟩, a4⟩ := hvv
    obtain ⟨fl, rfl⟩ := Int.eq_ofNat_of_zero_le a1
    obtain ⟨tl, rfl⟩ := Int.eq_ofNat_of_zero_le (Int.le_trans a1 a2)
    have hk2 : k = 2 → 0 ≤ fc ∧ fc ≤ tc := fun h => by subst h; simpa using a4
    have hcols := fun (i : Int) h1 h2 => colsP_ok hv (i := i) h1 h2
    have hy := Lib.hid (spanT_yes hv)
    have HK := Lib.hid hk2
    have HC := Lib.hid hcols
    clear a4 hk2 hcols
    obtain ⟨i0, hi0, hz0, hz1, hz2⟩ := info_parts infoStr
    go_enter Try.func94, Try.ntmps94
    go_wp2_with (go_at_call 92; refine (valid_any _ _ L _ _ _ _ _ _ (by (repeat (first | assumption | refine LinesAt.ovr ?_ _ | refine LinesAt.alloc ?_ _ | refine LinesAt.drewN ?_ _ | refine LinesAt.drew ?_)))).mono ?_; rintro e w1 ⟨rfl, hbl⟩; obtain ⟨x, rfl⟩ := ovr_of_below hbl; clear hbl)
    refine name_world ?_
    intro W0 hW0
    have hL0 : LinesAt W0 a L := by rw [hW0]; (repeat (first | assumption | refine LinesAt.ovr ?_ _ | refine LinesAt.alloc ?_ _ | refine LinesAt.drewN ?_ _ | refine LinesAt.drew ?_))
    have hbel : Below w.heap.size w W0 := by rw [hW0]; (repeat (first | exact Below.refl _ _ | refine Below.alloc ?_ (by first | exact Nat.le_refl _ | (simp; done) | (simp; omega)) _ | refine below_ovr_of ?_ | refine drew_below ?_ _ | refine Below.drew ?_ | refine Below.setCell ?_ (by first | exact Nat.le_refl _ | (simp; done) | (simp; omega)) _ | assumption))
    have q0 : W0.cell? ⟨w.heap.size, 0, none⟩ = some (.int .i64 k) := by rw [hW0]; simp [go_sem]
    have q1 : W0.cell? ⟨w.heap.size, 1, none⟩ = some (.int .i64 fl) := by rw [hW0]; simp [go_sem]
    have q2 : W0.cell? ⟨w.heap.size, 2, none⟩ = some (.int .i64 fc) := by rw [hW0]; simp [go_sem]
    have q3 : W0.cell? ⟨w.heap.size, 3, none⟩ = some (.int .i64 tl) := by rw [hW0]; simp [go_sem]
    have q4 : W0.cell? ⟨w.heap.size, 4, none⟩ = some (.int .i64 tc) := by rw [hW0]; simp [go_sem]
    have hB : w.heap.size < W0.heap.size := by rw [hW0]; simp [go_sem]
    clear hW0 hL hv
    go_loopw [5, 6] (fun v i wr => ∃ (j : Nat) (a' : Option Addr) (c' : Nat) (x : World), fl + j ≤ tl + 1 ∧ i = .int .i64 ((fl + j : Nat) : Int) ∧ v = .slice a' j c' ∧ wr = ovr W0 x ∧
        (ovr W0 x).ownsRow W0.heap.size 9 1 (.slice a' j c') j (((List.range j).map (fun j => cutL L k fl fc tl tc (fl + j))).map Value.string)) (fun _ i _ => tl + 1 - (intOf i).toNat)
    case atStart => exact ⟨0, none, 0, { W0 with heap := #[] }, by omega, rfl, rfl, by simp [ovr], World.ownsRow_nil _ _ _ _⟩
    case round =>
      obtain ⟨j, a', c', x, hj, rfl, rfl, rfl, hown⟩ := hrel
      by_cases hlt : fl + j ≤ tl
      · have hij : fl + j < L.length := by omega
        obtain ⟨b, off, rfl, hb, hcell, hs⟩ := hL0.line hij
        have hc := HC.out ((fl + j : Nat) : Int) (by omega) (by omega)
        rw [Int.toNat_natCast] at hc
        obtain ⟨s, hs'⟩ : ∃ s, L.getD (fl + j) .empty = s := ⟨_, rfl⟩
        rw [hs'] at hcell hs hc
        have hcut : cutL L k fl fc tl tc (fl + j) = s.extract (colsP s.size k fl fc tl tc ((fl + j : Nat) : Int)).1.toNat (colsP s.size k fl fc tl tc ((fl + j : Nat) : Int)).2.toNat := by unfold cutL; rw [hs']
        have HS := Lib.hid hs'
        have HCUT := Lib.hid hcut
        have HOWN := Lib.hid hown
        clear hs' hcut hown
        have hltI : ((fl + j : Nat) : Int) ≤ (tl : Int) := by omega
        have hijI : ((fl + j : Nat) : Int) < (L.length : Int) := by omega
        obtain ⟨f, hf⟩ : ∃ f, (colsP s.size k fl fc tl tc ((fl + j : Nat) : Int)).1 = f := ⟨_, rfl⟩
        obtain ⟨g, hg⟩ : ∃ g, (colsP s.size k fl fc tl tc ((fl + j : Nat) : Int)).2 = g := ⟨_, rfl⟩
        have hcol := fun w h => columns_any (some ⟨b, off, none⟩) cap L k fl fc tl tc (fl + j) s w h hij HS.out HK.out
        rw [hf, hg] at hcol
        rw [hf, hg] at hc
        obtain ⟨g1, g2, g3⟩ := hc
        have HF := Lib.hid hf
        have HG := Lib.hid hg
        have HCOL := Lib.hid hcol
        clear hf hg hcol
        go_wp2_with fail
        go_at_call 142; refine (HCOL.out _ (by (repeat (first | assumption | refine LinesAt.ovr ?_ _ | refine LinesAt.alloc ?_ _ | refine LinesAt.drewN ?_ _ | refine LinesAt.drew ?_)))).mono ?_; rintro e w1 ⟨rfl, hbl⟩; obtain ⟨y, rfl⟩ := ovr_of_below hbl; clear hbl
        go_wp2_with (at_builtin; refine wpList_append_gen (W0 := W0) (by (repeat (first | exact Below.refl _ _ | refine Below.alloc ?_ (by first | exact Nat.le_refl _ | (simp; done) | (simp; omega)) _ | refine below_ovr_of ?_ | refine drew_below ?_ _ | refine Below.drew ?_ | refine Below.setCell ?_ (by first | exact Nat.le_refl _ | (simp; done) | (simp; omega)) _ | assumption))) rfl _ _ 22 rfl 9 i0 _ 1 16 Try.underlying22 hi0 hz0 hz1 hz2 rfl (by decide) (.slice a' j c') j _ rfl ((own_ovr HOWN.out y).alloc _) (some ⟨W0.heap.size + x.heap.size + y.heap.size, 0, none⟩) 1 1 [.string (s.extract f.toNat g.toNat)] rfl rfl (news_one (by simp)) (by simp [Value.oneCell']) (by omega) (by omega) ?_; intro A' c' z hown')
        go_roundw
        case rel =>
          refine ⟨j + 1, A', c', z, by omega, by go_num, rfl, rfl, ?_⟩
          rw [range_snoc, List.map_append]
          have e : cutL L k fl fc tl tc (fl + j) = s.extract f.toNat g.toNat := by rw [← HF.out, ← HG.out]; unfold cutL; rw [HS.out]
          simpa [e] using hown'
        case measure => simp [intOf]; omega
      · have hj' : j = tl + 1 - fl := by omega
        have HOWN := Lib.hid hown
        clear hown
        have hltI : ¬ ((fl + j : Nat) : Int) ≤ (tl : Int) := by omega
        go_wp2
        go_ret
        have hl := lines_of_own HOWN.out (by simp; omega) (fun s hs => by
          obtain ⟨q, _, rfl⟩ := List.mem_map.1 hs
          exact Nat.le_trans (size_cutL L k fl fc tl tc _) (size_getD_le hL0.2.2 _))
        rw [hy.out, ← hj']
        exact ⟨a', c', ret_val (by simp), by (repeat (first | exact Below.refl _ _ | refine Below.alloc ?_ (by first | exact Nat.le_refl _ | (simp; done) | (simp; omega)) _ | refine below_ovr_of ?_ | refine drew_below ?_ _ | refine Below.drew ?_ | refine Below.setCell ?_ (by first | exact Nat.le_refl _ | (simp; done) | (simp; omega)) _ | assumption)), hl.2⟩
end Go.Proofs.Ytlbbgocggifjaaa
