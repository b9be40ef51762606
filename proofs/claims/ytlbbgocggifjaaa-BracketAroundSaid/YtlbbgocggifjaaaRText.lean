/- The contract of the reference's Text, of a range by bytes. Conditions: none beyond what it says. -/
import Derived.Test.YtlbbgocggifjaaaSpan2
namespace Go.Proofs.Ytlbbgocggifjaaa
open Go.RowKit
set_option maxRecDepth 100000

set_option maxHeartbeats 2000000 in
theorem rtext_char (a : Option Addr) (cap : Nat) (L : List ByteArray) (fl : Nat) (fc : Int) (tl : Nat) (tc : Int) (w : World) (hL : LinesAt w a L) (hn : L.length ≤ 100000) (hv : validB L 0 fl fc tl tc = true) :
    Calls Try.prog 57 #[.slice a L.length cap, .agg #[.int .i64 0, .int .i64 fl, .int .i64 fc, .int .i64 tl, .int .i64 tc]] w (LinesOut w (spanT L 0 fl fc tl tc)) := by
  have hvv := hv
  simp only [validB, Bool.and_eq_true, decide_eq_true_eq] at hvv
  obtain ⟨⟨⟨a1, a2⟩, a3⟩, a4⟩ := hvv
  have hcols := fun (i : Int) h1 h2 => colsP_ok hv (i := i) h1 h2
  have hy := Lib.hid (spanT_yes hv)
  have HC := Lib.hid hcols
  have HV := Lib.hid hv
  clear a4 hcols hv
  obtain ⟨i0, hi0, hz0, hz1, hz2⟩ := info_parts infoStr
  go_enter Try.func57, Try.ntmps57
  go_wp2_with (go_at_call 90; refine (rvalid_any _ _ L _ _ _ _ _ _ (by (repeat (first | assumption | refine LinesAt.ovr ?_ _ | refine LinesAt.alloc ?_ _ | refine LinesAt.drewN ?_ _ | refine LinesAt.drew ?_)))).mono ?_; rw [HV.out]; rintro e w1 ⟨rfl, hbl⟩; obtain ⟨x, rfl⟩ := ovr_of_below hbl; clear hbl)
  refine name_world ?_
  intro W0 hW0
  have hL0 : LinesAt W0 a L := by rw [hW0]; (repeat (first | assumption | refine LinesAt.ovr ?_ _ | refine LinesAt.alloc ?_ _ | refine LinesAt.drewN ?_ _ | refine LinesAt.drew ?_))
  have hbel : Below w.heap.size w W0 := by rw [hW0]; (repeat (first | exact Below.refl _ _ | refine Below.alloc ?_ (by first | exact Nat.le_refl _ | (simp; done) | (simp; omega)) _ | refine below_ovr_of ?_ | refine drew_below ?_ _ | refine Below.drew ?_ | refine Below.setCell ?_ (by first | exact Nat.le_refl _ | (simp; done) | (simp; omega)) _ | assumption))
  have q0 : W0.cell? ⟨w.heap.size, 0, none⟩ = some (.int .i64 0) := by rw [hW0]; simp [go_sem]
  have q1 : W0.cell? ⟨w.heap.size, 1, none⟩ = some (.int .i64 fl) := by rw [hW0]; simp [go_sem]
  have q2 : W0.cell? ⟨w.heap.size, 2, none⟩ = some (.int .i64 fc) := by rw [hW0]; simp [go_sem]
  have q3 : W0.cell? ⟨w.heap.size, 3, none⟩ = some (.int .i64 tl) := by rw [hW0]; simp [go_sem]
  have q4 : W0.cell? ⟨w.heap.size, 4, none⟩ = some (.int .i64 tc) := by rw [hW0]; simp [go_sem]
  have hB : w.heap.size < W0.heap.size := by rw [hW0]; simp [go_sem]
  clear hW0 hL
  go_loopw [5, 6] (fun v i wr => ∃ (j : Nat) (a' : Option Addr) (c' : Nat) (x : World), fl + j ≤ tl + 1 ∧ i = .int .i64 ((fl + j : Nat) : Int) ∧ v = .slice a' j c' ∧ wr = ovr W0 x ∧
      (ovr W0 x).ownsRow W0.heap.size 9 1 (.slice a' j c') j (((List.range j).map (fun j => cutL L 0 fl fc tl tc (fl + j))).map Value.string)) (fun _ i _ => tl + 1 - (intOf i).toNat)
  case atStart => exact ⟨0, none, 0, { W0 with heap := #[] }, by omega, rfl, rfl, by simp [ovr], World.ownsRow_nil _ _ _ _⟩
  case round =>
    obtain ⟨j, a', c', x, hj, rfl, rfl, rfl, hown⟩ := hrel
    by_cases hlt : fl + j ≤ tl
    · have hij : fl + j < L.length := by omega
      obtain ⟨b, off, rfl, hb, hcell, hs⟩ := hL0.line hij
      have hc := HC.out ((fl + j : Nat) : Int) (by omega) (by omega)
      rw [Int.toNat_natCast] at hc
      obtain ⟨s, hs'⟩ : ∃ s, L.getD (fl + j) .empty = s := ⟨_, rfl⟩
      rw [hs'] at hcell hs hc
      have hltI : ((fl + j : Nat) : Int) ≤ (tl : Int) := by omega
      have hijI : ((fl + j : Nat) : Int) < (L.length : Int) := by omega
      obtain ⟨f, hf⟩ : ∃ f, (colsP s.size 0 fl fc tl tc ((fl + j : Nat) : Int)).1 = f := ⟨_, rfl⟩
      obtain ⟨g, hg⟩ : ∃ g, (colsP s.size 0 fl fc tl tc ((fl + j : Nat) : Int)).2 = g := ⟨_, rfl⟩
      have hcut : cutL L 0 fl fc tl tc (fl + j) = s.extract f.toNat g.toNat := by unfold cutL; rw [hs', hf, hg]
      rw [hf, hg] at hc
      obtain ⟨g1, g2, g3⟩ := hc
      rw [colsP_char] at hf hg
      simp only at hf hg
      have HCUT := Lib.hid hcut
      have HOWN := Lib.hid hown
      clear hs' hcut hown
      have hfw : ((((fl + j : Nat) : Int) == (fl : Int)) = true ∧ fc = f) ∨ ((((fl + j : Nat) : Int) == (fl : Int)) = false ∧ (0 : Int) = f) := by
        rw [← hf]
        rcases eq_ways ((fl + j : Nat) : Int) (fl : Int) with ⟨b1, E1⟩ | ⟨b1, E1⟩
        · exact .inl ⟨b1, (if_pos E1.out).symm⟩
        · exact .inr ⟨b1, (if_neg E1.out).symm⟩
      have hgw : ((((fl + j : Nat) : Int) == (tl : Int)) = true ∧ tc = g) ∨ ((((fl + j : Nat) : Int) == (tl : Int)) = false ∧ (s.size : Int) = g) := by
        rw [← hg]
        rcases eq_ways ((fl + j : Nat) : Int) (tl : Int) with ⟨b1, E1⟩ | ⟨b1, E1⟩
        · exact .inl ⟨b1, (if_pos E1.out).symm⟩
        · exact .inr ⟨b1, (if_neg E1.out).symm⟩
      rcases hfw with ⟨b1, rfl⟩ | ⟨b1, rfl⟩ <;> rcases hgw with ⟨b2, rfl⟩ | ⟨b2, rfl⟩
      all_goals (
        clear hf hg
        go_wp2_with (at_builtin; (first | (refine wpList_append_gen (W0 := W0) (by (repeat (first | exact Below.refl _ _ | refine Below.alloc ?_ (by first | exact Nat.le_refl _ | (simp; done) | (simp; omega)) _ | refine below_ovr_of ?_ | refine drew_below ?_ _ | refine Below.drew ?_ | refine Below.setCell ?_ (by first | exact Nat.le_refl _ | (simp; done) | (simp; omega)) _ | assumption))) rfl _ _ 22 rfl 9 i0 _ 1 16 Try.underlying22 hi0 hz0 hz1 hz2 rfl (by decide) (.slice a' j c') j _ rfl ((HOWN.out).alloc _) (some ⟨W0.heap.size + x.heap.size, 0, none⟩) 1 1 [.string (s.extract fc.toNat tc.toNat)] rfl rfl (news_one (by simp)) (by simp [Value.oneCell']) (by omega) (by omega) ?_) | (refine wpList_append_gen (W0 := W0) (by (repeat (first | exact Below.refl _ _ | refine Below.alloc ?_ (by first | exact Nat.le_refl _ | (simp; done) | (simp; omega)) _ | refine below_ovr_of ?_ | refine drew_below ?_ _ | refine Below.drew ?_ | refine Below.setCell ?_ (by first | exact Nat.le_refl _ | (simp; done) | (simp; omega)) _ | assumption))) rfl _ _ 22 rfl 9 i0 _ 1 16 Try.underlying22 hi0 hz0 hz1 hz2 rfl (by decide) (.slice a' j c') j _ rfl ((HOWN.out).alloc _) (some ⟨W0.heap.size + x.heap.size, 0, none⟩) 1 1 [.string (s.extract 0 tc.toNat)] rfl rfl (news_one (by simp)) (by simp [Value.oneCell']) (by omega) (by omega) ?_) | (refine wpList_append_gen (W0 := W0) (by (repeat (first | exact Below.refl _ _ | refine Below.alloc ?_ (by first | exact Nat.le_refl _ | (simp; done) | (simp; omega)) _ | refine below_ovr_of ?_ | refine drew_below ?_ _ | refine Below.drew ?_ | refine Below.setCell ?_ (by first | exact Nat.le_refl _ | (simp; done) | (simp; omega)) _ | assumption))) rfl _ _ 22 rfl 9 i0 _ 1 16 Try.underlying22 hi0 hz0 hz1 hz2 rfl (by decide) (.slice a' j c') j _ rfl ((HOWN.out).alloc _) (some ⟨W0.heap.size + x.heap.size, 0, none⟩) 1 1 [.string (s.extract fc.toNat s.size)] rfl rfl (news_one (by simp)) (by simp [Value.oneCell']) (by omega) (by omega) ?_) | (refine wpList_append_gen (W0 := W0) (by (repeat (first | exact Below.refl _ _ | refine Below.alloc ?_ (by first | exact Nat.le_refl _ | (simp; done) | (simp; omega)) _ | refine below_ovr_of ?_ | refine drew_below ?_ _ | refine Below.drew ?_ | refine Below.setCell ?_ (by first | exact Nat.le_refl _ | (simp; done) | (simp; omega)) _ | assumption))) rfl _ _ 22 rfl 9 i0 _ 1 16 Try.underlying22 hi0 hz0 hz1 hz2 rfl (by decide) (.slice a' j c') j _ rfl ((HOWN.out).alloc _) (some ⟨W0.heap.size + x.heap.size, 0, none⟩) 1 1 [.string (s)] rfl rfl (news_one (by simp)) (by simp [Value.oneCell']) (by omega) (by omega) ?_) | (refine wpList_append_gen (W0 := W0) (by (repeat (first | exact Below.refl _ _ | refine Below.alloc ?_ (by first | exact Nat.le_refl _ | (simp; done) | (simp; omega)) _ | refine below_ovr_of ?_ | refine drew_below ?_ _ | refine Below.drew ?_ | refine Below.setCell ?_ (by first | exact Nat.le_refl _ | (simp; done) | (simp; omega)) _ | assumption))) rfl _ _ 22 rfl 9 i0 _ 1 16 Try.underlying22 hi0 hz0 hz1 hz2 rfl (by decide) (.slice a' j c') j _ rfl ((HOWN.out).alloc _) (some ⟨W0.heap.size + x.heap.size, 0, none⟩) 1 1 [.string (s.extract 0 s.size)] rfl rfl (news_one (by simp)) (by simp [Value.oneCell']) (by omega) (by omega) ?_)); intro A' c' z hown')
        go_roundw
        case rel =>
          refine ⟨j + 1, A', c', z, by omega, by go_num, rfl, rfl, ?_⟩
          rw [range_snoc, List.map_append]
          have e := HCUT.out
          simpa [e] using hown'
        case measure => simp [intOf]; omega)
    · have hj' : j = tl + 1 - fl := by omega
      have HOWN := Lib.hid hown
      clear hown
      have hltI : ¬ ((fl + j : Nat) : Int) ≤ (tl : Int) := by omega
      go_wp2
      go_ret
      have hl := lines_of_own HOWN.out (by simp; omega) (fun s hs => by
        obtain ⟨q, _, rfl⟩ := List.mem_map.1 hs
        exact Nat.le_trans (size_cutL L 0 fl fc tl tc _) (size_getD_le hL0.2.2 _))
      rw [hy.out, ← hj']
      exact ⟨a', c', ret_val (by simp), by (repeat (first | exact Below.refl _ _ | refine Below.alloc ?_ (by first | exact Nat.le_refl _ | (simp; done) | (simp; omega)) _ | refine below_ovr_of ?_ | refine drew_below ?_ _ | refine Below.drew ?_ | refine Below.setCell ?_ (by first | exact Nat.le_refl _ | (simp; done) | (simp; omega)) _ | assumption)), hl.2⟩
end Go.Proofs.Ytlbbgocggifjaaa
