/- What is told by an iterator of pairs, so many at most. Conditions: what it says of the iterator. -/
import Derived.Test.YtnaceobbbfbhhaaHeardB
namespace Go.Proofs.Ytnaceobbbfbhhaa
open Go.RowKit Go.Shelf

attribute [local go_sem] Oper.semAt_some

set_option maxRecDepth 100000 in
set_option maxHeartbeats 4000000 in
theorem heard18_any (m gf : Nat) (lb : Array Value) (R : List (Nat × Nat)) (hR : R.length ≤ 100000) (most : Nat) (hm : 1 ≤ most) (hm2 : most ≤ 100000) (w : World) (n₀ : Nat) (hn₀ : n₀ = w.heap.size)
    (hE : ∀ args W, (callFunc gf args).run Try.prog W = .ok (.enter gf args) W)
    (hS : ∀ W, Below n₀ w W → SeqStopsK Fence.wide 8 Try.prog gf lb (fun x : Ivl m => #[Value.int .i64 (x.1.1 : Int), Value.int .i64 (x.1.2 : Int)]) (Below n₀) (fun ys => vals ys = R) (fun pre => vals pre <+: R) 100000 W) :
    Calls Try.prog 64 #[.func (.func gf) #[] lb, .int .i64 most] w fun e w' => ∃ a cap, e = .returned (.tuple #[.slice a (R.take most).length cap, .bool true]) ∧ PairsAt w' a (R.take most) ∧ Below w.heap.size w w' := by
  obtain ⟨i0, hi, hz0, hz1, hz2⟩ := info_parts infoRun
  have hnil : ∀ w : World, (binOp BinOp.eql 81 (.func (.func gf) #[] lb) .nilFunc).run Try.prog w = .ok (.bool false) w := fun _ => by kernel_rfl
  refine (callsIn_wide (n := 9)).1 ?_
  refine callsIn_of_wp_marks Try.func64 rfl trivial ?_ rfl
  simp only [Try.ntmps64, List.size_toArray, List.length_cons, List.length_nil, Nat.reduceAdd, Nat.reduceSub, Array.replicate_succ, Array.replicate_zero, List.push_toArray, List.append_toArray, List.nil_append, List.cons_append]
  gi_wp2
  subst hn₀
  have bM := Boxed.new w 3 (.int .i64 most)
  have bO := Boxed.new (w.alloc (.cells #[.int .i64 most] 3)) 78 (.slice none 0 0)
  rw [World.size_alloc] at bO
  have hB0 : Below w.heap.size w ((w.alloc (.cells #[.int .i64 most] 3)).alloc (.cells #[.slice none 0 0] 78)) := ((Below.refl _ w).alloc (Nat.le_refl _) _).alloc (by simp) _
  refine wpIn_rangeFunc_ownG rfl (by omega) (gf := gf) (lb := lb) rfl trivial hE
    (hS _ hB0) belowK_t (belowK_b (by simp; omega)) (Below.refl _ _) (fun _ => rfl)
    (fun pre W => (((∃ v, Boxed W (w.heap.size + 1) 78 v ∧ W.ownsRow w.heap.size 86 2 v pre.length (cellsV (vals pre)) ∧ True) ∧ Boxed W w.heap.size 3 (.int .i64 most)) ∧ pre.length < most) ∧ Below w.heap.size w W)
    (fun c pre W => ((∃ v, Boxed W (w.heap.size + 1) 78 v ∧ W.ownsRow w.heap.size 86 2 v pre.length (cellsV (vals pre)) ∧ True) ∧ (c = .exit 0 ∧ pre.length = most)) ∧ Below w.heap.size w W)
    (OwnFrom.and (OwnFrom.and (OwnFrom.and (Own.from (holdsRow_own w.heap.size (w.heap.size + 1) 78 86 2 (fun pre => pre.length) (fun pre => cellsV (vals pre)) (fun _ _ => True)) _) (Own.from (boxed_own _ _ _) _)) (ownFrom_pure _ _)) (ownFrom_below (Nat.le_refl _) (by simp; omega)))
    (fun c => OwnFrom.and (OwnFrom.and (Own.from (holdsRow_own w.heap.size (w.heap.size + 1) 78 86 2 (fun pre => pre.length) (fun pre => cellsV (vals pre)) (fun _ _ => True)) _) (ownFrom_pure _ _)) (ownFrom_below (Nat.le_refl _) (by simp; omega)))
    ⟨⟨⟨⟨_, bO, World.ownsRow_nil _ _ _ _, trivial⟩, bM.alloc _⟩, by simp; omega⟩, hB0⟩
    (fun x => { tmps := #[.func (.func gf) #[] lb, .int .i64 most, undef, .pointer (some ⟨w.heap.size, 0, none⟩), .slice none 0 0, .bool false, .pointer (some ⟨w.heap.size + 1, 0, none⟩), .int .i64 (x.1.1 : Int), .int .i64 (x.1.2 : Int), .func (.func gf) #[] lb, .bool false, .func (.func gf) #[] lb, .int .i64 (x.1.1 : Int), .int .i64 (x.1.2 : Int), undef, undef, undef, undef, undef, undef, undef, undef, undef, undef, undef], defers := [] }) ?assign ?body ?done ?stop
  case assign =>
    intro l x W K hK
    gi_wp2
    exact hK
  case body =>
    rintro l pre x W ⟨⟨⟨⟨v, hv, hrow, _⟩, hM⟩, hlt⟩, hB⟩ hN
    have hc := hv.cell
    have hmc := hM.cell
    have hle : w.heap.size ≤ w.heap.size + 1 := by omega
    have hlen1 : pre.length + 1 ≤ 100000 := by omega
    have hcat : cellsV (vals (pre ++ [x])) = cellsV (vals pre) ++ [.int .i64 (x.1.1 : Int), .int .i64 (x.1.2 : Int)] := by rw [vals, List.map_append]; exact cellsV_snoc _ _
    have HCAT := Lib.hid hcat
    have HLT := Lib.hid hlt
    clear hcat hlt hN
    gi_wp2_with (gi_at_builtin; refine wpListIn_append_own _ rfl _ _ 78 rfl w.heap.size 86 i0 (.agg #[.int .i64 0, .int .i64 0]) 2 16 Try.underlying78 hi hz0 hz1 hz2 rfl (by decide) _ _ _ rfl (hrow.alloc _) ⟨W.heap.size, 0, none⟩ 1 1 [.int .i64 (x.1.1 : Int), .int .i64 (x.1.2 : Int)] rfl rfl (cell_two_new _ _ _ _) (by intro u hu; simp at hu; rcases hu with rfl | rfl <;> rfl) (by unfold maxLen; omega) (by omega) (by have := hB.size; simp; omega) ?_; intro v' w1 hown' hgrow _; obtain ⟨g', cap', rfl⟩ := ownsRow_succ hown'; obtain ⟨hv1, hv2, hr2, hk2, hb2⟩ := hv.appended (by decide) hrow hB.size hle hown' hgrow; have hM1 := (hM.alloc _).kept hgrow (hM.not_row (by decide) hrow); have hM2 := hM1.other (show w.heap.size ≠ w.heap.size + 1 by omega) (.slice (some ⟨g', 0, none⟩) (pre.length + 1) cap'); have hc1 := hv1.cell; have hf1 := hv1.frozen; have hc2 := hv2.cell; have hm1' := hM1.cell)
    · have h1 : (most : Int) ≤ (pre.length : Int) + 1 := by assumption
      have h2 := HLT.out
      exact ⟨hk2.from _, ⟨⟨_, hv2, by rw [HCAT.out]; simpa using hr2, trivial⟩, rfl, by simp; omega⟩, hB.trans hb2⟩
    · have h1 : (pre.length : Int) + 1 < (most : Int) := by assumption
      exact ⟨hk2.from _, hb2, ⟨⟨⟨_, hv2, by rw [HCAT.out]; simpa using hr2, trivial⟩, hM2⟩, by simp; omega⟩, hB.trans hb2⟩
  case done =>
    rintro D ys W hD rfl ⟨⟨⟨⟨v, hv, hrow, _⟩, hM⟩, hlt⟩, hB⟩ hK
    have hrow' := ownsRow_putObj hrow (.deferred none) hK rfl
    have e : (vals ys).take most = vals ys := List.take_of_length_le (by simp; omega)
    obtain ⟨a, cap, hve, hp⟩ := pairs_of_owns (rs := vals ys) (by simpa using hrow')
    subst hve
    have hc := hv.cell
    have HE := Lib.hid e
    clear e
    gi_wp2
    refine ⟨by simp, .inl ⟨_, _, rfl, run_takeDeferred hK, ?_⟩⟩
    exact ⟨_, results_tmp2 rfl _ _ _, a, cap, by rw [HE.out]; first | (simp; done) | (simp; omega), by rw [HE.out]; exact hp, hB.trans (belowK_b (w := w) (Nat.le_refl _) W D _ _ (by simp at hD; omega) hK rfl rfl)⟩
  case stop =>
    rintro D c pre W hD hsp ⟨⟨⟨v, hv, hrow, _⟩, ⟨rfl, hl⟩⟩, hB⟩ hK
    have hrow' := ownsRow_putObj hrow (.deferred none) hK rfl
    have e : R.take most = vals pre := by have := prefix_take hsp; rw [List.length_map, hl] at this; exact this
    obtain ⟨a, cap, hve, hp⟩ := pairs_of_owns (rs := vals pre) (by simpa using hrow')
    subst hve
    have hc := hv.cell
    have HE := Lib.hid e
    clear e
    gi_wp2
    refine ⟨by simp, .inl ⟨_, _, rfl, run_takeDeferred hK, ?_⟩⟩
    exact ⟨_, results_tmp2 rfl _ _ _, a, cap, by rw [HE.out]; first | (simp; done) | (simp; omega), by rw [HE.out]; exact hp, hB.trans (belowK_b (w := w) (Nat.le_refl _) W D _ _ (by simp at hD; omega) hK rfl rfl)⟩
end Go.Proofs.Ytnaceobbbfbhhaa
