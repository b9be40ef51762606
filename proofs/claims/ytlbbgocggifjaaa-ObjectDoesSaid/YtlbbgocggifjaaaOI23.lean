/- Several texts in one: Runs, HeardB, Heard, Quote2. Conditions: none beyond what each says. -/
import Derived.Test.YtlbbgocggifjaaaOI21
import Derived.WalkSmall
import Derived.Test.YtlbbgocggifjaaaOI1
namespace Go.Proofs.Ytlbbgocggifjaaa
open Go.RowKit Go.Shelf

/-- The pairs rs lie in memory at address a. -/
def PairsAt (w : World) (a : Option Addr) (rs : List (Nat × Nat)) : Prop :=
  ∀ i, i < rs.length → ∃ g, a = some ⟨g, 0, none⟩ ∧ g < w.heap.size ∧ w.cell? ⟨g, i * 2, none⟩ = some (.int .i64 ((rs.getD i (0, 0)).1 : Int)) ∧ w.cell? ⟨g, i * 2 + 1, none⟩ = some (.int .i64 ((rs.getD i (0, 0)).2 : Int))
theorem PairsAt.below {w w' : World} {a : Option Addr} {rs : List (Nat × Nat)} (h : PairsAt w a rs) {B : Nat} (hb : Below B w w') (hB : w.heap.size ≤ B) : PairsAt w' a rs := fun i hi => by
  obtain ⟨g, e, hg, c1, c2⟩ := h i hi
  exact ⟨g, e, Nat.lt_of_lt_of_le hg hb.size, (hb.cell (p := ⟨g, i * 2, none⟩) (Nat.lt_of_lt_of_le hg hB)).trans c1, (hb.cell (p := ⟨g, i * 2 + 1, none⟩) (Nat.lt_of_lt_of_le hg hB)).trans c2⟩
theorem PairsAt.ovr {w : World} {a : Option Addr} {rs : List (Nat × Nat)} (h : PairsAt w a rs) (x : World) : PairsAt (ovr w x) a rs := h.below (below_ovr w x) (Nat.le_refl _)
theorem PairsAt.alloc {w : World} {a : Option Addr} {rs : List (Nat × Nat)} (h : PairsAt w a rs) (o : Obj) : PairsAt (w.alloc o) a rs := h.below ((Below.refl w.heap.size w).alloc (Nat.le_refl _) o) (Nat.le_refl _)
theorem PairsAt.drew {w : World} {a : Option Addr} {rs : List (Nat × Nat)} (h : PairsAt w a rs) : PairsAt w.drew a rs := h
theorem PairsAt.drewN {w : World} {a : Option Addr} {rs : List (Nat × Nat)} (h : PairsAt w a rs) (n : Nat) : PairsAt (w.drewN n) a rs := h
theorem PairsAt.split {w : World} {a : Option Addr} {rs : List (Nat × Nat)} (h : PairsAt w a rs) : rs = [] ∨
    ∃ g, a = some ⟨g, 0, none⟩ ∧ g < w.heap.size ∧ 0 < rs.length ∧ ∀ i, i < rs.length → w.cell? ⟨g, i * 2, none⟩ = some (.int .i64 ((rs.getD i (0, 0)).1 : Int)) ∧ w.cell? ⟨g, i * 2 + 1, none⟩ = some (.int .i64 ((rs.getD i (0, 0)).2 : Int)) := by
  by_cases h0 : rs.length = 0
  · exact .inl (List.eq_nil_of_length_eq_zero h0)
  · obtain ⟨g, e, hg, _⟩ := h 0 (by omega)
    refine .inr ⟨g, e, hg, by omega, fun i hi => ?_⟩
    obtain ⟨g', e', _, c⟩ := h i hi
    rw [e] at e'; cases e'
    exact c
/-- The first of them lie there too. -/
theorem PairsAt.take {w : World} {a : Option Addr} {rs : List (Nat × Nat)} (h : PairsAt w a rs) (k : Nat) : PairsAt w a (rs.take k) := fun i hi => by
  have hl : i < k ∧ i < rs.length := by rw [List.length_take] at hi; omega
  obtain ⟨g, e, hg, c1, c2⟩ := h i hl.2
  have : (rs.take k).getD i (0, 0) = rs.getD i (0, 0) := by
    rw [List.getD_eq_getElem?_getD, List.getD_eq_getElem?_getD, List.getElem?_take, if_pos hl.1]
  rw [this]
  exact ⟨g, e, hg, c1, c2⟩
/-- Pairs as a row of cells. -/
def cellsV : List (Nat × Nat) → List Value
  | [] => []
  | p :: rs => .int .i64 (p.1 : Int) :: .int .i64 (p.2 : Int) :: cellsV rs
theorem cellsV_snoc : ∀ (rs : List (Nat × Nat)) (p : Nat × Nat), cellsV (rs ++ [p]) = cellsV rs ++ [.int .i64 (p.1 : Int), .int .i64 (p.2 : Int)]
  | [], _ => rfl
  | x :: rs, p => by rw [List.cons_append, cellsV, cellsV_snoc rs p, cellsV]; rfl
theorem cellsV_at : ∀ (rs : List (Nat × Nat)) (i : Nat), i < rs.length → (cellsV rs)[i * 2]? = some (.int .i64 ((rs.getD i (0, 0)).1 : Int)) ∧ (cellsV rs)[i * 2 + 1]? = some (.int .i64 ((rs.getD i (0, 0)).2 : Int))
  | [], i, h => by simp at h
  | p :: rs, 0, _ => ⟨rfl, rfl⟩
  | p :: rs, i + 1, h => by
    have := cellsV_at rs i (by simpa using h)
    rw [show (i + 1) * 2 = i * 2 + 1 + 1 by omega, cellsV]
    simp only [List.getElem?_cons_succ, List.getD_cons_succ]
    exact this
theorem addr_add (g j : Nat) : (⟨g, 0, none⟩ : Addr).add j = ⟨g, j, none⟩ := by
  unfold Addr.add
  by_cases h : j = 0
  · simp [h]
  · simp [h]
/-- What owns the cells lies there. -/
theorem pairs_of_owns {w : World} {base : Nat} {e : TypeId} {v : Value} {rs : List (Nat × Nat)} (h : w.ownsRow base e 2 v rs.length (cellsV rs)) : ∃ a cap, v = .slice a rs.length cap ∧ PairsAt w a rs := by
  have h' := h
  rcases h.2 with ⟨rfl, h0⟩ | ⟨g, cap, cur, rfl, _, hgb, _⟩
  · have e0 : rs = [] := List.eq_nil_of_length_eq_zero h0
    subst e0
    exact ⟨none, 0, rfl, fun i hi => by simp at hi⟩
  · refine ⟨some ⟨g, 0, none⟩, cap, rfl, fun i hi => ?_⟩
    obtain ⟨c1, c2⟩ := cellsV_at rs i hi
    have k1 := World.ownsRow.cells h' (g := g) rfl _ _ c1
    have k2 := World.ownsRow.cells h' (g := g) rfl _ _ c2
    rw [addr_add] at k1 k2
    exact ⟨g, rfl, (Array.getElem?_eq_some_iff.1 hgb).1, k1, k2⟩
theorem prefix_take {α : Type} {p R : List α} (h : p <+: R) : R.take p.length = p := by
  obtain ⟨t, rfl⟩ := h
  simp
end Go.Proofs.Ytlbbgocggifjaaa
namespace Go.Proofs.Ytlbbgocggifjaaa
open Go.RowKit Go.Shelf

theorem infoRun : (Try.prog.info? 54).map (fun i => (i.zero, i.size, i.bytes)) = some (some (.agg #[.int .i64 0, .int .i64 0]), 2, 16) := by kernel_rfl
/-- The pairs that came. -/
abbrev vals {m : Nat} (pre : List (Ivl m)) : List (Nat × Nat) := pre.map Subtype.val

end Go.Proofs.Ytlbbgocggifjaaa
namespace Go.Proofs.Ytlbbgocggifjaaa
open Go.RowKit Go.Shelf

attribute [local go_sem] Oper.semAt_some

set_option maxRecDepth 100000 in
set_option maxHeartbeats 4000000 in
theorem heard16_any (m gf : Nat) (lb : Array Value) (R : List (Nat × Nat)) (hR : R.length ≤ 100000) (most : Nat) (hm : 1 ≤ most) (hm2 : most ≤ 100000) (w : World) (n₀ : Nat) (hn₀ : n₀ = w.heap.size)
    (hE : ∀ args W, (callFunc gf args).run Try.prog W = .ok (.enter gf args) W)
    (hS : ∀ W, Below n₀ w W → SeqStopsK Fence.wide 8 Try.prog gf lb (fun x : Ivl m => #[Value.int .i64 (x.1.1 : Int), Value.int .i64 (x.1.2 : Int)]) (Below n₀) (fun ys => vals ys = R) (fun pre => vals pre <+: R) 100000 W) :
    Calls Try.prog 26 #[.func (.func gf) #[] lb, .int .i64 most] w fun e w' => ∃ a cap, e = .returned (.tuple #[.slice a (R.take most).length cap, .bool true]) ∧ PairsAt w' a (R.take most) ∧ Below w.heap.size w w' := by
  obtain ⟨i0, hi, hz0, hz1, hz2⟩ := info_parts infoRun
  have hnil : ∀ w : World, (binOp BinOp.eql 35 (.func (.func gf) #[] lb) .nilFunc).run Try.prog w = .ok (.bool false) w := fun _ => by kernel_rfl
  refine (callsIn_wide (n := 9)).1 ?_
  refine callsIn_of_wp_marks Try.func26 rfl trivial ?_ rfl
  simp only [Try.ntmps26, List.size_toArray, List.length_cons, List.length_nil, Nat.reduceAdd, Nat.reduceSub, Array.replicate_succ, Array.replicate_zero, List.push_toArray, List.append_toArray, List.nil_append, List.cons_append]
  gi_wp2
  subst hn₀
  have bM := Boxed.new w 3 (.int .i64 most)
  have bO := Boxed.new (w.alloc (.cells #[.int .i64 most] 3)) 32 (.slice none 0 0)
  rw [World.size_alloc] at bO
  have hB0 : Below w.heap.size w ((w.alloc (.cells #[.int .i64 most] 3)).alloc (.cells #[.slice none 0 0] 32)) := ((Below.refl _ w).alloc (Nat.le_refl _) _).alloc (by simp) _
  refine wpIn_rangeFunc_ownG rfl (by omega) (gf := gf) (lb := lb) rfl trivial hE
    (hS _ hB0) belowK_t (belowK_b (by simp; omega)) (Below.refl _ _) (fun _ => rfl)
    (fun pre W => (((∃ v, Boxed W (w.heap.size + 1) 32 v ∧ W.ownsRow w.heap.size 54 2 v pre.length (cellsV (vals pre)) ∧ True) ∧ Boxed W w.heap.size 3 (.int .i64 most)) ∧ pre.length < most) ∧ Below w.heap.size w W)
    (fun c pre W => ((∃ v, Boxed W (w.heap.size + 1) 32 v ∧ W.ownsRow w.heap.size 54 2 v pre.length (cellsV (vals pre)) ∧ True) ∧ (c = .exit 0 ∧ pre.length = most)) ∧ Below w.heap.size w W)
    (OwnFrom.and (OwnFrom.and (OwnFrom.and (Own.from (holdsRow_own w.heap.size (w.heap.size + 1) 32 54 2 (fun pre => pre.length) (fun pre => cellsV (vals pre)) (fun _ _ => True)) _) (Own.from (boxed_own _ _ _) _)) (ownFrom_pure _ _)) (ownFrom_below (Nat.le_refl _) (by simp; omega)))
    (fun c => OwnFrom.and (OwnFrom.and (Own.from (holdsRow_own w.heap.size (w.heap.size + 1) 32 54 2 (fun pre => pre.length) (fun pre => cellsV (vals pre)) (fun _ _ => True)) _) (ownFrom_pure _ _)) (ownFrom_below (Nat.le_refl _) (by simp; omega)))
    ⟨⟨⟨⟨_, bO, World.ownsRow_nil _ _ _ _, trivial⟩, bM.alloc _⟩, by simp; omega⟩, hB0⟩
    (fun x => { tmps := #[.func (.func gf) #[] lb, .int .i64 most, undef, .pointer (some ⟨w.heap.size, 0, none⟩), .slice none 0 0, .bool false, .pointer (some ⟨w.heap.size + 1, 0, none⟩), .int .i64 (x.1.1 : Int), .int .i64 (x.1.2 : Int), .func (.func gf) #[] lb, .bool false, .func (.func gf) #[] lb, .int .i64 (x.1.1 : Int), .int .i64 (x.1.2 : Int), undef, undef, undef, undef, undef, undef, undef, undef, undef, undef, undef], defers := [] }) ?assign ?body ?done ?stop
  case assign =>
    intro l x W K hK
    gi_wp2
    exact hK
  case body =>
    rintro l pre x W ⟨⟨⟨⟨v, hv, hrow, _⟩, hM⟩, hlt⟩, hB⟩ hN
    have hc := hv.cell
    have hmc := hM.cell
    have hle : w.heap.size ≤ w.heap.size + 1 := by omega
    have hlen1 : pre.length + 1 ≤ 100000 := by omega
    have hcat : cellsV (vals (pre ++ [x])) = cellsV (vals pre) ++ [.int .i64 (x.1.1 : Int), .int .i64 (x.1.2 : Int)] := by rw [vals, List.map_append]; exact cellsV_snoc _ _
    have HCAT := Lib.hid hcat
    have HLT := Lib.hid hlt
    clear hcat hlt hN
    gi_wp2_with (gi_at_builtin; refine wpListIn_append_own _ rfl _ _ 32 rfl w.heap.size 54 i0 (.agg #[.int .i64 0, .int .i64 0]) 2 16 Try.underlying32 hi hz0 hz1 hz2 rfl (by decide) _ _ _ rfl (hrow.alloc _) ⟨W.heap.size, 0, none⟩ 1 1 [.int .i64 (x.1.1 : Int), .int .i64 (x.1.2 : Int)] rfl rfl (cell_two_new _ _ _ _) (by intro u hu; simp at hu; rcases hu with rfl | rfl <;> rfl) (by unfold maxLen; omega) (by omega) (by have := hB.size; simp; omega) ?_; intro v' w1 hown' hgrow _; obtain ⟨g', cap', rfl⟩ := ownsRow_succ hown'; obtain ⟨hv1, hv2, hr2, hk2, hb2⟩ := hv.appended (by decide) hrow hB.size hle hown' hgrow; have hM1 := (hM.alloc _).kept hgrow (hM.not_row (by decide) hrow); have hM2 := hM1.other (show w.heap.size ≠ w.heap.size + 1 by omega) (.slice (some ⟨g', 0, none⟩) (pre.length + 1) cap'); have hc1 := hv1.cell; have hf1 := hv1.frozen; have hc2 := hv2.cell; have hm1' := hM1.cell)
    · have h1 : (most : Int) ≤ (pre.length : Int) + 1 := by assumption
      have h2 := HLT.out
      exact ⟨hk2.from _, ⟨⟨_, hv2, by rw [HCAT.out]; simpa using hr2, trivial⟩, rfl, by simp; omega⟩, hB.trans hb2⟩
    · have h1 : (pre.length : Int) + 1 < (most : Int) := by assumption
      exact ⟨hk2.from _, hb2, ⟨⟨⟨_, hv2, by rw [HCAT.out]; simpa using hr2, trivial⟩, hM2⟩, by simp; omega⟩, hB.trans hb2⟩
  case done =>
    rintro D ys W hD rfl ⟨⟨⟨⟨v, hv, hrow, _⟩, hM⟩, hlt⟩, hB⟩ hK
    have hrow' := ownsRow_putObj hrow (.deferred none) hK rfl
    have e : (vals ys).take most = vals ys := List.take_of_length_le (by simp; omega)
    obtain ⟨a, cap, hve, hp⟩ := pairs_of_owns (rs := vals ys) (by simpa using hrow')
    subst hve
    have hc := hv.cell
    have HE := Lib.hid e
    clear e
    gi_wp2
    refine ⟨by simp, .inl ⟨_, _, rfl, run_takeDeferred hK, ?_⟩⟩
    exact ⟨_, results_tmp2 rfl _ _ _, a, cap, by rw [HE.out]; first | (simp; done) | (simp; omega), by rw [HE.out]; exact hp, hB.trans (belowK_b (w := w) (Nat.le_refl _) W D _ _ (by simp at hD; omega) hK rfl rfl)⟩
  case stop =>
    rintro D c pre W hD hsp ⟨⟨⟨v, hv, hrow, _⟩, ⟨rfl, hl⟩⟩, hB⟩ hK
    have hrow' := ownsRow_putObj hrow (.deferred none) hK rfl
    have e : R.take most = vals pre := by have := prefix_take hsp; rw [List.length_map, hl] at this; exact this
    obtain ⟨a, cap, hve, hp⟩ := pairs_of_owns (rs := vals pre) (by simpa using hrow')
    subst hve
    have hc := hv.cell
    have HE := Lib.hid e
    clear e
    gi_wp2
    refine ⟨by simp, .inl ⟨_, _, rfl, run_takeDeferred hK, ?_⟩⟩
    exact ⟨_, results_tmp2 rfl _ _ _, a, cap, by rw [HE.out]; first | (simp; done) | (simp; omega), by rw [HE.out]; exact hp, hB.trans (belowK_b (w := w) (Nat.le_refl _) W D _ _ (by simp at hD; omega) hK rfl rfl)⟩
set_option maxRecDepth 100000 in
set_option maxHeartbeats 4000000 in
theorem heard15_any (m gf : Nat) (lb : Array Value) (R : List (Nat × Nat)) (hR : R.length ≤ 100000) (most : Nat) (hm : 1 ≤ most) (hm2 : most ≤ 100000) (w : World) (n₀ : Nat) (hn₀ : n₀ = w.heap.size)
    (hE : ∀ args W, (callFunc gf args).run Try.prog W = .ok (.enter gf args) W)
    (hS : ∀ W, Below n₀ w W → SeqStopsK Fence.wide 8 Try.prog gf lb (fun x : Ivl m => #[Value.int .i64 (x.1.1 : Int), Value.int .i64 (x.1.2 : Int)]) (Below n₀) (fun ys => vals ys = R) (fun pre => vals pre <+: R) 100000 W) :
    Calls Try.prog 36 #[.func (.func gf) #[] lb, .int .i64 most] w fun e w' => ∃ a cap, e = .returned (.tuple #[.slice a (R.take most).length cap, .bool true]) ∧ PairsAt w' a (R.take most) ∧ Below w.heap.size w w' := by
  obtain ⟨i0, hi, hz0, hz1, hz2⟩ := info_parts infoRun
  have hnil : ∀ w : World, (binOp BinOp.eql 35 (.func (.func gf) #[] lb) .nilFunc).run Try.prog w = .ok (.bool false) w := fun _ => by kernel_rfl
  refine (callsIn_wide (n := 9)).1 ?_
  refine callsIn_of_wp_marks Try.func36 rfl trivial ?_ rfl
  simp only [Try.ntmps36, List.size_toArray, List.length_cons, List.length_nil, Nat.reduceAdd, Nat.reduceSub, Array.replicate_succ, Array.replicate_zero, List.push_toArray, List.append_toArray, List.nil_append, List.cons_append]
  gi_wp2
  subst hn₀
  have bM := Boxed.new w 3 (.int .i64 most)
  have bO := Boxed.new (w.alloc (.cells #[.int .i64 most] 3)) 32 (.slice none 0 0)
  rw [World.size_alloc] at bO
  have hB0 : Below w.heap.size w ((w.alloc (.cells #[.int .i64 most] 3)).alloc (.cells #[.slice none 0 0] 32)) := ((Below.refl _ w).alloc (Nat.le_refl _) _).alloc (by simp) _
  refine wpIn_rangeFunc_ownG rfl (by omega) (gf := gf) (lb := lb) rfl trivial hE
    (hS _ hB0) belowK_t (belowK_b (by simp; omega)) (Below.refl _ _) (fun _ => rfl)
    (fun pre W => (((∃ v, Boxed W (w.heap.size + 1) 32 v ∧ W.ownsRow w.heap.size 54 2 v pre.length (cellsV (vals pre)) ∧ True) ∧ Boxed W w.heap.size 3 (.int .i64 most)) ∧ pre.length < most) ∧ Below w.heap.size w W)
    (fun c pre W => ((∃ v, Boxed W (w.heap.size + 1) 32 v ∧ W.ownsRow w.heap.size 54 2 v pre.length (cellsV (vals pre)) ∧ True) ∧ (c = .exit 0 ∧ pre.length = most)) ∧ Below w.heap.size w W)
    (OwnFrom.and (OwnFrom.and (OwnFrom.and (Own.from (holdsRow_own w.heap.size (w.heap.size + 1) 32 54 2 (fun pre => pre.length) (fun pre => cellsV (vals pre)) (fun _ _ => True)) _) (Own.from (boxed_own _ _ _) _)) (ownFrom_pure _ _)) (ownFrom_below (Nat.le_refl _) (by simp; omega)))
    (fun c => OwnFrom.and (OwnFrom.and (Own.from (holdsRow_own w.heap.size (w.heap.size + 1) 32 54 2 (fun pre => pre.length) (fun pre => cellsV (vals pre)) (fun _ _ => True)) _) (ownFrom_pure _ _)) (ownFrom_below (Nat.le_refl _) (by simp; omega)))
    ⟨⟨⟨⟨_, bO, World.ownsRow_nil _ _ _ _, trivial⟩, bM.alloc _⟩, by simp; omega⟩, hB0⟩
    (fun x => { tmps := #[.func (.func gf) #[] lb, .int .i64 most, undef, .pointer (some ⟨w.heap.size, 0, none⟩), .slice none 0 0, .bool false, .pointer (some ⟨w.heap.size + 1, 0, none⟩), .int .i64 (x.1.1 : Int), .int .i64 (x.1.2 : Int), .func (.func gf) #[] lb, .bool false, .func (.func gf) #[] lb, .int .i64 (x.1.1 : Int), .int .i64 (x.1.2 : Int), undef, undef, undef, undef, undef, undef, undef, undef, undef, undef, undef], defers := [] }) ?assign ?body ?done ?stop
  case assign =>
    intro l x W K hK
    gi_wp2
    exact hK
  case body =>
    rintro l pre x W ⟨⟨⟨⟨v, hv, hrow, _⟩, hM⟩, hlt⟩, hB⟩ hN
    have hc := hv.cell
    have hmc := hM.cell
    have hle : w.heap.size ≤ w.heap.size + 1 := by omega
    have hlen1 : pre.length + 1 ≤ 100000 := by omega
    have hcat : cellsV (vals (pre ++ [x])) = cellsV (vals pre) ++ [.int .i64 (x.1.1 : Int), .int .i64 (x.1.2 : Int)] := by rw [vals, List.map_append]; exact cellsV_snoc _ _
    have HCAT := Lib.hid hcat
    have HLT := Lib.hid hlt
    clear hcat hlt hN
    gi_wp2_with (gi_at_builtin; refine wpListIn_append_own _ rfl _ _ 32 rfl w.heap.size 54 i0 (.agg #[.int .i64 0, .int .i64 0]) 2 16 Try.underlying32 hi hz0 hz1 hz2 rfl (by decide) _ _ _ rfl (hrow.alloc _) ⟨W.heap.size, 0, none⟩ 1 1 [.int .i64 (x.1.1 : Int), .int .i64 (x.1.2 : Int)] rfl rfl (cell_two_new _ _ _ _) (by intro u hu; simp at hu; rcases hu with rfl | rfl <;> rfl) (by unfold maxLen; omega) (by omega) (by have := hB.size; simp; omega) ?_; intro v' w1 hown' hgrow _; obtain ⟨g', cap', rfl⟩ := ownsRow_succ hown'; obtain ⟨hv1, hv2, hr2, hk2, hb2⟩ := hv.appended (by decide) hrow hB.size hle hown' hgrow; have hM1 := (hM.alloc _).kept hgrow (hM.not_row (by decide) hrow); have hM2 := hM1.other (show w.heap.size ≠ w.heap.size + 1 by omega) (.slice (some ⟨g', 0, none⟩) (pre.length + 1) cap'); have hc1 := hv1.cell; have hf1 := hv1.frozen; have hc2 := hv2.cell; have hm1' := hM1.cell)
    · have h1 : (most : Int) ≤ (pre.length : Int) + 1 := by assumption
      have h2 := HLT.out
      exact ⟨hk2.from _, ⟨⟨_, hv2, by rw [HCAT.out]; simpa using hr2, trivial⟩, rfl, by simp; omega⟩, hB.trans hb2⟩
    · have h1 : (pre.length : Int) + 1 < (most : Int) := by assumption
      exact ⟨hk2.from _, hb2, ⟨⟨⟨_, hv2, by rw [HCAT.out]; simpa using hr2, trivial⟩, hM2⟩, by simp; omega⟩, hB.trans hb2⟩
  case done =>
    rintro D ys W hD rfl ⟨⟨⟨⟨v, hv, hrow, _⟩, hM⟩, hlt⟩, hB⟩ hK
    have hrow' := ownsRow_putObj hrow (.deferred none) hK rfl
    have e : (vals ys).take most = vals ys := List.take_of_length_le (by simp; omega)
    obtain ⟨a, cap, hve, hp⟩ := pairs_of_owns (rs := vals ys) (by simpa using hrow')
    subst hve
    have hc := hv.cell
    have HE := Lib.hid e
    clear e
    gi_wp2
    refine ⟨by simp, .inl ⟨_, _, rfl, run_takeDeferred hK, ?_⟩⟩
    exact ⟨_, results_tmp2 rfl _ _ _, a, cap, by rw [HE.out]; first | (simp; done) | (simp; omega), by rw [HE.out]; exact hp, hB.trans (belowK_b (w := w) (Nat.le_refl _) W D _ _ (by simp at hD; omega) hK rfl rfl)⟩
  case stop =>
    rintro D c pre W hD hsp ⟨⟨⟨v, hv, hrow, _⟩, ⟨rfl, hl⟩⟩, hB⟩ hK
    have hrow' := ownsRow_putObj hrow (.deferred none) hK rfl
    have e : R.take most = vals pre := by have := prefix_take hsp; rw [List.length_map, hl] at this; exact this
    obtain ⟨a, cap, hve, hp⟩ := pairs_of_owns (rs := vals pre) (by simpa using hrow')
    subst hve
    have hc := hv.cell
    have HE := Lib.hid e
    clear e
    gi_wp2
    refine ⟨by simp, .inl ⟨_, _, rfl, run_takeDeferred hK, ?_⟩⟩
    exact ⟨_, results_tmp2 rfl _ _ _, a, cap, by rw [HE.out]; first | (simp; done) | (simp; omega), by rw [HE.out]; exact hp, hB.trans (belowK_b (w := w) (Nat.le_refl _) W D _ _ (by simp at hD; omega) hK rfl rfl)⟩
end Go.Proofs.Ytlbbgocggifjaaa
namespace Go.Proofs.Ytlbbgocggifjaaa
open Go.RowKit Go.Shelf

theorem qpairs_any (s : ByteArray) (q : Int) (w : World) : Calls Try.prog 27 #[.string s, .int .u8 q] w fun e w' =>
    e = .returned (.func (.func 97) #[] #[.pointer (some ⟨w.heap.size, 0, none⟩), .pointer (some ⟨w.heap.size + 1, 0, none⟩)]) ∧ (w.alloc (.cells #[.string s] 9)).alloc (.cells #[.int .u8 q] 5) = w' := by
  go_enter Try.func27, Try.ntmps27
  go_wp2
  go_ret
  exact ⟨rfl, rfl⟩
theorem qpairs_stops (n₀ Bs Bq : Nat) (s : ByteArray) (q : Int) (W : World) (hbs : Bs < n₀) (hbq : Bq < n₀) (hn₀ : n₀ ≤ W.heap.size) (hs : s.size ≤ 100000) (hBs : W.cell? ⟨Bs, 0, none⟩ = some (.string s)) (hBq : W.cell? ⟨Bq, 0, none⟩ = some (.int .u8 q)) :
    SeqStopsK Fence.wide 8 Try.prog 97 #[.pointer (some ⟨Bs, 0, none⟩), .pointer (some ⟨Bq, 0, none⟩)] (fun x : Ivl s.size => #[Value.int .i64 (x.1.1 : Int), Value.int .i64 (x.1.2 : Int)]) (Below n₀)
      (fun ys => vals ys = qpF s q none 0) (fun pre => vals pre <+: qpF s q none 0) 100000 W := fun l J Jx X hX hJ _ hY h0 =>
  qpairs1_in 8 (by omega) l Bs Bq n₀ s q hbs hbq (by omega) J Jx (fun pre A B h g => hJ pre A B none h g (fun r e => by cases e)) (fun pre x A h hl => hY pre x A h (by omega)) X
    ((hX.cell (p := ⟨Bs, 0, none⟩) (by simp; omega)).trans hBs) ((hX.cell (p := ⟨Bq, 0, none⟩) (by simp; omega)).trans hBq) h0

set_option maxRecDepth 100000 in
set_option maxHeartbeats 2000000 in
theorem rqpairs_any (s : ByteArray) (q : Int) (w : World) (hs : s.size ≤ 100000) : Calls Try.prog 28 #[.string s, .int .u8 q] w fun e w' =>
    ∃ a cap, e = .returned (.slice a (qpF s q none 0).length cap) ∧ PairsAt w' a (qpF s q none 0) ∧ Below w.heap.size w w' := by
  obtain ⟨i0, hi, hz0, hz1, hz2⟩ := info_parts infoRun
  obtain ⟨R, hR⟩ : ∃ R, qpF s q none 0 = R := ⟨_, rfl⟩
  rw [hR]
  have HR := Lib.hid hR
  clear hR
  go_enter Try.func28, Try.ntmps28
  go_wp2
  go_loopw [5, 6, 7] (fun v f i wr => ∃ (k : Nat) (o : Option Nat) (pre : List (Nat × Nat)), k ≤ s.size ∧ i = .int .i64 k ∧ f = .int .i64 (fstI o) ∧ (∀ a, o = some a → a < k) ∧ pre.length ≤ k ∧ wr.ownsRow w.heap.size 54 2 v pre.length (cellsV pre) ∧ Hid (pre ++ qpF s q o k = R) ∧ Below w.heap.size w wr)
    (fun _ _ i _ => s.size - (intOf i).toNat)
  case atStart => exact ⟨0, none, [], Nat.zero_le _, rfl, rfl, (fun a h => by cases h), Nat.le_refl _, World.ownsRow_nil _ _ _ _, Lib.hid (by rw [List.nil_append]; exact HR.out), Below.refl _ _⟩
  case round =>
    obtain ⟨k, o, pre, hk, rfl, rfl, ho, hp, hrow, HK, hB⟩ := hrel
    by_cases hlt : k < s.size
    · have hb := byt_at' s k hlt
      have hltI : (k : Int) < (s.size : Int) := by omega
      obtain ⟨cc, hcc⟩ : ∃ cc : Int, (s[k].toNat : Int) = cc := ⟨_, rfl⟩
      rw [hcc] at hb
      by_cases h1 : cc = q
      · have t1 : (cc != q) = false := by rw [bne_eq_false_iff_eq]; exact h1
        cases o with
        | none =>
          have HK2 : Hid (pre ++ qpF s q (some k) (k + 1) = R) := Lib.hid (by rw [← qpF_open hlt (hb.trans h1)]; exact HK.out)
          have e1 : fstI none = -1 := rfl
          clear HK h1 hb ho
          go_wp2
          go_roundw
          case rel => exact ⟨k + 1, some k, pre, by omega, by go_num, rfl, (fun a e => by cases e; omega), by omega, hrow, HK2, hB⟩
          case measure => simp [intOf]; omega
        | some a =>
          have ha := ho a rfl
          have e1 : fstI (some a) = (a : Int) := rfl
          have HK2 : Hid ((pre ++ [(a, k)]) ++ qpF s q none (k + 1) = R) := Lib.hid (by rw [← HK.out, qpF_shut hlt (hb.trans h1)]; simp)
          have HC := Lib.hid (cellsV_snoc pre (a, k))
          have ha0 : (0 : Int) ≤ (a : Int) := by omega
          clear HK h1 hb ho
          go_wp2_with (at_builtin; refine wpList_append_own _ rfl _ _ 32 rfl w.heap.size 54 i0 (.agg #[.int .i64 0, .int .i64 0]) 2 16 Try.underlying32 hi hz0 hz1 hz2 rfl (by decide) _ _ _ rfl (hrow.alloc _) ⟨wr.heap.size, 0, none⟩ 1 1 [.int .i64 (a : Int), .int .i64 (k : Int)] rfl rfl (cell_two_new _ _ _ _) (by intro u hu; simp at hu; rcases hu with rfl | rfl <;> rfl) (by unfold maxLen; omega) (by omega) (by have := hB.size; simp; omega) ?_; intro v' w1 hown' hgrow _)
          have hB1 : Below w.heap.size w w1 := (hB.alloc hB.size _).grown hgrow (by have := hB.size; simp; omega) (fun r e => (hrow.lt r e).1)
          go_roundw
          case rel => exact ⟨k + 1, none, pre ++ [(a, k)], by omega, by go_num, rfl, (fun a e => by cases e), by simp; omega, by rw [HC.out]; simpa using hown', HK2, hB1⟩
          case measure => simp [intOf]; omega
      · have t1 : (cc != q) = true := by rw [bne_iff_ne]; exact h1
        have HK2 : Hid (pre ++ qpF s q o (k + 1) = R) := Lib.hid (by rw [← qpF_no hlt (by rw [hb]; exact h1)]; exact HK.out)
        clear HK h1 hb
        go_wp2
        go_roundw
        case rel => exact ⟨k + 1, o, pre, by omega, by go_num, rfl, (fun a e => by have := ho a e; omega), by omega, hrow, HK2, hB⟩
        case measure => simp [intOf]; omega
    · have e : pre = R := by have := HK.out; rwa [qpF_end (by omega), List.append_nil] at this
      subst e
      obtain ⟨a, cap, hve, hpa⟩ := pairs_of_owns hrow
      subst hve
      go_wp2
      go_ret
      exact ⟨a, cap, rfl, hpa, hB⟩

set_option maxHeartbeats 1000000 in
theorem same16_any (a b : Option Addr) (ca cb : Nat) (R : List (Nat × Nat)) (hR : R.length ≤ 100000) (w : World) (ha : PairsAt w a R) (hb : PairsAt w b R) :
    Calls Try.prog 29 #[.slice a R.length ca, .slice b R.length cb] w fun e w' => e = .returned (.bool true) ∧ Below w.heap.size w w' := by
  rcases ha.split with rfl | ⟨g, rfl, hg, h0, hc⟩
  · go_enter Try.func29, Try.ntmps29
    go_wp2
    go_loop [5] (fun i => i = .int .i64 0) (fun _ => 0)
    case atStart => rfl
    case round =>
      subst hrel
      go_wp2
      go_ret
      exact ⟨rfl, by (repeat (first | exact Below.refl _ _ | refine Below.alloc ?_ (by first | exact Nat.le_refl _ | (simp; done) | (simp; omega)) _ | refine below_ovr_of ?_ | refine drew_below ?_ _ | refine Below.drew ?_ | refine Below.setCell ?_ (by first | exact Nat.le_refl _ | (simp; done) | (simp; omega)) _ | assumption))⟩
  · rcases hb.split with rfl | ⟨g', rfl, hg', _, hc'⟩
    · simp at h0
    · have HC := Lib.hid hc
      have HC' := Lib.hid hc'
      clear hc hc' ha hb
      go_enter Try.func29, Try.ntmps29
      go_wp2
      go_loopw [5] (fun i wr => ∃ k : Nat, k ≤ R.length ∧ i = .int .i64 k ∧ ∃ n, wr = w.drewN n) (fun i _ => R.length - (intOf i).toNat)
      case atStart => exact ⟨0, Nat.zero_le _, rfl, 0, rfl⟩
      case round =>
        obtain ⟨k, hk, rfl, n, rfl⟩ := hrel
        by_cases hlt : k < R.length
        · have hltI : (k : Int) < (R.length : Int) := by omega
          have hk0 : (0 : Int) ≤ (k : Int) := by omega
          obtain ⟨c1, c2⟩ := HC.out k hlt
          obtain ⟨d1, d2⟩ := HC'.out k hlt
          go_wp2
          go_quiet (fail)
          go_wp2
          go_roundw
          case rel => exact ⟨k + 1, by omega, by go_num, _, rfl⟩
          case measure => simp [intOf]; omega
        · go_wp2
          go_ret
          exact ⟨rfl, by (repeat (first | exact Below.refl _ _ | refine Below.alloc ?_ (by first | exact Nat.le_refl _ | (simp; done) | (simp; omega)) _ | refine below_ovr_of ?_ | refine drew_below ?_ _ | refine Below.drew ?_ | refine Below.setCell ?_ (by first | exact Nat.le_refl _ | (simp; done) | (simp; omega)) _ | assumption))⟩
set_option maxHeartbeats 1000000 in
theorem same15_any (a b : Option Addr) (ca cb : Nat) (R : List (Nat × Nat)) (hR : R.length ≤ 100000) (w : World) (ha : PairsAt w a R) (hb : PairsAt w b R) :
    Calls Try.prog 39 #[.slice a R.length ca, .slice b R.length cb] w fun e w' => e = .returned (.bool true) ∧ Below w.heap.size w w' := by
  rcases ha.split with rfl | ⟨g, rfl, hg, h0, hc⟩
  · go_enter Try.func39, Try.ntmps39
    go_wp2
    go_loop [5] (fun i => i = .int .i64 0) (fun _ => 0)
    case atStart => rfl
    case round =>
      subst hrel
      go_wp2
      go_ret
      exact ⟨rfl, by (repeat (first | exact Below.refl _ _ | refine Below.alloc ?_ (by first | exact Nat.le_refl _ | (simp; done) | (simp; omega)) _ | refine below_ovr_of ?_ | refine drew_below ?_ _ | refine Below.drew ?_ | refine Below.setCell ?_ (by first | exact Nat.le_refl _ | (simp; done) | (simp; omega)) _ | assumption))⟩
  · rcases hb.split with rfl | ⟨g', rfl, hg', _, hc'⟩
    · simp at h0
    · have HC := Lib.hid hc
      have HC' := Lib.hid hc'
      clear hc hc' ha hb
      go_enter Try.func39, Try.ntmps39
      go_wp2
      go_loopw [5] (fun i wr => ∃ k : Nat, k ≤ R.length ∧ i = .int .i64 k ∧ ∃ n, wr = w.drewN n) (fun i _ => R.length - (intOf i).toNat)
      case atStart => exact ⟨0, Nat.zero_le _, rfl, 0, rfl⟩
      case round =>
        obtain ⟨k, hk, rfl, n, rfl⟩ := hrel
        by_cases hlt : k < R.length
        · have hltI : (k : Int) < (R.length : Int) := by omega
          have hk0 : (0 : Int) ≤ (k : Int) := by omega
          obtain ⟨c1, c2⟩ := HC.out k hlt
          obtain ⟨d1, d2⟩ := HC'.out k hlt
          go_wp2
          go_quiet (fail)
          go_wp2
          go_roundw
          case rel => exact ⟨k + 1, by omega, by go_num, _, rfl⟩
          case measure => simp [intOf]; omega
        · go_wp2
          go_ret
          exact ⟨rfl, by (repeat (first | exact Below.refl _ _ | refine Below.alloc ?_ (by first | exact Nat.le_refl _ | (simp; done) | (simp; omega)) _ | refine below_ovr_of ?_ | refine drew_below ?_ _ | refine Below.drew ?_ | refine Below.setCell ?_ (by first | exact Nat.le_refl _ | (simp; done) | (simp; omega)) _ | assumption))⟩
end Go.Proofs.Ytlbbgocggifjaaa
