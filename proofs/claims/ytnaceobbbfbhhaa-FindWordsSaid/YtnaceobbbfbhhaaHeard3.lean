/- What is told by an iterator of places, so many at most: the laws' own. Conditions: what it says of the iterator. -/
import Derived.Test.YtnaceobbbfbhhaaHeard2
namespace Go.Proofs.Ytnaceobbbfbhhaa
open Go.RowKit Go.Shelf

attribute [local go_sem] Oper.semAt_some

theorem boxed_new' (W : World) (t : TypeId) (v : Value) {n : Nat} (h : n = W.heap.size) : Boxed (W.alloc (.cells #[v] t)) n t v := by subst h; exact Boxed.new W t v
theorem prefix_take' {α β : Type} {f : α → β} {pre : List α} {R : List β} (h : pre.map f <+: R) : R.take pre.length = pre.map f := by
  obtain ⟨t, rfl⟩ := h
  rw [List.take_append_of_le_length (by simp), List.take_of_length_le (by simp)]
set_option maxRecDepth 100000 in
set_option maxHeartbeats 4000000 in
theorem heard10_any (m gf : Nat) (lb : Array Value) (R : List (Nat × Nat)) (hR : R.length ≤ 100000) (most : Nat) (hm : 1 ≤ most) (hm2 : most ≤ 100000) (w : World)
    (hE : ∀ args W, (callFunc gf args).run Try.prog W = .ok (.enter gf args) W)
    (hS : ∀ W, Below w.heap.size w W → W.heap.size = w.heap.size + 1 + 1 → SeqStopsK Fence.wide 8 Try.prog gf lb (fun x : Plc m => #[Value.agg #[Value.int .i64 (x.1.1 : Int), Value.int .i64 (x.1.2 : Int)]]) (Typ 3 W.heap.size [w.heap.size + 1]) (fun ys => valsP ys = R) (fun pre => valsP pre <+: R) 100000 W) :
    Calls Try.prog 55 #[.func (.func gf) #[] lb, .int .i64 most] w fun e w' => ∃ a cap, e = .returned (.tuple #[.slice a (R.take most).length cap, .bool true]) ∧ PairsAt w' a (R.take most) ∧ Below w.heap.size w w' := by
  obtain ⟨i0, hi, hz0, hz1, hz2⟩ := info_parts infoPos
  have hnil : ∀ w : World, (binOp BinOp.eql 51 (.func (.func gf) #[] lb) .nilFunc).run Try.prog w = .ok (.bool false) w := fun _ => by kernel_rfl
  refine (callsIn_wide (n := 9)).1 ?_
  refine callsIn_of_wp_marks Try.func55 rfl trivial ?_ rfl
  simp only [Try.ntmps55, List.size_toArray, List.length_cons, List.length_nil, Nat.reduceAdd, Nat.reduceSub, Array.replicate_succ, Array.replicate_zero, List.push_toArray, List.append_toArray, List.nil_append, List.cons_append]
  gi_wp2
  refine name_worldIn ?_
  intro W1 hW1
  have bM : Boxed W1 w.heap.size 3 (.int .i64 most) := by rw [hW1]; exact (boxed_new' _ _ _ rfl).alloc _
  have bO : Boxed W1 (w.heap.size + 1) 48 (.slice none 0 0) := by rw [hW1]; exact boxed_new' _ _ _ (by simp)
  have hB0 : Below w.heap.size w W1 := by rw [hW1]; (repeat (first | with_reducible exact Below.refl _ _ | (with_reducible refine Below.setCell ?_ ?_ _; rotate_left; · (first | exact Nat.le_refl _ | assumption | omega | (simp; done) | (simp; omega))) | (with_reducible refine Below.alloc ?_ ?_ _; rotate_left; · (first | exact Nat.le_refl _ | assumption | omega | (simp; done) | (simp; omega))) | with_reducible refine below_ovr_of ?_ | with_reducible refine drew_below ?_ _ | with_reducible refine Below.drew ?_ | with_reducible assumption))
  have hsz : W1.heap.size = w.heap.size + 1 + 1 := by rw [hW1]; simp
  clear hW1
  have hOwn : OwnFrom W1.heap.size (fun (pre : List (Plc m)) W => (((∃ v, Boxed W (w.heap.size + 1) 48 v ∧ W.ownsRow W1.heap.size 46 2 v pre.length (cellsV (valsP pre)) ∧ True) ∧ Boxed W w.heap.size 3 (.int .i64 most)) ∧ pre.length < most) ∧ Typ 3 W1.heap.size [w.heap.size + 1] W1 W) :=
    OwnFrom.and (OwnFrom.and (OwnFrom.and (Own.from (holdsRow_own W1.heap.size (w.heap.size + 1) 48 46 2 (fun pre : List (Plc m) => pre.length) (fun pre => cellsV (valsP pre)) (fun _ _ => True)) _) (Own.from (boxed_own _ _ _) _)) (ownFrom_pure _ _)) (typFrom (Nat.le_refl _))
  refine wpIn_rangeFunc_ownH rfl (by omega) (gf := gf) (lb := lb) rfl trivial hE (hS _ hB0 hsz) (fun h k => Typ.trans h k) (typK_b (Nat.le_refl _)) (Below.refl _ _) (fun _ => rfl)
    _
    (fun c pre W => ((∃ v, Boxed W (w.heap.size + 1) 48 v ∧ W.ownsRow W1.heap.size 46 2 v pre.length (cellsV (valsP pre)) ∧ True) ∧ (c = .exit 0 ∧ pre.length = most)) ∧ Typ 3 W1.heap.size [w.heap.size + 1] W1 W)
    hOwn
    (fun c => OwnFrom.and (OwnFrom.and (Own.from (holdsRow_own W1.heap.size (w.heap.size + 1) 48 46 2 (fun pre : List (Plc m) => pre.length) (fun pre => cellsV (valsP pre)) (fun _ _ => True)) _) (ownFrom_pure _ _)) (typFrom (Nat.le_refl _)))
    ⟨⟨⟨⟨_, bO, World.ownsRow_nil _ _ _ _, trivial⟩, bM⟩, by simp; omega⟩, Typ.refl _ _ _ _⟩
    (fun x a' W => ∃ Bx, W1.heap.size ≤ Bx ∧ Box2 W Bx 46 (.int .i64 (x.1.1 : Int)) (.int .i64 (x.1.2 : Int)) ∧ a' = { tmps := #[.func (.func gf) #[] lb, .int .i64 most, undef, .pointer (some ⟨w.heap.size, 0, none⟩), .slice none 0 0, .bool false, .pointer (some ⟨w.heap.size + 1, 0, none⟩), .pointer (some ⟨Bx, 0, none⟩), .func (.func gf) #[] lb, .bool false, .func (.func gf) #[] lb, .agg #[.int .i64 (x.1.1 : Int), .int .i64 (x.1.2 : Int)], undef, undef, undef, undef, undef, undef, undef, undef, undef], defers := [] })
    (fun x a' _ X Y row ⟨Bx, h1, h2, h3⟩ hg hr => ⟨Bx, h1, Box2.own (β := Unit) Bx _ _ _ _ () X Y row h2 hg hr, h3⟩)
    ?assign ?body ?done ?stop
  case assign =>
    intro l pre x W K hI hK
    gi_wp2
    exact hK _ _ ((KeepsOthers.alloc W _).from _) ((Typ.refl _ _ _ W).alloc _) (hOwn.alloc _ hI) ⟨W.heap.size, hI.2.size, World.alloc_heap_new W _, rfl⟩
  case body =>
    rintro l pre x a' W _ _ ⟨⟨⟨⟨v, hv, hrow, _⟩, hM⟩, hlt⟩, hB⟩ ⟨Bx, hBx, hx, rfl⟩ hN
    have hc := hv.cell
    have hmc := hM.cell
    have hx0 := hx.c0
    have hx1 := hx.c1
    have hxl := hx.lt
    have hBs := hB.size
    have hlen1 : pre.length + 1 ≤ 100000 := by omega
    have hcat : cellsV (valsP (pre ++ [x])) = cellsV (valsP pre) ++ [.int .i64 (x.1.1 : Int), .int .i64 (x.1.2 : Int)] := by rw [valsP, List.map_append]; exact cellsV_snoc _ _
    have HCAT := Lib.hid hcat
    have HLT := Lib.hid hlt
    clear hcat hlt hN
    gi_wp2_with (gi_at_builtin; refine wpListIn_append_own _ rfl _ _ 48 rfl W1.heap.size 46 i0 (.agg #[.int .i64 0, .int .i64 0]) 2 16 Try.underlying48 hi hz0 hz1 hz2 rfl (by decide) _ _ _ rfl (hrow.alloc _) ⟨W.heap.size, 0, none⟩ 1 1 [.int .i64 (x.1.1 : Int), .int .i64 (x.1.2 : Int)] rfl rfl (cell_two_new _ _ _ _) (by intro u hu; simp at hu; rcases hu with rfl | rfl <;> rfl) (by unfold maxLen; omega) (by omega) (by simp; omega) ?_; intro v' w1 hown' hgrow _; obtain ⟨g', cap', rfl⟩ := ownsRow_succ hown'; obtain ⟨hv1, hv2, hr2, hk2, hb2⟩ := typ_appended (t0 := 3) hv (by decide) (by decide) hrow hown' hgrow hBs (E := [w.heap.size + 1]) (by simp); have hM1 := (hM.alloc _).kept hgrow (hM.not_row (by decide) hrow); have hM2 := hM1.other (show w.heap.size ≠ w.heap.size + 1 by omega) (.slice (some ⟨g', 0, none⟩) (pre.length + 1) cap'); have hc1 := hv1.cell; have hf1 := hv1.frozen; have hc2 := hv2.cell; have hm1' := hM1.cell)
    · have h1 : (most : Int) ≤ (pre.length : Int) + 1 := by assumption
      have h2 := HLT.out
      exact ⟨hk2.from _, ⟨⟨_, hv2, by rw [HCAT.out]; simpa using hr2, trivial⟩, rfl, by simp; omega⟩, hB.trans hb2⟩
    · have h1 : (pre.length : Int) + 1 < (most : Int) := by assumption
      exact ⟨hk2.from _, hb2, ⟨⟨⟨_, hv2, by rw [HCAT.out]; simpa using hr2, trivial⟩, hM2⟩, by simp; omega⟩, hB.trans hb2⟩
  case done =>
    rintro D ys W hD rfl ⟨⟨⟨⟨v, hv, hrow, _⟩, hM⟩, hlt⟩, hB⟩ hK
    have hrow' := ownsRow_putObj hrow (.deferred none) hK rfl
    have e : (valsP ys).take most = valsP ys := List.take_of_length_le (by simp; omega)
    obtain ⟨a, cap, hve, hp⟩ := pairs_of_owns (rs := valsP ys) (by simpa using hrow')
    subst hve
    have hc := hv.cell
    have HE := Lib.hid e
    have hfin : Below w.heap.size w W := hB.below hB0 (by omega) (by omega) (by simp)
    clear e
    gi_wp2
    refine ⟨by simp, .inl ⟨_, _, rfl, run_takeDeferred hK, ?_⟩⟩
    exact ⟨_, results_tmp2 rfl _ _ _, a, cap, by rw [HE.out]; first | (simp; done) | (simp; omega), by rw [HE.out]; exact hp, below_put (by omega) hK hfin⟩
  case stop =>
    rintro D c pre W hD hsp ⟨⟨⟨v, hv, hrow, _⟩, ⟨rfl, hl⟩⟩, hB⟩ hK
    have hrow' := ownsRow_putObj hrow (.deferred none) hK rfl
    have e : R.take most = valsP pre := by rw [← hl]; exact prefix_take' hsp
    obtain ⟨a, cap, hve, hp⟩ := pairs_of_owns (rs := valsP pre) (by simpa using hrow')
    subst hve
    have hc := hv.cell
    have HE := Lib.hid e
    have hfin : Below w.heap.size w W := hB.below hB0 (by omega) (by omega) (by simp)
    clear e
    gi_wp2
    refine ⟨by simp, .inl ⟨_, _, rfl, run_takeDeferred hK, ?_⟩⟩
    exact ⟨_, results_tmp2 rfl _ _ _, a, cap, by rw [HE.out]; first | (simp; done) | (simp; omega), by rw [HE.out]; exact hp, below_put (by omega) hK hfin⟩
set_option maxRecDepth 100000 in
set_option maxHeartbeats 4000000 in
theorem heard12_any (m gf : Nat) (lb : Array Value) (R : List (Nat × Nat)) (hR : R.length ≤ 100000) (most : Nat) (hm : 1 ≤ most) (hm2 : most ≤ 100000) (w : World)
    (hE : ∀ args W, (callFunc gf args).run Try.prog W = .ok (.enter gf args) W)
    (hS : ∀ W, Below w.heap.size w W → W.heap.size = w.heap.size + 1 + 1 → SeqStopsK Fence.wide 8 Try.prog gf lb (fun x : Plc m => #[Value.agg #[Value.int .i64 (x.1.1 : Int), Value.int .i64 (x.1.2 : Int)]]) (Typ 3 W.heap.size [w.heap.size + 1]) (fun ys => valsP ys = R) (fun pre => valsP pre <+: R) 100000 W) :
    Calls Try.prog 39 #[.func (.func gf) #[] lb, .int .i64 most] w fun e w' => ∃ a cap, e = .returned (.tuple #[.slice a (R.take most).length cap, .bool true]) ∧ PairsAt w' a (R.take most) ∧ Below w.heap.size w w' := by
  obtain ⟨i0, hi, hz0, hz1, hz2⟩ := info_parts infoPos
  have hnil : ∀ w : World, (binOp BinOp.eql 51 (.func (.func gf) #[] lb) .nilFunc).run Try.prog w = .ok (.bool false) w := fun _ => by kernel_rfl
  refine (callsIn_wide (n := 9)).1 ?_
  refine callsIn_of_wp_marks Try.func39 rfl trivial ?_ rfl
  simp only [Try.ntmps39, List.size_toArray, List.length_cons, List.length_nil, Nat.reduceAdd, Nat.reduceSub, Array.replicate_succ, Array.replicate_zero, List.push_toArray, List.append_toArray, List.nil_append, List.cons_append]
  gi_wp2
  refine name_worldIn ?_
  intro W1 hW1
  have bM : Boxed W1 w.heap.size 3 (.int .i64 most) := by rw [hW1]; exact (boxed_new' _ _ _ rfl).alloc _
  have bO : Boxed W1 (w.heap.size + 1) 48 (.slice none 0 0) := by rw [hW1]; exact boxed_new' _ _ _ (by simp)
  have hB0 : Below w.heap.size w W1 := by rw [hW1]; (repeat (first | with_reducible exact Below.refl _ _ | (with_reducible refine Below.setCell ?_ ?_ _; rotate_left; · (first | exact Nat.le_refl _ | assumption | omega | (simp; done) | (simp; omega))) | (with_reducible refine Below.alloc ?_ ?_ _; rotate_left; · (first | exact Nat.le_refl _ | assumption | omega | (simp; done) | (simp; omega))) | with_reducible refine below_ovr_of ?_ | with_reducible refine drew_below ?_ _ | with_reducible refine Below.drew ?_ | with_reducible assumption))
  have hsz : W1.heap.size = w.heap.size + 1 + 1 := by rw [hW1]; simp
  clear hW1
  have hOwn : OwnFrom W1.heap.size (fun (pre : List (Plc m)) W => (((∃ v, Boxed W (w.heap.size + 1) 48 v ∧ W.ownsRow W1.heap.size 46 2 v pre.length (cellsV (valsP pre)) ∧ True) ∧ Boxed W w.heap.size 3 (.int .i64 most)) ∧ pre.length < most) ∧ Typ 3 W1.heap.size [w.heap.size + 1] W1 W) :=
    OwnFrom.and (OwnFrom.and (OwnFrom.and (Own.from (holdsRow_own W1.heap.size (w.heap.size + 1) 48 46 2 (fun pre : List (Plc m) => pre.length) (fun pre => cellsV (valsP pre)) (fun _ _ => True)) _) (Own.from (boxed_own _ _ _) _)) (ownFrom_pure _ _)) (typFrom (Nat.le_refl _))
  refine wpIn_rangeFunc_ownH rfl (by omega) (gf := gf) (lb := lb) rfl trivial hE (hS _ hB0 hsz) (fun h k => Typ.trans h k) (typK_b (Nat.le_refl _)) (Below.refl _ _) (fun _ => rfl)
    _
    (fun c pre W => ((∃ v, Boxed W (w.heap.size + 1) 48 v ∧ W.ownsRow W1.heap.size 46 2 v pre.length (cellsV (valsP pre)) ∧ True) ∧ (c = .exit 0 ∧ pre.length = most)) ∧ Typ 3 W1.heap.size [w.heap.size + 1] W1 W)
    hOwn
    (fun c => OwnFrom.and (OwnFrom.and (Own.from (holdsRow_own W1.heap.size (w.heap.size + 1) 48 46 2 (fun pre : List (Plc m) => pre.length) (fun pre => cellsV (valsP pre)) (fun _ _ => True)) _) (ownFrom_pure _ _)) (typFrom (Nat.le_refl _)))
    ⟨⟨⟨⟨_, bO, World.ownsRow_nil _ _ _ _, trivial⟩, bM⟩, by simp; omega⟩, Typ.refl _ _ _ _⟩
    (fun x a' W => ∃ Bx, W1.heap.size ≤ Bx ∧ Box2 W Bx 46 (.int .i64 (x.1.1 : Int)) (.int .i64 (x.1.2 : Int)) ∧ a' = { tmps := #[.func (.func gf) #[] lb, .int .i64 most, undef, .pointer (some ⟨w.heap.size, 0, none⟩), .slice none 0 0, .bool false, .pointer (some ⟨w.heap.size + 1, 0, none⟩), .pointer (some ⟨Bx, 0, none⟩), .func (.func gf) #[] lb, .bool false, .func (.func gf) #[] lb, .agg #[.int .i64 (x.1.1 : Int), .int .i64 (x.1.2 : Int)], undef, undef, undef, undef, undef, undef, undef, undef, undef], defers := [] })
    (fun x a' _ X Y row ⟨Bx, h1, h2, h3⟩ hg hr => ⟨Bx, h1, Box2.own (β := Unit) Bx _ _ _ _ () X Y row h2 hg hr, h3⟩)
    ?assign ?body ?done ?stop
  case assign =>
    intro l pre x W K hI hK
    gi_wp2
    exact hK _ _ ((KeepsOthers.alloc W _).from _) ((Typ.refl _ _ _ W).alloc _) (hOwn.alloc _ hI) ⟨W.heap.size, hI.2.size, World.alloc_heap_new W _, rfl⟩
  case body =>
    rintro l pre x a' W _ _ ⟨⟨⟨⟨v, hv, hrow, _⟩, hM⟩, hlt⟩, hB⟩ ⟨Bx, hBx, hx, rfl⟩ hN
    have hc := hv.cell
    have hmc := hM.cell
    have hx0 := hx.c0
    have hx1 := hx.c1
    have hxl := hx.lt
    have hBs := hB.size
    have hlen1 : pre.length + 1 ≤ 100000 := by omega
    have hcat : cellsV (valsP (pre ++ [x])) = cellsV (valsP pre) ++ [.int .i64 (x.1.1 : Int), .int .i64 (x.1.2 : Int)] := by rw [valsP, List.map_append]; exact cellsV_snoc _ _
    have HCAT := Lib.hid hcat
    have HLT := Lib.hid hlt
    clear hcat hlt hN
    gi_wp2_with (gi_at_builtin; refine wpListIn_append_own _ rfl _ _ 48 rfl W1.heap.size 46 i0 (.agg #[.int .i64 0, .int .i64 0]) 2 16 Try.underlying48 hi hz0 hz1 hz2 rfl (by decide) _ _ _ rfl (hrow.alloc _) ⟨W.heap.size, 0, none⟩ 1 1 [.int .i64 (x.1.1 : Int), .int .i64 (x.1.2 : Int)] rfl rfl (cell_two_new _ _ _ _) (by intro u hu; simp at hu; rcases hu with rfl | rfl <;> rfl) (by unfold maxLen; omega) (by omega) (by simp; omega) ?_; intro v' w1 hown' hgrow _; obtain ⟨g', cap', rfl⟩ := ownsRow_succ hown'; obtain ⟨hv1, hv2, hr2, hk2, hb2⟩ := typ_appended (t0 := 3) hv (by decide) (by decide) hrow hown' hgrow hBs (E := [w.heap.size + 1]) (by simp); have hM1 := (hM.alloc _).kept hgrow (hM.not_row (by decide) hrow); have hM2 := hM1.other (show w.heap.size ≠ w.heap.size + 1 by omega) (.slice (some ⟨g', 0, none⟩) (pre.length + 1) cap'); have hc1 := hv1.cell; have hf1 := hv1.frozen; have hc2 := hv2.cell; have hm1' := hM1.cell)
    · have h1 : (most : Int) ≤ (pre.length : Int) + 1 := by assumption
      have h2 := HLT.out
      exact ⟨hk2.from _, ⟨⟨_, hv2, by rw [HCAT.out]; simpa using hr2, trivial⟩, rfl, by simp; omega⟩, hB.trans hb2⟩
    · have h1 : (pre.length : Int) + 1 < (most : Int) := by assumption
      exact ⟨hk2.from _, hb2, ⟨⟨⟨_, hv2, by rw [HCAT.out]; simpa using hr2, trivial⟩, hM2⟩, by simp; omega⟩, hB.trans hb2⟩
  case done =>
    rintro D ys W hD rfl ⟨⟨⟨⟨v, hv, hrow, _⟩, hM⟩, hlt⟩, hB⟩ hK
    have hrow' := ownsRow_putObj hrow (.deferred none) hK rfl
    have e : (valsP ys).take most = valsP ys := List.take_of_length_le (by simp; omega)
    obtain ⟨a, cap, hve, hp⟩ := pairs_of_owns (rs := valsP ys) (by simpa using hrow')
    subst hve
    have hc := hv.cell
    have HE := Lib.hid e
    have hfin : Below w.heap.size w W := hB.below hB0 (by omega) (by omega) (by simp)
    clear e
    gi_wp2
    refine ⟨by simp, .inl ⟨_, _, rfl, run_takeDeferred hK, ?_⟩⟩
    exact ⟨_, results_tmp2 rfl _ _ _, a, cap, by rw [HE.out]; first | (simp; done) | (simp; omega), by rw [HE.out]; exact hp, below_put (by omega) hK hfin⟩
  case stop =>
    rintro D c pre W hD hsp ⟨⟨⟨v, hv, hrow, _⟩, ⟨rfl, hl⟩⟩, hB⟩ hK
    have hrow' := ownsRow_putObj hrow (.deferred none) hK rfl
    have e : R.take most = valsP pre := by rw [← hl]; exact prefix_take' hsp
    obtain ⟨a, cap, hve, hp⟩ := pairs_of_owns (rs := valsP pre) (by simpa using hrow')
    subst hve
    have hc := hv.cell
    have HE := Lib.hid e
    have hfin : Below w.heap.size w W := hB.below hB0 (by omega) (by omega) (by simp)
    clear e
    gi_wp2
    refine ⟨by simp, .inl ⟨_, _, rfl, run_takeDeferred hK, ?_⟩⟩
    exact ⟨_, results_tmp2 rfl _ _ _, a, cap, by rw [HE.out]; first | (simp; done) | (simp; omega), by rw [HE.out]; exact hp, below_put (by omega) hK hfin⟩
end Go.Proofs.Ytnaceobbbfbhhaa
