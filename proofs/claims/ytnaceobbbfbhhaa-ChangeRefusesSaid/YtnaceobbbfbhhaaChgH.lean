/- The program's Inverse. Conditions: lengths that a machine bears. -/
import Derived.Test.YtnaceobbbfbhhaaChgI
import Derived.Test.YtnaceobbbfbhhaaStill
namespace Go.Proofs.Ytnaceobbbfbhhaa
open Go.RowKit Go.Shelf

attribute [local go_sem] Oper.semAt_some
attribute [local go_sem ↓] append_hold

theorem boxed_new' (W : World) (t : TypeId) (v : Value) {n : Nat} (h : n = W.heap.size) : Boxed (W.alloc (.cells #[v] t)) n t v := by subst h; exact Boxed.new W t v
/-- Three cells in a box. -/
def Box3 (W : World) (B : Nat) (t : TypeId) (u v s : Value) : Prop := W.heap[B]? = some (.cells #[u, v, s] t (0, 0))
theorem Box3.c0 {W : World} {B : Nat} {t : TypeId} {u v s : Value} (h : Box3 W B t u v s) : W.cell? ⟨B, 0, none⟩ = some u := by simp [World.cell?, show W.heap[B]? = _ from h]
theorem Box3.c1 {W : World} {B : Nat} {t : TypeId} {u v s : Value} (h : Box3 W B t u v s) : W.cell? ⟨B, 1, none⟩ = some v := by simp [World.cell?, show W.heap[B]? = _ from h]
theorem Box3.c2 {W : World} {B : Nat} {t : TypeId} {u v s : Value} (h : Box3 W B t u v s) : W.cell? ⟨B, 2, none⟩ = some s := by simp [World.cell?, show W.heap[B]? = _ from h]
theorem Box3.lt {W : World} {B : Nat} {t : TypeId} {u v s : Value} (h : Box3 W B t u v s) : B < W.heap.size := (Array.getElem?_eq_some_iff.1 h).1
theorem Box3.own {β : Type} (B n : Nat) (t : TypeId) (u v s : Value) : OwnFrom (β := β) n (fun _ W => Box3 W B t u v s) := fun _ X Y row hs hg hr => by
  refine (hg.block B hs.lt (fun e => ?_)).trans hs
  obtain ⟨o, ho, hc⟩ := (hr B e.symm).2
  rw [show X.heap[B]? = _ from hs] at ho
  cases ho; cases hc
/-- A change, turned round. -/
abbrev flipC (c : Chg) : Chg := (c.1, c.2.2, c.2.1)
/-- The changes that came, turned round. -/
abbrev preC (cs : List Chg) {m : Nat} (pre : List (Idx m)) : List Chg := pre.map (fun x => flipC (cs.getD x.1 (0, [], [])))
theorem preC_all (cs : List Chg) {m : Nat} (hm : m = cs.length) (ys : List (Idx m)) (h : ys.map Subtype.val = (List.range m).reverse) : preC cs ys = invP cs := by
  subst hm
  have e : preC cs ys = (ys.map Subtype.val).map (fun i => flipC (cs.getD i (0, [], []))) := by rw [List.map_map]; rfl
  rw [e, h, List.map_reverse, invP]
  congr 1
  refine List.ext_getElem (by simp) fun i h1 h2 => ?_
  simp [List.getD_eq_getElem?_getD, List.getElem?_eq_getElem (show i < cs.length by simpa using h2)]
theorem chgRow_lt {W : World} {n lo : Nat} {v : Value} {cs : List Chg} (h : ChgRow W n lo v cs) : ∀ g, v.ownBlock = some g → g < W.heap.size := by
  obtain ⟨rows, ho, _⟩ := h
  exact fun g e => (ho.lt g e).2
theorem frozen_below {n b o : Nat} {X Y : World} (h : Below n X Y) (hb : b < n) : Y.frozen? ⟨b, o, none⟩ = X.frozen? ⟨b, o, none⟩ := by simp [World.frozen?, h.block b hb]
/-- What a round holds on to. -/
def Facts (W : World) (B C : Nat) (v a b c : Value) : Prop := W.cell? ⟨B, 0, none⟩ = some v ∧ W.frozen? ⟨B, 0, none⟩ = false ∧ W.cell? ⟨C, 0, none⟩ = some a ∧ W.cell? ⟨C, 1, none⟩ = some b ∧ W.cell? ⟨C, 2, none⟩ = some c
theorem facts_grown {X Y : World} {row : Option Nat} {B C : Nat} {v a b c : Value} (hg : X.grownBy Y row) (hB : B < X.heap.size) (hC : C < X.heap.size) (h1 : row ≠ some B) (h2 : row ≠ some C) (h : Facts X B C v a b c) : Facts Y B C v a b c := by
  have k1 := hg.block B hB (fun e => h1 e.symm)
  have k2 := hg.block C hC (fun e => h2 e.symm)
  obtain ⟨f1, f2, f3, f4, f5⟩ := h
  refine ⟨?_, ?_, ?_, ?_, ?_⟩
  · rw [← f1]; simp [World.cell?, k1]
  · rw [← f2]; simp [World.frozen?, k1]
  · rw [← f3]; simp [World.cell?, k2]
  · rw [← f4]; simp [World.cell?, k2]
  · rw [← f5]; simp [World.cell?, k2]
theorem facts_below {X Y : World} {B C : Nat} {v a b c : Value} (hb : Below X.heap.size X Y) (hB : B < X.heap.size) (hC : C < X.heap.size) (h : Facts X B C v a b c) : Facts Y B C v a b c := facts_grown (grown_below' hb none) hB hC (by simp) (by simp) h
theorem facts_set {X : World} {B C : Nat} {v a b c : Value} (hne : B ≠ C) (u : Value) (h : Facts X B C v a b c) : (X.setCell ⟨B, 0, none⟩ u).cell? ⟨C, 0, none⟩ = some a ∧ (X.setCell ⟨B, 0, none⟩ u).cell? ⟨C, 1, none⟩ = some b ∧ (X.setCell ⟨B, 0, none⟩ u).cell? ⟨C, 2, none⟩ = some c := by
  have k : ∀ o : Nat, (X.setCell ⟨B, 0, none⟩ u).cell? ⟨C, o, none⟩ = X.cell? ⟨C, o, none⟩ := fun o => World.cell?_setCell_other _ _ _ _ (fun e => hne (by cases e; rfl))
  exact ⟨(k 0).trans h.2.2.1, (k 1).trans h.2.2.2.1, (k 2).trans h.2.2.2.2⟩
theorem owns_below {X Y : World} {n : Nat} {e : TypeId} {size k : Nat} {v : Value} {xs : List Value} (h : X.ownsRow n e size v k xs) (hb : Below X.heap.size X Y) : Y.ownsRow n e size v k xs := h.kept (grown_below' hb none) (by
  cases hv : v.ownBlock with
  | none => exact .inl rfl
  | some j => exact .inr (by simp))
theorem inv_post {W1 W X3 w2 : World} {n B : Nat} {v v2 : Value} {P0 P1 : List Chg} (hv : Boxed W B 23 v) (hrow : ChgRow W n n v P0) (hB : But n [B] W1 W) (hd3 : Below W.heap.size W X3) (hgrow2 : X3.grownBy w2 v.ownBlock) (hnew : ChgRow w2 n n v2 P1) (hBn : B < n) (hn : n ≤ W.heap.size) :
    KeepsFrom n W (w2.setCell ⟨B, 0, none⟩ v2) ∧ But n [B] W (w2.setCell ⟨B, 0, none⟩ v2) ∧ (∃ v', Boxed (w2.setCell ⟨B, 0, none⟩ v2) B 23 v' ∧ ChgRow (w2.setCell ⟨B, 0, none⟩ v2) n n v' P1) ∧ But n [B] W1 (w2.setCell ⟨B, 0, none⟩ v2) := by
  have hbase := chgRow_base hrow
  have hbase2 := chgRow_base hnew
  have k : But n [B] W (w2.setCell ⟨B, 0, none⟩ v2) := ((But.of_below (hd3.mono hn)).grown (by have := hd3.size; omega) hgrow2 (fun r e => hbase r e)).setCell (.inl (by simp)) 0 v2
  refine ⟨KeepsOthers.from ((((KeepsOthers.of_grownBy (grown_below' hd3 none) (fun j o ej _ => by cases ej)).trans (KeepsOthers.of_grownBy hgrow2 fun j o ej hj => ?_))).trans (KeepsOthers.setCell _ _ _)) _, k, ⟨v2, ?_, ?_⟩, hB.trans k⟩
  · obtain ⟨rows, ho, _⟩ := hrow.below hd3
    rcases ho.2 with ⟨rfl, _⟩ | ⟨g, cap, cur, rfl, _, hgb, _⟩
    · simp [Value.ownBlock] at ej
    · obtain rfl : g = j := by simpa [Value.ownBlock] using ej
      rw [hgb] at hj; cases hj; rfl
  · exact ((hv.kept (grown_below' hd3 none) (by simp)).kept hgrow2 (fun e => by have := hbase _ e.symm; omega)).set v2
  · exact hnew.grown (grownBy_setCell' w2 B v2) (fun g e => by cases e; exact .inr ⟨hBn, fun e => by have := hbase2 _ e; omega⟩)
/-- What a clone is to a row. -/
theorem linesOff_clone {X Y : World} {base lo : Nat} {v u : Value} {L : List ByteArray} (h : X.ownsRow base 9 1 u L.length (L.map Value.string)) (hs : sizeP L ≤ 100000) (hb : Below X.heap.size X Y) (hlo : lo ≤ base) (hv : ∀ g, v.ownBlock = some g → g < base) : LinesOff Y lo v L u := by
  have h' := h
  obtain ⟨a, cap, rfl, hL, hc⟩ := lines_of_owns h' rfl hs
  refine ⟨a, cap, rfl, hL.below hb (Nat.le_refl _), hc, fun g off e h0 => ?_⟩
  subst e
  have := (h.lt g rfl).1
  exact ⟨by omega, fun ev => by have := hv g ev; omega⟩
set_option maxRecDepth 100000 in
set_option maxHeartbeats 8000000 in
theorem pinv_any (b : Option Addr) (cc : Nat) (cs : List Chg) (w : World) (hC : ChgsAt w b cs) (hn : cs.length ≤ 100000) (hs : sizeC cs ≤ 100000) :
    Calls Try.prog 31 #[.slice b cs.length cc] w fun e w' => (∃ v, e = .returned v ∧ ChgRow w' w.heap.size 0 v (invP cs)) ∧ Below w.heap.size w w' := by
  obtain ⟨i0, hi, hz0, hz1, hz2⟩ := info_parts infoChg
  obtain ⟨R, hRl, hRA, hRC⟩ := raw_of hC
  rw [← hRl]
  have HRC := Lib.hid hRC
  have HRl := Lib.hid hRl
  have hR5 : R.length ≤ 100000 := by omega
  clear hRC hRl
  refine (callsIn_wide (n := 9)).1 ?_
  refine callsIn_of_wp_marks Try.func31 rfl trivial ?_ rfl
  simp only [Try.ntmps31, List.size_toArray, List.length_cons, List.length_nil, Nat.reduceAdd, Nat.reduceSub, Array.replicate_succ, Array.replicate_zero, List.push_toArray, List.append_toArray, List.nil_append, List.cons_append]
  gi_wp2_with (gi_at_call 78; refine (callsIn_wide.2 (backward_any _ _ _ _)).mono ?_; rintro e w1 ⟨rfl, rfl⟩)
  refine name_worldIn ?_
  intro W1 hW1
  have bO : Boxed W1 w.heap.size 23 (.slice none 0 0) := by rw [hW1]; exact (boxed_new' _ _ _ rfl).alloc _
  have cB : W1.cell? ⟨w.heap.size + 1, 0, none⟩ = some (.slice b R.length cc) := by rw [hW1]; simp [go_sem]
  have hbel : Below w.heap.size w W1 := by rw [hW1]; (repeat (first | with_reducible exact Below.refl _ _ | (with_reducible refine Below.setCell ?_ ?_ _; rotate_left; · (first | exact Nat.le_refl _ | assumption | omega | (simp; done) | (simp; omega))) | (with_reducible refine Below.alloc ?_ ?_ _; rotate_left; · (first | exact Nat.le_refl _ | assumption | omega | (simp; done) | (simp; omega))) | with_reducible refine below_ovr_of ?_ | with_reducible refine drew_below ?_ _ | with_reducible refine Below.drew ?_ | with_reducible assumption))
  have hsz : W1.heap.size = w.heap.size + 1 + 1 := by rw [hW1]; simp
  clear hW1
  have hRW := hRA.below hbel (Nat.le_refl _)
  have hOwn : OwnFrom W1.heap.size (fun (pre : List (Idx R.length)) W => (∃ v, Boxed W w.heap.size 23 v ∧ ChgRow W W1.heap.size W1.heap.size v (preC cs pre)) ∧ But W1.heap.size [w.heap.size] W1 W) := by
    rintro s X Y row ⟨⟨v, hv, hr⟩, hB⟩ hg hrow
    refine ⟨⟨v, hv.kept hg (fun e => ?_), hr.grown hg (fun g e => .inl (hrow g e).2)⟩, butFrom (β := Unit) (Nat.le_refl _) (Nat.le_refl _) () X Y row hB hg hrow⟩
    have := (hrow _ e.symm).1
    omega
  refine wpIn_rangeFunc_ownH rfl (by omega) (gf := 115) (lb := #[.pointer (some ⟨w.heap.size + 1, 0, none⟩)]) rfl trivial (enters_of Try.func115 (by kernel_rfl) rfl)
    (backward_stopsK (But W1.heap.size [w.heap.size]) (w.heap.size + 1) b cc R W1 hR5 cB hRW (fun X Y h hc hl => ⟨(h.cell (by omega) (by simp)).trans hc, fun i hi => by
      obtain ⟨g, off, e, hg, _⟩ := hRA i hi
      obtain ⟨g', off', e', hg', k0, k1, k2⟩ := hl i hi
      rw [e] at e'
      cases e'
      have k := fun o : Nat => h.cell (b := g) (o := o) (by omega) (by simp; omega)
      exact ⟨g, off, e, Nat.lt_of_lt_of_le hg' h.size, (k _).trans k0, (k _).trans k1, (k _).trans k2⟩⟩))
    (fun h k => But.trans h k) (butK_b (Nat.le_refl _)) (Below.refl _ _) (fun _ => rfl)
    (fun pre W => (∃ v, Boxed W w.heap.size 23 v ∧ ChgRow W W1.heap.size W1.heap.size v (preC cs pre)) ∧ But W1.heap.size [w.heap.size] W1 W)
    (fun _ _ _ => False)
    hOwn
    (fun _ _ _ _ _ h _ _ => h)
    ⟨⟨_, bO, ChgRow.nil _ _ _⟩, But.refl _ _ _⟩
    (fun x a' W => ∃ C, W1.heap.size ≤ C ∧ Box3 W C 40 (.int .i64 (R.getD x.1 rawD).1) (.slice (R.getD x.1 rawD).2.1.1 (R.getD x.1 rawD).2.1.2.1 (R.getD x.1 rawD).2.1.2.2) (.slice (R.getD x.1 rawD).2.2.1 (R.getD x.1 rawD).2.2.2.1 (R.getD x.1 rawD).2.2.2.2) ∧ (∀ v, W.cell? ⟨w.heap.size, 0, none⟩ = some v → v.ownBlock ≠ some C) ∧
      a' = { tmps := #[.slice b R.length cc, undef, .slice none 0 0, .pointer (some ⟨w.heap.size, 0, none⟩), undef, .pointer (some ⟨C, 0, none⟩), .slice b R.length cc, .func (.func 115) #[] #[.pointer (some ⟨w.heap.size + 1, 0, none⟩)], .int .i64 (x.1 : Int), rawV (R.getD x.1 rawD), undef, undef, undef, undef, undef, undef, undef, undef, undef, undef, undef, undef, undef], defers := [] })
    (fun x a' _ X Y row ⟨C, h1, h2, h3, h4⟩ hg hr => ⟨C, h1, Box3.own (β := Unit) C _ _ _ _ _ () X Y row h2 hg hr, fun v hv => h3 v (by
      have hk : ∀ r, row = some r → r ≠ w.heap.size := fun r e => by have := (hr r e).1; omega
      by_cases hlt : w.heap.size < X.heap.size
      · have hb := hg.block w.heap.size hlt (fun e => hk _ e.symm rfl)
        simpa [World.cell?, hb] using hv
      · have := h2.lt; omega), h4⟩)
    ?assign ?body ?done ?stop
  case stop => exact fun _ _ _ _ _ _ h _ => h.elim
  case assign =>
    intro l' pre x W K hI hK
    dsimp only [idxV]
    generalize R.getD x.1 rawD = r at hK ⊢
    obtain ⟨at_, ⟨ao, lo, co⟩, ⟨an, ln_, cn⟩⟩ := r
    dsimp only [rawV] at hK ⊢
    gi_wp2
    refine hK _ _ ((KeepsOthers.alloc W _).from _) ((But.refl _ _ W).alloc hI.2.size _) (hOwn.alloc _ hI) ⟨W.heap.size, hI.2.size, World.alloc_heap_new W _, fun v hv e => ?_, rfl⟩
    obtain ⟨⟨v0, hv0, hr0⟩, _⟩ := hI
    have := (hv0.alloc (.cells #[.int .i64 at_, .slice ao lo co, .slice an ln_ cn] 40)).cell
    rw [this] at hv
    cases hv
    have := chgRow_lt hr0 _ e
    omega
  case body =>
    rintro l' pre x a' W _ _ ⟨⟨v, hv, hrow⟩, hB⟩ ⟨C, hC1, hC3, hCv, rfl⟩ hN
    have hxl : x.1 < cs.length := by have := x.2; have := HRl.out; omega
    obtain ⟨hr1, ⟨hr2, hrO⟩, ⟨hr3, hrN⟩⟩ := HRC.out x.1 hxl
    have hsz2 := sizeC_get hxl
    have HP : Hid (preC cs (pre ++ [x]) = preC cs pre ++ [flipC (cs.getD x.1 (0, [], []))]) := Lib.hid (by simp [preC])
    generalize R.getD x.1 rawD = r at hr1 hr2 hr3 hrO hrN hC3 ⊢
    generalize cs.getD x.1 (0, [], []) = cg at hr1 hr2 hr3 hrO hrN hsz2 HP ⊢
    obtain ⟨at_, ⟨ao, lo, co⟩, ⟨an, ln_, cn⟩⟩ := r
    obtain ⟨at_', O, N⟩ := cg
    simp only at hr1 hr2 hr3 hrO hrN hsz2
    subst hr1 hr2 hr3
    have hOW := hrO.below (hB.below hbel (by omega) (by simp)) (Nat.le_refl _)
    have hNW := hrN.below (hB.below hbel (by omega) (by simp)) (Nat.le_refl _)
    have hlO := len_sizeP O
    have hlN := len_sizeP N
    have c0 := hC3.c0
    have c1 := hC3.c1
    have c2 := hC3.c2
    have lC := hC3.lt
    have hbc := hv.cell
    have hbf := hv.frozen
    have lB := hv.lt
    have hvC := hCv v hbc
    have hmx : Try.prog.follows .mixedOrders = true := by kernel_rfl
    obtain ⟨rows, hown, hrl, hrc⟩ := id hrow
    have hpl : (preC cs pre).length = pre.length := by simp
    obtain ⟨P0, hP0⟩ : ∃ P0, preC cs pre = P0 := ⟨_, rfl⟩
    rw [hP0] at hrow hown hrl hrc HP hpl
    have hbase := chgRow_base hrow
    have hvlt := chgRow_lt hrow
    have hBs := hB.size
    dsimp only [rawV]
    gi_wp2
    have hF0 : Facts W.drew w.heap.size C v (.int .i64 at_) (.slice ao O.length co) (.slice an N.length cn) := ⟨hbc, hbf, c0, c1, c2⟩
    have hd0 : Below W.heap.size W W.drew := (Below.refl _ W).drew
    have lB0 : w.heap.size < W.drew.heap.size := lB
    have lC0 : C < W.drew.heap.size := lC
    have hBC : w.heap.size ≠ C := by omega
    have b1 : P0.length + 1 ≤ maxLen := by unfold maxLen; omega
    have b2 : (P0.length + 1) * 56 ≤ 140737488355328 := by omega
    clear hbc hbf c0 c1 c2 hpl
    refine wpIn_round_held (fun w' => w'.cell? ⟨C, 0, none⟩ = some (.int .i64 at_) ∧ w'.cell? ⟨C, 1, none⟩ = some (.slice ao O.length co) ∧ w'.cell? ⟨C, 2, none⟩ = some (.slice an N.length cn)) (fun ⟨_, _, h⟩ => h) hmx (by kernel_rfl) hF0.2.2 ?_
    intro hHeld
    --[[
    (refine wpAnyH_take (i := 1) (v := ?_) rfl (by kernel_rfl) (by kernel_rfl) (by kernel_rfl) (fun _ _ _ h => h) (Or.inl ⟨by rfl, ?_⟩) (by assumption) ?_; rotate_left; (· ((intro w hSw; (try dsimp only at hSw); go_simp) <;> try with_reducible rfl)); (try simp only [Act.put, List.setIfInBounds_toArray]))
    (refine wpAnyH_take (i := 2) (v := ?_) rfl (by kernel_rfl) (by kernel_rfl) (by kernel_rfl) (fun _ _ _ h => h) (Or.inl ⟨by rfl, ?_⟩) (by assumption) ?_; rotate_left; (· ((intro w hSw; (try dsimp only at hSw); go_simp) <;> try with_reducible rfl)); (try simp only [Act.put]))
    (refine wpAnyH_take (i := 3) (v := ?_) rfl (by kernel_rfl) (by kernel_rfl) (by kernel_rfl) (fun _ _ _ h => h) (Or.inl ⟨by rfl, ?_⟩) (by assumption) ?_; rotate_left; (· ((intro w hSw; (try dsimp only at hSw); go_simp) <;> try with_reducible rfl)); (try simp only [Act.put]))
    (refine wpAnyH_take (i := 4) (v := ?_) rfl (by kernel_rfl) (by kernel_rfl) (by kernel_rfl) (fun _ _ _ h => h) (Or.inl ⟨by rfl, ?_⟩) (by assumption) ?_; rotate_left; (· ((intro w hSw; (try dsimp only at hSw); go_simp) <;> try with_reducible rfl)); (try simp only [Act.put]))
    (refine wpAnyH_take (i := 6) (v := ?_) rfl (by kernel_rfl) (by kernel_rfl) (by kernel_rfl) (fun _ _ _ h => h) (Or.inl ⟨by rfl, ?_⟩) (by assumption) ?_; rotate_left; (· ((intro w hSw; (try dsimp only at hSw); go_simp) <;> try with_reducible rfl)); (try simp only [Act.put]))
    (refine wpAnyH_take (i := 7) (v := ?_) rfl (by kernel_rfl) (by kernel_rfl) (by kernel_rfl) (fun _ _ _ h => h) (Or.inl ⟨by rfl, ?_⟩) (by assumption) ?_; rotate_left; (· ((intro w hSw; (try dsimp only at hSw); go_simp) <;> try with_reducible rfl)); (try simp only [Act.put]))
    refine wpAnyH_ready (rs := [0, 5]) (by kernel_rfl) (by simp) ?_
    refine AllReadyH.cons rfl (fun K hK => ?_) (AllReadyH.cons rfl (fun K hK => ?_) AllReadyH.nil)
    · skip
      obtain ⟨kk0, kk1, _⟩ := id hF0
      (go_simp)
      clear kk0 kk1
      refine hK.out _ _ ?_ (fun hHeld => ?_)
      · exact hF0.2.2
      (clear hK K); (try simp only [Act.put, List.setIfInBounds_toArray, List.set_cons_zero, List.set_cons_succ])
      (refine wpAnyH_ready (rs := [5]) (by kernel_rfl) (by simp) ?_; refine AllReadyH.cons rfl (fun K hK => ?_) AllReadyH.nil)
      go_simp
      go_at_call 73
      refine (clone_any _ _ N _ (hNW.below hd0 (Nat.le_refl _)) (by omega)).mono ?_
      rintro e X1 ⟨u1, rfl, hr1, hb1⟩
      have hq1 := hr1
      obtain ⟨qa1, qc1, rfl, _, _⟩ := lines_of_owns hq1 rfl (by omega)
      have hF1 := facts_below hb1 lB0 lC0 hF0
      have hd1 : Below W.heap.size W X1 := hd0.trans (hb1.mono hd0.size)
      have lB1 := Nat.lt_of_lt_of_le lB0 hb1.size
      have lC1 := Nat.lt_of_lt_of_le lC0 hb1.size
      go_wp2_with fail
      refine hK.out _ _ ?_ (fun hHeld => ?_)
      · exact hF1.2.2
      (clear hK K); (try simp only [Act.put, List.setIfInBounds_toArray, List.set_cons_zero, List.set_cons_succ])
      (refine wpAnyH_ready (rs := [8]) (by kernel_rfl) (by simp) ?_; refine AllReadyH.cons rfl (fun K hK => ?_) AllReadyH.nil)
      go_simp
      go_at_call 73
      refine (clone_any _ _ O _ (hOW.below hd1 (Nat.le_refl _)) (by omega)).mono ?_
      rintro e X2 ⟨u2, rfl, hr2, hb2⟩
      have hq2 := hr2
      obtain ⟨qa2, qc2, rfl, _, _⟩ := lines_of_owns hq2 rfl (by omega)
      have hF2 := facts_below hb2 lB1 lC1 hF1
      have hd2 : Below W.heap.size W X2 := hd1.trans (hb2.mono hd1.size)
      have lB2 := Nat.lt_of_lt_of_le lB1 hb2.size
      have lC2 := Nat.lt_of_lt_of_le lC1 hb2.size
      go_wp2_with fail
      refine hK.out _ _ ?_ (fun hHeld => ?_)
      · exact hF2.2.2
      (clear hK K); (try simp only [Act.put, List.setIfInBounds_toArray, List.set_cons_zero, List.set_cons_succ])
      (refine wpAnyH_take (i := 9) (v := ?_) rfl (by kernel_rfl) (by kernel_rfl) (by kernel_rfl) (fun _ _ _ h => h) (Or.inl ⟨by rfl, ?_⟩) (by assumption) ?_; rotate_left; (· ((intro w hSw; (try dsimp only at hSw); go_simp) <;> try with_reducible rfl)); (try simp only [Act.put, List.setIfInBounds_toArray]))
      (refine wpAnyH_ready (rs := [10]) (by kernel_rfl) (by simp) ?_; refine AllReadyH.cons rfl (fun K hK => ?_) AllReadyH.nil)
      go_simp
      have hb3 := (Below.refl X2.heap.size X2).alloc (Nat.le_refl _) (.cells #[.int .i64 at_, .slice qa1 N.length qc1, .slice qa2 O.length qc2] 40)
      have hF3 := facts_below hb3 lB2 lC2 hF2
      have hd3 : Below W.heap.size W (X2.alloc (.cells #[.int .i64 at_, .slice qa1 N.length qc1, .slice qa2 O.length qc2] 40)) := hd2.trans (hb3.mono hd2.size)
      have lB3 := Nat.lt_of_lt_of_le lB2 hb3.size
      have lC3 := Nat.lt_of_lt_of_le lC2 hb3.size
      refine hK.out _ _ ?_ (fun hHeld => ?_)
      · exact hF3.2.2
      (clear hK K); (try simp only [Act.put, List.setIfInBounds_toArray, List.set_cons_zero, List.set_cons_succ])
      (refine wpAnyH_ready (rs := [11]) (by kernel_rfl) (by simp) ?_; refine AllReadyH.cons rfl (fun K hK => ?_) AllReadyH.nil)
      have hown3 := owns_below hown hd3
      refine step_append_src _ (by rfl) _ _ 23 (by rfl) W1.heap.size 40 i0 _ 3 56 Try.underlying23 hi hz0 hz1 hz2 rfl (by decide) _ P0.length (cellsC rows) (by rfl) hown3 _ 1 1 [.int .i64 at_, .slice qa1 N.length qc1, .slice qa2 O.length qc2] (by rfl) (src_new3 _ _ _ _ _ rfl rfl rfl rfl) b1 b2 (by have := hd2.size; simp; omega) ?_
      intro v2 w2 hown2 hgrow2 hat2
      obtain ⟨g', cap', rfl⟩ := ownsRow_succ hown2
      have hF4 := facts_grown hgrow2 lB3 lC3 (fun e => by have := hbase _ e; omega) hvC hF3
      refine hK.out _ _ ?_ (fun hHeld => ?_)
      · exact hF4.2.2
      (clear hK K); (try simp only [Act.put, List.setIfInBounds_toArray])
      (refine wpAnyH_ready (rs := [12]) (by kernel_rfl) (by simp) ?_; refine AllReadyH.cons rfl (fun K hK => ?_) AllReadyH.nil)
      obtain ⟨kk0, kk1, kk2, kk3, kk4⟩ := id hF4
      (go_simp)
      refine hK.out _ _ ?_ (fun hHeld => ?_)
      · exact facts_set hBC _ hF4
      clear hK K
      refine wpAnyH_done (by kernel_rfl) ?_ _
      gi_wp2
      have o1 := linesOff_clone (v := v) (lo := W1.heap.size) hr1 (by omega) (hb2.trans (hb3.mono hb2.size)) (by have := hd0.size; omega) (fun g e => by have := hvlt g e; have := hd0.size; omega)
      have o2 := linesOff_clone (v := v) (lo := W1.heap.size) hr2 (by omega) hb3 (by have := hd1.size; omega) (fun g e => by have := hvlt g e; have := hd1.size; omega)
      have hnew := ChgRow.more (c := (at_, N, O)) hrl (rows_below hd3 hrc) o1 o2 hgrow2 hat2 hown2
      rw [← HP.out] at hnew
      exact inv_post hv hrow hB hd3 hgrow2 hnew (by omega) hBs
    · skip
      go_simp
      go_at_call 73
      refine (clone_any _ _ N _ (hNW.below hd0 (Nat.le_refl _)) (by omega)).mono ?_
      rintro e X1 ⟨u1, rfl, hr1, hb1⟩
      have hq1 := hr1
      obtain ⟨qa1, qc1, rfl, _, _⟩ := lines_of_owns hq1 rfl (by omega)
      have hF1 := facts_below hb1 lB0 lC0 hF0
      have hd1 : Below W.heap.size W X1 := hd0.trans (hb1.mono hd0.size)
      have lB1 := Nat.lt_of_lt_of_le lB0 hb1.size
      have lC1 := Nat.lt_of_lt_of_le lC0 hb1.size
      go_wp2_with fail
      refine hK.out _ _ ?_ (fun hHeld => ?_)
      · exact hF1.2.2
      (clear hK K); (try simp only [Act.put, List.setIfInBounds_toArray, List.set_cons_zero, List.set_cons_succ])
      refine wpAnyH_ready (rs := [0, 8]) (by kernel_rfl) (by simp) ?_
      refine AllReadyH.cons rfl (fun K hK => ?_) (AllReadyH.cons rfl (fun K hK => ?_) AllReadyH.nil)
      · skip
        obtain ⟨kk0, kk1, _⟩ := id hF1
        (go_simp)
        clear kk0 kk1
        refine hK.out _ _ ?_ (fun hHeld => ?_)
        · exact hF1.2.2
        (clear hK K); (try simp only [Act.put, List.setIfInBounds_toArray, List.set_cons_zero, List.set_cons_succ])
        (refine wpAnyH_ready (rs := [8]) (by kernel_rfl) (by simp) ?_; refine AllReadyH.cons rfl (fun K hK => ?_) AllReadyH.nil)
        go_simp
        go_at_call 73
        refine (clone_any _ _ O _ (hOW.below hd1 (Nat.le_refl _)) (by omega)).mono ?_
        rintro e X2 ⟨u2, rfl, hr2, hb2⟩
        have hq2 := hr2
        obtain ⟨qa2, qc2, rfl, _, _⟩ := lines_of_owns hq2 rfl (by omega)
        have hF2 := facts_below hb2 lB1 lC1 hF1
        have hd2 : Below W.heap.size W X2 := hd1.trans (hb2.mono hd1.size)
        have lB2 := Nat.lt_of_lt_of_le lB1 hb2.size
        have lC2 := Nat.lt_of_lt_of_le lC1 hb2.size
        go_wp2_with fail
        refine hK.out _ _ ?_ (fun hHeld => ?_)
        · exact hF2.2.2
        (clear hK K); (try simp only [Act.put, List.setIfInBounds_toArray, List.set_cons_zero, List.set_cons_succ])
        (refine wpAnyH_take (i := 9) (v := ?_) rfl (by kernel_rfl) (by kernel_rfl) (by kernel_rfl) (fun _ _ _ h => h) (Or.inl ⟨by rfl, ?_⟩) (by assumption) ?_; rotate_left; (· ((intro w hSw; (try dsimp only at hSw); go_simp) <;> try with_reducible rfl)); (try simp only [Act.put, List.setIfInBounds_toArray]))
        (refine wpAnyH_ready (rs := [10]) (by kernel_rfl) (by simp) ?_; refine AllReadyH.cons rfl (fun K hK => ?_) AllReadyH.nil)
        go_simp
        have hb3 := (Below.refl X2.heap.size X2).alloc (Nat.le_refl _) (.cells #[.int .i64 at_, .slice qa1 N.length qc1, .slice qa2 O.length qc2] 40)
        have hF3 := facts_below hb3 lB2 lC2 hF2
        have hd3 : Below W.heap.size W (X2.alloc (.cells #[.int .i64 at_, .slice qa1 N.length qc1, .slice qa2 O.length qc2] 40)) := hd2.trans (hb3.mono hd2.size)
        have lB3 := Nat.lt_of_lt_of_le lB2 hb3.size
        have lC3 := Nat.lt_of_lt_of_le lC2 hb3.size
        refine hK.out _ _ ?_ (fun hHeld => ?_)
        · exact hF3.2.2
        (clear hK K); (try simp only [Act.put, List.setIfInBounds_toArray, List.set_cons_zero, List.set_cons_succ])
        (refine wpAnyH_ready (rs := [11]) (by kernel_rfl) (by simp) ?_; refine AllReadyH.cons rfl (fun K hK => ?_) AllReadyH.nil)
        have hown3 := owns_below hown hd3
        refine step_append_src _ (by rfl) _ _ 23 (by rfl) W1.heap.size 40 i0 _ 3 56 Try.underlying23 hi hz0 hz1 hz2 rfl (by decide) _ P0.length (cellsC rows) (by rfl) hown3 _ 1 1 [.int .i64 at_, .slice qa1 N.length qc1, .slice qa2 O.length qc2] (by rfl) (src_new3 _ _ _ _ _ rfl rfl rfl rfl) b1 b2 (by have := hd2.size; simp; omega) ?_
        intro v2 w2 hown2 hgrow2 hat2
        obtain ⟨g', cap', rfl⟩ := ownsRow_succ hown2
        have hF4 := facts_grown hgrow2 lB3 lC3 (fun e => by have := hbase _ e; omega) hvC hF3
        refine hK.out _ _ ?_ (fun hHeld => ?_)
        · exact hF4.2.2
        (clear hK K); (try simp only [Act.put, List.setIfInBounds_toArray])
        (refine wpAnyH_ready (rs := [12]) (by kernel_rfl) (by simp) ?_; refine AllReadyH.cons rfl (fun K hK => ?_) AllReadyH.nil)
        obtain ⟨kk0, kk1, kk2, kk3, kk4⟩ := id hF4
        (go_simp)
        refine hK.out _ _ ?_ (fun hHeld => ?_)
        · exact facts_set hBC _ hF4
        clear hK K
        refine wpAnyH_done (by kernel_rfl) ?_ _
        gi_wp2
        have o1 := linesOff_clone (v := v) (lo := W1.heap.size) hr1 (by omega) (hb2.trans (hb3.mono hb2.size)) (by have := hd0.size; omega) (fun g e => by have := hvlt g e; have := hd0.size; omega)
        have o2 := linesOff_clone (v := v) (lo := W1.heap.size) hr2 (by omega) hb3 (by have := hd1.size; omega) (fun g e => by have := hvlt g e; have := hd1.size; omega)
        have hnew := ChgRow.more (c := (at_, N, O)) hrl (rows_below hd3 hrc) o1 o2 hgrow2 hat2 hown2
        rw [← HP.out] at hnew
        exact inv_post hv hrow hB hd3 hgrow2 hnew (by omega) hBs
      · skip
        go_simp
        go_at_call 73
        refine (clone_any _ _ O _ (hOW.below hd1 (Nat.le_refl _)) (by omega)).mono ?_
        rintro e X2 ⟨u2, rfl, hr2, hb2⟩
        have hq2 := hr2
        obtain ⟨qa2, qc2, rfl, _, _⟩ := lines_of_owns hq2 rfl (by omega)
        have hF2 := facts_below hb2 lB1 lC1 hF1
        have hd2 : Below W.heap.size W X2 := hd1.trans (hb2.mono hd1.size)
        have lB2 := Nat.lt_of_lt_of_le lB1 hb2.size
        have lC2 := Nat.lt_of_lt_of_le lC1 hb2.size
        go_wp2_with fail
        refine hK.out _ _ ?_ (fun hHeld => ?_)
        · exact hF2.2.2
        (clear hK K); (try simp only [Act.put, List.setIfInBounds_toArray, List.set_cons_zero, List.set_cons_succ])
        (refine wpAnyH_take (i := 9) (v := ?_) rfl (by kernel_rfl) (by kernel_rfl) (by kernel_rfl) (fun _ _ _ h => h) (Or.inl ⟨by rfl, ?_⟩) (by assumption) ?_; rotate_left; (· ((intro w hSw; (try dsimp only at hSw); go_simp) <;> try with_reducible rfl)); (try simp only [Act.put, List.setIfInBounds_toArray]))
        refine wpAnyH_ready (rs := [0, 10]) (by kernel_rfl) (by simp) ?_
        refine AllReadyH.cons rfl (fun K hK => ?_) (AllReadyH.cons rfl (fun K hK => ?_) AllReadyH.nil)
        · skip
          obtain ⟨kk0, kk1, _⟩ := id hF2
          (go_simp)
          clear kk0 kk1
          refine hK.out _ _ ?_ (fun hHeld => ?_)
          · exact hF2.2.2
          (clear hK K); (try simp only [Act.put, List.setIfInBounds_toArray, List.set_cons_zero, List.set_cons_succ])
          (refine wpAnyH_ready (rs := [10]) (by kernel_rfl) (by simp) ?_; refine AllReadyH.cons rfl (fun K hK => ?_) AllReadyH.nil)
          go_simp
          have hb3 := (Below.refl X2.heap.size X2).alloc (Nat.le_refl _) (.cells #[.int .i64 at_, .slice qa1 N.length qc1, .slice qa2 O.length qc2] 40)
          have hF3 := facts_below hb3 lB2 lC2 hF2
          have hd3 : Below W.heap.size W (X2.alloc (.cells #[.int .i64 at_, .slice qa1 N.length qc1, .slice qa2 O.length qc2] 40)) := hd2.trans (hb3.mono hd2.size)
          have lB3 := Nat.lt_of_lt_of_le lB2 hb3.size
          have lC3 := Nat.lt_of_lt_of_le lC2 hb3.size
          refine hK.out _ _ ?_ (fun hHeld => ?_)
          · exact hF3.2.2
          (clear hK K); (try simp only [Act.put, List.setIfInBounds_toArray, List.set_cons_zero, List.set_cons_succ])
          (refine wpAnyH_ready (rs := [11]) (by kernel_rfl) (by simp) ?_; refine AllReadyH.cons rfl (fun K hK => ?_) AllReadyH.nil)
          have hown3 := owns_below hown hd3
          refine step_append_src _ (by rfl) _ _ 23 (by rfl) W1.heap.size 40 i0 _ 3 56 Try.underlying23 hi hz0 hz1 hz2 rfl (by decide) _ P0.length (cellsC rows) (by rfl) hown3 _ 1 1 [.int .i64 at_, .slice qa1 N.length qc1, .slice qa2 O.length qc2] (by rfl) (src_new3 _ _ _ _ _ rfl rfl rfl rfl) b1 b2 (by have := hd2.size; simp; omega) ?_
          intro v2 w2 hown2 hgrow2 hat2
          obtain ⟨g', cap', rfl⟩ := ownsRow_succ hown2
          have hF4 := facts_grown hgrow2 lB3 lC3 (fun e => by have := hbase _ e; omega) hvC hF3
          refine hK.out _ _ ?_ (fun hHeld => ?_)
          · exact hF4.2.2
          (clear hK K); (try simp only [Act.put, List.setIfInBounds_toArray])
          (refine wpAnyH_ready (rs := [12]) (by kernel_rfl) (by simp) ?_; refine AllReadyH.cons rfl (fun K hK => ?_) AllReadyH.nil)
          obtain ⟨kk0, kk1, kk2, kk3, kk4⟩ := id hF4
          (go_simp)
          refine hK.out _ _ ?_ (fun hHeld => ?_)
          · exact facts_set hBC _ hF4
          clear hK K
          refine wpAnyH_done (by kernel_rfl) ?_ _
          gi_wp2
          have o1 := linesOff_clone (v := v) (lo := W1.heap.size) hr1 (by omega) (hb2.trans (hb3.mono hb2.size)) (by have := hd0.size; omega) (fun g e => by have := hvlt g e; have := hd0.size; omega)
          have o2 := linesOff_clone (v := v) (lo := W1.heap.size) hr2 (by omega) hb3 (by have := hd1.size; omega) (fun g e => by have := hvlt g e; have := hd1.size; omega)
          have hnew := ChgRow.more (c := (at_, N, O)) hrl (rows_below hd3 hrc) o1 o2 hgrow2 hat2 hown2
          rw [← HP.out] at hnew
          exact inv_post hv hrow hB hd3 hgrow2 hnew (by omega) hBs
        · skip
          go_simp
          have hb3 := (Below.refl X2.heap.size X2).alloc (Nat.le_refl _) (.cells #[.int .i64 at_, .slice qa1 N.length qc1, .slice qa2 O.length qc2] 40)
          have hF3 := facts_below hb3 lB2 lC2 hF2
          have hd3 : Below W.heap.size W (X2.alloc (.cells #[.int .i64 at_, .slice qa1 N.length qc1, .slice qa2 O.length qc2] 40)) := hd2.trans (hb3.mono hd2.size)
          have lB3 := Nat.lt_of_lt_of_le lB2 hb3.size
          have lC3 := Nat.lt_of_lt_of_le lC2 hb3.size
          refine hK.out _ _ ?_ (fun hHeld => ?_)
          · exact hF3.2.2
          (clear hK K); (try simp only [Act.put, List.setIfInBounds_toArray, List.set_cons_zero, List.set_cons_succ])
          (refine wpAnyH_ready (rs := [0]) (by kernel_rfl) (by simp) ?_; refine AllReadyH.cons rfl (fun K hK => ?_) AllReadyH.nil)
          obtain ⟨kk0, kk1, _⟩ := id hF3
          (go_simp)
          clear kk0 kk1
          refine hK.out _ _ ?_ (fun hHeld => ?_)
          · exact hF3.2.2
          (clear hK K); (try simp only [Act.put, List.setIfInBounds_toArray, List.set_cons_zero, List.set_cons_succ])
          (refine wpAnyH_ready (rs := [11]) (by kernel_rfl) (by simp) ?_; refine AllReadyH.cons rfl (fun K hK => ?_) AllReadyH.nil)
          have hown3 := owns_below hown hd3
          refine step_append_src _ (by rfl) _ _ 23 (by rfl) W1.heap.size 40 i0 _ 3 56 Try.underlying23 hi hz0 hz1 hz2 rfl (by decide) _ P0.length (cellsC rows) (by rfl) hown3 _ 1 1 [.int .i64 at_, .slice qa1 N.length qc1, .slice qa2 O.length qc2] (by rfl) (src_new3 _ _ _ _ _ rfl rfl rfl rfl) b1 b2 (by have := hd2.size; simp; omega) ?_
          intro v2 w2 hown2 hgrow2 hat2
          obtain ⟨g', cap', rfl⟩ := ownsRow_succ hown2
          have hF4 := facts_grown hgrow2 lB3 lC3 (fun e => by have := hbase _ e; omega) hvC hF3
          refine hK.out _ _ ?_ (fun hHeld => ?_)
          · exact hF4.2.2
          (clear hK K); (try simp only [Act.put, List.setIfInBounds_toArray])
          (refine wpAnyH_ready (rs := [12]) (by kernel_rfl) (by simp) ?_; refine AllReadyH.cons rfl (fun K hK => ?_) AllReadyH.nil)
          obtain ⟨kk0, kk1, kk2, kk3, kk4⟩ := id hF4
          (go_simp)
          refine hK.out _ _ ?_ (fun hHeld => ?_)
          · exact facts_set hBC _ hF4
          clear hK K
          refine wpAnyH_done (by kernel_rfl) ?_ _
          gi_wp2
          have o1 := linesOff_clone (v := v) (lo := W1.heap.size) hr1 (by omega) (hb2.trans (hb3.mono hb2.size)) (by have := hd0.size; omega) (fun g e => by have := hvlt g e; have := hd0.size; omega)
          have o2 := linesOff_clone (v := v) (lo := W1.heap.size) hr2 (by omega) hb3 (by have := hd1.size; omega) (fun g e => by have := hvlt g e; have := hd1.size; omega)
          have hnew := ChgRow.more (c := (at_, N, O)) hrl (rows_below hd3 hrc) o1 o2 hgrow2 hat2 hown2
          rw [← HP.out] at hnew
          exact inv_post hv hrow hB hd3 hgrow2 hnew (by omega) hBs
    --]]
  case done =>
    rintro D ys W hD hys ⟨⟨v, hv, hrow⟩, hB⟩ hK
    rw [preC_all cs HRl.out ys hys] at hrow
    have hrow' : ChgRow (W.putObj D (.deferred none)) w.heap.size 0 v (invP cs) := (hrow.grown (grownBy_putObj' W D (.deferred none)) (fun g e => by cases e; exact .inl ⟨_, hK, rfl⟩)).mono hbel.size (Nat.zero_le _)
    have hc := hv.cell
    have hfin : Below w.heap.size w W := hB.below hbel hbel.size (by intro k hk; simp at hk; omega)
    clear hys
    gi_wp2
    refine ⟨by simp, .inl ⟨_, _, rfl, run_takeDeferred hK, ?_⟩⟩
    exact ⟨_, results_tmp (t := 2) rfl _ _ _, ⟨v, rfl, hrow'⟩, below_put (by have := hbel.size; omega) hK hfin⟩
end Go.Proofs.Ytnaceobbbfbhhaa
