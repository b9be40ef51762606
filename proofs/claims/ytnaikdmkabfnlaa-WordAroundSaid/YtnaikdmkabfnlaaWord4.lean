/- The contract of wordobj.runs, where it may be asked. Conditions: none beyond what it says. -/
import Derived.Test.YtnaikdmkabfnlaaWord3
import Derived.Test.YtnaikdmkabfnlaaStill
namespace Go.Proofs.Ytnaikdmkabfnlaa
open Go.RowKit Go.Shelf

attribute [local go_sem] Oper.semAt_some
attribute [local go_sem ↓] append_hold

theorem cells_new3 (w : World) {n : Nat} (h : n = w.heap.size) (a b c : Value) (t : TypeId) : ∀ j u, [a, b, c][j]? = some u → (w.alloc (.cells #[a, b, c] t)).drew.cell? ((⟨n, 0, none⟩ : Addr).add j) = some u := by
  intro j u hj
  subst h
  rw [addr_add]
  match j, hj with
  | 0, hj => simp at hj; subst hj; simp [go_sem]
  | 1, hj => simp at hj; subst hj; simp [go_sem]
  | 2, hj => simp at hj; subst hj; simp [go_sem]
theorem boxed_new' (W : World) (t : TypeId) (v : Value) {n : Nat} (h : n = W.heap.size) : Boxed (W.alloc (.cells #[v] t)) n t v := by subst h; exact Boxed.new W t v
set_option maxRecDepth 100000 in
set_option maxHeartbeats 8000000 in
theorem wruns_yes (a : Option Addr) (cap : Nat) (L : List ByteArray) (l c : Nat) (n : Int) (big : Bool) (w : World) (hL : LinesAt w a L) (htot : total L ≤ 100000) (hl : l < L.length) (hb : byteB L l c = true) (hn1 : 1 ≤ n) (hne : ¬ (L.getD l .empty).size = 0) :
    Calls Try.prog 73 #[.slice a L.length cap, .agg #[.int .i64 l, .int .i64 c], .int .i64 n, .bool big] w fun e w' =>
      ∃ ra rcap, e = .returned (.tuple #[.slice ra (runF (L.getD l .empty) big 0 0).length rcap, .int .i64 (inF c (runF (L.getD l .empty) big 0 0)), .bool true]) ∧ TriAt (blkR (L.getD l .empty)) w' ra (runF (L.getD l .empty) big 0 0) ∧ (∀ g, ra = some ⟨g, 0, none⟩ → w.heap.size + 2 ≤ g) ∧ Below w.heap.size w w' := by
  have hn := hL.2.1
  obtain ⟨i0, hi, hz0, hz1, hz2⟩ := info_parts infoWrun
  obtain ⟨b, off, s, rfl, hbb, hcell, hs, HS⟩ := line_facts' hL hl
  have hst : s.size ≤ 100000 := by have := size_le_total L l hl; rw [HS.out] at this; omega
  rw [HS.out] at hne ⊢
  have hse := str_empty hne
  have HB := Lib.hid hb
  have hlI : (l : Int) < (L.length : Int) := by omega
  have hl0 : (0 : Int) ≤ (l : Int) := by omega
  have hn1d : decide (n < 1) = false := decide_eq_false (by omega)
  clear hb
  refine (callsIn_wide (n := 9)).1 ?_
  refine callsIn_of_wp_marks Try.func73 rfl trivial ?_ rfl
  simp only [Try.ntmps73, List.size_toArray, List.length_cons, List.length_nil, Nat.reduceAdd, Nat.reduceSub, Array.replicate_succ, Array.replicate_zero, List.push_toArray, List.append_toArray, List.nil_append, List.cons_append]
  gi_wp2_with (first
    | (gi_at_call 87; refine (callsIn_wide.2 (byte_any _ _ L _ _ _ (by (repeat (first | assumption | refine LinesAt.ovr ?_ _ | refine LinesAt.alloc ?_ _ | refine LinesAt.drewN ?_ _ | refine LinesAt.drew ?_))))).mono ?_; rw [HB.out]; rintro e w1 ⟨rfl, hbl⟩; obtain ⟨x1, rfl⟩ := ovr_of_below hbl; clear hbl)
    | (gi_at_call 39; refine (callsIn_wide.2 (wruns_any _ _ _)).mono ?_; rintro e w1 ⟨rfl, rfl⟩))
  obtain ⟨Bo, hBo⟩ : ∃ Bo, w.heap.size + 1 + 1 + x1.heap.size = Bo := ⟨_, rfl⟩
  rw [hBo]
  refine name_worldIn ?_
  intro W1 hW1
  have c0 : W1.cell? ⟨w.heap.size, 0, none⟩ = some (.slice (some ⟨b, off, none⟩) L.length cap) := by rw [hW1]; simp [go_sem]
  have c1 : W1.cell? ⟨w.heap.size + 1, 0, none⟩ = some (.int .i64 l) := by rw [hW1]; simp [go_sem]
  have c2 : W1.cell? ⟨w.heap.size + 1, 1, none⟩ = some (.int .i64 c) := by rw [hW1]; simp [go_sem]
  have c3 : W1.cell? ⟨b, off + l, none⟩ = some (.string s) := by rw [hW1]; simp [go_sem, hcell, hbb]
  have bO : Boxed W1 Bo 95 (.slice none 0 0) := by rw [hW1]; exact (((boxed_new' _ _ _ (by rw [← hBo]; simp)).alloc _).alloc _).alloc _
  have bI : Boxed W1 (Bo + 1) 3 (.int .i64 0) := by rw [hW1]; exact ((boxed_new' _ _ _ (by rw [← hBo]; simp)).alloc _).alloc _
  have d1 : W1.cell? ⟨Bo + 1 + 1, 0, none⟩ = some (.string s) := by rw [hW1, ← hBo]; simp [go_sem]
  have d2 : W1.cell? ⟨Bo + 1 + 1 + 1, 0, none⟩ = some (.bool big) := by rw [hW1, ← hBo]; simp [go_sem]
  have hbel : Below w.heap.size w W1 := by rw [hW1]; (repeat (first | with_reducible exact Below.refl _ _ | (with_reducible refine Below.setCell ?_ ?_ _; rotate_left; · (first | exact Nat.le_refl _ | assumption | omega | (simp; done) | (simp; omega))) | (with_reducible refine Below.alloc ?_ ?_ _; rotate_left; · (first | exact Nat.le_refl _ | assumption | omega | (simp; done) | (simp; omega))) | with_reducible refine below_ovr_of ?_ | with_reducible refine drew_below ?_ _ | with_reducible refine Below.drew ?_ | with_reducible assumption))
  have hsz : Bo + 1 + 1 + 1 < W1.heap.size := by rw [hW1, ← hBo]; simp
  have hB2 : w.heap.size + 1 + 1 ≤ Bo := by omega
  clear hW1 hBo hcell
  refine wpIn_rangeFunc_ownG rfl (by omega) (gf := 72) (lb := #[.pointer (some ⟨Bo + 1 + 1, 0, none⟩), .pointer (some ⟨Bo + 1 + 1 + 1, 0, none⟩)]) rfl trivial (enters_of Try.func72 (by kernel_rfl) rfl)
    (wruns_stopsK (But W1.heap.size [Bo, Bo + 1]) (Bo + 1 + 1) (Bo + 1 + 1 + 1) s big W1 (fun _ _ h => h.cell (by omega) (by simp; omega)) (fun _ _ h => h.cell (by omega) (by simp; omega)) (by omega) (by omega) hst d1 d2)
    But.trans (butK_b (Nat.le_refl _)) (Below.refl _ _) (fun _ => rfl)
    (fun pre W => ((∃ v, Boxed W Bo 95 v ∧ W.ownsRow W1.heap.size 99 3 v pre.length (cells3 (blkR s) (vals pre)) ∧ True) ∧ Boxed W (Bo + 1) 3 (.int .i64 (inF c (vals pre)))) ∧ But W1.heap.size [Bo, Bo + 1] W1 W)
    (fun _ _ _ => False)
    (OwnFrom.and (OwnFrom.and (Own.from (holdsRow_own W1.heap.size Bo 95 99 3 (fun pre : List (Ivl s.size) => pre.length) (fun pre => cells3 (blkR s) (vals pre)) (fun _ _ => True)) _) (Own.from (boxed_own (Bo + 1) 3 (fun pre : List (Ivl s.size) => Value.int .i64 (inF c (vals pre)))) _)) (butFrom (Nat.le_refl _) (Nat.le_refl _)))
    (fun _ _ _ _ _ hs _ _ => hs)
    ⟨⟨⟨_, bO, World.ownsRow_nil _ _ _ _, trivial⟩, bI⟩, But.refl _ _ _⟩
    (fun x => { tmps := #[.slice (some ⟨b, off, none⟩) L.length cap, .agg #[.int .i64 l, .int .i64 c], .int .i64 n, .bool big, .pointer (some ⟨w.heap.size, 0, none⟩), .pointer (some ⟨w.heap.size + 1, 0, none⟩), undef, undef, .slice none 0 0, .int .i64 0, .bool false, .pointer (some ⟨Bo, 0, none⟩), .pointer (some ⟨Bo + 1, 0, none⟩),
      .int .i64 (x.1.1 : Int), .int .i64 (x.1.2 : Int), .int .i64 n, .bool false, .bool false, .slice (some ⟨b, off, none⟩) L.length cap, .agg #[.int .i64 l, .int .i64 c], .bool true, .bool false, .bool false, .bool false, .slice (some ⟨b, off, none⟩) L.length cap, .pointer (some ⟨w.heap.size + 1, 0, none⟩), .int .i64 l, .pointer (some ⟨b, off + l, none⟩), .string s, .bool false, .bool false,
      .slice (some ⟨b, off, none⟩) L.length cap, .pointer (some ⟨w.heap.size + 1, 0, none⟩), .int .i64 l, .pointer (some ⟨b, off + l, none⟩), .string s, .bool big, .func (.func 72) #[] #[.pointer (some ⟨Bo + 1 + 1, 0, none⟩), .pointer (some ⟨Bo + 1 + 1 + 1, 0, none⟩)], .int .i64 (x.1.1 : Int), .int .i64 (x.1.2 : Int),
      undef, undef, undef, undef, undef, undef, undef, undef, undef, undef, undef, undef, undef, undef, undef, undef, undef, undef, undef, undef, undef, undef, undef], defers := [] }) ?assign ?body ?done ?stop
  case assign =>
    intro l x W K hK
    gi_wp2
    exact hK
  case body =>
    rintro l' pre x W ⟨⟨⟨v, hv, hrow, _⟩, hI⟩, hB⟩ hlt
    have g0 : W.cell? ⟨w.heap.size, 0, none⟩ = some (.slice (some ⟨b, off, none⟩) L.length cap) := (hB.cell (by omega) (by simp; omega)).trans c0
    have g1 : W.cell? ⟨w.heap.size + 1, 0, none⟩ = some (.int .i64 l) := (hB.cell (by omega) (by simp; omega)).trans c1
    have g2 : W.cell? ⟨w.heap.size + 1, 1, none⟩ = some (.int .i64 c) := (hB.cell (by omega) (by simp; omega)).trans c2
    have g3 : W.cell? ⟨b, off + l, none⟩ = some (.string s) := (hB.cell (by omega) (by simp; omega)).trans c3
    obtain ⟨va, vcap, rfl, _⟩ := tri_of_owns (rs := vals pre) (by simpa using hrow)
    have hvc := hv.cell
    have hvf := hv.frozen
    have hic := hI.cell
    have hif := hI.frozen
    have hx1 : x.1.1 < s.size := x.2.1
    have hx1I : (x.1.1 : Int) < (s.size : Int) := by omega
    have hx0 : (0 : Int) ≤ (x.1.1 : Int) := by omega
    have hmx : Try.prog.follows .mixedOrders = true := by kernel_rfl
    have hlv : (vals pre).length = pre.length := List.length_map _
    rw [hlv] at hvc
    have HV := Lib.hid hlv
    clear hlv
    have hpl : pre.length ≤ 100000 := by omega
    rw [HV.out] at hrow hv
    have HCAT : Hid (cells3 (blkR s) (vals (pre ++ [x])) = cells3 (blkR s) (vals pre) ++ [.int .i64 (x.1.1 : Int), .int .i64 (x.1.2 : Int), .bool (ofC (s[x.1.1].toNat : Int) true == 0)]) := Lib.hid (by rw [vals, List.map_append]; refine (cells3_snoc _ _ _).trans ?_; rw [blkR, byt_at' s x.1.1 hx1])
    have HINF : Hid (inF c (vals (pre ++ [x])) = if x.1.1 ≤ c then (vals pre).length else inF c (vals pre)) := Lib.hid (by rw [vals, List.map_append]; exact inF_snoc _ _ _)
    by_cases hxc : x.1.1 ≤ c
    · have hxcI : (x.1.1 : Int) ≤ (c : Int) := by omega
      gi_wp2
      refine name_worldIn ?_
      intro W2 hW2
      have hrow2 : W2.ownsRow W1.heap.size 99 3 (.slice va pre.length vcap) pre.length (cells3 (blkR s) (vals pre)) := by rw [hW2]; exact hrow.kept (grownBy_setCell' W (Bo + 1) (.int .i64 (pre.length : Int))) (.inr (hI.not_row (by decide) hrow).symm)
      have hb2 : Boxed W2 Bo 95 (.slice va pre.length vcap) := by rw [hW2]; exact hv.other (show Bo ≠ Bo + 1 by omega) (.int .i64 (pre.length : Int))
      have hi2 : Boxed W2 (Bo + 1) 3 (.int .i64 (pre.length : Nat)) := by rw [hW2]; exact hI.set (.int .i64 (pre.length : Int))
      have hk2 : KeepsOthers W W2 := by rw [hW2]; exact KeepsOthers.setCell _ _ _
      have hB2' : But W1.heap.size [Bo, Bo + 1] W W2 := by rw [hW2]; exact (But.refl _ _ W).setCell (.inl (by simp)) 0 _
      have hs2 : W1.heap.size ≤ W2.heap.size := by have := hB.size; have := hB2'.size; omega
      have g0' : W2.cell? ⟨w.heap.size, 0, none⟩ = some (.slice (some ⟨b, off, none⟩) L.length cap) := (hB2'.cell (by omega) (by simp; omega)).trans g0
      have g1' : W2.cell? ⟨w.heap.size + 1, 0, none⟩ = some (.int .i64 l) := (hB2'.cell (by omega) (by simp; omega)).trans g1
      have g3' : W2.cell? ⟨b, off + l, none⟩ = some (.string s) := (hB2'.cell (by omega) (by simp; omega)).trans g3
      have hc2 := hb2.cell
      have hXr : (W2.alloc (.cells #[.int .i64 (x.1.1 : Int), .int .i64 (x.1.2 : Int), .bool (ofC (s[x.1.1].toNat : Int) true == 0)] 99)).drew.ownsRow W1.heap.size 99 3 (.slice va pre.length vcap) pre.length (cells3 (blkR s) (vals pre)) := hrow2.alloc _
      obtain ⟨v', w1, hrun, r1, r2, _⟩ := run_append_own (P := Try.prog) _ W1.heap.size 95 95 99 i0 (.agg #[.int .i64 0, .int .i64 0, .bool false]) 3 24 Try.underlying95 hi hz0 hz1 hz2 rfl (by decide) (.slice va pre.length vcap) pre.length (cells3 (blkR s) (vals pre)) hXr ⟨W2.heap.size, 0, none⟩ 1 1 [.int .i64 (x.1.1 : Int), .int .i64 (x.1.2 : Int), .bool (ofC (s[x.1.1].toNat : Int) true == 0)] rfl (cells_new3 _ rfl _ _ _ _) (by intro u hu; simp at hu; rcases hu with rfl | rfl | rfl <;> rfl) (by unfold maxLen; omega) (by omega) (by simp; omega)
      obtain ⟨g', cap', rfl, q1, q2, q3, q4, q5, q6, q7⟩ := round_append _ r2 r1 hb2 (by decide) hrow2 hs2 hi2 (by decide) (by omega) [Bo, Bo + 1] (by simp)
      have hqc := q1.cell
      have hqf := q1.frozen
      have HR : Sem.run Try.prog (appHold #[95, 95] 95 #[.slice va pre.length vcap, .slice (some ⟨W2.heap.size, 0, none⟩) 1 1]) (W2.alloc (.cells #[.int .i64 (x.1.1 : Int), .int .i64 (x.1.2 : Int), .bool (ofC (s[x.1.1].toNat : Int) true == 0)] 99)).drew = .ok (.slice (some ⟨g', 0, none⟩) (pre.length + 1) cap') w1 := hrun
      have HFIN := Lib.hid (show ownPostG W1.heap.size (But W1.heap.size [Bo, Bo + 1]) (fun pre W => ((∃ v, Boxed W Bo 95 v ∧ W.ownsRow W1.heap.size 99 3 v pre.length (cells3 (blkR s) (vals pre)) ∧ True) ∧ Boxed W (Bo + 1) 3 (.int .i64 (inF c (vals pre)))) ∧ But W1.heap.size [Bo, Bo + 1] W1 W) (fun _ _ _ => False) (pre ++ [x]) W .normal { tmps := #[], defers := [] } (w1.setCell ⟨Bo, 0, none⟩ (.slice (some ⟨g', 0, none⟩) (pre.length + 1) cap')) from
        ⟨(hk2.trans q4).from _, hB2'.trans q5, ⟨⟨_, q2, by rw [HCAT.out, List.length_append]; exact q3, trivial⟩, by rw [HINF.out, if_pos hxc, HV.out]; exact q6⟩, (hB.trans hB2').trans q5⟩)
      have n5 : w.heap.size < W2.heap.size := by omega
      have n6 : w.heap.size + 1 < W2.heap.size := by omega
      have n7 : b < W2.heap.size := by omega
      have n8 : Bo < W2.heap.size := by omega
      clear hrun r1 r2 q1 q2 q3 q4 q5 q6 hXr hk2 hB2' hi2 hb2 hrow2 hW2 g0 g1 g2 g3 hvc hvf hic hif HCAT HINF hv hrow hI hB hi hz0 hz1 hz2
      have n1 : ¬ w.heap.size = Bo := by omega
      have n2 : ¬ w.heap.size + 1 = Bo := by omega
      have n3 : ¬ b = Bo := by omega
      have e0 : w1.cell? ⟨w.heap.size, 0, none⟩ = some (.slice (some ⟨b, off, none⟩) L.length cap) := (q7.cell (by omega) (by simp; omega)).trans g0'
      have e1 : w1.cell? ⟨w.heap.size + 1, 0, none⟩ = some (.int .i64 l) := (q7.cell (by omega) (by simp; omega)).trans g1'
      have e3 : w1.cell? ⟨b, off + l, none⟩ = some (.string s) := (q7.cell (by omega) (by simp; omega)).trans g3'
      clear q7
      refine wpIn_round_held (fun w' => w'.cell? ⟨w.heap.size, 0, none⟩ = some (.slice (some ⟨b, off, none⟩) L.length cap) ∧ w'.cell? ⟨w.heap.size + 1, 0, none⟩ = some (.int .i64 l) ∧ w'.cell? ⟨b, off + l, none⟩ = some (.string s)) (fun ⟨_, _, h⟩ => h) hmx (by kernel_rfl) ⟨g0', g1', g3'⟩ ?_
      intro hHeld
      (refine wpAnyH_take (i := 1) (v := ?_) rfl (by kernel_rfl) (by kernel_rfl) (by kernel_rfl) (fun _ _ _ h => h) (Or.inl ⟨by rfl, ?_⟩) (by assumption) ?_; rotate_left; (· ((intro w hSw; (try dsimp only at hSw); go_simp) <;> try with_reducible rfl)); (try simp only [Act.put, List.setIfInBounds_toArray, List.set_cons_zero, List.set_cons_succ]))
      (refine wpAnyH_take (i := 2) (v := ?_) rfl (by kernel_rfl) (by kernel_rfl) (by kernel_rfl) (fun _ _ _ h => h) (Or.inl ⟨by rfl, ?_⟩) (by assumption) ?_; rotate_left; (· ((intro w hSw; (try dsimp only at hSw); go_simp) <;> try with_reducible rfl)); (try simp only [Act.put, List.setIfInBounds_toArray, List.set_cons_zero, List.set_cons_succ]))
      (refine wpAnyH_take (i := 3) (v := ?_) rfl (by kernel_rfl) (by kernel_rfl) (by kernel_rfl) (fun _ _ _ h => h) (Or.inl ⟨by rfl, ?_⟩) (by assumption) ?_; rotate_left; (· ((intro w hSw; (try dsimp only at hSw); go_simp) <;> try with_reducible rfl)); (try simp only [Act.put, List.setIfInBounds_toArray, List.set_cons_zero, List.set_cons_succ]))
      (refine wpAnyH_take (i := 4) (v := ?_) rfl (by kernel_rfl) (by kernel_rfl) (by kernel_rfl) (fun _ _ _ h => h) (Or.inl ⟨by rfl, ?_⟩) (by assumption) ?_; rotate_left; (· ((intro w hSw; (try dsimp only at hSw); go_simp) <;> try with_reducible rfl)); (try simp only [Act.put, List.setIfInBounds_toArray, List.set_cons_zero, List.set_cons_succ]))
      (refine wpAnyH_take (i := 5) (v := ?_) rfl (by kernel_rfl) (by kernel_rfl) (by kernel_rfl) (fun _ _ _ h => h) (Or.inl ⟨by rfl, ?_⟩) (by assumption) ?_; rotate_left; (· ((intro w hSw; (try dsimp only at hSw); go_simp) <;> try with_reducible rfl)); (try simp only [Act.put, List.setIfInBounds_toArray, List.set_cons_zero, List.set_cons_succ]))
      (refine wpAnyH_take (i := 6) (v := ?_) rfl (by kernel_rfl) (by kernel_rfl) (by kernel_rfl) (fun _ _ _ h => h) (Or.inl ⟨by rfl, ?_⟩) (by assumption) ?_; rotate_left; (· ((intro w hSw; (try dsimp only at hSw); go_simp) <;> try with_reducible rfl)); (try simp only [Act.put, List.setIfInBounds_toArray, List.set_cons_zero, List.set_cons_succ]))
      (refine wpAnyH_take (i := 7) (v := ?_) rfl (by kernel_rfl) (by kernel_rfl) (by kernel_rfl) (fun _ _ _ h => h) (Or.inl ⟨by rfl, ?_⟩) (by assumption) ?_; rotate_left; (· ((intro w hSw; (try dsimp only at hSw); go_simp) <;> try with_reducible rfl)); (try simp only [Act.put, List.setIfInBounds_toArray, List.set_cons_zero, List.set_cons_succ]))
      (refine wpAnyH_take (i := 8) (v := ?_) rfl (by kernel_rfl) (by kernel_rfl) (by kernel_rfl) (fun _ _ _ h => h) (Or.inl ⟨by rfl, ?_⟩) (by assumption) ?_; rotate_left; (· ((intro w hSw; (try dsimp only at hSw); go_simp) <;> try with_reducible rfl)); (try simp only [Act.put, List.setIfInBounds_toArray, List.set_cons_zero, List.set_cons_succ]))
      (refine wpAnyH_take (i := 9) (v := ?_) rfl (by kernel_rfl) (by kernel_rfl) (by kernel_rfl) (fun _ _ _ h => h) (Or.inl ⟨by rfl, ?_⟩) (by assumption) ?_; rotate_left; (· ((intro w hSw; (try dsimp only at hSw); go_simp) <;> try with_reducible rfl)); (try simp only [Act.put, List.setIfInBounds_toArray, List.set_cons_zero, List.set_cons_succ]))
      refine wpAnyH_ready (rs := [0, 10]) (by kernel_rfl) (by simp) ?_
      refine AllReadyH.cons rfl (fun K hK => ?_) (AllReadyH.cons rfl (fun K hK => ?_) AllReadyH.nil)
      · skip
        (go_simp; (try (go_at_call 71; refine (of_same _ _ _).mono ?_; rintro e w' ⟨rfl, rfl⟩; go_wp2_with fail)); refine hK.out _ _ ?_ (fun hHeld => ?_); (· ((try dsimp only); all_goals (refine ⟨?_, ?_, ?_⟩ <;> first | assumption | (simp [go_sem]; done) | (simp [go_sem, *]; done)))); (clear hK K); (try simp only [Act.put, List.setIfInBounds_toArray, List.set_cons_zero, List.set_cons_succ]))
        (refine wpAnyH_ready (rs := [10]) (by kernel_rfl) (by simp) ?_; refine AllReadyH.cons rfl (fun K hK => ?_) AllReadyH.nil; (go_simp; (try (go_at_call 71; refine (of_same _ _ _).mono ?_; rintro e w' ⟨rfl, rfl⟩; go_wp2_with fail)); refine hK.out _ _ ?_ (fun hHeld => ?_); (· ((try dsimp only); all_goals (refine ⟨?_, ?_, ?_⟩ <;> first | assumption | (simp [go_sem]; done) | (simp [go_sem, *]; done)))); (clear hK K); (try simp only [Act.put, List.setIfInBounds_toArray, List.set_cons_zero, List.set_cons_succ])))
        (refine wpAnyH_take (i := 11) (v := ?_) rfl (by kernel_rfl) (by kernel_rfl) (by kernel_rfl) (fun _ _ _ h => h) (Or.inl ⟨by rfl, ?_⟩) (by assumption) ?_; rotate_left; (· ((intro w hSw; (try dsimp only at hSw); go_simp) <;> try with_reducible rfl)); (try simp only [Act.put, List.setIfInBounds_toArray, List.set_cons_zero, List.set_cons_succ]))
        (refine wpAnyH_take (i := 12) (v := ?_) rfl (by kernel_rfl) (by kernel_rfl) (by kernel_rfl) (fun _ _ _ h => h) (Or.inl ⟨by rfl, ?_⟩) (by assumption) ?_; rotate_left; (· ((intro w hSw; (try dsimp only at hSw); go_simp) <;> try with_reducible rfl)); (try simp only [Act.put, List.setIfInBounds_toArray, List.set_cons_zero, List.set_cons_succ]))
        (refine wpAnyH_ready (rs := [13]) (by kernel_rfl) (by simp) ?_; refine AllReadyH.cons rfl (fun K hK => ?_) AllReadyH.nil; (go_simp; (try (go_at_call 71; refine (of_same _ _ _).mono ?_; rintro e w' ⟨rfl, rfl⟩; go_wp2_with fail)); refine hK.out _ _ ?_ (fun hHeld => ?_); (· ((try dsimp only); all_goals (refine ⟨?_, ?_, ?_⟩ <;> first | assumption | (simp [go_sem]; done) | (simp [go_sem, *]; done)))); (clear hK K); (try simp only [Act.put, List.setIfInBounds_toArray, List.set_cons_zero, List.set_cons_succ])))
        (refine wpAnyH_ready (rs := [14]) (by kernel_rfl) (by simp) ?_; refine AllReadyH.cons rfl (fun K hK => ?_) AllReadyH.nil; (go_simp; (try (go_at_call 71; refine (of_same _ _ _).mono ?_; rintro e w' ⟨rfl, rfl⟩; go_wp2_with fail)); refine hK.out _ _ ?_ (fun hHeld => ?_); (· ((try dsimp only); all_goals (refine ⟨?_, ?_, ?_⟩ <;> first | assumption | (simp [go_sem]; done) | (simp [go_sem, *]; done)))); (clear hK K); (try simp only [Act.put, List.setIfInBounds_toArray, List.set_cons_zero, List.set_cons_succ])))
        (refine wpAnyH_ready (rs := [15]) (by kernel_rfl) (by simp) ?_; refine AllReadyH.cons rfl (fun K hK => ?_) AllReadyH.nil; (go_simp; (try (go_at_call 71; refine (of_same _ _ _).mono ?_; rintro e w' ⟨rfl, rfl⟩; go_wp2_with fail)); refine hK.out _ _ ?_ (fun hHeld => ?_); (· ((try dsimp only); all_goals (refine ⟨?_, ?_, ?_⟩ <;> first | assumption | (simp [go_sem]; done) | (simp [go_sem, *]; done)))); (clear hK K); (try simp only [Act.put, List.setIfInBounds_toArray, List.set_cons_zero, List.set_cons_succ])))
        refine wpAnyH_done (by kernel_rfl) ?_ _
        gi_wp2
        exact HFIN.out
      · skip
        (go_simp; (try (go_at_call 71; refine (of_same _ _ _).mono ?_; rintro e w' ⟨rfl, rfl⟩; go_wp2_with fail)); refine hK.out _ _ ?_ (fun hHeld => ?_); (· ((try dsimp only); all_goals (refine ⟨?_, ?_, ?_⟩ <;> first | assumption | (simp [go_sem]; done) | (simp [go_sem, *]; done)))); (clear hK K); (try simp only [Act.put, List.setIfInBounds_toArray, List.set_cons_zero, List.set_cons_succ]))
        (refine wpAnyH_take (i := 11) (v := ?_) rfl (by kernel_rfl) (by kernel_rfl) (by kernel_rfl) (fun _ _ _ h => h) (Or.inl ⟨by rfl, ?_⟩) (by assumption) ?_; rotate_left; (· ((intro w hSw; (try dsimp only at hSw); go_simp) <;> try with_reducible rfl)); (try simp only [Act.put, List.setIfInBounds_toArray, List.set_cons_zero, List.set_cons_succ]))
        (refine wpAnyH_take (i := 12) (v := ?_) rfl (by kernel_rfl) (by kernel_rfl) (by kernel_rfl) (fun _ _ _ h => h) (Or.inl ⟨by rfl, ?_⟩) (by assumption) ?_; rotate_left; (· ((intro w hSw; (try dsimp only at hSw); go_simp) <;> try with_reducible rfl)); (try simp only [Act.put, List.setIfInBounds_toArray, List.set_cons_zero, List.set_cons_succ]))
        refine wpAnyH_ready (rs := [0, 13]) (by kernel_rfl) (by simp) ?_
        refine AllReadyH.cons rfl (fun K hK => ?_) (AllReadyH.cons rfl (fun K hK => ?_) AllReadyH.nil)
        · skip
          (go_simp; (try (go_at_call 71; refine (of_same _ _ _).mono ?_; rintro e w' ⟨rfl, rfl⟩; go_wp2_with fail)); refine hK.out _ _ ?_ (fun hHeld => ?_); (· ((try dsimp only); all_goals (refine ⟨?_, ?_, ?_⟩ <;> first | assumption | (simp [go_sem]; done) | (simp [go_sem, *]; done)))); (clear hK K); (try simp only [Act.put, List.setIfInBounds_toArray, List.set_cons_zero, List.set_cons_succ]))
          (refine wpAnyH_ready (rs := [13]) (by kernel_rfl) (by simp) ?_; refine AllReadyH.cons rfl (fun K hK => ?_) AllReadyH.nil; (go_simp; (try (go_at_call 71; refine (of_same _ _ _).mono ?_; rintro e w' ⟨rfl, rfl⟩; go_wp2_with fail)); refine hK.out _ _ ?_ (fun hHeld => ?_); (· ((try dsimp only); all_goals (refine ⟨?_, ?_, ?_⟩ <;> first | assumption | (simp [go_sem]; done) | (simp [go_sem, *]; done)))); (clear hK K); (try simp only [Act.put, List.setIfInBounds_toArray, List.set_cons_zero, List.set_cons_succ])))
          (refine wpAnyH_ready (rs := [14]) (by kernel_rfl) (by simp) ?_; refine AllReadyH.cons rfl (fun K hK => ?_) AllReadyH.nil; (go_simp; (try (go_at_call 71; refine (of_same _ _ _).mono ?_; rintro e w' ⟨rfl, rfl⟩; go_wp2_with fail)); refine hK.out _ _ ?_ (fun hHeld => ?_); (· ((try dsimp only); all_goals (refine ⟨?_, ?_, ?_⟩ <;> first | assumption | (simp [go_sem]; done) | (simp [go_sem, *]; done)))); (clear hK K); (try simp only [Act.put, List.setIfInBounds_toArray, List.set_cons_zero, List.set_cons_succ])))
          (refine wpAnyH_ready (rs := [15]) (by kernel_rfl) (by simp) ?_; refine AllReadyH.cons rfl (fun K hK => ?_) AllReadyH.nil; (go_simp; (try (go_at_call 71; refine (of_same _ _ _).mono ?_; rintro e w' ⟨rfl, rfl⟩; go_wp2_with fail)); refine hK.out _ _ ?_ (fun hHeld => ?_); (· ((try dsimp only); all_goals (refine ⟨?_, ?_, ?_⟩ <;> first | assumption | (simp [go_sem]; done) | (simp [go_sem, *]; done)))); (clear hK K); (try simp only [Act.put, List.setIfInBounds_toArray, List.set_cons_zero, List.set_cons_succ])))
          refine wpAnyH_done (by kernel_rfl) ?_ _
          gi_wp2
          exact HFIN.out
        · skip
          (go_simp; (try (go_at_call 71; refine (of_same _ _ _).mono ?_; rintro e w' ⟨rfl, rfl⟩; go_wp2_with fail)); refine hK.out _ _ ?_ (fun hHeld => ?_); (· ((try dsimp only); all_goals (refine ⟨?_, ?_, ?_⟩ <;> first | assumption | (simp [go_sem]; done) | (simp [go_sem, *]; done)))); (clear hK K); (try simp only [Act.put, List.setIfInBounds_toArray, List.set_cons_zero, List.set_cons_succ]))
          (refine wpAnyH_ready (rs := [0]) (by kernel_rfl) (by simp) ?_; refine AllReadyH.cons rfl (fun K hK => ?_) AllReadyH.nil; (go_simp; (try (go_at_call 71; refine (of_same _ _ _).mono ?_; rintro e w' ⟨rfl, rfl⟩; go_wp2_with fail)); refine hK.out _ _ ?_ (fun hHeld => ?_); (· ((try dsimp only); all_goals (refine ⟨?_, ?_, ?_⟩ <;> first | assumption | (simp [go_sem]; done) | (simp [go_sem, *]; done)))); (clear hK K); (try simp only [Act.put, List.setIfInBounds_toArray, List.set_cons_zero, List.set_cons_succ])))
          (refine wpAnyH_ready (rs := [14]) (by kernel_rfl) (by simp) ?_; refine AllReadyH.cons rfl (fun K hK => ?_) AllReadyH.nil; (go_simp; (try (go_at_call 71; refine (of_same _ _ _).mono ?_; rintro e w' ⟨rfl, rfl⟩; go_wp2_with fail)); refine hK.out _ _ ?_ (fun hHeld => ?_); (· ((try dsimp only); all_goals (refine ⟨?_, ?_, ?_⟩ <;> first | assumption | (simp [go_sem]; done) | (simp [go_sem, *]; done)))); (clear hK K); (try simp only [Act.put, List.setIfInBounds_toArray, List.set_cons_zero, List.set_cons_succ])))
          (refine wpAnyH_ready (rs := [15]) (by kernel_rfl) (by simp) ?_; refine AllReadyH.cons rfl (fun K hK => ?_) AllReadyH.nil; (go_simp; (try (go_at_call 71; refine (of_same _ _ _).mono ?_; rintro e w' ⟨rfl, rfl⟩; go_wp2_with fail)); refine hK.out _ _ ?_ (fun hHeld => ?_); (· ((try dsimp only); all_goals (refine ⟨?_, ?_, ?_⟩ <;> first | assumption | (simp [go_sem]; done) | (simp [go_sem, *]; done)))); (clear hK K); (try simp only [Act.put, List.setIfInBounds_toArray, List.set_cons_zero, List.set_cons_succ])))
          refine wpAnyH_done (by kernel_rfl) ?_ _
          gi_wp2
          exact HFIN.out
    · have hxcI : decide (x.1.1 ≤ c) = false := decide_eq_false hxc
      have hxcJ : ¬ (x.1.1 : Int) ≤ (c : Int) := by omega
      have hxcK : decide ((x.1.1 : Int) ≤ (c : Int)) = false := decide_eq_false hxcJ
      gi_wp2
      have hrow2 := hrow
      have hb2 := hv
      have hi2 := hI
      have hk2 : KeepsOthers W W := KeepsOthers.refl _
      have hB2' : But W1.heap.size [Bo, Bo + 1] W W := But.refl _ _ W
      have hs2 : W1.heap.size ≤ W.heap.size := hB.size
      have g0' := g0
      have g1' := g1
      have g3' := g3
      have hc2 := hb2.cell
      have hXr : (W.alloc (.cells #[.int .i64 (x.1.1 : Int), .int .i64 (x.1.2 : Int), .bool (ofC (s[x.1.1].toNat : Int) true == 0)] 99)).drew.ownsRow W1.heap.size 99 3 (.slice va pre.length vcap) pre.length (cells3 (blkR s) (vals pre)) := hrow2.alloc _
      obtain ⟨v', w1, hrun, r1, r2, _⟩ := run_append_own (P := Try.prog) _ W1.heap.size 95 95 99 i0 (.agg #[.int .i64 0, .int .i64 0, .bool false]) 3 24 Try.underlying95 hi hz0 hz1 hz2 rfl (by decide) (.slice va pre.length vcap) pre.length (cells3 (blkR s) (vals pre)) hXr ⟨W.heap.size, 0, none⟩ 1 1 [.int .i64 (x.1.1 : Int), .int .i64 (x.1.2 : Int), .bool (ofC (s[x.1.1].toNat : Int) true == 0)] rfl (cells_new3 _ rfl _ _ _ _) (by intro u hu; simp at hu; rcases hu with rfl | rfl | rfl <;> rfl) (by unfold maxLen; omega) (by omega) (by simp; omega)
      obtain ⟨g', cap', rfl, q1, q2, q3, q4, q5, q6, q7⟩ := round_append _ r2 r1 hb2 (by decide) hrow2 hs2 hi2 (by decide) (by omega) [Bo, Bo + 1] (by simp)
      have hqc := q1.cell
      have hqf := q1.frozen
      have HR : Sem.run Try.prog (appHold #[95, 95] 95 #[.slice va pre.length vcap, .slice (some ⟨W.heap.size, 0, none⟩) 1 1]) (W.alloc (.cells #[.int .i64 (x.1.1 : Int), .int .i64 (x.1.2 : Int), .bool (ofC (s[x.1.1].toNat : Int) true == 0)] 99)).drew = .ok (.slice (some ⟨g', 0, none⟩) (pre.length + 1) cap') w1 := hrun
      have HFIN := Lib.hid (show ownPostG W1.heap.size (But W1.heap.size [Bo, Bo + 1]) (fun pre W => ((∃ v, Boxed W Bo 95 v ∧ W.ownsRow W1.heap.size 99 3 v pre.length (cells3 (blkR s) (vals pre)) ∧ True) ∧ Boxed W (Bo + 1) 3 (.int .i64 (inF c (vals pre)))) ∧ But W1.heap.size [Bo, Bo + 1] W1 W) (fun _ _ _ => False) (pre ++ [x]) W .normal { tmps := #[], defers := [] } (w1.setCell ⟨Bo, 0, none⟩ (.slice (some ⟨g', 0, none⟩) (pre.length + 1) cap')) from
        ⟨(hk2.trans q4).from _, hB2'.trans q5, ⟨⟨_, q2, by rw [HCAT.out, List.length_append]; exact q3, trivial⟩, by rw [HINF.out, if_neg hxc]; exact q6⟩, (hB.trans hB2').trans q5⟩)
      have n5 : w.heap.size < W.heap.size := by omega
      have n6 : w.heap.size + 1 < W.heap.size := by omega
      have n7 : b < W.heap.size := by omega
      have n8 : Bo < W.heap.size := by omega
      clear hrun r1 r2 q1 q2 q3 q4 q5 q6 hXr hk2 hB2' hi2 hb2 hrow2 g0 g1 g2 g3 hvc hvf hic hif HCAT HINF hv hrow hI hB hi hz0 hz1 hz2
      have n1 : ¬ w.heap.size = Bo := by omega
      have n2 : ¬ w.heap.size + 1 = Bo := by omega
      have n3 : ¬ b = Bo := by omega
      have e0 : w1.cell? ⟨w.heap.size, 0, none⟩ = some (.slice (some ⟨b, off, none⟩) L.length cap) := (q7.cell (by omega) (by simp; omega)).trans g0'
      have e1 : w1.cell? ⟨w.heap.size + 1, 0, none⟩ = some (.int .i64 l) := (q7.cell (by omega) (by simp; omega)).trans g1'
      have e3 : w1.cell? ⟨b, off + l, none⟩ = some (.string s) := (q7.cell (by omega) (by simp; omega)).trans g3'
      clear q7
      refine wpIn_round_held (fun w' => w'.cell? ⟨w.heap.size, 0, none⟩ = some (.slice (some ⟨b, off, none⟩) L.length cap) ∧ w'.cell? ⟨w.heap.size + 1, 0, none⟩ = some (.int .i64 l) ∧ w'.cell? ⟨b, off + l, none⟩ = some (.string s)) (fun ⟨_, _, h⟩ => h) hmx (by kernel_rfl) ⟨g0', g1', g3'⟩ ?_
      intro hHeld
      (refine wpAnyH_take (i := 1) (v := ?_) rfl (by kernel_rfl) (by kernel_rfl) (by kernel_rfl) (fun _ _ _ h => h) (Or.inl ⟨by rfl, ?_⟩) (by assumption) ?_; rotate_left; (· ((intro w hSw; (try dsimp only at hSw); go_simp) <;> try with_reducible rfl)); (try simp only [Act.put, List.setIfInBounds_toArray, List.set_cons_zero, List.set_cons_succ]))
      (refine wpAnyH_take (i := 2) (v := ?_) rfl (by kernel_rfl) (by kernel_rfl) (by kernel_rfl) (fun _ _ _ h => h) (Or.inl ⟨by rfl, ?_⟩) (by assumption) ?_; rotate_left; (· ((intro w hSw; (try dsimp only at hSw); go_simp) <;> try with_reducible rfl)); (try simp only [Act.put, List.setIfInBounds_toArray, List.set_cons_zero, List.set_cons_succ]))
      (refine wpAnyH_take (i := 3) (v := ?_) rfl (by kernel_rfl) (by kernel_rfl) (by kernel_rfl) (fun _ _ _ h => h) (Or.inl ⟨by rfl, ?_⟩) (by assumption) ?_; rotate_left; (· ((intro w hSw; (try dsimp only at hSw); go_simp) <;> try with_reducible rfl)); (try simp only [Act.put, List.setIfInBounds_toArray, List.set_cons_zero, List.set_cons_succ]))
      (refine wpAnyH_take (i := 4) (v := ?_) rfl (by kernel_rfl) (by kernel_rfl) (by kernel_rfl) (fun _ _ _ h => h) (Or.inl ⟨by rfl, ?_⟩) (by assumption) ?_; rotate_left; (· ((intro w hSw; (try dsimp only at hSw); go_simp) <;> try with_reducible rfl)); (try simp only [Act.put, List.setIfInBounds_toArray, List.set_cons_zero, List.set_cons_succ]))
      (refine wpAnyH_take (i := 5) (v := ?_) rfl (by kernel_rfl) (by kernel_rfl) (by kernel_rfl) (fun _ _ _ h => h) (Or.inl ⟨by rfl, ?_⟩) (by assumption) ?_; rotate_left; (· ((intro w hSw; (try dsimp only at hSw); go_simp) <;> try with_reducible rfl)); (try simp only [Act.put, List.setIfInBounds_toArray, List.set_cons_zero, List.set_cons_succ]))
      (refine wpAnyH_take (i := 6) (v := ?_) rfl (by kernel_rfl) (by kernel_rfl) (by kernel_rfl) (fun _ _ _ h => h) (Or.inl ⟨by rfl, ?_⟩) (by assumption) ?_; rotate_left; (· ((intro w hSw; (try dsimp only at hSw); go_simp) <;> try with_reducible rfl)); (try simp only [Act.put, List.setIfInBounds_toArray, List.set_cons_zero, List.set_cons_succ]))
      (refine wpAnyH_take (i := 7) (v := ?_) rfl (by kernel_rfl) (by kernel_rfl) (by kernel_rfl) (fun _ _ _ h => h) (Or.inl ⟨by rfl, ?_⟩) (by assumption) ?_; rotate_left; (· ((intro w hSw; (try dsimp only at hSw); go_simp) <;> try with_reducible rfl)); (try simp only [Act.put, List.setIfInBounds_toArray, List.set_cons_zero, List.set_cons_succ]))
      (refine wpAnyH_take (i := 8) (v := ?_) rfl (by kernel_rfl) (by kernel_rfl) (by kernel_rfl) (fun _ _ _ h => h) (Or.inl ⟨by rfl, ?_⟩) (by assumption) ?_; rotate_left; (· ((intro w hSw; (try dsimp only at hSw); go_simp) <;> try with_reducible rfl)); (try simp only [Act.put, List.setIfInBounds_toArray, List.set_cons_zero, List.set_cons_succ]))
      (refine wpAnyH_take (i := 9) (v := ?_) rfl (by kernel_rfl) (by kernel_rfl) (by kernel_rfl) (fun _ _ _ h => h) (Or.inl ⟨by rfl, ?_⟩) (by assumption) ?_; rotate_left; (· ((intro w hSw; (try dsimp only at hSw); go_simp) <;> try with_reducible rfl)); (try simp only [Act.put, List.setIfInBounds_toArray, List.set_cons_zero, List.set_cons_succ]))
      refine wpAnyH_ready (rs := [0, 10]) (by kernel_rfl) (by simp) ?_
      refine AllReadyH.cons rfl (fun K hK => ?_) (AllReadyH.cons rfl (fun K hK => ?_) AllReadyH.nil)
      · skip
        (go_simp; (try (go_at_call 71; refine (of_same _ _ _).mono ?_; rintro e w' ⟨rfl, rfl⟩; go_wp2_with fail)); refine hK.out _ _ ?_ (fun hHeld => ?_); (· ((try dsimp only); all_goals (refine ⟨?_, ?_, ?_⟩ <;> first | assumption | (simp [go_sem]; done) | (simp [go_sem, *]; done)))); (clear hK K); (try simp only [Act.put, List.setIfInBounds_toArray, List.set_cons_zero, List.set_cons_succ]))
        (refine wpAnyH_ready (rs := [10]) (by kernel_rfl) (by simp) ?_; refine AllReadyH.cons rfl (fun K hK => ?_) AllReadyH.nil; (go_simp; (try (go_at_call 71; refine (of_same _ _ _).mono ?_; rintro e w' ⟨rfl, rfl⟩; go_wp2_with fail)); refine hK.out _ _ ?_ (fun hHeld => ?_); (· ((try dsimp only); all_goals (refine ⟨?_, ?_, ?_⟩ <;> first | assumption | (simp [go_sem]; done) | (simp [go_sem, *]; done)))); (clear hK K); (try simp only [Act.put, List.setIfInBounds_toArray, List.set_cons_zero, List.set_cons_succ])))
        (refine wpAnyH_take (i := 11) (v := ?_) rfl (by kernel_rfl) (by kernel_rfl) (by kernel_rfl) (fun _ _ _ h => h) (Or.inl ⟨by rfl, ?_⟩) (by assumption) ?_; rotate_left; (· ((intro w hSw; (try dsimp only at hSw); go_simp) <;> try with_reducible rfl)); (try simp only [Act.put, List.setIfInBounds_toArray, List.set_cons_zero, List.set_cons_succ]))
        (refine wpAnyH_take (i := 12) (v := ?_) rfl (by kernel_rfl) (by kernel_rfl) (by kernel_rfl) (fun _ _ _ h => h) (Or.inl ⟨by rfl, ?_⟩) (by assumption) ?_; rotate_left; (· ((intro w hSw; (try dsimp only at hSw); go_simp) <;> try with_reducible rfl)); (try simp only [Act.put, List.setIfInBounds_toArray, List.set_cons_zero, List.set_cons_succ]))
        (refine wpAnyH_ready (rs := [13]) (by kernel_rfl) (by simp) ?_; refine AllReadyH.cons rfl (fun K hK => ?_) AllReadyH.nil; (go_simp; (try (go_at_call 71; refine (of_same _ _ _).mono ?_; rintro e w' ⟨rfl, rfl⟩; go_wp2_with fail)); refine hK.out _ _ ?_ (fun hHeld => ?_); (· ((try dsimp only); all_goals (refine ⟨?_, ?_, ?_⟩ <;> first | assumption | (simp [go_sem]; done) | (simp [go_sem, *]; done)))); (clear hK K); (try simp only [Act.put, List.setIfInBounds_toArray, List.set_cons_zero, List.set_cons_succ])))
        (refine wpAnyH_ready (rs := [14]) (by kernel_rfl) (by simp) ?_; refine AllReadyH.cons rfl (fun K hK => ?_) AllReadyH.nil; (go_simp; (try (go_at_call 71; refine (of_same _ _ _).mono ?_; rintro e w' ⟨rfl, rfl⟩; go_wp2_with fail)); refine hK.out _ _ ?_ (fun hHeld => ?_); (· ((try dsimp only); all_goals (refine ⟨?_, ?_, ?_⟩ <;> first | assumption | (simp [go_sem]; done) | (simp [go_sem, *]; done)))); (clear hK K); (try simp only [Act.put, List.setIfInBounds_toArray, List.set_cons_zero, List.set_cons_succ])))
        (refine wpAnyH_ready (rs := [15]) (by kernel_rfl) (by simp) ?_; refine AllReadyH.cons rfl (fun K hK => ?_) AllReadyH.nil; (go_simp; (try (go_at_call 71; refine (of_same _ _ _).mono ?_; rintro e w' ⟨rfl, rfl⟩; go_wp2_with fail)); refine hK.out _ _ ?_ (fun hHeld => ?_); (· ((try dsimp only); all_goals (refine ⟨?_, ?_, ?_⟩ <;> first | assumption | (simp [go_sem]; done) | (simp [go_sem, *]; done)))); (clear hK K); (try simp only [Act.put, List.setIfInBounds_toArray, List.set_cons_zero, List.set_cons_succ])))
        refine wpAnyH_done (by kernel_rfl) ?_ _
        gi_wp2
        exact HFIN.out
      · skip
        (go_simp; (try (go_at_call 71; refine (of_same _ _ _).mono ?_; rintro e w' ⟨rfl, rfl⟩; go_wp2_with fail)); refine hK.out _ _ ?_ (fun hHeld => ?_); (· ((try dsimp only); all_goals (refine ⟨?_, ?_, ?_⟩ <;> first | assumption | (simp [go_sem]; done) | (simp [go_sem, *]; done)))); (clear hK K); (try simp only [Act.put, List.setIfInBounds_toArray, List.set_cons_zero, List.set_cons_succ]))
        (refine wpAnyH_take (i := 11) (v := ?_) rfl (by kernel_rfl) (by kernel_rfl) (by kernel_rfl) (fun _ _ _ h => h) (Or.inl ⟨by rfl, ?_⟩) (by assumption) ?_; rotate_left; (· ((intro w hSw; (try dsimp only at hSw); go_simp) <;> try with_reducible rfl)); (try simp only [Act.put, List.setIfInBounds_toArray, List.set_cons_zero, List.set_cons_succ]))
        (refine wpAnyH_take (i := 12) (v := ?_) rfl (by kernel_rfl) (by kernel_rfl) (by kernel_rfl) (fun _ _ _ h => h) (Or.inl ⟨by rfl, ?_⟩) (by assumption) ?_; rotate_left; (· ((intro w hSw; (try dsimp only at hSw); go_simp) <;> try with_reducible rfl)); (try simp only [Act.put, List.setIfInBounds_toArray, List.set_cons_zero, List.set_cons_succ]))
        refine wpAnyH_ready (rs := [0, 13]) (by kernel_rfl) (by simp) ?_
        refine AllReadyH.cons rfl (fun K hK => ?_) (AllReadyH.cons rfl (fun K hK => ?_) AllReadyH.nil)
        · skip
          (go_simp; (try (go_at_call 71; refine (of_same _ _ _).mono ?_; rintro e w' ⟨rfl, rfl⟩; go_wp2_with fail)); refine hK.out _ _ ?_ (fun hHeld => ?_); (· ((try dsimp only); all_goals (refine ⟨?_, ?_, ?_⟩ <;> first | assumption | (simp [go_sem]; done) | (simp [go_sem, *]; done)))); (clear hK K); (try simp only [Act.put, List.setIfInBounds_toArray, List.set_cons_zero, List.set_cons_succ]))
          (refine wpAnyH_ready (rs := [13]) (by kernel_rfl) (by simp) ?_; refine AllReadyH.cons rfl (fun K hK => ?_) AllReadyH.nil; (go_simp; (try (go_at_call 71; refine (of_same _ _ _).mono ?_; rintro e w' ⟨rfl, rfl⟩; go_wp2_with fail)); refine hK.out _ _ ?_ (fun hHeld => ?_); (· ((try dsimp only); all_goals (refine ⟨?_, ?_, ?_⟩ <;> first | assumption | (simp [go_sem]; done) | (simp [go_sem, *]; done)))); (clear hK K); (try simp only [Act.put, List.setIfInBounds_toArray, List.set_cons_zero, List.set_cons_succ])))
          (refine wpAnyH_ready (rs := [14]) (by kernel_rfl) (by simp) ?_; refine AllReadyH.cons rfl (fun K hK => ?_) AllReadyH.nil; (go_simp; (try (go_at_call 71; refine (of_same _ _ _).mono ?_; rintro e w' ⟨rfl, rfl⟩; go_wp2_with fail)); refine hK.out _ _ ?_ (fun hHeld => ?_); (· ((try dsimp only); all_goals (refine ⟨?_, ?_, ?_⟩ <;> first | assumption | (simp [go_sem]; done) | (simp [go_sem, *]; done)))); (clear hK K); (try simp only [Act.put, List.setIfInBounds_toArray, List.set_cons_zero, List.set_cons_succ])))
          (refine wpAnyH_ready (rs := [15]) (by kernel_rfl) (by simp) ?_; refine AllReadyH.cons rfl (fun K hK => ?_) AllReadyH.nil; (go_simp; (try (go_at_call 71; refine (of_same _ _ _).mono ?_; rintro e w' ⟨rfl, rfl⟩; go_wp2_with fail)); refine hK.out _ _ ?_ (fun hHeld => ?_); (· ((try dsimp only); all_goals (refine ⟨?_, ?_, ?_⟩ <;> first | assumption | (simp [go_sem]; done) | (simp [go_sem, *]; done)))); (clear hK K); (try simp only [Act.put, List.setIfInBounds_toArray, List.set_cons_zero, List.set_cons_succ])))
          refine wpAnyH_done (by kernel_rfl) ?_ _
          gi_wp2
          exact HFIN.out
        · skip
          (go_simp; (try (go_at_call 71; refine (of_same _ _ _).mono ?_; rintro e w' ⟨rfl, rfl⟩; go_wp2_with fail)); refine hK.out _ _ ?_ (fun hHeld => ?_); (· ((try dsimp only); all_goals (refine ⟨?_, ?_, ?_⟩ <;> first | assumption | (simp [go_sem]; done) | (simp [go_sem, *]; done)))); (clear hK K); (try simp only [Act.put, List.setIfInBounds_toArray, List.set_cons_zero, List.set_cons_succ]))
          (refine wpAnyH_ready (rs := [0]) (by kernel_rfl) (by simp) ?_; refine AllReadyH.cons rfl (fun K hK => ?_) AllReadyH.nil; (go_simp; (try (go_at_call 71; refine (of_same _ _ _).mono ?_; rintro e w' ⟨rfl, rfl⟩; go_wp2_with fail)); refine hK.out _ _ ?_ (fun hHeld => ?_); (· ((try dsimp only); all_goals (refine ⟨?_, ?_, ?_⟩ <;> first | assumption | (simp [go_sem]; done) | (simp [go_sem, *]; done)))); (clear hK K); (try simp only [Act.put, List.setIfInBounds_toArray, List.set_cons_zero, List.set_cons_succ])))
          (refine wpAnyH_ready (rs := [14]) (by kernel_rfl) (by simp) ?_; refine AllReadyH.cons rfl (fun K hK => ?_) AllReadyH.nil; (go_simp; (try (go_at_call 71; refine (of_same _ _ _).mono ?_; rintro e w' ⟨rfl, rfl⟩; go_wp2_with fail)); refine hK.out _ _ ?_ (fun hHeld => ?_); (· ((try dsimp only); all_goals (refine ⟨?_, ?_, ?_⟩ <;> first | assumption | (simp [go_sem]; done) | (simp [go_sem, *]; done)))); (clear hK K); (try simp only [Act.put, List.setIfInBounds_toArray, List.set_cons_zero, List.set_cons_succ])))
          (refine wpAnyH_ready (rs := [15]) (by kernel_rfl) (by simp) ?_; refine AllReadyH.cons rfl (fun K hK => ?_) AllReadyH.nil; (go_simp; (try (go_at_call 71; refine (of_same _ _ _).mono ?_; rintro e w' ⟨rfl, rfl⟩; go_wp2_with fail)); refine hK.out _ _ ?_ (fun hHeld => ?_); (· ((try dsimp only); all_goals (refine ⟨?_, ?_, ?_⟩ <;> first | assumption | (simp [go_sem]; done) | (simp [go_sem, *]; done)))); (clear hK K); (try simp only [Act.put, List.setIfInBounds_toArray, List.set_cons_zero, List.set_cons_succ])))
          refine wpAnyH_done (by kernel_rfl) ?_ _
          gi_wp2
          exact HFIN.out
  case done =>
    rintro D ys W hD hys ⟨⟨⟨v, hv, hrow, _⟩, hI⟩, hB⟩ hK
    have hrow' := ownsRow_putObj hrow (.deferred none) hK rfl
    obtain ⟨ra, rcap, hve, hp⟩ := tri_of_owns (rs := vals ys) (by simpa using hrow')
    subst hve
    have hbase := tri_base hrow'
    have hc := hv.cell
    have hic := hI.cell
    have hY := Lib.hid hys
    have hfin : Below w.heap.size w W := hB.below hbel hbel.size (by intro k hk; simp at hk; omega)
    clear hys
    gi_wp2
    gi_region
    all_goals gi_wp2
    all_goals (
      have hK' : W.drew.heap[D]? = some (.deferred (some [])) := hK
      refine ⟨by simp, .inl ⟨_, _, rfl, run_takeDeferred hK', ?_⟩⟩
      exact ⟨_, results_tmp3 rfl _ _ _, ra, rcap, by rw [← hY.out]; simp, by rw [← hY.out]; exact hp, (fun g hg => by have := hbase g hg; have := hbel.size; omega), below_put (by have := hbel.size; omega) hK' hfin.drew⟩)
  case stop =>
    rintro D c pre W _ _ h _
    exact h.elim
end Go.Proofs.Ytnaikdmkabfnlaa
