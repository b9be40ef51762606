/- Several texts in one: Word4, Word5, Word6. Conditions: none beyond what each says. -/
import Derived.Test.YtlbbgocggifjaaaOI32
import Derived.Test.YtlbbgocggifjaaaOI25
import Derived.Test.YtlbbgocggifjaaaOI28
import Derived.Test.YtlbbgocggifjaaaOI12
namespace Go.Proofs.Ytlbbgocggifjaaa
open Go.RowKit Go.Shelf

attribute [local go_sem] Oper.semAt_some
attribute [local go_sem ↓] append_hold

theorem cells_new3 (w : World) {n : Nat} (h : n = w.heap.size) (a b c : Value) (t : TypeId) : ∀ j u, [a, b, c][j]? = some u → (w.alloc (.cells #[a, b, c] t)).drew.cell? ((⟨n, 0, none⟩ : Addr).add j) = some u := by
  intro j u hj
  subst h
  rw [addr_add]
  match j, hj with
  | 0, hj => simp at hj; subst hj; simp [go_sem]
  | 1, hj => simp at hj; subst hj; simp [go_sem]
  | 2, hj => simp at hj; subst hj; simp [go_sem]
theorem boxed_new' (W : World) (t : TypeId) (v : Value) {n : Nat} (h : n = W.heap.size) : Boxed (W.alloc (.cells #[v] t)) n t v := by subst h; exact Boxed.new W t v
set_option maxRecDepth 100000 in
set_option maxHeartbeats 8000000 in
theorem wruns_yes (a : Option Addr) (cap : Nat) (L : List ByteArray) (l c : Nat) (n : Int) (big : Bool) (w : World) (hL : LinesAt w a L) (htot : total L ≤ 100000) (hl : l < L.length) (hb : byteB L l c = true) (hn1 : 1 ≤ n) (hne : ¬ (L.getD l .empty).size = 0) :
    Calls Try.prog 105 #[.slice a L.length cap, .agg #[.int .i64 l, .int .i64 c], .int .i64 n, .bool big] w fun e w' =>
      ∃ ra rcap, e = .returned (.tuple #[.slice ra (runF (L.getD l .empty) big 0 0).length rcap, .int .i64 (inF c (runF (L.getD l .empty) big 0 0)), .bool true]) ∧ TriAt (blkR (L.getD l .empty)) w' ra (runF (L.getD l .empty) big 0 0) ∧ (∀ g, ra = some ⟨g, 0, none⟩ → w.heap.size + 2 ≤ g) ∧ Below w.heap.size w w' := by
  have hn := hL.2.1
  obtain ⟨i0, hi, hz0, hz1, hz2⟩ := info_parts infoWrun
  obtain ⟨b, off, s, rfl, hbb, hcell, hs, HS⟩ := line_facts' hL hl
  have hst : s.size ≤ 100000 := by have := size_le_total L l hl; rw [HS.out] at this; omega
  rw [HS.out] at hne ⊢
  have hse := str_empty hne
  have HB := Lib.hid hb
  have hlI : (l : Int) < (L.length : Int) := by omega
  have hl0 : (0 : Int) ≤ (l : Int) := by omega
  have hn1d : decide (n < 1) = false := decide_eq_false (by omega)
  clear hb
  refine (callsIn_wide (n := 9)).1 ?_
  refine callsIn_of_wp_marks Try.func105 rfl trivial ?_ rfl
  simp only [Try.ntmps105, List.size_toArray, List.length_cons, List.length_nil, Nat.reduceAdd, Nat.reduceSub, Array.replicate_succ, Array.replicate_zero, List.push_toArray, List.append_toArray, List.nil_append, List.cons_append]
  gi_wp2_with (first
    | (gi_at_call 139; refine (callsIn_wide.2 (byte_any _ _ L _ _ _ (by (repeat (first | assumption | refine LinesAt.ovr ?_ _ | refine LinesAt.alloc ?_ _ | refine LinesAt.drewN ?_ _ | refine LinesAt.drew ?_))))).mono ?_; rw [HB.out]; rintro e w1 ⟨rfl, hbl⟩; obtain ⟨x1, rfl⟩ := ovr_of_below hbl; clear hbl)
    | (gi_at_call 37; refine (callsIn_wide.2 (wruns_any _ _ _)).mono ?_; rintro e w1 ⟨rfl, rfl⟩))
  obtain ⟨Bo, hBo⟩ : ∃ Bo, w.heap.size + 1 + 1 + x1.heap.size = Bo := ⟨_, rfl⟩
  rw [hBo]
  refine name_worldIn ?_
  intro W1 hW1
  have c0 : W1.cell? ⟨w.heap.size, 0, none⟩ = some (.slice (some ⟨b, off, none⟩) L.length cap) := by rw [hW1]; simp [go_sem]
  have c1 : W1.cell? ⟨w.heap.size + 1, 0, none⟩ = some (.int .i64 l) := by rw [hW1]; simp [go_sem]
  have c2 : W1.cell? ⟨w.heap.size + 1, 1, none⟩ = some (.int .i64 c) := by rw [hW1]; simp [go_sem]
  have c3 : W1.cell? ⟨b, off + l, none⟩ = some (.string s) := by rw [hW1]; simp [go_sem, hcell, hbb]
  have bO : Boxed W1 Bo 111 (.slice none 0 0) := by rw [hW1]; exact (((boxed_new' _ _ _ (by rw [← hBo]; simp)).alloc _).alloc _).alloc _
  have bI : Boxed W1 (Bo + 1) 3 (.int .i64 0) := by rw [hW1]; exact ((boxed_new' _ _ _ (by rw [← hBo]; simp)).alloc _).alloc _
  have d1 : W1.cell? ⟨Bo + 1 + 1, 0, none⟩ = some (.string s) := by rw [hW1, ← hBo]; simp [go_sem]
  have d2 : W1.cell? ⟨Bo + 1 + 1 + 1, 0, none⟩ = some (.bool big) := by rw [hW1, ← hBo]; simp [go_sem]
  have hbel : Below w.heap.size w W1 := by rw [hW1]; (repeat (first | with_reducible exact Below.refl _ _ | (with_reducible refine Below.setCell ?_ ?_ _; rotate_left; · (first | exact Nat.le_refl _ | assumption | omega | (simp; done) | (simp; omega))) | (with_reducible refine Below.alloc ?_ ?_ _; rotate_left; · (first | exact Nat.le_refl _ | assumption | omega | (simp; done) | (simp; omega))) | with_reducible refine below_ovr_of ?_ | with_reducible refine drew_below ?_ _ | with_reducible refine Below.drew ?_ | with_reducible assumption))
  have hsz : Bo + 1 + 1 + 1 < W1.heap.size := by rw [hW1, ← hBo]; simp
  have hB2 : w.heap.size + 1 + 1 ≤ Bo := by omega
  clear hW1 hBo hcell
  refine wpIn_rangeFunc_ownG rfl (by omega) (gf := 104) (lb := #[.pointer (some ⟨Bo + 1 + 1, 0, none⟩), .pointer (some ⟨Bo + 1 + 1 + 1, 0, none⟩)]) rfl trivial (enters_of Try.func104 (by kernel_rfl) rfl)
    (wruns_stopsK (But W1.heap.size [Bo, Bo + 1]) (Bo + 1 + 1) (Bo + 1 + 1 + 1) s big W1 (fun _ _ h => h.cell (by omega) (by simp; omega)) (fun _ _ h => h.cell (by omega) (by simp; omega)) (by omega) (by omega) hst d1 d2)
    But.trans (butK_b (Nat.le_refl _)) (Below.refl _ _) (fun _ => rfl)
    (fun pre W => ((∃ v, Boxed W Bo 111 v ∧ W.ownsRow W1.heap.size 115 3 v pre.length (cells3 (blkR s) (vals pre)) ∧ True) ∧ Boxed W (Bo + 1) 3 (.int .i64 (inF c (vals pre)))) ∧ But W1.heap.size [Bo, Bo + 1] W1 W)
    (fun _ _ _ => False)
    (OwnFrom.and (OwnFrom.and (Own.from (holdsRow_own W1.heap.size Bo 111 115 3 (fun pre : List (Ivl s.size) => pre.length) (fun pre => cells3 (blkR s) (vals pre)) (fun _ _ => True)) _) (Own.from (boxed_own (Bo + 1) 3 (fun pre : List (Ivl s.size) => Value.int .i64 (inF c (vals pre)))) _)) (butFrom (Nat.le_refl _) (Nat.le_refl _)))
    (fun _ _ _ _ _ hs _ _ => hs)
    ⟨⟨⟨_, bO, World.ownsRow_nil _ _ _ _, trivial⟩, bI⟩, But.refl _ _ _⟩
    (fun x => { tmps := #[.slice (some ⟨b, off, none⟩) L.length cap, .agg #[.int .i64 l, .int .i64 c], .int .i64 n, .bool big, .pointer (some ⟨w.heap.size, 0, none⟩), .pointer (some ⟨w.heap.size + 1, 0, none⟩), undef, undef, .slice none 0 0, .int .i64 0, .bool false, .pointer (some ⟨Bo, 0, none⟩), .pointer (some ⟨Bo + 1, 0, none⟩),
      .int .i64 (x.1.1 : Int), .int .i64 (x.1.2 : Int), .int .i64 n, .bool false, .bool false, .slice (some ⟨b, off, none⟩) L.length cap, .agg #[.int .i64 l, .int .i64 c], .bool true, .bool false, .bool false, .bool false, .slice (some ⟨b, off, none⟩) L.length cap, .pointer (some ⟨w.heap.size + 1, 0, none⟩), .int .i64 l, .pointer (some ⟨b, off + l, none⟩), .string s, .bool false, .bool false,
      .slice (some ⟨b, off, none⟩) L.length cap, .pointer (some ⟨w.heap.size + 1, 0, none⟩), .int .i64 l, .pointer (some ⟨b, off + l, none⟩), .string s, .bool big, .func (.func 104) #[] #[.pointer (some ⟨Bo + 1 + 1, 0, none⟩), .pointer (some ⟨Bo + 1 + 1 + 1, 0, none⟩)], .int .i64 (x.1.1 : Int), .int .i64 (x.1.2 : Int),
      undef, undef, undef, undef, undef, undef, undef, undef, undef, undef, undef, undef, undef, undef, undef, undef, undef, undef, undef, undef, undef, undef, undef], defers := [] }) ?assign ?body ?done ?stop
  case assign =>
    intro l x W K hK
    gi_wp2
    exact hK
  case body =>
    rintro l' pre x W ⟨⟨⟨v, hv, hrow, _⟩, hI⟩, hB⟩ hlt
    have g0 : W.cell? ⟨w.heap.size, 0, none⟩ = some (.slice (some ⟨b, off, none⟩) L.length cap) := (hB.cell (by omega) (by simp; omega)).trans c0
    have g1 : W.cell? ⟨w.heap.size + 1, 0, none⟩ = some (.int .i64 l) := (hB.cell (by omega) (by simp; omega)).trans c1
    have g2 : W.cell? ⟨w.heap.size + 1, 1, none⟩ = some (.int .i64 c) := (hB.cell (by omega) (by simp; omega)).trans c2
    have g3 : W.cell? ⟨b, off + l, none⟩ = some (.string s) := (hB.cell (by omega) (by simp; omega)).trans c3
    obtain ⟨va, vcap, rfl, _⟩ := tri_of_owns (rs := vals pre) (by simpa using hrow)
    have hvc := hv.cell
    have hvf := hv.frozen
    have hic := hI.cell
    have hif := hI.frozen
    have hx1 : x.1.1 < s.size := x.2.1
    have hx1I : (x.1.1 : Int) < (s.size : Int) := by omega
    have hx0 : (0 : Int) ≤ (x.1.1 : Int) := by omega
    have hmx : Try.prog.follows .mixedOrders = true := by kernel_rfl
    have hlv : (vals pre).length = pre.length := List.length_map _
    rw [hlv] at hvc
    have HV := Lib.hid hlv
    clear hlv
    have hpl : pre.length ≤ 100000 := by omega
    rw [HV.out] at hrow hv
    have HCAT : Hid (cells3 (blkR s) (vals (pre ++ [x])) = cells3 (blkR s) (vals pre) ++ [.int .i64 (x.1.1 : Int), .int .i64 (x.1.2 : Int), .bool (ofC (s[x.1.1].toNat : Int) true == 0)]) := Lib.hid (by rw [vals, List.map_append]; refine (cells3_snoc _ _ _).trans ?_; rw [blkR, byt_at' s x.1.1 hx1])
    have HINF : Hid (inF c (vals (pre ++ [x])) = if x.1.1 ≤ c then (vals pre).length else inF c (vals pre)) := Lib.hid (by rw [vals, List.map_append]; exact inF_snoc _ _ _)
    by_cases hxc : x.1.1 ≤ c
    · have hxcI : (x.1.1 : Int) ≤ (c : Int) := by omega
      gi_wp2
      refine name_worldIn ?_
      intro W2 hW2
      have hrow2 : W2.ownsRow W1.heap.size 115 3 (.slice va pre.length vcap) pre.length (cells3 (blkR s) (vals pre)) := by rw [hW2]; exact hrow.kept (grownBy_setCell' W (Bo + 1) (.int .i64 (pre.length : Int))) (.inr (hI.not_row (by decide) hrow).symm)
      have hb2 : Boxed W2 Bo 111 (.slice va pre.length vcap) := by rw [hW2]; exact hv.other (show Bo ≠ Bo + 1 by omega) (.int .i64 (pre.length : Int))
      have hi2 : Boxed W2 (Bo + 1) 3 (.int .i64 (pre.length : Nat)) := by rw [hW2]; exact hI.set (.int .i64 (pre.length : Int))
      have hk2 : KeepsOthers W W2 := by rw [hW2]; exact KeepsOthers.setCell _ _ _
      have hB2' : But W1.heap.size [Bo, Bo + 1] W W2 := by rw [hW2]; exact (But.refl _ _ W).setCell (.inl (by simp)) 0 _
      have hs2 : W1.heap.size ≤ W2.heap.size := by have := hB.size; have := hB2'.size; omega
      have g0' : W2.cell? ⟨w.heap.size, 0, none⟩ = some (.slice (some ⟨b, off, none⟩) L.length cap) := (hB2'.cell (by omega) (by simp; omega)).trans g0
      have g1' : W2.cell? ⟨w.heap.size + 1, 0, none⟩ = some (.int .i64 l) := (hB2'.cell (by omega) (by simp; omega)).trans g1
      have g3' : W2.cell? ⟨b, off + l, none⟩ = some (.string s) := (hB2'.cell (by omega) (by simp; omega)).trans g3
      have hc2 := hb2.cell
      have hXr : (W2.alloc (.cells #[.int .i64 (x.1.1 : Int), .int .i64 (x.1.2 : Int), .bool (ofC (s[x.1.1].toNat : Int) true == 0)] 115)).drew.ownsRow W1.heap.size 115 3 (.slice va pre.length vcap) pre.length (cells3 (blkR s) (vals pre)) := hrow2.alloc _
      obtain ⟨v', w1, hrun, r1, r2, _⟩ := run_append_own (P := Try.prog) _ W1.heap.size 111 111 115 i0 (.agg #[.int .i64 0, .int .i64 0, .bool false]) 3 24 Try.underlying111 hi hz0 hz1 hz2 rfl (by decide) (.slice va pre.length vcap) pre.length (cells3 (blkR s) (vals pre)) hXr ⟨W2.heap.size, 0, none⟩ 1 1 [.int .i64 (x.1.1 : Int), .int .i64 (x.1.2 : Int), .bool (ofC (s[x.1.1].toNat : Int) true == 0)] rfl (cells_new3 _ rfl _ _ _ _) (by intro u hu; simp at hu; rcases hu with rfl | rfl | rfl <;> rfl) (by unfold maxLen; omega) (by omega) (by simp; omega)
      obtain ⟨g', cap', rfl, q1, q2, q3, q4, q5, q6, q7⟩ := round_append _ r2 r1 hb2 (by decide) hrow2 hs2 hi2 (by decide) (by omega) [Bo, Bo + 1] (by simp)
      have hqc := q1.cell
      have hqf := q1.frozen
      have HR : Sem.run Try.prog (appHold #[111, 111] 111 #[.slice va pre.length vcap, .slice (some ⟨W2.heap.size, 0, none⟩) 1 1]) (W2.alloc (.cells #[.int .i64 (x.1.1 : Int), .int .i64 (x.1.2 : Int), .bool (ofC (s[x.1.1].toNat : Int) true == 0)] 115)).drew = .ok (.slice (some ⟨g', 0, none⟩) (pre.length + 1) cap') w1 := hrun
      have HFIN := Lib.hid (show ownPostG W1.heap.size (But W1.heap.size [Bo, Bo + 1]) (fun pre W => ((∃ v, Boxed W Bo 111 v ∧ W.ownsRow W1.heap.size 115 3 v pre.length (cells3 (blkR s) (vals pre)) ∧ True) ∧ Boxed W (Bo + 1) 3 (.int .i64 (inF c (vals pre)))) ∧ But W1.heap.size [Bo, Bo + 1] W1 W) (fun _ _ _ => False) (pre ++ [x]) W .normal { tmps := #[], defers := [] } (w1.setCell ⟨Bo, 0, none⟩ (.slice (some ⟨g', 0, none⟩) (pre.length + 1) cap')) from
        ⟨(hk2.trans q4).from _, hB2'.trans q5, ⟨⟨_, q2, by rw [HCAT.out, List.length_append]; exact q3, trivial⟩, by rw [HINF.out, if_pos hxc, HV.out]; exact q6⟩, (hB.trans hB2').trans q5⟩)
      have n5 : w.heap.size < W2.heap.size := by omega
      have n6 : w.heap.size + 1 < W2.heap.size := by omega
      have n7 : b < W2.heap.size := by omega
      have n8 : Bo < W2.heap.size := by omega
      clear hrun r1 r2 q1 q2 q3 q4 q5 q6 hXr hk2 hB2' hi2 hb2 hrow2 hW2 g0 g1 g2 g3 hvc hvf hic hif HCAT HINF hv hrow hI hB hi hz0 hz1 hz2
      have n1 : ¬ w.heap.size = Bo := by omega
      have n2 : ¬ w.heap.size + 1 = Bo := by omega
      have n3 : ¬ b = Bo := by omega
      have e0 : w1.cell? ⟨w.heap.size, 0, none⟩ = some (.slice (some ⟨b, off, none⟩) L.length cap) := (q7.cell (by omega) (by simp; omega)).trans g0'
      have e1 : w1.cell? ⟨w.heap.size + 1, 0, none⟩ = some (.int .i64 l) := (q7.cell (by omega) (by simp; omega)).trans g1'
      have e3 : w1.cell? ⟨b, off + l, none⟩ = some (.string s) := (q7.cell (by omega) (by simp; omega)).trans g3'
      clear q7
      refine wpIn_round_held (fun w' => w'.cell? ⟨w.heap.size, 0, none⟩ = some (.slice (some ⟨b, off, none⟩) L.length cap) ∧ w'.cell? ⟨w.heap.size + 1, 0, none⟩ = some (.int .i64 l) ∧ w'.cell? ⟨b, off + l, none⟩ = some (.string s)) (fun ⟨_, _, h⟩ => h) hmx (by kernel_rfl) ⟨g0', g1', g3'⟩ ?_
      intro hHeld
      (refine wpAnyH_take (i := 1) (v := ?_) rfl (by kernel_rfl) (by kernel_rfl) (by kernel_rfl) (fun _ _ _ h => h) (Or.inl ⟨by rfl, ?_⟩) (by assumption) ?_; rotate_left; (· ((intro w hSw; (try dsimp only at hSw); go_simp) <;> try with_reducible rfl)); (try simp only [Act.put, List.setIfInBounds_toArray]))
      (refine wpAnyH_take (i := 2) (v := ?_) rfl (by kernel_rfl) (by kernel_rfl) (by kernel_rfl) (fun _ _ _ h => h) (Or.inl ⟨by rfl, ?_⟩) (by assumption) ?_; rotate_left; (· ((intro w hSw; (try dsimp only at hSw); go_simp) <;> try with_reducible rfl)); (try simp only [Act.put]))
      (refine wpAnyH_take (i := 3) (v := ?_) rfl (by kernel_rfl) (by kernel_rfl) (by kernel_rfl) (fun _ _ _ h => h) (Or.inl ⟨by rfl, ?_⟩) (by assumption) ?_; rotate_left; (· ((intro w hSw; (try dsimp only at hSw); go_simp) <;> try with_reducible rfl)); (try simp only [Act.put]))
      (refine wpAnyH_take (i := 4) (v := ?_) rfl (by kernel_rfl) (by kernel_rfl) (by kernel_rfl) (fun _ _ _ h => h) (Or.inl ⟨by rfl, ?_⟩) (by assumption) ?_; rotate_left; (· ((intro w hSw; (try dsimp only at hSw); go_simp) <;> try with_reducible rfl)); (try simp only [Act.put]))
      (refine wpAnyH_take (i := 5) (v := ?_) rfl (by kernel_rfl) (by kernel_rfl) (by kernel_rfl) (fun _ _ _ h => h) (Or.inl ⟨by rfl, ?_⟩) (by assumption) ?_; rotate_left; (· ((intro w hSw; (try dsimp only at hSw); go_simp) <;> try with_reducible rfl)); (try simp only [Act.put]))
      (refine wpAnyH_take (i := 6) (v := ?_) rfl (by kernel_rfl) (by kernel_rfl) (by kernel_rfl) (fun _ _ _ h => h) (Or.inl ⟨by rfl, ?_⟩) (by assumption) ?_; rotate_left; (· ((intro w hSw; (try dsimp only at hSw); go_simp) <;> try with_reducible rfl)); (try simp only [Act.put]))
      (refine wpAnyH_take (i := 7) (v := ?_) rfl (by kernel_rfl) (by kernel_rfl) (by kernel_rfl) (fun _ _ _ h => h) (Or.inl ⟨by rfl, ?_⟩) (by assumption) ?_; rotate_left; (· ((intro w hSw; (try dsimp only at hSw); go_simp) <;> try with_reducible rfl)); (try simp only [Act.put]))
      (refine wpAnyH_take (i := 8) (v := ?_) rfl (by kernel_rfl) (by kernel_rfl) (by kernel_rfl) (fun _ _ _ h => h) (Or.inl ⟨by rfl, ?_⟩) (by assumption) ?_; rotate_left; (· ((intro w hSw; (try dsimp only at hSw); go_simp) <;> try with_reducible rfl)); (try simp only [Act.put]))
      (refine wpAnyH_take (i := 9) (v := ?_) rfl (by kernel_rfl) (by kernel_rfl) (by kernel_rfl) (fun _ _ _ h => h) (Or.inl ⟨by rfl, ?_⟩) (by assumption) ?_; rotate_left; (· ((intro w hSw; (try dsimp only at hSw); go_simp) <;> try with_reducible rfl)); (try simp only [Act.put]))
      refine wpAnyH_ready (rs := [0, 10]) (by kernel_rfl) (by simp) ?_
      refine AllReadyH.cons rfl (fun K hK => ?_) (AllReadyH.cons rfl (fun K hK => ?_) AllReadyH.nil)
      · skip
        (go_simp; (try (go_at_call 103; refine (of_same _ _ _).mono ?_; rintro e w' ⟨rfl, rfl⟩; go_wp2_with fail)); refine hK.out _ _ ?_ (fun hHeld => ?_); (· ((try dsimp only); all_goals (refine ⟨?_, ?_, ?_⟩ <;> first | assumption | (simp [go_sem]; done) | (simp [go_sem, *]; done)))); (clear hK K); (try simp only [Act.put, List.setIfInBounds_toArray, List.set_cons_zero, List.set_cons_succ]))
        (refine wpAnyH_ready (rs := [10]) (by kernel_rfl) (by simp) ?_; refine AllReadyH.cons rfl (fun K hK => ?_) AllReadyH.nil; (go_simp; (try (go_at_call 103; refine (of_same _ _ _).mono ?_; rintro e w' ⟨rfl, rfl⟩; go_wp2_with fail)); refine hK.out _ _ ?_ (fun hHeld => ?_); (· ((try dsimp only); all_goals (refine ⟨?_, ?_, ?_⟩ <;> first | assumption | (simp [go_sem]; done) | (simp [go_sem, *]; done)))); (clear hK K); (try simp only [Act.put, List.setIfInBounds_toArray, List.set_cons_zero, List.set_cons_succ])))
        (refine wpAnyH_take (i := 11) (v := ?_) rfl (by kernel_rfl) (by kernel_rfl) (by kernel_rfl) (fun _ _ _ h => h) (Or.inl ⟨by rfl, ?_⟩) (by assumption) ?_; rotate_left; (· ((intro w hSw; (try dsimp only at hSw); go_simp) <;> try with_reducible rfl)); (try simp only [Act.put, List.setIfInBounds_toArray]))
        (refine wpAnyH_take (i := 12) (v := ?_) rfl (by kernel_rfl) (by kernel_rfl) (by kernel_rfl) (fun _ _ _ h => h) (Or.inl ⟨by rfl, ?_⟩) (by assumption) ?_; rotate_left; (· ((intro w hSw; (try dsimp only at hSw); go_simp) <;> try with_reducible rfl)); (try simp only [Act.put]))
        (refine wpAnyH_ready (rs := [13]) (by kernel_rfl) (by simp) ?_; refine AllReadyH.cons rfl (fun K hK => ?_) AllReadyH.nil; (go_simp; (try (go_at_call 103; refine (of_same _ _ _).mono ?_; rintro e w' ⟨rfl, rfl⟩; go_wp2_with fail)); refine hK.out _ _ ?_ (fun hHeld => ?_); (· ((try dsimp only); all_goals (refine ⟨?_, ?_, ?_⟩ <;> first | assumption | (simp [go_sem]; done) | (simp [go_sem, *]; done)))); (clear hK K); (try simp only [Act.put, List.setIfInBounds_toArray, List.set_cons_zero, List.set_cons_succ])))
        (refine wpAnyH_ready (rs := [14]) (by kernel_rfl) (by simp) ?_; refine AllReadyH.cons rfl (fun K hK => ?_) AllReadyH.nil; (go_simp; (try (go_at_call 103; refine (of_same _ _ _).mono ?_; rintro e w' ⟨rfl, rfl⟩; go_wp2_with fail)); refine hK.out _ _ ?_ (fun hHeld => ?_); (· ((try dsimp only); all_goals (refine ⟨?_, ?_, ?_⟩ <;> first | assumption | (simp [go_sem]; done) | (simp [go_sem, *]; done)))); (clear hK K); (try simp only [Act.put, List.setIfInBounds_toArray, List.set_cons_zero, List.set_cons_succ])))
        (refine wpAnyH_ready (rs := [15]) (by kernel_rfl) (by simp) ?_; refine AllReadyH.cons rfl (fun K hK => ?_) AllReadyH.nil; (go_simp; (try (go_at_call 103; refine (of_same _ _ _).mono ?_; rintro e w' ⟨rfl, rfl⟩; go_wp2_with fail)); refine hK.out _ _ ?_ (fun hHeld => ?_); (· ((try dsimp only); all_goals (refine ⟨?_, ?_, ?_⟩ <;> first | assumption | (simp [go_sem]; done) | (simp [go_sem, *]; done)))); (clear hK K); (try simp only [Act.put, List.setIfInBounds_toArray, List.set_cons_zero, List.set_cons_succ])))
        refine wpAnyH_done (by kernel_rfl) ?_ _
        gi_wp2
        exact HFIN.out
      · skip
        (go_simp; (try (go_at_call 103; refine (of_same _ _ _).mono ?_; rintro e w' ⟨rfl, rfl⟩; go_wp2_with fail)); refine hK.out _ _ ?_ (fun hHeld => ?_); (· ((try dsimp only); all_goals (refine ⟨?_, ?_, ?_⟩ <;> first | assumption | (simp [go_sem]; done) | (simp [go_sem, *]; done)))); (clear hK K); (try simp only [Act.put, List.setIfInBounds_toArray, List.set_cons_zero, List.set_cons_succ]))
        (refine wpAnyH_take (i := 11) (v := ?_) rfl (by kernel_rfl) (by kernel_rfl) (by kernel_rfl) (fun _ _ _ h => h) (Or.inl ⟨by rfl, ?_⟩) (by assumption) ?_; rotate_left; (· ((intro w hSw; (try dsimp only at hSw); go_simp) <;> try with_reducible rfl)); (try simp only [Act.put, List.setIfInBounds_toArray]))
        (refine wpAnyH_take (i := 12) (v := ?_) rfl (by kernel_rfl) (by kernel_rfl) (by kernel_rfl) (fun _ _ _ h => h) (Or.inl ⟨by rfl, ?_⟩) (by assumption) ?_; rotate_left; (· ((intro w hSw; (try dsimp only at hSw); go_simp) <;> try with_reducible rfl)); (try simp only [Act.put]))
        refine wpAnyH_ready (rs := [0, 13]) (by kernel_rfl) (by simp) ?_
        refine AllReadyH.cons rfl (fun K hK => ?_) (AllReadyH.cons rfl (fun K hK => ?_) AllReadyH.nil)
        · skip
          (go_simp; (try (go_at_call 103; refine (of_same _ _ _).mono ?_; rintro e w' ⟨rfl, rfl⟩; go_wp2_with fail)); refine hK.out _ _ ?_ (fun hHeld => ?_); (· ((try dsimp only); all_goals (refine ⟨?_, ?_, ?_⟩ <;> first | assumption | (simp [go_sem]; done) | (simp [go_sem, *]; done)))); (clear hK K); (try simp only [Act.put, List.setIfInBounds_toArray, List.set_cons_zero, List.set_cons_succ]))
          (refine wpAnyH_ready (rs := [13]) (by kernel_rfl) (by simp) ?_; refine AllReadyH.cons rfl (fun K hK => ?_) AllReadyH.nil; (go_simp; (try (go_at_call 103; refine (of_same _ _ _).mono ?_; rintro e w' ⟨rfl, rfl⟩; go_wp2_with fail)); refine hK.out _ _ ?_ (fun hHeld => ?_); (· ((try dsimp only); all_goals (refine ⟨?_, ?_, ?_⟩ <;> first | assumption | (simp [go_sem]; done) | (simp [go_sem, *]; done)))); (clear hK K); (try simp only [Act.put, List.setIfInBounds_toArray, List.set_cons_zero, List.set_cons_succ])))
          (refine wpAnyH_ready (rs := [14]) (by kernel_rfl) (by simp) ?_; refine AllReadyH.cons rfl (fun K hK => ?_) AllReadyH.nil; (go_simp; (try (go_at_call 103; refine (of_same _ _ _).mono ?_; rintro e w' ⟨rfl, rfl⟩; go_wp2_with fail)); refine hK.out _ _ ?_ (fun hHeld => ?_); (· ((try dsimp only); all_goals (refine ⟨?_, ?_, ?_⟩ <;> first | assumption | (simp [go_sem]; done) | (simp [go_sem, *]; done)))); (clear hK K); (try simp only [Act.put, List.setIfInBounds_toArray, List.set_cons_zero, List.set_cons_succ])))
          (refine wpAnyH_ready (rs := [15]) (by kernel_rfl) (by simp) ?_; refine AllReadyH.cons rfl (fun K hK => ?_) AllReadyH.nil; (go_simp; (try (go_at_call 103; refine (of_same _ _ _).mono ?_; rintro e w' ⟨rfl, rfl⟩; go_wp2_with fail)); refine hK.out _ _ ?_ (fun hHeld => ?_); (· ((try dsimp only); all_goals (refine ⟨?_, ?_, ?_⟩ <;> first | assumption | (simp [go_sem]; done) | (simp [go_sem, *]; done)))); (clear hK K); (try simp only [Act.put, List.setIfInBounds_toArray, List.set_cons_zero, List.set_cons_succ])))
          refine wpAnyH_done (by kernel_rfl) ?_ _
          gi_wp2
          exact HFIN.out
        · skip
          (go_simp; (try (go_at_call 103; refine (of_same _ _ _).mono ?_; rintro e w' ⟨rfl, rfl⟩; go_wp2_with fail)); refine hK.out _ _ ?_ (fun hHeld => ?_); (· ((try dsimp only); all_goals (refine ⟨?_, ?_, ?_⟩ <;> first | assumption | (simp [go_sem]; done) | (simp [go_sem, *]; done)))); (clear hK K); (try simp only [Act.put, List.setIfInBounds_toArray, List.set_cons_zero, List.set_cons_succ]))
          (refine wpAnyH_ready (rs := [0]) (by kernel_rfl) (by simp) ?_; refine AllReadyH.cons rfl (fun K hK => ?_) AllReadyH.nil; (go_simp; (try (go_at_call 103; refine (of_same _ _ _).mono ?_; rintro e w' ⟨rfl, rfl⟩; go_wp2_with fail)); refine hK.out _ _ ?_ (fun hHeld => ?_); (· ((try dsimp only); all_goals (refine ⟨?_, ?_, ?_⟩ <;> first | assumption | (simp [go_sem]; done) | (simp [go_sem, *]; done)))); (clear hK K); (try simp only [Act.put, List.setIfInBounds_toArray, List.set_cons_zero, List.set_cons_succ])))
          (refine wpAnyH_ready (rs := [14]) (by kernel_rfl) (by simp) ?_; refine AllReadyH.cons rfl (fun K hK => ?_) AllReadyH.nil; (go_simp; (try (go_at_call 103; refine (of_same _ _ _).mono ?_; rintro e w' ⟨rfl, rfl⟩; go_wp2_with fail)); refine hK.out _ _ ?_ (fun hHeld => ?_); (· ((try dsimp only); all_goals (refine ⟨?_, ?_, ?_⟩ <;> first | assumption | (simp [go_sem]; done) | (simp [go_sem, *]; done)))); (clear hK K); (try simp only [Act.put, List.setIfInBounds_toArray, List.set_cons_zero, List.set_cons_succ])))
          (refine wpAnyH_ready (rs := [15]) (by kernel_rfl) (by simp) ?_; refine AllReadyH.cons rfl (fun K hK => ?_) AllReadyH.nil; (go_simp; (try (go_at_call 103; refine (of_same _ _ _).mono ?_; rintro e w' ⟨rfl, rfl⟩; go_wp2_with fail)); refine hK.out _ _ ?_ (fun hHeld => ?_); (· ((try dsimp only); all_goals (refine ⟨?_, ?_, ?_⟩ <;> first | assumption | (simp [go_sem]; done) | (simp [go_sem, *]; done)))); (clear hK K); (try simp only [Act.put, List.setIfInBounds_toArray, List.set_cons_zero, List.set_cons_succ])))
          refine wpAnyH_done (by kernel_rfl) ?_ _
          gi_wp2
          exact HFIN.out
    · have hxcI : decide (x.1.1 ≤ c) = false := decide_eq_false hxc
      have hxcJ : ¬ (x.1.1 : Int) ≤ (c : Int) := by omega
      have hxcK : decide ((x.1.1 : Int) ≤ (c : Int)) = false := decide_eq_false hxcJ
      gi_wp2
      have hrow2 := hrow
      have hb2 := hv
      have hi2 := hI
      have hk2 : KeepsOthers W W := KeepsOthers.refl _
      have hB2' : But W1.heap.size [Bo, Bo + 1] W W := But.refl _ _ W
      have hs2 : W1.heap.size ≤ W.heap.size := hB.size
      have g0' := g0
      have g1' := g1
      have g3' := g3
      have hc2 := hb2.cell
      have hXr : (W.alloc (.cells #[.int .i64 (x.1.1 : Int), .int .i64 (x.1.2 : Int), .bool (ofC (s[x.1.1].toNat : Int) true == 0)] 115)).drew.ownsRow W1.heap.size 115 3 (.slice va pre.length vcap) pre.length (cells3 (blkR s) (vals pre)) := hrow2.alloc _
      obtain ⟨v', w1, hrun, r1, r2, _⟩ := run_append_own (P := Try.prog) _ W1.heap.size 111 111 115 i0 (.agg #[.int .i64 0, .int .i64 0, .bool false]) 3 24 Try.underlying111 hi hz0 hz1 hz2 rfl (by decide) (.slice va pre.length vcap) pre.length (cells3 (blkR s) (vals pre)) hXr ⟨W.heap.size, 0, none⟩ 1 1 [.int .i64 (x.1.1 : Int), .int .i64 (x.1.2 : Int), .bool (ofC (s[x.1.1].toNat : Int) true == 0)] rfl (cells_new3 _ rfl _ _ _ _) (by intro u hu; simp at hu; rcases hu with rfl | rfl | rfl <;> rfl) (by unfold maxLen; omega) (by omega) (by simp; omega)
      obtain ⟨g', cap', rfl, q1, q2, q3, q4, q5, q6, q7⟩ := round_append _ r2 r1 hb2 (by decide) hrow2 hs2 hi2 (by decide) (by omega) [Bo, Bo + 1] (by simp)
      have hqc := q1.cell
      have hqf := q1.frozen
      have HR : Sem.run Try.prog (appHold #[111, 111] 111 #[.slice va pre.length vcap, .slice (some ⟨W.heap.size, 0, none⟩) 1 1]) (W.alloc (.cells #[.int .i64 (x.1.1 : Int), .int .i64 (x.1.2 : Int), .bool (ofC (s[x.1.1].toNat : Int) true == 0)] 115)).drew = .ok (.slice (some ⟨g', 0, none⟩) (pre.length + 1) cap') w1 := hrun
      have HFIN := Lib.hid (show ownPostG W1.heap.size (But W1.heap.size [Bo, Bo + 1]) (fun pre W => ((∃ v, Boxed W Bo 111 v ∧ W.ownsRow W1.heap.size 115 3 v pre.length (cells3 (blkR s) (vals pre)) ∧ True) ∧ Boxed W (Bo + 1) 3 (.int .i64 (inF c (vals pre)))) ∧ But W1.heap.size [Bo, Bo + 1] W1 W) (fun _ _ _ => False) (pre ++ [x]) W .normal { tmps := #[], defers := [] } (w1.setCell ⟨Bo, 0, none⟩ (.slice (some ⟨g', 0, none⟩) (pre.length + 1) cap')) from
        ⟨(hk2.trans q4).from _, hB2'.trans q5, ⟨⟨_, q2, by rw [HCAT.out, List.length_append]; exact q3, trivial⟩, by rw [HINF.out, if_neg hxc]; exact q6⟩, (hB.trans hB2').trans q5⟩)
      have n5 : w.heap.size < W.heap.size := by omega
      have n6 : w.heap.size + 1 < W.heap.size := by omega
      have n7 : b < W.heap.size := by omega
      have n8 : Bo < W.heap.size := by omega
      clear hrun r1 r2 q1 q2 q3 q4 q5 q6 hXr hk2 hB2' hi2 hb2 hrow2 g0 g1 g2 g3 hvc hvf hic hif HCAT HINF hv hrow hI hB hi hz0 hz1 hz2
      have n1 : ¬ w.heap.size = Bo := by omega
      have n2 : ¬ w.heap.size + 1 = Bo := by omega
      have n3 : ¬ b = Bo := by omega
      have e0 : w1.cell? ⟨w.heap.size, 0, none⟩ = some (.slice (some ⟨b, off, none⟩) L.length cap) := (q7.cell (by omega) (by simp; omega)).trans g0'
      have e1 : w1.cell? ⟨w.heap.size + 1, 0, none⟩ = some (.int .i64 l) := (q7.cell (by omega) (by simp; omega)).trans g1'
      have e3 : w1.cell? ⟨b, off + l, none⟩ = some (.string s) := (q7.cell (by omega) (by simp; omega)).trans g3'
      clear q7
      refine wpIn_round_held (fun w' => w'.cell? ⟨w.heap.size, 0, none⟩ = some (.slice (some ⟨b, off, none⟩) L.length cap) ∧ w'.cell? ⟨w.heap.size + 1, 0, none⟩ = some (.int .i64 l) ∧ w'.cell? ⟨b, off + l, none⟩ = some (.string s)) (fun ⟨_, _, h⟩ => h) hmx (by kernel_rfl) ⟨g0', g1', g3'⟩ ?_
      intro hHeld
      (refine wpAnyH_take (i := 1) (v := ?_) rfl (by kernel_rfl) (by kernel_rfl) (by kernel_rfl) (fun _ _ _ h => h) (Or.inl ⟨by rfl, ?_⟩) (by assumption) ?_; rotate_left; (· ((intro w hSw; (try dsimp only at hSw); go_simp) <;> try with_reducible rfl)); (try simp only [Act.put, List.setIfInBounds_toArray]))
      (refine wpAnyH_take (i := 2) (v := ?_) rfl (by kernel_rfl) (by kernel_rfl) (by kernel_rfl) (fun _ _ _ h => h) (Or.inl ⟨by rfl, ?_⟩) (by assumption) ?_; rotate_left; (· ((intro w hSw; (try dsimp only at hSw); go_simp) <;> try with_reducible rfl)); (try simp only [Act.put]))
      (refine wpAnyH_take (i := 3) (v := ?_) rfl (by kernel_rfl) (by kernel_rfl) (by kernel_rfl) (fun _ _ _ h => h) (Or.inl ⟨by rfl, ?_⟩) (by assumption) ?_; rotate_left; (· ((intro w hSw; (try dsimp only at hSw); go_simp) <;> try with_reducible rfl)); (try simp only [Act.put]))
      (refine wpAnyH_take (i := 4) (v := ?_) rfl (by kernel_rfl) (by kernel_rfl) (by kernel_rfl) (fun _ _ _ h => h) (Or.inl ⟨by rfl, ?_⟩) (by assumption) ?_; rotate_left; (· ((intro w hSw; (try dsimp only at hSw); go_simp) <;> try with_reducible rfl)); (try simp only [Act.put]))
      (refine wpAnyH_take (i := 5) (v := ?_) rfl (by kernel_rfl) (by kernel_rfl) (by kernel_rfl) (fun _ _ _ h => h) (Or.inl ⟨by rfl, ?_⟩) (by assumption) ?_; rotate_left; (· ((intro w hSw; (try dsimp only at hSw); go_simp) <;> try with_reducible rfl)); (try simp only [Act.put]))
      (refine wpAnyH_take (i := 6) (v := ?_) rfl (by kernel_rfl) (by kernel_rfl) (by kernel_rfl) (fun _ _ _ h => h) (Or.inl ⟨by rfl, ?_⟩) (by assumption) ?_; rotate_left; (· ((intro w hSw; (try dsimp only at hSw); go_simp) <;> try with_reducible rfl)); (try simp only [Act.put]))
      (refine wpAnyH_take (i := 7) (v := ?_) rfl (by kernel_rfl) (by kernel_rfl) (by kernel_rfl) (fun _ _ _ h => h) (Or.inl ⟨by rfl, ?_⟩) (by assumption) ?_; rotate_left; (· ((intro w hSw; (try dsimp only at hSw); go_simp) <;> try with_reducible rfl)); (try simp only [Act.put]))
      (refine wpAnyH_take (i := 8) (v := ?_) rfl (by kernel_rfl) (by kernel_rfl) (by kernel_rfl) (fun _ _ _ h => h) (Or.inl ⟨by rfl, ?_⟩) (by assumption) ?_; rotate_left; (· ((intro w hSw; (try dsimp only at hSw); go_simp) <;> try with_reducible rfl)); (try simp only [Act.put]))
      (refine wpAnyH_take (i := 9) (v := ?_) rfl (by kernel_rfl) (by kernel_rfl) (by kernel_rfl) (fun _ _ _ h => h) (Or.inl ⟨by rfl, ?_⟩) (by assumption) ?_; rotate_left; (· ((intro w hSw; (try dsimp only at hSw); go_simp) <;> try with_reducible rfl)); (try simp only [Act.put]))
      refine wpAnyH_ready (rs := [0, 10]) (by kernel_rfl) (by simp) ?_
      refine AllReadyH.cons rfl (fun K hK => ?_) (AllReadyH.cons rfl (fun K hK => ?_) AllReadyH.nil)
      · skip
        (go_simp; (try (go_at_call 103; refine (of_same _ _ _).mono ?_; rintro e w' ⟨rfl, rfl⟩; go_wp2_with fail)); refine hK.out _ _ ?_ (fun hHeld => ?_); (· ((try dsimp only); all_goals (refine ⟨?_, ?_, ?_⟩ <;> first | assumption | (simp [go_sem]; done) | (simp [go_sem, *]; done)))); (clear hK K); (try simp only [Act.put, List.setIfInBounds_toArray, List.set_cons_zero, List.set_cons_succ]))
        (refine wpAnyH_ready (rs := [10]) (by kernel_rfl) (by simp) ?_; refine AllReadyH.cons rfl (fun K hK => ?_) AllReadyH.nil; (go_simp; (try (go_at_call 103; refine (of_same _ _ _).mono ?_; rintro e w' ⟨rfl, rfl⟩; go_wp2_with fail)); refine hK.out _ _ ?_ (fun hHeld => ?_); (· ((try dsimp only); all_goals (refine ⟨?_, ?_, ?_⟩ <;> first | assumption | (simp [go_sem]; done) | (simp [go_sem, *]; done)))); (clear hK K); (try simp only [Act.put, List.setIfInBounds_toArray, List.set_cons_zero, List.set_cons_succ])))
        (refine wpAnyH_take (i := 11) (v := ?_) rfl (by kernel_rfl) (by kernel_rfl) (by kernel_rfl) (fun _ _ _ h => h) (Or.inl ⟨by rfl, ?_⟩) (by assumption) ?_; rotate_left; (· ((intro w hSw; (try dsimp only at hSw); go_simp) <;> try with_reducible rfl)); (try simp only [Act.put, List.setIfInBounds_toArray]))
        (refine wpAnyH_take (i := 12) (v := ?_) rfl (by kernel_rfl) (by kernel_rfl) (by kernel_rfl) (fun _ _ _ h => h) (Or.inl ⟨by rfl, ?_⟩) (by assumption) ?_; rotate_left; (· ((intro w hSw; (try dsimp only at hSw); go_simp) <;> try with_reducible rfl)); (try simp only [Act.put]))
        (refine wpAnyH_ready (rs := [13]) (by kernel_rfl) (by simp) ?_; refine AllReadyH.cons rfl (fun K hK => ?_) AllReadyH.nil; (go_simp; (try (go_at_call 103; refine (of_same _ _ _).mono ?_; rintro e w' ⟨rfl, rfl⟩; go_wp2_with fail)); refine hK.out _ _ ?_ (fun hHeld => ?_); (· ((try dsimp only); all_goals (refine ⟨?_, ?_, ?_⟩ <;> first | assumption | (simp [go_sem]; done) | (simp [go_sem, *]; done)))); (clear hK K); (try simp only [Act.put, List.setIfInBounds_toArray, List.set_cons_zero, List.set_cons_succ])))
        (refine wpAnyH_ready (rs := [14]) (by kernel_rfl) (by simp) ?_; refine AllReadyH.cons rfl (fun K hK => ?_) AllReadyH.nil; (go_simp; (try (go_at_call 103; refine (of_same _ _ _).mono ?_; rintro e w' ⟨rfl, rfl⟩; go_wp2_with fail)); refine hK.out _ _ ?_ (fun hHeld => ?_); (· ((try dsimp only); all_goals (refine ⟨?_, ?_, ?_⟩ <;> first | assumption | (simp [go_sem]; done) | (simp [go_sem, *]; done)))); (clear hK K); (try simp only [Act.put, List.setIfInBounds_toArray, List.set_cons_zero, List.set_cons_succ])))
        (refine wpAnyH_ready (rs := [15]) (by kernel_rfl) (by simp) ?_; refine AllReadyH.cons rfl (fun K hK => ?_) AllReadyH.nil; (go_simp; (try (go_at_call 103; refine (of_same _ _ _).mono ?_; rintro e w' ⟨rfl, rfl⟩; go_wp2_with fail)); refine hK.out _ _ ?_ (fun hHeld => ?_); (· ((try dsimp only); all_goals (refine ⟨?_, ?_, ?_⟩ <;> first | assumption | (simp [go_sem]; done) | (simp [go_sem, *]; done)))); (clear hK K); (try simp only [Act.put, List.setIfInBounds_toArray, List.set_cons_zero, List.set_cons_succ])))
        refine wpAnyH_done (by kernel_rfl) ?_ _
        gi_wp2
        exact HFIN.out
      · skip
        (go_simp; (try (go_at_call 103; refine (of_same _ _ _).mono ?_; rintro e w' ⟨rfl, rfl⟩; go_wp2_with fail)); refine hK.out _ _ ?_ (fun hHeld => ?_); (· ((try dsimp only); all_goals (refine ⟨?_, ?_, ?_⟩ <;> first | assumption | (simp [go_sem]; done) | (simp [go_sem, *]; done)))); (clear hK K); (try simp only [Act.put, List.setIfInBounds_toArray, List.set_cons_zero, List.set_cons_succ]))
        (refine wpAnyH_take (i := 11) (v := ?_) rfl (by kernel_rfl) (by kernel_rfl) (by kernel_rfl) (fun _ _ _ h => h) (Or.inl ⟨by rfl, ?_⟩) (by assumption) ?_; rotate_left; (· ((intro w hSw; (try dsimp only at hSw); go_simp) <;> try with_reducible rfl)); (try simp only [Act.put, List.setIfInBounds_toArray]))
        (refine wpAnyH_take (i := 12) (v := ?_) rfl (by kernel_rfl) (by kernel_rfl) (by kernel_rfl) (fun _ _ _ h => h) (Or.inl ⟨by rfl, ?_⟩) (by assumption) ?_; rotate_left; (· ((intro w hSw; (try dsimp only at hSw); go_simp) <;> try with_reducible rfl)); (try simp only [Act.put]))
        refine wpAnyH_ready (rs := [0, 13]) (by kernel_rfl) (by simp) ?_
        refine AllReadyH.cons rfl (fun K hK => ?_) (AllReadyH.cons rfl (fun K hK => ?_) AllReadyH.nil)
        · skip
          (go_simp; (try (go_at_call 103; refine (of_same _ _ _).mono ?_; rintro e w' ⟨rfl, rfl⟩; go_wp2_with fail)); refine hK.out _ _ ?_ (fun hHeld => ?_); (· ((try dsimp only); all_goals (refine ⟨?_, ?_, ?_⟩ <;> first | assumption | (simp [go_sem]; done) | (simp [go_sem, *]; done)))); (clear hK K); (try simp only [Act.put, List.setIfInBounds_toArray, List.set_cons_zero, List.set_cons_succ]))
          (refine wpAnyH_ready (rs := [13]) (by kernel_rfl) (by simp) ?_; refine AllReadyH.cons rfl (fun K hK => ?_) AllReadyH.nil; (go_simp; (try (go_at_call 103; refine (of_same _ _ _).mono ?_; rintro e w' ⟨rfl, rfl⟩; go_wp2_with fail)); refine hK.out _ _ ?_ (fun hHeld => ?_); (· ((try dsimp only); all_goals (refine ⟨?_, ?_, ?_⟩ <;> first | assumption | (simp [go_sem]; done) | (simp [go_sem, *]; done)))); (clear hK K); (try simp only [Act.put, List.setIfInBounds_toArray, List.set_cons_zero, List.set_cons_succ])))
          (refine wpAnyH_ready (rs := [14]) (by kernel_rfl) (by simp) ?_; refine AllReadyH.cons rfl (fun K hK => ?_) AllReadyH.nil; (go_simp; (try (go_at_call 103; refine (of_same _ _ _).mono ?_; rintro e w' ⟨rfl, rfl⟩; go_wp2_with fail)); refine hK.out _ _ ?_ (fun hHeld => ?_); (· ((try dsimp only); all_goals (refine ⟨?_, ?_, ?_⟩ <;> first | assumption | (simp [go_sem]; done) | (simp [go_sem, *]; done)))); (clear hK K); (try simp only [Act.put, List.setIfInBounds_toArray, List.set_cons_zero, List.set_cons_succ])))
          (refine wpAnyH_ready (rs := [15]) (by kernel_rfl) (by simp) ?_; refine AllReadyH.cons rfl (fun K hK => ?_) AllReadyH.nil; (go_simp; (try (go_at_call 103; refine (of_same _ _ _).mono ?_; rintro e w' ⟨rfl, rfl⟩; go_wp2_with fail)); refine hK.out _ _ ?_ (fun hHeld => ?_); (· ((try dsimp only); all_goals (refine ⟨?_, ?_, ?_⟩ <;> first | assumption | (simp [go_sem]; done) | (simp [go_sem, *]; done)))); (clear hK K); (try simp only [Act.put, List.setIfInBounds_toArray, List.set_cons_zero, List.set_cons_succ])))
          refine wpAnyH_done (by kernel_rfl) ?_ _
          gi_wp2
          exact HFIN.out
        · skip
          (go_simp; (try (go_at_call 103; refine (of_same _ _ _).mono ?_; rintro e w' ⟨rfl, rfl⟩; go_wp2_with fail)); refine hK.out _ _ ?_ (fun hHeld => ?_); (· ((try dsimp only); all_goals (refine ⟨?_, ?_, ?_⟩ <;> first | assumption | (simp [go_sem]; done) | (simp [go_sem, *]; done)))); (clear hK K); (try simp only [Act.put, List.setIfInBounds_toArray, List.set_cons_zero, List.set_cons_succ]))
          (refine wpAnyH_ready (rs := [0]) (by kernel_rfl) (by simp) ?_; refine AllReadyH.cons rfl (fun K hK => ?_) AllReadyH.nil; (go_simp; (try (go_at_call 103; refine (of_same _ _ _).mono ?_; rintro e w' ⟨rfl, rfl⟩; go_wp2_with fail)); refine hK.out _ _ ?_ (fun hHeld => ?_); (· ((try dsimp only); all_goals (refine ⟨?_, ?_, ?_⟩ <;> first | assumption | (simp [go_sem]; done) | (simp [go_sem, *]; done)))); (clear hK K); (try simp only [Act.put, List.setIfInBounds_toArray, List.set_cons_zero, List.set_cons_succ])))
          (refine wpAnyH_ready (rs := [14]) (by kernel_rfl) (by simp) ?_; refine AllReadyH.cons rfl (fun K hK => ?_) AllReadyH.nil; (go_simp; (try (go_at_call 103; refine (of_same _ _ _).mono ?_; rintro e w' ⟨rfl, rfl⟩; go_wp2_with fail)); refine hK.out _ _ ?_ (fun hHeld => ?_); (· ((try dsimp only); all_goals (refine ⟨?_, ?_, ?_⟩ <;> first | assumption | (simp [go_sem]; done) | (simp [go_sem, *]; done)))); (clear hK K); (try simp only [Act.put, List.setIfInBounds_toArray, List.set_cons_zero, List.set_cons_succ])))
          (refine wpAnyH_ready (rs := [15]) (by kernel_rfl) (by simp) ?_; refine AllReadyH.cons rfl (fun K hK => ?_) AllReadyH.nil; (go_simp; (try (go_at_call 103; refine (of_same _ _ _).mono ?_; rintro e w' ⟨rfl, rfl⟩; go_wp2_with fail)); refine hK.out _ _ ?_ (fun hHeld => ?_); (· ((try dsimp only); all_goals (refine ⟨?_, ?_, ?_⟩ <;> first | assumption | (simp [go_sem]; done) | (simp [go_sem, *]; done)))); (clear hK K); (try simp only [Act.put, List.setIfInBounds_toArray, List.set_cons_zero, List.set_cons_succ])))
          refine wpAnyH_done (by kernel_rfl) ?_ _
          gi_wp2
          exact HFIN.out
  case done =>
    rintro D ys W hD hys ⟨⟨⟨v, hv, hrow, _⟩, hI⟩, hB⟩ hK
    have hrow' := ownsRow_putObj hrow (.deferred none) hK rfl
    obtain ⟨ra, rcap, hve, hp⟩ := tri_of_owns (rs := vals ys) (by simpa using hrow')
    subst hve
    have hbase := tri_base hrow'
    have hc := hv.cell
    have hic := hI.cell
    have hY := Lib.hid hys
    have hfin : Below w.heap.size w W := hB.below hbel hbel.size (by intro k hk; simp at hk; omega)
    clear hys
    gi_wp2
    gi_region
    all_goals gi_wp2
    all_goals (
      have hK' : W.drew.heap[D]? = some (.deferred (some [])) := hK
      refine ⟨by simp, .inl ⟨_, _, rfl, run_takeDeferred hK', ?_⟩⟩
      exact ⟨_, results_tmp3 rfl _ _ _, ra, rcap, by rw [← hY.out]; simp, by rw [← hY.out]; exact hp, (fun g hg => by have := hbase g hg; have := hbel.size; omega), below_put (by have := hbel.size; omega) hK' hfin.drew⟩)
  case stop =>
    rintro D c pre W _ _ h _
    exact h.elim
end Go.Proofs.Ytlbbgocggifjaaa
namespace Go.Proofs.Ytlbbgocggifjaaa
open Go.RowKit

theorem wwithin_any (l c fx fy : Int) (w : World) :
    Calls Try.prog 106 #[.agg #[.int .i64 l, .int .i64 c], .int .i64 fx, .int .i64 fy] w fun e w' => e = .returned (rngV ((0, l, fx, l, fy), true)) ∧ Below w.heap.size w w' := by
  go_enter Try.func106, Try.ntmps106
  go_wp2
  refine bodyPost_ret (v := rngV ((0, l, fx, l, fy), true)) (by simp [results, Try.results106, go_sem]) rfl ⟨rfl, by (repeat (first | with_reducible exact Below.refl _ _ | (with_reducible refine Below.setCell ?_ ?_ _; rotate_left; · (first | exact Nat.le_refl _ | assumption | omega | (simp; done) | (simp; omega))) | (with_reducible refine Below.alloc ?_ ?_ _; rotate_left; · (first | exact Nat.le_refl _ | assumption | omega | (simp; done) | (simp; omega))) | with_reducible refine below_ovr_of ?_ | with_reducible refine drew_below ?_ _ | with_reducible refine Below.drew ?_ | with_reducible assumption))⟩
theorem cell_ovr_drew {A x1 x : World} {b o : Nat} {v : Value} (h : (ovr A x1).cell? ⟨b, o, none⟩ = some v) : (ovr (ovr A x1.drew) x).cell? ⟨b, o, none⟩ = some v := by
  have h' : (ovr A x1.drew).cell? ⟨b, o, none⟩ = some v := h
  exact (cell?_ovr _ _ _ _ (World.block_lt_of_cell? _ _ h')).trans h'
theorem cell_ovr_swap {A A' x1 x : World} {b o : Nat} {v : Value} (h : (ovr A x1).cell? ⟨b, o, none⟩ = some v) (hs : A'.heap.size = A.heap.size) (hg : A.heap.size ≤ b) : (ovr (ovr A' x1.drew) x).cell? ⟨b, o, none⟩ = some v := by
  refine cell_ovr_drew ?_
  have e : (ovr A' x1).heap[b]? = (ovr A x1).heap[b]? := by
    simp only [ovr, Array.getElem?_append]
    rw [if_neg (by omega), if_neg (by omega), hs]
  rw [← h]
  simp [World.cell?, e]
theorem byteB_at {L : List ByteArray} {l c : Nat} (hl : l < L.length) (hc : c < (L.getD l .empty).size) : byteB L l c = true := by
  have hp : plcB L l c = true := by rw [plcB]; simp only [decide_eq_true_eq]; refine ⟨?_, ?_, ?_, ?_⟩ <;> first | omega | (simp only [Int.toNat_natCast]; omega)
  rw [byteB_yes hp rfl]
  simp only [Bool.or_eq_true, decide_eq_true_eq]
  exact .inl (by omega)

set_option maxRecDepth 100000 in
set_option maxHeartbeats 4000000 in
theorem winner_any (a : Option Addr) (cap : Nat) (L : List ByteArray) (pl pc n : Int) (big : Bool) (w : World) (hL : LinesAt w a L) (htot : total L ≤ 100000) :
    Calls Try.prog 40 #[.slice a L.length cap, .agg #[.int .i64 pl, .int .i64 pc], .int .i64 n, .bool big] w fun e w' => e = .returned (rngV (wordP L pl pc n big false)) ∧ Below w.heap.size w w' := by
  have hn := hL.2.1
  by_cases h : 1 ≤ n ∧ byteB L pl pc = true ∧ ¬ (ln L pl).size = 0
  · obtain ⟨l, c, m, k, rfl, rfl, rfl, hl, hm, hc, hch, hk, hi, hw⟩ := word_in h big
    have hw := hw false
    rw [if_neg (by decide)] at hw
    have hb := byteB_at hl hc
    have hst := size_le_total L l hl
    have hrl := chain_len hch
    have hne : ¬ (L.getD l .empty).size = 0 := by omega
    obtain ⟨k1, k2, k3⟩ := hk
    clear h hch
    obtain ⟨R, hR⟩ : ∃ R, runF (L.getD l .empty) big 0 0 = R := ⟨_, rfl⟩
    have HRUN := Lib.hid (fun (w0 : World) (h0 : LinesAt w0 a L) => wruns_yes a cap L l c m big w0 h0 htot hl hb (by omega) hne)
    rw [hR] at hw k1 k2 k3 hrl hi
    rw [hR, hi] at HRUN
    have hkI : (k : Int) < (R.length : Int) := by omega
    have hk0 : (0 : Int) ≤ (k : Int) := by omega
    have hk4 : (k : Int) ≤ 100000 := by omega
    have hR4 : (R.length : Int) ≤ 100000 := by omega
    have e0 : (R.length : Int) - (k : Int) = ((R.length - k : Nat) : Int) := by omega
    clear hb hR hi hc hne hl k2 k3
    by_cases hmk : m ≤ R.length - k
    · rw [innrO, if_pos hmk] at hw
      have HY := Lib.hid hw
      clear hw
      have hmI : ¬ ((R.length : Int) - (k : Int) < (m : Int)) := by omega
      obtain ⟨k5, hk5⟩ : ∃ k5 : Nat, k + m - 1 = k5 := ⟨_, rfl⟩
      rw [hk5] at HY
      have e1 : (k : Int) + (m : Int) - 1 = (k5 : Int) := by omega
      have ew1 : IntKind.i64.wrap ((k : Int) + (m : Int)) = (k : Int) + (m : Int) := IntWalk.i64_in _ (by omega)
      have ew2 : IntKind.i64.wrap (k5 : Int) = (k5 : Int) := IntWalk.i64_in _ (by omega)
      have h5 : (k5 : Int) < (R.length : Int) := by omega
      have h50 : (0 : Int) ≤ (k5 : Int) := by omega
      have h5n : k5 < R.length := by omega
      have hm4 : (m : Int) ≤ 100000 := by omega
      clear hk5
      go_enter Try.func40, Try.ntmps40
      go_wp2_with fail
      go_at_call 105; refine (HRUN.out _ (by (repeat (first | assumption | refine LinesAt.ovr ?_ _ | refine LinesAt.alloc ?_ _ | refine LinesAt.drewN ?_ _ | refine LinesAt.drew ?_)))).mono ?_; rintro e w1 ⟨ra, rcap, rfl, ht, hbs, hbl⟩
      obtain ⟨x1, rfl⟩ := ovr_of_below hbl; clear hbl
      obtain ⟨g, rfl, hg, ca, _, _⟩ := ht k (by omega)
      obtain ⟨g', hgg, _, _, cb, _⟩ := ht k5 (by omega)
      obtain rfl : g = g' := by simpa using hgg
      have hgb := hbs g rfl
      simp at hg hgb
      have g1 : ¬ g = w.heap.size := by omega
      have g2 : ¬ g = w.heap.size + 1 := by omega
      have g3 : ¬ g < w.heap.size := by omega
      clear ht hgg HRUN hbs
      obtain ⟨fx, hfx⟩ : ∃ fx, (R.getD k (0, 0)).1 = fx := ⟨_, rfl⟩
      obtain ⟨fy, hfy⟩ : ∃ fy, (R.getD k5 (0, 0)).2 = fy := ⟨_, rfl⟩
      rw [hfx] at HY ca
      rw [hfy] at HY cb
      clear hfx hfy
      go_wp2_with fail
      go_region_held3 (fun w' => w.heap.size < w'.heap.size ∧ g < w'.heap.size ∧ w'.cell? ⟨w.heap.size, 0, none⟩ = some (.int .i64 l) ∧ w'.cell? ⟨w.heap.size, 1, none⟩ = some (.int .i64 c) ∧ w'.cell? ⟨g, k * 3, none⟩ = some (.int .i64 fx) ∧ w'.cell? ⟨g, k5 * 3 + 1, none⟩ = some (.int .i64 fy)) (((repeat' apply And.intro) <;> first | assumption | (refine cell_ovr_drew ?_; assumption) | (refine cell_ovr_swap (by assumption) ?_ ?_ <;> (simp; try omega)) | (simp [go_sem]; done) | (simp [go_sem, *]; done) | (simp [go_sem]; omega))) ((go_at_call 106; refine (wwithin_any _ _ _ _ _).mono ?_; rintro e w1 ⟨rfl, hbl⟩; obtain ⟨x, rfl⟩ := ovr_of_below hbl; clear hbl))
      all_goals go_wp2
      all_goals (refine bodyPost_ret (v := rngV ((0, (l : Int), (fx : Int), (l : Int), (fy : Int)), true)) (by simp [results, Try.results40, go_sem]) rfl ⟨by rw [HY.out], by (repeat (first | with_reducible exact Below.refl _ _ | (with_reducible refine Below.setCell ?_ ?_ _; rotate_left; · (first | exact Nat.le_refl _ | assumption | omega | (simp; done) | (simp; omega))) | (with_reducible refine Below.alloc ?_ ?_ _; rotate_left; · (first | exact Nat.le_refl _ | assumption | omega | (simp; done) | (simp; omega))) | with_reducible refine below_ovr_of ?_ | with_reducible refine drew_below ?_ _ | with_reducible refine Below.drew ?_ | with_reducible assumption))⟩)
    · rw [innrO, if_neg hmk] at hw
      have HY := Lib.hid hw
      clear hw
      have hmI : ((R.length : Int) - (k : Int) < (m : Int)) := by omega
      go_enter Try.func40, Try.ntmps40
      go_wp2_with (go_at_call 105; refine (HRUN.out _ (by (repeat (first | assumption | refine LinesAt.ovr ?_ _ | refine LinesAt.alloc ?_ _ | refine LinesAt.drewN ?_ _ | refine LinesAt.drew ?_)))).mono ?_; rintro e w1 ⟨ra, rcap, rfl, ht, hbs, hbl⟩; clear ht hbs; obtain ⟨x1, rfl⟩ := ovr_of_below hbl; clear hbl)
      refine bodyPost_ret (v := rngV noR) (by simp [results, Try.results40, go_sem, noR]) rfl ⟨by rw [HY.out], by (repeat (first | with_reducible exact Below.refl _ _ | (with_reducible refine Below.setCell ?_ ?_ _; rotate_left; · (first | exact Nat.le_refl _ | assumption | omega | (simp; done) | (simp; omega))) | (with_reducible refine Below.alloc ?_ ?_ _; rotate_left; · (first | exact Nat.le_refl _ | assumption | omega | (simp; done) | (simp; omega))) | with_reducible refine below_ovr_of ?_ | with_reducible refine drew_below ?_ _ | with_reducible refine Below.drew ?_ | with_reducible assumption))⟩
  · have HY := Lib.hid (wordP_no (big := big) (around := false) h)
    go_enter Try.func40, Try.ntmps40
    go_wp2_with (go_at_call 105; refine (wruns_no _ _ L _ _ _ _ _ (by (repeat (first | assumption | refine LinesAt.ovr ?_ _ | refine LinesAt.alloc ?_ _ | refine LinesAt.drewN ?_ _ | refine LinesAt.drew ?_))) h).mono ?_; rintro e w1 ⟨rfl, hbl⟩; obtain ⟨x, rfl⟩ := ovr_of_below hbl; clear hbl)
    refine bodyPost_ret (v := rngV noR) (by simp [results, Try.results40, go_sem, noR]) rfl ⟨by rw [HY.out], by (repeat (first | with_reducible exact Below.refl _ _ | (with_reducible refine Below.setCell ?_ ?_ _; rotate_left; · (first | exact Nat.le_refl _ | assumption | omega | (simp; done) | (simp; omega))) | (with_reducible refine Below.alloc ?_ ?_ _; rotate_left; · (first | exact Nat.le_refl _ | assumption | omega | (simp; done) | (simp; omega))) | with_reducible refine below_ovr_of ?_ | with_reducible refine drew_below ?_ _ | with_reducible refine Below.drew ?_ | with_reducible assumption))⟩
end Go.Proofs.Ytlbbgocggifjaaa
namespace Go.Proofs.Ytlbbgocggifjaaa
open Go.RowKit

theorem cell_al {A A' x1 : World} {o : Obj} {b off : Nat} {v : Value} (h : (ovr A x1).cell? ⟨b, off, none⟩ = some v) (hs : A'.heap.size = A.heap.size) (hg : A.heap.size ≤ b) : ((ovr A' x1).alloc o).drew.cell? ⟨b, off, none⟩ = some v := by
  have e : (ovr A' x1).heap[b]? = (ovr A x1).heap[b]? := by
    simp only [ovr, Array.getElem?_append]
    rw [if_neg (by omega), if_neg (by omega), hs]
  have h' : (ovr A' x1).cell? ⟨b, off, none⟩ = some v := by rw [← h]; simp [World.cell?, e]
  exact (((Below.refl _ (ovr A' x1)).alloc (Nat.le_refl _) o).cell (p := ⟨b, off, none⟩) (World.block_lt_of_cell? _ _ h')).trans h'
theorem cell_al_ovr {A A' x1 x : World} {o : Obj} {b off : Nat} {v : Value} (h : (ovr A x1).cell? ⟨b, off, none⟩ = some v) (hs : A'.heap.size = A.heap.size) (hg : A.heap.size ≤ b) : (ovr ((ovr A' x1).alloc o).drew x).cell? ⟨b, off, none⟩ = some v :=
  (cell?_ovr _ _ _ _ (World.block_lt_of_cell? _ _ (cell_al (A' := A') (o := o) h hs hg))).trans (cell_al h hs hg)
/-- Is run i one of blanks? Of any number. -/
def blZ (s : ByteArray) (R : List (Nat × Nat)) (i : Int) : Bool := decide (0 ≤ i) && blW s R i.toNat
theorem blZ_nat (s : ByteArray) (R : List (Nat × Nat)) (i : Nat) : blZ s R (i : Int) = blW s R i := by simp [blZ]
theorem blZ_no {s : ByteArray} {R : List (Nat × Nat)} {i : Int} (h : i < 0 ∨ (R.length : Int) ≤ i) : blZ s R i = false := by
  rw [blZ]
  rcases h with h | h
  · rw [decide_eq_false (by omega)]; rfl
  · rw [blW, decide_eq_false (show ¬ i.toNat < R.length by omega)]; simp
theorem blZ_yes {s : ByteArray} {R : List (Nat × Nat)} {i : Nat} (h : i < R.length) : blZ s R (i : Int) = blkR s (R.getD i (0, 0)) := by rw [blZ_nat, blW, decide_eq_true h, Bool.true_and]

set_option maxHeartbeats 1000000 in
theorem wblank_any (Bl : Nat) (ra : Option Addr) (rcap : Nat) (s : ByteArray) (R : List (Nat × Nat)) (i : Int) (w : World) (hl : w.cell? ⟨Bl, 0, none⟩ = some (.slice ra R.length rcap)) (ht : TriAt (blkR s) w ra R) :
    Calls Try.prog 108 #[.int .i64 i, .pointer (some ⟨Bl, 0, none⟩)] w fun e w' => e = .returned (.bool (blZ s R i)) ∧ w = w' := by
  by_cases h0 : 0 ≤ i
  · by_cases h1 : i < (R.length : Int)
    · obtain ⟨k, rfl⟩ := Int.eq_ofNat_of_zero_le h0
      obtain ⟨g, rfl, hg, c1, c2, c3⟩ := ht k (by omega)
      have HY := Lib.hid (blZ_yes (s := s) (R := R) (i := k) (by omega))
      obtain ⟨bb, hbb⟩ : ∃ bb, blkR s (R.getD k (0, 0)) = bb := ⟨_, rfl⟩
      rw [hbb] at HY c3
      clear ht hbb c1 c2
      go_enter Try.func108, Try.ntmps108
      go_wp2
      go_ret
      exact ⟨ret_bool (by rw [HY.out]), rfl⟩
    · have HY := Lib.hid (blZ_no (s := s) (R := R) (i := i) (.inr (by omega)))
      have h1d : decide (i < (R.length : Int)) = false := decide_eq_false h1
      clear ht h1
      go_enter Try.func108, Try.ntmps108
      go_wp2
      go_ret
      exact ⟨ret_bool (by rw [HY.out]), rfl⟩
  · have HY := Lib.hid (blZ_no (s := s) (R := R) (i := i) (.inl (by omega)))
    have h0d : decide (0 ≤ i) = false := decide_eq_false h0
    clear ht h0
    go_enter Try.func108, Try.ntmps108
    go_wp2
    go_ret
    exact ⟨ret_bool (by rw [HY.out]), rfl⟩
theorem blZ_pred (s : ByteArray) (R : List (Nat × Nat)) (k : Nat) : blZ s R ((k : Int) - 1) = (decide (0 < k) && blW s R (k - 1)) := by
  rcases Nat.eq_zero_or_pos k with rfl | h
  · simp [blZ]
  · rw [blZ, show ((k : Int) - 1).toNat = k - 1 by omega, decide_eq_true (show (0 : Int) ≤ (k : Int) - 1 by omega), decide_eq_true h]
set_option maxRecDepth 100000 in
set_option maxHeartbeats 8000000 in
theorem waround_any (a : Option Addr) (cap : Nat) (L : List ByteArray) (pl pc n : Int) (big : Bool) (w : World) (hL : LinesAt w a L) (htot : total L ≤ 100000) :
    Calls Try.prog 42 #[.slice a L.length cap, .agg #[.int .i64 pl, .int .i64 pc], .int .i64 n, .bool big] w fun e w' => e = .returned (rngV (wordP L pl pc n big true)) ∧ Below w.heap.size w w' := by
  have hn := hL.2.1
  by_cases h : 1 ≤ n ∧ byteB L pl pc = true ∧ ¬ (ln L pl).size = 0
  · obtain ⟨l, c, m, k, rfl, rfl, rfl, hl, hm, hc, hch, hk, hi, hw⟩ := word_in h big
    replace hw := hw true
    rw [if_pos rfl] at hw
    have hb := byteB_at hl hc
    have hst := size_le_total L l hl
    have hrl := chain_len hch
    have hne : ¬ (L.getD l .empty).size = 0 := by omega
    obtain ⟨k1, k2, k3⟩ := hk
    clear h
    obtain ⟨R, hR⟩ : ∃ R, runF (L.getD l .empty) big 0 0 = R := ⟨_, rfl⟩
    have HRUN := Lib.hid (fun (w0 : World) (h0 : LinesAt w0 a L) => wruns_yes a cap L l c m big w0 h0 htot hl hb (by omega) hne)
    rw [hR] at hw k1 k2 k3 hrl hi hch
    rw [hR, hi] at HRUN
    obtain ⟨s, hs⟩ : ∃ s, L.getD l .empty = s := ⟨_, rfl⟩
    rw [hs] at hw HRUN hch
    have hkI : (k : Int) < (R.length : Int) := by omega
    have hk0 : (0 : Int) ≤ (k : Int) := by omega
    have hk4 : (k : Int) ≤ 100000 := by omega
    have hR4 : (R.length : Int) ≤ 100000 := by omega
    have hR5 : R.length ≤ 100000 := by omega
    have HCH := Lib.hid hch
    clear hb hR hi hc hne hl k2 k3 hch hs
    by_cases hmk : m ≤ R.length
    · have hmI : ¬ ((R.length : Int) < (m : Int)) := by omega
      obtain ⟨ah, hah⟩ : ∃ ah, blW s R k = ah := ⟨_, rfl⟩
      have HAH := Lib.hid hah
      have HAZ := Lib.hid ((blZ_nat s R k).trans hah)
      obtain ⟨O, hO⟩ : ∃ O, loopW (blW s R) R.length (blW s R k) m k = O := ⟨_, rfl⟩
      have HO := Lib.hid hO
      rw [hah] at hO
      have HO2 := Lib.hid hO
      have HW := Lib.hid hw
      clear hah hO hw
      go_enter Try.func42, Try.ntmps42
      go_wp2_with fail
      go_at_call 105; refine (HRUN.out _ (by (repeat (first | assumption | refine LinesAt.ovr ?_ _ | refine LinesAt.alloc ?_ _ | refine LinesAt.drewN ?_ _ | refine LinesAt.drew ?_)))).mono ?_; rintro e w1 ⟨ra, rcap, rfl, ht, hbs, hbl⟩
      obtain ⟨x1, rfl⟩ := ovr_of_below hbl; clear hbl
      have HBS := Lib.hid hbs
      have HT := Lib.hid ht
      clear hbs
      clear ht HRUN
      go_wp2_with fail
      go_at_call 108; refine (wblank_any _ ra rcap s R _ _ (by simp [go_sem]) (HT.out.alloc _)).mono ?_; rw [HAZ.out]; rintro e w1 ⟨rfl, rfl⟩
      go_wp2_with fail
      go_loop [15, 42] (fun q j => ∃ J A : Nat, J ≤ m ∧ j = .int .i64 J ∧ q = .int .i64 A ∧ k + J ≤ A ∧ A ≤ R.length ∧ Hid (J = 0 → A = k) ∧ Hid (loopW (blW s R) R.length ah (m - J) A = O)) (fun _ j => m - (intOf j).toNat)
      case atStart => exact ⟨0, k, Nat.zero_le _, rfl, rfl, by omega, by omega, Lib.hid (fun _ => rfl), Lib.hid HO2.out⟩
      case round =>
        obtain ⟨J, A, hJ, rfl, rfl, hkA, hA, HJ0, HL⟩ := hrel
        have hAZ := blZ_nat s R A
        by_cases hlt : J < m
        · have hJI : (J : Int) < (m : Int) := by omega
          have hl := HL.out
          rw [show m - J = (m - (J + 1)) + 1 by omega] at hl
          cases ah with
          | true =>
            obtain ⟨bA, hbA⟩ : ∃ bA, blW s R A = bA := ⟨_, rfl⟩
            obtain ⟨mm, hmm⟩ : ∃ mm, (if (true && blW s R A) = true then A + 1 else A) = mm := ⟨_, rfl⟩
            have HM := Lib.hid hmm
            have hmm2 : (mm : Int) = (A : Int) + (if bA = true then 1 else 0) := by rw [← hmm, hbA]; cases bA <;> simp
            have HZ := Lib.hid (hAZ.trans hbA)
            by_cases hle : R.length ≤ mm
            · have HON := Lib.hid (hl.symm.trans (loopW_none (stepW_none hmm hle)))
              have HY : Hid (wordP L l c m big true = noR) := Lib.hid (by rw [HW.out, arndO_none (by rw [HO.out]; exact HON.out)])
              clear hmm hl hbA hAZ
              cases bA
              all_goals (
                simp at hmm2
                have hle2 : (R.length : Int) ≤ (mm : Int) := by omega
                rw [hmm2] at hle2
                clear hmm2
                go_wp2_with (go_at_call 108; refine (wblank_any _ ra rcap s R _ _ (by simp [go_sem]) (HT.out.alloc _)).mono ?_; rw [HZ.out]; rintro e w1 ⟨rfl, rfl⟩)
                refine bodyPost_ret (v := rngV noR) (by simp [results, Try.results42, go_sem, noR]) rfl ⟨by rw [HY.out], by (repeat (first | with_reducible exact Below.refl _ _ | (with_reducible refine Below.setCell ?_ ?_ _; rotate_left; · (first | exact Nat.le_refl _ | assumption | omega | (simp; done) | (simp; omega))) | (with_reducible refine Below.alloc ?_ ?_ _; rotate_left; · (first | exact Nat.le_refl _ | assumption | omega | (simp; done) | (simp; omega))) | with_reducible refine below_ovr_of ?_ | with_reducible refine drew_below ?_ _ | with_reducible refine Below.drew ?_ | with_reducible assumption))⟩)
            · have HL2 := Lib.hid ((loopW_some (n := m - (J + 1)) (stepW_some (j := mm + 1) hmm (by omega) (by simp))).symm.trans hl)
              clear hmm hl hbA hAZ
              cases bA
              all_goals (
                simp at hmm2
                have hle2 : ¬ (R.length : Int) ≤ (mm : Int) := by omega
                have hmA : (mm : Int) ≤ 200000 := by omega
                rw [hmm2] at hle2
                have HMM := Lib.hid hmm2
                clear hmm2
                go_wp2_with (go_at_call 108; refine (wblank_any _ ra rcap s R _ _ (by simp [go_sem]) (HT.out.alloc _)).mono ?_; rw [HZ.out]; rintro e w1 ⟨rfl, rfl⟩)
                go_round
                case rel => exact ⟨J + 1, mm + 1, by omega, by go_num, by have := HMM.out; congr 1; omega, by have := HMM.out; omega, by omega, Lib.hid (fun e => by omega), HL2⟩
                case measure => simp [intOf]; omega)
          | false =>
            have hmm : (if (false && blW s R A) = true then A + 1 else A) = A := by simp
            by_cases hle : R.length ≤ A
            · have HON := Lib.hid (hl.symm.trans (loopW_none (stepW_none hmm hle)))
              have HY : Hid (wordP L l c m big true = noR) := Lib.hid (by rw [HW.out, arndO_none (by rw [HO.out]; exact HON.out)])
              have hle2 : (R.length : Int) ≤ (A : Int) := by omega
              clear hmm hl hAZ
              go_wp2_with fail
              refine bodyPost_ret (v := rngV noR) (by simp [results, Try.results42, go_sem, noR]) rfl ⟨by rw [HY.out], by (repeat (first | with_reducible exact Below.refl _ _ | (with_reducible refine Below.setCell ?_ ?_ _; rotate_left; · (first | exact Nat.le_refl _ | assumption | omega | (simp; done) | (simp; omega))) | (with_reducible refine Below.alloc ?_ ?_ _; rotate_left; · (first | exact Nat.le_refl _ | assumption | omega | (simp; done) | (simp; omega))) | with_reducible refine below_ovr_of ?_ | with_reducible refine drew_below ?_ _ | with_reducible refine Below.drew ?_ | with_reducible assumption))⟩
            · have hle2 : ¬ (R.length : Int) ≤ (A : Int) := by omega
              have hA4 : (A : Int) ≤ 200000 := by omega
              cases hbA : blW s R (A + 1) with
              | true =>
                have hA2 : A + 1 < R.length := by
                  simp only [blW, Bool.and_eq_true, decide_eq_true_eq] at hbA
                  exact hbA.1
                have HL2 := Lib.hid ((loopW_some (n := m - (J + 1)) (stepW_some (j := A + 2) hmm (by omega) (by rw [hbA]; rfl))).symm.trans hl)
                have HZ : Hid (blZ s R ((A : Int) + 1) = true) := Lib.hid (by rw [show (A : Int) + 1 = ((A + 1 : Nat) : Int) by omega, blZ_nat, hbA])
                clear hmm hl hAZ hbA
                go_wp2_with (go_at_call 108; refine (wblank_any _ ra rcap s R _ _ (by simp [go_sem]) (HT.out.alloc _)).mono ?_; rw [HZ.out]; rintro e w1 ⟨rfl, rfl⟩)
                go_round
                case rel => exact ⟨J + 1, A + 2, by omega, by go_num, by congr 1 <;> omega, by omega, by omega, Lib.hid (fun e => by omega), HL2⟩
                case measure => simp [intOf]; omega
              | false =>
                have HL2 := Lib.hid ((loopW_some (n := m - (J + 1)) (stepW_some (j := A + 1) hmm (by omega) (by rw [hbA]; rfl))).symm.trans hl)
                have HZ : Hid (blZ s R ((A : Int) + 1) = false) := Lib.hid (by rw [show (A : Int) + 1 = ((A + 1 : Nat) : Int) by omega, blZ_nat, hbA])
                clear hmm hl hAZ hbA
                go_wp2_with (go_at_call 108; refine (wblank_any _ ra rcap s R _ _ (by simp [go_sem]) (HT.out.alloc _)).mono ?_; rw [HZ.out]; rintro e w1 ⟨rfl, rfl⟩)
                go_round
                case rel => exact ⟨J + 1, A + 1, by omega, by go_num, by congr 1, by omega, by omega, Lib.hid (fun e => by omega), HL2⟩
                case measure => simp [intOf]; omega
        · have hJI : ¬ (J : Int) < (m : Int) := by omega
          have hl := HL.out
          rw [show m - J = 0 by omega, loopW] at hl
          have hO2 := HO.out
          rw [← hl] at hO2
          obtain ⟨f, hf⟩ : ∃ f, (if (!blW s R k && !blW s R (A - 1) && (decide (0 < k) && blW s R (k - 1))) = true then k - 1 else k) = f := ⟨_, rfl⟩
          obtain ⟨fx, hfx⟩ : ∃ fx, (R.getD f (0, 0)).1 = fx := ⟨_, rfl⟩
          obtain ⟨A5, hA5⟩ : ∃ A5, A - 1 = A5 := ⟨_, rfl⟩
          obtain ⟨fy, hfy⟩ : ∃ fy, (R.getD (A - 1) (0, 0)).2 = fy := ⟨_, rfl⟩
          have HY := Lib.hid (HW.out.trans (arndO_some hO2 hf hfx hfy))
          rw [hA5] at hfy hf
          have hA5l : A5 < R.length := by omega
          have eA : (A : Int) - 1 = (A5 : Int) := by omega
          have eA2 : IntKind.i64.wrap (A5 : Int) = (A5 : Int) := IntWalk.i64_in _ (by omega)
          have hA50 : (0 : Int) ≤ (A5 : Int) := by omega
          have hA5I : (A5 : Int) < (R.length : Int) := by omega
          have hfl : f < R.length := by rw [← hf]; split <;> omega
          obtain ⟨g, rfl, hg, ca, _, _⟩ := HT.out f hfl
          obtain ⟨g', hgg, _, _, cb, _⟩ := HT.out A5 hA5l
          obtain rfl : g = g' := by simpa using hgg
          have hgb := HBS.out g rfl
          simp at hg hgb
          rw [hfx] at ca
          rw [hfy] at cb
          have HF := Lib.hid hf
          clear hfx hfy hgg hf hA5 hl hO2 hAZ
          have HT3 := HF.out
          rw [HAH.out] at HT3
          obtain ⟨b1, hb1⟩ : ∃ b1, blW s R A5 = b1 := ⟨_, rfl⟩
          obtain ⟨b2, hb2⟩ : ∃ b2, (decide (0 < k) && blW s R (k - 1)) = b2 := ⟨_, rfl⟩
          rw [hb1, hb2] at HT3
          have HZ1 := Lib.hid ((blZ_nat s R A5).trans hb1)
          have HZ2 := Lib.hid ((blZ_pred s R k).trans hb2)
          have hk6 : (!ah && !b1 && b2) = false ∧ f = k ∨ ((!ah && !b1 && b2) = true ∧ (k : Int) - 1 = (f : Int)) := by
            cases hq : (!ah && !b1 && b2) with
            | false => rw [hq] at HT3; exact .inl ⟨rfl, by simpa using HT3.symm⟩
            | true =>
              rw [hq] at HT3
              simp only [Bool.and_eq_true] at hq
              have hb2' := hb2
              rw [hq.2] at hb2'
              simp only [Bool.and_eq_true, decide_eq_true_eq] at hb2'
              rw [if_pos rfl] at HT3
              exact .inr ⟨rfl, by omega⟩
          have hf0 : (0 : Int) ≤ (f : Int) := by omega
          have hfI : (f : Int) < (R.length : Int) := by omega
          clear hb1 hb2 HT3
          rcases hk6 with ⟨hq, hfk⟩ | ⟨hq, hfk⟩
          · subst hfk
            cases ah with
            | true =>
              clear hq
              go_wp2_with fail
              go_region_held3 (fun w' => w.heap.size + 1 + 1 + x1.heap.size < w'.heap.size ∧ g < w'.heap.size ∧ w'.cell? ⟨w.heap.size, 0, none⟩ = some (.int .i64 l) ∧ w'.cell? ⟨w.heap.size, 1, none⟩ = some (.int .i64 c) ∧ w'.cell? ⟨w.heap.size + 1 + 1 + x1.heap.size, 0, none⟩ = some (.slice (some ⟨g, 0, none⟩) R.length rcap) ∧ w'.cell? ⟨g, f * 3, none⟩ = some (.int .i64 fx) ∧ w'.cell? ⟨g, A5 * 3 + 1, none⟩ = some (.int .i64 fy)) (((repeat' apply And.intro) <;> first | assumption | (refine cell_al (by assumption) ?_ ?_ <;> (simp; try omega)) | (refine cell_al_ovr (by assumption) ?_ ?_ <;> (simp; try omega)) | (simp [go_sem]; done) | (simp [go_sem, *]; done) | (simp [go_sem]; omega))) ((go_at_call 106; refine (wwithin_any _ _ _ _ _).mono ?_; rintro e w1 ⟨rfl, hbl⟩; obtain ⟨x, rfl⟩ := ovr_of_below hbl; clear hbl))
              all_goals go_wp2
              all_goals (refine bodyPost_ret (v := rngV ((0, (l : Int), (fx : Int), (l : Int), (fy : Int)), true)) (by simp [results, Try.results42, go_sem]) rfl ⟨by rw [HY.out], by (repeat (first | with_reducible exact Below.refl _ _ | (with_reducible refine Below.setCell ?_ ?_ _; rotate_left; · (first | exact Nat.le_refl _ | assumption | omega | (simp; done) | (simp; omega))) | (with_reducible refine Below.alloc ?_ ?_ _; rotate_left; · (first | exact Nat.le_refl _ | assumption | omega | (simp; done) | (simp; omega))) | with_reducible refine below_ovr_of ?_ | with_reducible refine drew_below ?_ _ | with_reducible refine Below.drew ?_ | with_reducible assumption))⟩)
            | false =>
              cases b1 with
              | true =>
                clear hq
                go_wp2_with fail
                go_at_call 108; refine (wblank_any _ (some ⟨g, 0, none⟩) rcap s R _ _ (by simp [go_sem]) (HT.out.alloc _)).mono ?_; rw [HZ1.out]; rintro e w1 ⟨rfl, rfl⟩
                go_wp2_with fail
                go_region_held3 (fun w' => w.heap.size + 1 + 1 + x1.heap.size < w'.heap.size ∧ g < w'.heap.size ∧ w'.cell? ⟨w.heap.size, 0, none⟩ = some (.int .i64 l) ∧ w'.cell? ⟨w.heap.size, 1, none⟩ = some (.int .i64 c) ∧ w'.cell? ⟨w.heap.size + 1 + 1 + x1.heap.size, 0, none⟩ = some (.slice (some ⟨g, 0, none⟩) R.length rcap) ∧ w'.cell? ⟨g, f * 3, none⟩ = some (.int .i64 fx) ∧ w'.cell? ⟨g, A5 * 3 + 1, none⟩ = some (.int .i64 fy)) (((repeat' apply And.intro) <;> first | assumption | (refine cell_al (by assumption) ?_ ?_ <;> (simp; try omega)) | (refine cell_al_ovr (by assumption) ?_ ?_ <;> (simp; try omega)) | (simp [go_sem]; done) | (simp [go_sem, *]; done) | (simp [go_sem]; omega))) ((go_at_call 106; refine (wwithin_any _ _ _ _ _).mono ?_; rintro e w1 ⟨rfl, hbl⟩; obtain ⟨x, rfl⟩ := ovr_of_below hbl; clear hbl))
                all_goals go_wp2
                all_goals (refine bodyPost_ret (v := rngV ((0, (l : Int), (fx : Int), (l : Int), (fy : Int)), true)) (by simp [results, Try.results42, go_sem]) rfl ⟨by rw [HY.out], by (repeat (first | with_reducible exact Below.refl _ _ | (with_reducible refine Below.setCell ?_ ?_ _; rotate_left; · (first | exact Nat.le_refl _ | assumption | omega | (simp; done) | (simp; omega))) | (with_reducible refine Below.alloc ?_ ?_ _; rotate_left; · (first | exact Nat.le_refl _ | assumption | omega | (simp; done) | (simp; omega))) | with_reducible refine below_ovr_of ?_ | with_reducible refine drew_below ?_ _ | with_reducible refine Below.drew ?_ | with_reducible assumption))⟩)
              | false =>
                have hq2 : b2 = false := by simpa using hq
                subst hq2
                clear hq
                go_wp2_with fail
                go_at_call 108; refine (wblank_any _ (some ⟨g, 0, none⟩) rcap s R _ _ (by simp [go_sem]) (HT.out.alloc _)).mono ?_; rw [HZ1.out]; rintro e w1 ⟨rfl, rfl⟩
                go_wp2_with fail
                go_at_call 108; refine (wblank_any _ (some ⟨g, 0, none⟩) rcap s R _ _ (by simp [go_sem]) (HT.out.alloc _)).mono ?_; rw [HZ2.out]; rintro e w1 ⟨rfl, rfl⟩
                go_wp2_with fail
                go_region_held3 (fun w' => w.heap.size + 1 + 1 + x1.heap.size < w'.heap.size ∧ g < w'.heap.size ∧ w'.cell? ⟨w.heap.size, 0, none⟩ = some (.int .i64 l) ∧ w'.cell? ⟨w.heap.size, 1, none⟩ = some (.int .i64 c) ∧ w'.cell? ⟨w.heap.size + 1 + 1 + x1.heap.size, 0, none⟩ = some (.slice (some ⟨g, 0, none⟩) R.length rcap) ∧ w'.cell? ⟨g, f * 3, none⟩ = some (.int .i64 fx) ∧ w'.cell? ⟨g, A5 * 3 + 1, none⟩ = some (.int .i64 fy)) (((repeat' apply And.intro) <;> first | assumption | (refine cell_al (by assumption) ?_ ?_ <;> (simp; try omega)) | (refine cell_al_ovr (by assumption) ?_ ?_ <;> (simp; try omega)) | (simp [go_sem]; done) | (simp [go_sem, *]; done) | (simp [go_sem]; omega))) ((go_at_call 106; refine (wwithin_any _ _ _ _ _).mono ?_; rintro e w1 ⟨rfl, hbl⟩; obtain ⟨x, rfl⟩ := ovr_of_below hbl; clear hbl))
                all_goals go_wp2
                all_goals (refine bodyPost_ret (v := rngV ((0, (l : Int), (fx : Int), (l : Int), (fy : Int)), true)) (by simp [results, Try.results42, go_sem]) rfl ⟨by rw [HY.out], by (repeat (first | with_reducible exact Below.refl _ _ | (with_reducible refine Below.setCell ?_ ?_ _; rotate_left; · (first | exact Nat.le_refl _ | assumption | omega | (simp; done) | (simp; omega))) | (with_reducible refine Below.alloc ?_ ?_ _; rotate_left; · (first | exact Nat.le_refl _ | assumption | omega | (simp; done) | (simp; omega))) | with_reducible refine below_ovr_of ?_ | with_reducible refine drew_below ?_ _ | with_reducible refine Below.drew ?_ | with_reducible assumption))⟩)
          · simp only [Bool.and_eq_true, Bool.not_eq_true'] at hq
            obtain ⟨⟨hq1, hq2⟩, hq3⟩ := hq
            subst hq1 hq2 hq3
            rw [hfk] at HZ2
            go_wp2_with fail
            go_at_call 108; refine (wblank_any _ (some ⟨g, 0, none⟩) rcap s R _ _ (by simp [go_sem]) (HT.out.alloc _)).mono ?_; rw [HZ1.out]; rintro e w1 ⟨rfl, rfl⟩
            go_wp2_with fail
            go_at_call 108; refine (wblank_any _ (some ⟨g, 0, none⟩) rcap s R _ _ (by simp [go_sem]) (HT.out.alloc _)).mono ?_; rw [HZ2.out]; rintro e w1 ⟨rfl, rfl⟩
            go_wp2_with fail
            go_region_held3 (fun w' => w.heap.size + 1 + 1 + x1.heap.size < w'.heap.size ∧ g < w'.heap.size ∧ w'.cell? ⟨w.heap.size, 0, none⟩ = some (.int .i64 l) ∧ w'.cell? ⟨w.heap.size, 1, none⟩ = some (.int .i64 c) ∧ w'.cell? ⟨w.heap.size + 1 + 1 + x1.heap.size, 0, none⟩ = some (.slice (some ⟨g, 0, none⟩) R.length rcap) ∧ w'.cell? ⟨g, f * 3, none⟩ = some (.int .i64 fx) ∧ w'.cell? ⟨g, A5 * 3 + 1, none⟩ = some (.int .i64 fy)) (((repeat' apply And.intro) <;> first | assumption | (refine cell_al (by assumption) ?_ ?_ <;> (simp; try omega)) | (refine cell_al_ovr (by assumption) ?_ ?_ <;> (simp; try omega)) | (simp [go_sem]; done) | (simp [go_sem, *]; done) | (simp [go_sem]; omega))) ((go_at_call 106; refine (wwithin_any _ _ _ _ _).mono ?_; rintro e w1 ⟨rfl, hbl⟩; obtain ⟨x, rfl⟩ := ovr_of_below hbl; clear hbl))
            all_goals go_wp2
            all_goals (refine bodyPost_ret (v := rngV ((0, (l : Int), (fx : Int), (l : Int), (fy : Int)), true)) (by simp [results, Try.results42, go_sem]) rfl ⟨by rw [HY.out], by (repeat (first | with_reducible exact Below.refl _ _ | (with_reducible refine Below.setCell ?_ ?_ _; rotate_left; · (first | exact Nat.le_refl _ | assumption | omega | (simp; done) | (simp; omega))) | (with_reducible refine Below.alloc ?_ ?_ _; rotate_left; · (first | exact Nat.le_refl _ | assumption | omega | (simp; done) | (simp; omega))) | with_reducible refine below_ovr_of ?_ | with_reducible refine drew_below ?_ _ | with_reducible refine Below.drew ?_ | with_reducible assumption))⟩)
    · have HY : Hid (wordP L l c m big true = noR) := Lib.hid (by rw [hw, arndO_none (loopW_big _ _ (by omega))])
      have hmI : ((R.length : Int) < (m : Int)) := by omega
      clear hw
      go_enter Try.func42, Try.ntmps42
      go_wp2_with (go_at_call 105; refine (HRUN.out _ (by (repeat (first | assumption | refine LinesAt.ovr ?_ _ | refine LinesAt.alloc ?_ _ | refine LinesAt.drewN ?_ _ | refine LinesAt.drew ?_)))).mono ?_; rintro e w1 ⟨ra, rcap, rfl, ht, hbs, hbl⟩; clear ht hbs; obtain ⟨x1, rfl⟩ := ovr_of_below hbl; clear hbl)
      refine bodyPost_ret (v := rngV noR) (by simp [results, Try.results42, go_sem, noR]) rfl ⟨by rw [HY.out], by (repeat (first | with_reducible exact Below.refl _ _ | (with_reducible refine Below.setCell ?_ ?_ _; rotate_left; · (first | exact Nat.le_refl _ | assumption | omega | (simp; done) | (simp; omega))) | (with_reducible refine Below.alloc ?_ ?_ _; rotate_left; · (first | exact Nat.le_refl _ | assumption | omega | (simp; done) | (simp; omega))) | with_reducible refine below_ovr_of ?_ | with_reducible refine drew_below ?_ _ | with_reducible refine Below.drew ?_ | with_reducible assumption))⟩
  · have HY := Lib.hid (wordP_no (big := big) (around := true) h)
    go_enter Try.func42, Try.ntmps42
    go_wp2_with (go_at_call 105; refine (wruns_no _ _ L _ _ _ _ _ (by (repeat (first | assumption | refine LinesAt.ovr ?_ _ | refine LinesAt.alloc ?_ _ | refine LinesAt.drewN ?_ _ | refine LinesAt.drew ?_))) h).mono ?_; rintro e w1 ⟨rfl, hbl⟩; obtain ⟨x, rfl⟩ := ovr_of_below hbl; clear hbl)
    refine bodyPost_ret (v := rngV noR) (by simp [results, Try.results42, go_sem, noR]) rfl ⟨by rw [HY.out], by (repeat (first | with_reducible exact Below.refl _ _ | (with_reducible refine Below.setCell ?_ ?_ _; rotate_left; · (first | exact Nat.le_refl _ | assumption | omega | (simp; done) | (simp; omega))) | (with_reducible refine Below.alloc ?_ ?_ _; rotate_left; · (first | exact Nat.le_refl _ | assumption | omega | (simp; done) | (simp; omega))) | with_reducible refine below_ovr_of ?_ | with_reducible refine drew_below ?_ _ | with_reducible refine Below.drew ?_ | with_reducible assumption))⟩
end Go.Proofs.Ytlbbgocggifjaaa
