/- The contract of quoteobj.pair. Conditions: none beyond what it says. -/
import Derived.Test.YtnaikdmkabfnlaaQuote2
import Derived.Test.YtnaikdmkabfnlaaQuoteP2
import Derived.Test.YtnaikdmkabfnlaaByte
namespace Go.Proofs.Ytnaikdmkabfnlaa
open Go.RowKit Go.Shelf

attribute [local go_sem] Oper.semAt_some

set_option maxHeartbeats 1000000 in
theorem qpair_no (a : Option Addr) (cap : Nat) (L : List ByteArray) (pl pc q : Int) (w : World) (hL : LinesAt w a L) (hb : byteB L pl pc = false) :
    Calls Try.prog 67 #[.slice a L.length cap, .agg #[.int .i64 pl, .int .i64 pc], .int .u8 q] w fun e w' => e = .returned (pairV ((0, 0), false)) ∧ Below w.heap.size w w' := by
  have HB := Lib.hid hb
  clear hb
  go_enter Try.func67, Try.ntmps67
  go_wp2_with (go_at_call 87; refine (byte_any _ _ L _ _ _ (by (repeat (first | assumption | refine LinesAt.ovr ?_ _ | refine LinesAt.alloc ?_ _ | refine LinesAt.drewN ?_ _ | refine LinesAt.drew ?_)))).mono ?_; rw [HB.out]; rintro e w1 ⟨rfl, hbl⟩; obtain ⟨x, rfl⟩ := ovr_of_below hbl; clear hbl)
  refine bodyPost_ret (v := pairV ((0, 0), false)) (by simp [results, Try.results67, go_sem]) rfl ⟨rfl, by (repeat (first | with_reducible exact Below.refl _ _ | (with_reducible refine Below.setCell ?_ ?_ _; rotate_left; · (first | exact Nat.le_refl _ | assumption | omega | (simp; done) | (simp; omega))) | (with_reducible refine Below.alloc ?_ ?_ _; rotate_left; · (first | exact Nat.le_refl _ | assumption | omega | (simp; done) | (simp; omega))) | with_reducible refine below_ovr_of ?_ | with_reducible refine drew_below ?_ _ | with_reducible refine Below.drew ?_ | with_reducible assumption))⟩
set_option maxRecDepth 100000 in
set_option maxHeartbeats 4000000 in
theorem qpair_yes (a : Option Addr) (cap : Nat) (L : List ByteArray) (l c : Nat) (q : Int) (w : World) (hL : LinesAt w a L) (htot : total L ≤ 100000) (hl : l < L.length) (hc : c ≤ (L.getD l .empty).size) (hbt : byteB L l c = true) :
    Calls Try.prog 67 #[.slice a L.length cap, .agg #[.int .i64 l, .int .i64 c], .int .u8 q] w fun e w' => e = .returned (pairV (pairO (pairQ (L.getD l .empty) q c))) ∧ Below w.heap.size w w' := by
  have hn := hL.2.1
  obtain ⟨b, off, s, rfl, hb, hcell, hs, HS⟩ := line_facts' hL hl
  have hst : s.size ≤ 100000 := by have := size_le_total L l hl; rw [HS.out] at this; omega
  rw [HS.out] at hc ⊢
  have HB := Lib.hid hbt
  clear hbt
  have hlI : (l : Int) < (L.length : Int) := by omega
  have hl0 : (0 : Int) ≤ (l : Int) := by omega
  refine (callsIn_wide (n := 9)).1 ?_
  refine callsIn_of_wp_marks Try.func67 rfl trivial ?_ rfl
  simp only [Try.ntmps67, List.size_toArray, List.length_cons, List.length_nil, Nat.reduceAdd, Nat.reduceSub, Array.replicate_succ, Array.replicate_zero, List.push_toArray, List.append_toArray, List.nil_append, List.cons_append]
  gi_wp2_with (first
    | (refine ⟨trivial, ?_⟩; gi_at_call 87; refine (callsIn_wide.2 (byte_any _ _ L _ _ _ (by (repeat (first | assumption | refine LinesAt.ovr ?_ _ | refine LinesAt.alloc ?_ _ | refine LinesAt.drewN ?_ _ | refine LinesAt.drew ?_))))).mono ?_; rw [HB.out]; rintro e w1 ⟨rfl, hbl⟩; obtain ⟨x1, rfl⟩ := ovr_of_below hbl; clear hbl)
    | (refine ⟨trivial, ?_⟩; gi_at_call 31; refine (callsIn_wide.2 (qpairs_any _ _ _)).mono ?_; rintro e w1 ⟨rfl, rfl⟩))
  obtain ⟨Bs, hBs⟩ : ∃ Bs, w.heap.size + 1 + 1 + 1 + 1 + x1.heap.size = Bs := ⟨_, rfl⟩
  rw [hBs]
  refine name_worldIn ?_
  intro W1 hW1
  have c0 : W1.cell? ⟨w.heap.size, 1, none⟩ = some (.int .i64 c) := by rw [hW1]; simp [go_sem]
  have c1 : W1.cell? ⟨w.heap.size + 1, 0, none⟩ = some (.int .i64 0) := by rw [hW1]; simp [go_sem]
  have c2 : W1.cell? ⟨w.heap.size + 1 + 1, 0, none⟩ = some (.int .i64 0) := by rw [hW1]; simp [go_sem]
  have c3 : W1.cell? ⟨w.heap.size + 1 + 1 + 1, 0, none⟩ = some (.bool false) := by rw [hW1]; simp [go_sem]
  have f1 : W1.frozen? ⟨w.heap.size + 1, 0, none⟩ = false := by rw [hW1]; simp [go_sem]
  have f2 : W1.frozen? ⟨w.heap.size + 1 + 1, 0, none⟩ = false := by rw [hW1]; simp [go_sem]
  have f3 : W1.frozen? ⟨w.heap.size + 1 + 1 + 1, 0, none⟩ = false := by rw [hW1]; simp [go_sem]
  have d1 : W1.cell? ⟨Bs, 0, none⟩ = some (.string s) := by rw [hW1, ← hBs]; simp [go_sem]
  have d2 : W1.cell? ⟨Bs + 1, 0, none⟩ = some (.int .u8 q) := by rw [hW1, ← hBs]; simp [go_sem]
  have hbel : Below w.heap.size w W1 := by rw [hW1]; (repeat (first | with_reducible exact Below.refl _ _ | (with_reducible refine Below.setCell ?_ ?_ _; rotate_left; · (first | exact Nat.le_refl _ | assumption | omega | (simp; done) | (simp; omega))) | (with_reducible refine Below.alloc ?_ ?_ _; rotate_left; · (first | exact Nat.le_refl _ | assumption | omega | (simp; done) | (simp; omega))) | with_reducible refine below_ovr_of ?_ | with_reducible refine drew_below ?_ _ | with_reducible refine Below.drew ?_ | with_reducible assumption))
  have hsz : Bs + 1 < W1.heap.size := by rw [hW1, ← hBs]; simp
  have hsz2 : w.heap.size + 1 + 1 + 1 < Bs := by omega
  clear hW1 hBs
  refine wpIn_rangeFunc_ownG rfl (by omega) (gf := 66) (lb := #[.pointer (some ⟨Bs, 0, none⟩), .pointer (some ⟨Bs + 1, 0, none⟩)]) rfl trivial (enters_of Try.func66 (by kernel_rfl) rfl)
    (qpairs_stops W1.heap.size Bs (Bs + 1) s q W1 (by omega) (by omega) (Nat.le_refl _) hst d1 d2) belowK_t (belowK_b (Nat.le_refl _)) (Below.refl _ _) (fun _ => rfl)
    (fun pre W => (∀ p ∈ vals pre, decide ((c : Int) ≤ (p.2 : Int)) = false) ∧ Below W1.heap.size W1 W)
    (fun k pre W => (k = .ret ∧ ∃ (ini : List (Ivl s.size)) (x : Ivl s.size), pre = ini ++ [x] ∧ (∀ p ∈ vals ini, decide ((c : Int) ≤ (p.2 : Int)) = false) ∧ decide ((c : Int) ≤ (x.1.2 : Int)) = true ∧
      W.cell? ⟨w.heap.size + 1, 0, none⟩ = some (.int .i64 x.1.1) ∧ W.cell? ⟨w.heap.size + 1 + 1, 0, none⟩ = some (.int .i64 x.1.2) ∧ W.cell? ⟨w.heap.size + 1 + 1 + 1, 0, none⟩ = some (.bool true)) ∧ Below w.heap.size w W)
    (OwnFrom.and (ownFrom_pure _ _) (ownFrom_below (Nat.le_refl _) (Nat.le_refl _)))
    (fun k => OwnFrom.and (Own.from (fun s A B row hs hg hr => by
      obtain ⟨e0, ini, x, e1, e2, e3, e4, e5, e6⟩ := hs
      exact ⟨e0, ini, x, e1, e2, e3, cell_kept e4 hg hr, cell_kept e5 hg hr, cell_kept e6 hg hr⟩) _) (ownFrom_below (Nat.le_refl _) hbel.size))
    ⟨by simp, Below.refl _ _⟩
    (fun x => { tmps := #[.slice (some ⟨b, off, none⟩) L.length cap, .agg #[.int .i64 l, .int .i64 c], .int .u8 q, undef, .pointer (some ⟨w.heap.size, 0, none⟩), undef, .pointer (some ⟨w.heap.size + 1, 0, none⟩), .pointer (some ⟨w.heap.size + 1 + 1, 0, none⟩), .pointer (some ⟨w.heap.size + 1 + 1 + 1, 0, none⟩),
      .int .i64 (x.1.1 : Int), .int .i64 (x.1.2 : Int), .slice (some ⟨b, off, none⟩) L.length cap, .agg #[.int .i64 l, .int .i64 c], .bool true, .bool false, .slice (some ⟨b, off, none⟩) L.length cap, .pointer (some ⟨w.heap.size, 0, none⟩), .int .i64 l, .pointer (some ⟨b, off + l, none⟩), .string s, .int .u8 q,
      .func (.func 66) #[] #[.pointer (some ⟨Bs, 0, none⟩), .pointer (some ⟨Bs + 1, 0, none⟩)], .int .i64 (x.1.1 : Int), .int .i64 (x.1.2 : Int), undef, undef, undef, undef, undef, undef], defers := [] }) ?assign ?body ?done ?stop
  case assign =>
    intro l x W K hK
    gi_wp2
    exact hK
  case body =>
    rintro l' pre x W ⟨hp, hB⟩ _
    have g0 : W.cell? ⟨w.heap.size, 1, none⟩ = some (.int .i64 c) := (hB.cell (p := ⟨w.heap.size, 1, none⟩) (by simp; omega)).trans c0
    have g1 : W.cell? ⟨w.heap.size + 1, 0, none⟩ = some (.int .i64 0) := (hB.cell (p := ⟨w.heap.size + 1, 0, none⟩) (by simp; omega)).trans c1
    have g2 : W.cell? ⟨w.heap.size + 1 + 1, 0, none⟩ = some (.int .i64 0) := (hB.cell (p := ⟨w.heap.size + 1 + 1, 0, none⟩) (by simp; omega)).trans c2
    have g3 : W.cell? ⟨w.heap.size + 1 + 1 + 1, 0, none⟩ = some (.bool false) := (hB.cell (p := ⟨w.heap.size + 1 + 1 + 1, 0, none⟩) (by simp; omega)).trans c3
    have k1 : W.frozen? ⟨w.heap.size + 1, 0, none⟩ = false := (hB.frozen (p := ⟨w.heap.size + 1, 0, none⟩) (by simp; omega)).trans f1
    have k2 : W.frozen? ⟨w.heap.size + 1 + 1, 0, none⟩ = false := (hB.frozen (p := ⟨w.heap.size + 1 + 1, 0, none⟩) (by simp; omega)).trans f2
    have k3 : W.frozen? ⟨w.heap.size + 1 + 1 + 1, 0, none⟩ = false := (hB.frozen (p := ⟨w.heap.size + 1 + 1 + 1, 0, none⟩) (by simp; omega)).trans f3
    have HP := Lib.hid hp
    have hbw : Below w.heap.size w W := hbel.trans (hB.mono hbel.size)
    clear hp
    by_cases h1 : c ≤ x.1.2
    · have h1d : decide ((c : Int) ≤ (x.1.2 : Int)) = true := decide_eq_true (by omega)
      have h1I : (c : Int) ≤ (x.1.2 : Int) := by omega
      have H1 := Lib.hid h1d
      clear h1d
      gi_wp2
      exact ⟨(((KeepsOthers.setCell _ _ _).trans (KeepsOthers.setCell _ _ _)).trans (KeepsOthers.setCell _ _ _)).from _, ⟨rfl, pre, x, rfl, HP.out, H1.out, by simp [go_sem, g1], by simp [go_sem, g2], by simp [go_sem, g3]⟩, by (repeat (first | with_reducible exact hbw | (with_reducible refine below_ovr_le ?_ ?_ _; rotate_left; · (first | omega | (simp; done) | (simp; omega))) | (with_reducible refine Below.alloc ?_ ?_ _; rotate_left; · (first | omega | (simp; done) | (simp; omega))) | (with_reducible refine Below.setCell ?_ ?_ _; rotate_left; · (first | omega | (simp; done) | (simp; omega))) | with_reducible refine drew_below ?_ _ | with_reducible refine Below.drew ?_))⟩
    · have h1d : decide (c ≤ x.1.2) = false := decide_eq_false h1
      have H1 : Hid (∀ p ∈ vals (pre ++ [x]), decide ((c : Int) ≤ (p.2 : Int)) = false) := Lib.hid (fun p hp => by
        rw [vals, List.map_append] at hp
        rcases List.mem_append.1 hp with h | h
        · exact HP.out p h
        · simp at h; subst h; exact decide_eq_false (by omega))
      gi_wp2
      exact ⟨KeepsFrom.refl _ _, Below.refl _ _, H1.out, hB⟩
  case done =>
    rintro D ys W hD hys ⟨hp, hB⟩ hK
    have g1 : W.cell? ⟨w.heap.size + 1, 0, none⟩ = some (.int .i64 0) := (hB.cell (p := ⟨w.heap.size + 1, 0, none⟩) (by simp; omega)).trans c1
    have g2 : W.cell? ⟨w.heap.size + 1 + 1, 0, none⟩ = some (.int .i64 0) := (hB.cell (p := ⟨w.heap.size + 1 + 1, 0, none⟩) (by simp; omega)).trans c2
    have g3 : W.cell? ⟨w.heap.size + 1 + 1 + 1, 0, none⟩ = some (.bool false) := (hB.cell (p := ⟨w.heap.size + 1 + 1 + 1, 0, none⟩) (by simp; omega)).trans c3
    have k1 : W.frozen? ⟨w.heap.size + 1, 0, none⟩ = false := (hB.frozen (p := ⟨w.heap.size + 1, 0, none⟩) (by simp; omega)).trans f1
    have k2 : W.frozen? ⟨w.heap.size + 1 + 1, 0, none⟩ = false := (hB.frozen (p := ⟨w.heap.size + 1 + 1, 0, none⟩) (by simp; omega)).trans f2
    have k3 : W.frozen? ⟨w.heap.size + 1 + 1 + 1, 0, none⟩ = false := (hB.frozen (p := ⟨w.heap.size + 1 + 1 + 1, 0, none⟩) (by simp; omega)).trans f3
    have HE : Hid (pairQ s q c = none) := Lib.hid (by rw [pairQ, ← hys]; exact find_done hp)
    have hbw : Below w.heap.size w W := hbel.trans (hB.mono hbel.size)
    clear hp hys
    gi_wp2
    have hK' := (((KeepsOthers.setCell W ⟨w.heap.size + 1, 0, none⟩ (.int .i64 0)).trans (KeepsOthers.setCell _ ⟨w.heap.size + 1 + 1, 0, none⟩ (.int .i64 0))).trans (KeepsOthers.setCell _ ⟨w.heap.size + 1 + 1 + 1, 0, none⟩ (.bool false))).same D _ hK rfl
    refine ⟨by simp, .inl ⟨_, _, rfl, run_takeDeferred hK', ?_⟩⟩
    have r1 := cell_put (a := ⟨w.heap.size + 1, 0, none⟩) (v := .int .i64 0) (by simp [go_sem, g1]) hK'
    have r2 := cell_put (a := ⟨w.heap.size + 1 + 1, 0, none⟩) (v := .int .i64 0) (by simp [go_sem, g2]) hK'
    have r3 := cell_put (a := ⟨w.heap.size + 1 + 1 + 1, 0, none⟩) (v := .bool false) (by simp [go_sem, g3]) hK'
    have hfin : Below w.heap.size w (((W.setCell ⟨w.heap.size + 1, 0, none⟩ (.int .i64 0)).setCell ⟨w.heap.size + 1 + 1, 0, none⟩ (.int .i64 0)).setCell ⟨w.heap.size + 1 + 1 + 1, 0, none⟩ (.bool false)) := by (repeat (first | with_reducible exact hbw | (with_reducible refine below_ovr_le ?_ ?_ _; rotate_left; · (first | omega | (simp; done) | (simp; omega))) | (with_reducible refine Below.alloc ?_ ?_ _; rotate_left; · (first | omega | (simp; done) | (simp; omega))) | (with_reducible refine Below.setCell ?_ ?_ _; rotate_left; · (first | omega | (simp; done) | (simp; omega))) | with_reducible refine drew_below ?_ _ | with_reducible refine Below.drew ?_))
    exact ⟨pairV ((0, 0), false), by simp [results, Try.results67, go_sem, r1, r2, r3], by rw [HE.out]; rfl, below_put (by have := hbel.size; omega) hK' hfin⟩
  case stop =>
    rintro D k pre W hD hsp ⟨⟨rfl, ini, x, rfl, e2, e3, e4, e5, e6⟩, hB⟩ hK
    have HE : Hid (pairQ s q c = some x.1) := Lib.hid (find_stop (ini := vals ini) (by simpa [vals] using hsp) e2 e3)
    clear hsp e2 e3
    gi_wp2
    refine ⟨by simp, .inl ⟨_, _, rfl, run_takeDeferred hK, ?_⟩⟩
    have r1 := cell_put e4 hK
    have r2 := cell_put e5 hK
    have r3 := cell_put e6 hK
    exact ⟨pairV (((x.1.1 : Int), (x.1.2 : Int)), true), by simp [results, Try.results67, go_sem, r1, r2, r3], by rw [HE.out]; rfl, below_put (by have := hbel.size; omega) hK hB⟩
end Go.Proofs.Ytnaikdmkabfnlaa
