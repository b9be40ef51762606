/- Several texts in one: Quote3, Quote4. Conditions: none beyond what each says. -/
import Derived.Test.YtlbbgocggifjaaaOI23
import Derived.Test.YtlbbgocggifjaaaOI3
import Derived.Test.YtlbbgocggifjaaaOI13
namespace Go.Proofs.Ytlbbgocggifjaaa
open Go.RowKit Go.Shelf

attribute [local go_sem] Oper.semAt_some

set_option maxHeartbeats 1000000 in
theorem qpair_no (a : Option Addr) (cap : Nat) (L : List ByteArray) (pl pc q : Int) (w : World) (hL : LinesAt w a L) (hb : byteB L pl pc = false) :
    Calls Try.prog 98 #[.slice a L.length cap, .agg #[.int .i64 pl, .int .i64 pc], .int .u8 q] w fun e w' => e = .returned (pairV ((0, 0), false)) ∧ Below w.heap.size w w' := by
  have HB := Lib.hid hb
  clear hb
  go_enter Try.func98, Try.ntmps98
  go_wp2_with (go_at_call 139; refine (byte_any _ _ L _ _ _ (by (repeat (first | assumption | refine LinesAt.ovr ?_ _ | refine LinesAt.alloc ?_ _ | refine LinesAt.drewN ?_ _ | refine LinesAt.drew ?_)))).mono ?_; rw [HB.out]; rintro e w1 ⟨rfl, hbl⟩; obtain ⟨x, rfl⟩ := ovr_of_below hbl; clear hbl)
  refine bodyPost_ret (v := pairV ((0, 0), false)) (by simp [results, Try.results98, go_sem]) rfl ⟨rfl, by (repeat (first | with_reducible exact Below.refl _ _ | (with_reducible refine Below.setCell ?_ ?_ _; rotate_left; · (first | exact Nat.le_refl _ | assumption | omega | (simp; done) | (simp; omega))) | (with_reducible refine Below.alloc ?_ ?_ _; rotate_left; · (first | exact Nat.le_refl _ | assumption | omega | (simp; done) | (simp; omega))) | with_reducible refine below_ovr_of ?_ | with_reducible refine drew_below ?_ _ | with_reducible refine Below.drew ?_ | with_reducible assumption))⟩
set_option maxRecDepth 100000 in
set_option maxHeartbeats 4000000 in
theorem qpair_yes (a : Option Addr) (cap : Nat) (L : List ByteArray) (l c : Nat) (q : Int) (w : World) (hL : LinesAt w a L) (htot : total L ≤ 100000) (hl : l < L.length) (_hc : c ≤ (L.getD l .empty).size) (hbt : byteB L l c = true) :
    Calls Try.prog 98 #[.slice a L.length cap, .agg #[.int .i64 l, .int .i64 c], .int .u8 q] w fun e w' => e = .returned (pairV (pairO (pairQ (L.getD l .empty) q c))) ∧ Below w.heap.size w w' := by
  have hn := hL.2.1
  obtain ⟨b, off, s, rfl, hb, hcell, hs, HS⟩ := line_facts' hL hl
  have hst : s.size ≤ 100000 := by have := size_le_total L l hl; rw [HS.out] at this; omega
  rw [HS.out]
  have HB := Lib.hid hbt
  clear hbt
  have hlI : (l : Int) < (L.length : Int) := by omega
  have hl0 : (0 : Int) ≤ (l : Int) := by omega
  refine (callsIn_wide (n := 9)).1 ?_
  refine callsIn_of_wp_marks Try.func98 rfl trivial ?_ rfl
  simp only [Try.ntmps98, List.size_toArray, List.length_cons, List.length_nil, Nat.reduceAdd, Nat.reduceSub, Array.replicate_succ, Array.replicate_zero, List.push_toArray, List.append_toArray, List.nil_append, List.cons_append]
  gi_wp2_with (first
    | (refine ⟨trivial, ?_⟩; gi_at_call 139; refine (callsIn_wide.2 (byte_any _ _ L _ _ _ (by (repeat (first | assumption | refine LinesAt.ovr ?_ _ | refine LinesAt.alloc ?_ _ | refine LinesAt.drewN ?_ _ | refine LinesAt.drew ?_))))).mono ?_; rw [HB.out]; rintro e w1 ⟨rfl, hbl⟩; obtain ⟨x1, rfl⟩ := ovr_of_below hbl; clear hbl)
    | (refine ⟨trivial, ?_⟩; gi_at_call 27; refine (callsIn_wide.2 (qpairs_any _ _ _)).mono ?_; rintro e w1 ⟨rfl, rfl⟩))
  obtain ⟨Bs, hBs⟩ : ∃ Bs, w.heap.size + 1 + 1 + 1 + 1 + x1.heap.size = Bs := ⟨_, rfl⟩
  rw [hBs]
  refine name_worldIn ?_
  intro W1 hW1
  have c0 : W1.cell? ⟨w.heap.size, 1, none⟩ = some (.int .i64 c) := by rw [hW1]; simp [go_sem]
  have c1 : W1.cell? ⟨w.heap.size + 1, 0, none⟩ = some (.int .i64 0) := by rw [hW1]; simp [go_sem]
  have c2 : W1.cell? ⟨w.heap.size + 1 + 1, 0, none⟩ = some (.int .i64 0) := by rw [hW1]; simp [go_sem]
  have c3 : W1.cell? ⟨w.heap.size + 1 + 1 + 1, 0, none⟩ = some (.bool false) := by rw [hW1]; simp [go_sem]
  have f1 : W1.frozen? ⟨w.heap.size + 1, 0, none⟩ = false := by rw [hW1]; simp [go_sem]
  have f2 : W1.frozen? ⟨w.heap.size + 1 + 1, 0, none⟩ = false := by rw [hW1]; simp [go_sem]
  have f3 : W1.frozen? ⟨w.heap.size + 1 + 1 + 1, 0, none⟩ = false := by rw [hW1]; simp [go_sem]
  have d1 : W1.cell? ⟨Bs, 0, none⟩ = some (.string s) := by rw [hW1, ← hBs]; simp [go_sem]
  have d2 : W1.cell? ⟨Bs + 1, 0, none⟩ = some (.int .u8 q) := by rw [hW1, ← hBs]; simp [go_sem]
  have hbel : Below w.heap.size w W1 := by rw [hW1]; (repeat (first | with_reducible exact Below.refl _ _ | (with_reducible refine Below.setCell ?_ ?_ _; rotate_left; · (first | exact Nat.le_refl _ | assumption | omega | (simp; done) | (simp; omega))) | (with_reducible refine Below.alloc ?_ ?_ _; rotate_left; · (first | exact Nat.le_refl _ | assumption | omega | (simp; done) | (simp; omega))) | with_reducible refine below_ovr_of ?_ | with_reducible refine drew_below ?_ _ | with_reducible refine Below.drew ?_ | with_reducible assumption))
  have hsz : Bs + 1 < W1.heap.size := by rw [hW1, ← hBs]; simp
  have hsz2 : w.heap.size + 1 + 1 + 1 < Bs := by omega
  clear hW1 hBs
  refine wpIn_rangeFunc_ownG rfl (by omega) (gf := 97) (lb := #[.pointer (some ⟨Bs, 0, none⟩), .pointer (some ⟨Bs + 1, 0, none⟩)]) rfl trivial (enters_of Try.func97 (by kernel_rfl) rfl)
    (qpairs_stops W1.heap.size Bs (Bs + 1) s q W1 (by omega) (by omega) (Nat.le_refl _) hst d1 d2) belowK_t (belowK_b (Nat.le_refl _)) (Below.refl _ _) (fun _ => rfl)
    (fun pre W => (∀ p ∈ vals pre, decide ((c : Int) ≤ (p.2 : Int)) = false) ∧ Below W1.heap.size W1 W)
    (fun k pre W => (k = .ret ∧ ∃ (ini : List (Ivl s.size)) (x : Ivl s.size), pre = ini ++ [x] ∧ (∀ p ∈ vals ini, decide ((c : Int) ≤ (p.2 : Int)) = false) ∧ decide ((c : Int) ≤ (x.1.2 : Int)) = true ∧
      W.cell? ⟨w.heap.size + 1, 0, none⟩ = some (.int .i64 x.1.1) ∧ W.cell? ⟨w.heap.size + 1 + 1, 0, none⟩ = some (.int .i64 x.1.2) ∧ W.cell? ⟨w.heap.size + 1 + 1 + 1, 0, none⟩ = some (.bool true)) ∧ Below w.heap.size w W)
    (OwnFrom.and (ownFrom_pure _ _) (ownFrom_below (Nat.le_refl _) (Nat.le_refl _)))
    (fun k => OwnFrom.and (Own.from (fun s A B row hs hg hr => by
      obtain ⟨e0, ini, x, e1, e2, e3, e4, e5, e6⟩ := hs
      exact ⟨e0, ini, x, e1, e2, e3, cell_kept e4 hg hr, cell_kept e5 hg hr, cell_kept e6 hg hr⟩) _) (ownFrom_below (Nat.le_refl _) hbel.size))
    ⟨by simp, Below.refl _ _⟩
    (fun x => { tmps := #[.slice (some ⟨b, off, none⟩) L.length cap, .agg #[.int .i64 l, .int .i64 c], .int .u8 q, undef, .pointer (some ⟨w.heap.size, 0, none⟩), undef, .pointer (some ⟨w.heap.size + 1, 0, none⟩), .pointer (some ⟨w.heap.size + 1 + 1, 0, none⟩), .pointer (some ⟨w.heap.size + 1 + 1 + 1, 0, none⟩),
      .int .i64 (x.1.1 : Int), .int .i64 (x.1.2 : Int), .slice (some ⟨b, off, none⟩) L.length cap, .agg #[.int .i64 l, .int .i64 c], .bool true, .bool false, .slice (some ⟨b, off, none⟩) L.length cap, .pointer (some ⟨w.heap.size, 0, none⟩), .int .i64 l, .pointer (some ⟨b, off + l, none⟩), .string s, .int .u8 q,
      .func (.func 97) #[] #[.pointer (some ⟨Bs, 0, none⟩), .pointer (some ⟨Bs + 1, 0, none⟩)], .int .i64 (x.1.1 : Int), .int .i64 (x.1.2 : Int), undef, undef, undef, undef, undef, undef], defers := [] }) ?assign ?body ?done ?stop
  case assign =>
    intro l x W K hK
    gi_wp2
    exact hK
  case body =>
    rintro l' pre x W ⟨hp, hB⟩ _
    have g0 : W.cell? ⟨w.heap.size, 1, none⟩ = some (.int .i64 c) := (hB.cell (p := ⟨w.heap.size, 1, none⟩) (by simp; omega)).trans c0
    have g1 : W.cell? ⟨w.heap.size + 1, 0, none⟩ = some (.int .i64 0) := (hB.cell (p := ⟨w.heap.size + 1, 0, none⟩) (by simp; omega)).trans c1
    have g2 : W.cell? ⟨w.heap.size + 1 + 1, 0, none⟩ = some (.int .i64 0) := (hB.cell (p := ⟨w.heap.size + 1 + 1, 0, none⟩) (by simp; omega)).trans c2
    have g3 : W.cell? ⟨w.heap.size + 1 + 1 + 1, 0, none⟩ = some (.bool false) := (hB.cell (p := ⟨w.heap.size + 1 + 1 + 1, 0, none⟩) (by simp; omega)).trans c3
    have k1 : W.frozen? ⟨w.heap.size + 1, 0, none⟩ = false := (hB.frozen (p := ⟨w.heap.size + 1, 0, none⟩) (by simp; omega)).trans f1
    have k2 : W.frozen? ⟨w.heap.size + 1 + 1, 0, none⟩ = false := (hB.frozen (p := ⟨w.heap.size + 1 + 1, 0, none⟩) (by simp; omega)).trans f2
    have k3 : W.frozen? ⟨w.heap.size + 1 + 1 + 1, 0, none⟩ = false := (hB.frozen (p := ⟨w.heap.size + 1 + 1 + 1, 0, none⟩) (by simp; omega)).trans f3
    have HP := Lib.hid hp
    have hbw : Below w.heap.size w W := hbel.trans (hB.mono hbel.size)
    clear hp
    by_cases h1 : c ≤ x.1.2
    · have h1d : decide ((c : Int) ≤ (x.1.2 : Int)) = true := decide_eq_true (by omega)
      have h1I : (c : Int) ≤ (x.1.2 : Int) := by omega
      have H1 := Lib.hid h1d
      clear h1d
      gi_wp2
      exact ⟨(((KeepsOthers.setCell _ _ _).trans (KeepsOthers.setCell _ _ _)).trans (KeepsOthers.setCell _ _ _)).from _, ⟨rfl, pre, x, rfl, HP.out, H1.out, by simp [go_sem, g1], by simp [go_sem, g2], by simp [go_sem, g3]⟩, by (repeat (first | with_reducible exact hbw | (with_reducible refine below_ovr_le ?_ ?_ _; rotate_left; · (first | omega | (simp; done) | (simp; omega))) | (with_reducible refine Below.alloc ?_ ?_ _; rotate_left; · (first | omega | (simp; done) | (simp; omega))) | (with_reducible refine Below.setCell ?_ ?_ _; rotate_left; · (first | omega | (simp; done) | (simp; omega))) | with_reducible refine drew_below ?_ _ | with_reducible refine Below.drew ?_))⟩
    · have h1d : decide (c ≤ x.1.2) = false := decide_eq_false h1
      have H1 : Hid (∀ p ∈ vals (pre ++ [x]), decide ((c : Int) ≤ (p.2 : Int)) = false) := Lib.hid (fun p hp => by
        rw [vals, List.map_append] at hp
        rcases List.mem_append.1 hp with h | h
        · exact HP.out p h
        · simp at h; subst h; exact decide_eq_false (by omega))
      gi_wp2
      exact ⟨KeepsFrom.refl _ _, Below.refl _ _, H1.out, hB⟩
  case done =>
    rintro D ys W hD hys ⟨hp, hB⟩ hK
    have g1 : W.cell? ⟨w.heap.size + 1, 0, none⟩ = some (.int .i64 0) := (hB.cell (p := ⟨w.heap.size + 1, 0, none⟩) (by simp; omega)).trans c1
    have g2 : W.cell? ⟨w.heap.size + 1 + 1, 0, none⟩ = some (.int .i64 0) := (hB.cell (p := ⟨w.heap.size + 1 + 1, 0, none⟩) (by simp; omega)).trans c2
    have g3 : W.cell? ⟨w.heap.size + 1 + 1 + 1, 0, none⟩ = some (.bool false) := (hB.cell (p := ⟨w.heap.size + 1 + 1 + 1, 0, none⟩) (by simp; omega)).trans c3
    have k1 : W.frozen? ⟨w.heap.size + 1, 0, none⟩ = false := (hB.frozen (p := ⟨w.heap.size + 1, 0, none⟩) (by simp; omega)).trans f1
    have k2 : W.frozen? ⟨w.heap.size + 1 + 1, 0, none⟩ = false := (hB.frozen (p := ⟨w.heap.size + 1 + 1, 0, none⟩) (by simp; omega)).trans f2
    have k3 : W.frozen? ⟨w.heap.size + 1 + 1 + 1, 0, none⟩ = false := (hB.frozen (p := ⟨w.heap.size + 1 + 1 + 1, 0, none⟩) (by simp; omega)).trans f3
    have HE : Hid (pairQ s q c = none) := Lib.hid (by rw [pairQ, ← hys]; exact find_done hp)
    have hbw : Below w.heap.size w W := hbel.trans (hB.mono hbel.size)
    clear hp hys
    gi_wp2
    have hK' := (((KeepsOthers.setCell W ⟨w.heap.size + 1, 0, none⟩ (.int .i64 0)).trans (KeepsOthers.setCell _ ⟨w.heap.size + 1 + 1, 0, none⟩ (.int .i64 0))).trans (KeepsOthers.setCell _ ⟨w.heap.size + 1 + 1 + 1, 0, none⟩ (.bool false))).same D _ hK rfl
    refine ⟨by simp, .inl ⟨_, _, rfl, run_takeDeferred hK', ?_⟩⟩
    have r1 := cell_put (a := ⟨w.heap.size + 1, 0, none⟩) (v := .int .i64 0) (by simp [go_sem, g1]) hK'
    have r2 := cell_put (a := ⟨w.heap.size + 1 + 1, 0, none⟩) (v := .int .i64 0) (by simp [go_sem, g2]) hK'
    have r3 := cell_put (a := ⟨w.heap.size + 1 + 1 + 1, 0, none⟩) (v := .bool false) (by simp [go_sem, g3]) hK'
    have hfin : Below w.heap.size w (((W.setCell ⟨w.heap.size + 1, 0, none⟩ (.int .i64 0)).setCell ⟨w.heap.size + 1 + 1, 0, none⟩ (.int .i64 0)).setCell ⟨w.heap.size + 1 + 1 + 1, 0, none⟩ (.bool false)) := by (repeat (first | with_reducible exact hbw | (with_reducible refine below_ovr_le ?_ ?_ _; rotate_left; · (first | omega | (simp; done) | (simp; omega))) | (with_reducible refine Below.alloc ?_ ?_ _; rotate_left; · (first | omega | (simp; done) | (simp; omega))) | (with_reducible refine Below.setCell ?_ ?_ _; rotate_left; · (first | omega | (simp; done) | (simp; omega))) | with_reducible refine drew_below ?_ _ | with_reducible refine Below.drew ?_))
    exact ⟨pairV ((0, 0), false), by simp [results, Try.results98, go_sem, r1, r2, r3], by rw [HE.out]; rfl, below_put (by have := hbel.size; omega) hK' hfin⟩
  case stop =>
    rintro D k pre W hD hsp ⟨⟨rfl, ini, x, rfl, e2, e3, e4, e5, e6⟩, hB⟩ hK
    have HE : Hid (pairQ s q c = some x.1) := Lib.hid (find_stop (ini := vals ini) (by simpa [vals] using hsp) e2 e3)
    clear hsp e2 e3
    gi_wp2
    refine ⟨by simp, .inl ⟨_, _, rfl, run_takeDeferred hK, ?_⟩⟩
    have r1 := cell_put e4 hK
    have r2 := cell_put e5 hK
    have r3 := cell_put e6 hK
    exact ⟨pairV (((x.1.1 : Int), (x.1.2 : Int)), true), by simp [results, Try.results98, go_sem, r1, r2, r3], by rw [HE.out]; rfl, below_put (by have := hbel.size; omega) hK hB⟩
end Go.Proofs.Ytlbbgocggifjaaa
namespace Go.Proofs.Ytlbbgocggifjaaa
open Go.RowKit

theorem qpair_at (a : Option Addr) (cap : Nat) (L : List ByteArray) (pl pc q : Int) (w : World) (hL : LinesAt w a L) (htot : total L ≤ 100000) {r : (Int × Int) × Bool} (h : Hid (pairR L pl pc q = r)) :
    Calls Try.prog 98 #[.slice a L.length cap, .agg #[.int .i64 pl, .int .i64 pc], .int .u8 q] w fun e w' => e = .returned (pairV r) ∧ Below w.heap.size w w' := by
  have e := h.out
  cases hb : byteB L pl pc with
  | false =>
    rw [pairR_no hb] at e
    subst e
    exact qpair_no a cap L pl pc q w hL hb
  | true =>
    have hp : plcB L pl pc = true := by
      cases hp : plcB L pl pc with
      | true => rfl
      | false => rw [byteB_no hp] at hb; cases hb
    obtain ⟨p1, p2, p3, p4⟩ := plcB_spec hp
    obtain ⟨l, rfl⟩ := Int.eq_ofNat_of_zero_le p1
    obtain ⟨c, rfl⟩ := Int.eq_ofNat_of_zero_le p3
    rw [Int.toNat_natCast] at p4
    rw [pairR_yes hb rfl] at e
    subst e
    exact qpair_yes a cap L l c q w hL htot (by omega) (by omega) hb
theorem byteB_spec {L : List ByteArray} {pl pc : Int} (hb : byteB L pl pc = true) : ∃ l c : Nat, pl = l ∧ pc = c ∧ l < L.length ∧ c ≤ (L.getD l .empty).size ∧ plcB L l c = true := by
  have hp : plcB L pl pc = true := by
    cases hp : plcB L pl pc with
    | true => rfl
    | false => rw [byteB_no hp] at hb; cases hb
  obtain ⟨p1, p2, p3, p4⟩ := plcB_spec hp
  obtain ⟨l, rfl⟩ := Int.eq_ofNat_of_zero_le p1
  obtain ⟨c, rfl⟩ := Int.eq_ofNat_of_zero_le p3
  rw [Int.toNat_natCast] at p4
  exact ⟨l, c, rfl, rfl, by omega, by omega, hp⟩
theorem qwithin_any (l c fx fy : Int) (w : World) :
    Calls Try.prog 99 #[.agg #[.int .i64 l, .int .i64 c], .int .i64 fx, .int .i64 fy] w fun e w' => e = .returned (rngV ((0, l, fx, l, fy), true)) ∧ Below w.heap.size w w' := by
  go_enter Try.func99, Try.ntmps99
  go_wp2
  refine bodyPost_ret (v := rngV ((0, l, fx, l, fy), true)) (by simp [results, Try.results99, go_sem]) rfl ⟨rfl, by (repeat (first | with_reducible exact Below.refl _ _ | (with_reducible refine Below.setCell ?_ ?_ _; rotate_left; · (first | exact Nat.le_refl _ | assumption | omega | (simp; done) | (simp; omega))) | (with_reducible refine Below.alloc ?_ ?_ _; rotate_left; · (first | exact Nat.le_refl _ | assumption | omega | (simp; done) | (simp; omega))) | with_reducible refine below_ovr_of ?_ | with_reducible refine drew_below ?_ _ | with_reducible refine Below.drew ?_ | with_reducible assumption))⟩
theorem in_any (l fx fy : Int) (w : World) :
    Calls Try.prog 102 #[.int .i64 l, .int .i64 fx, .int .i64 fy] w fun e w' => e = .returned (rngV ((0, l, fx, l, fy), true)) ∧ Below w.heap.size w w' := by
  go_enter Try.func102, Try.ntmps102
  go_wp2_with (go_at_call 116; refine (char_any _ _ _ _ _).mono ?_; rintro e w1 ⟨rfl, hbl⟩; obtain ⟨x, rfl⟩ := ovr_of_below hbl; clear hbl)
  refine bodyPost_ret (v := rngV ((0, l, fx, l, fy), true)) (by simp [results, Try.results102, go_sem]) rfl ⟨rfl, by (repeat (first | with_reducible exact Below.refl _ _ | (with_reducible refine Below.setCell ?_ ?_ _; rotate_left; · (first | exact Nat.le_refl _ | assumption | omega | (simp; done) | (simp; omega))) | (with_reducible refine Below.alloc ?_ ?_ _; rotate_left; · (first | exact Nat.le_refl _ | assumption | omega | (simp; done) | (simp; omega))) | with_reducible refine below_ovr_of ?_ | with_reducible refine drew_below ?_ _ | with_reducible refine Below.drew ?_ | with_reducible assumption))⟩

set_option maxHeartbeats 1000000 in
theorem qinner_any (a : Option Addr) (cap : Nat) (L : List ByteArray) (pl pc q : Int) (w : World) (hL : LinesAt w a L) (htot : total L ≤ 100000) :
    Calls Try.prog 32 #[.slice a L.length cap, .agg #[.int .i64 pl, .int .i64 pc], .int .u8 q] w fun e w' => e = .returned (rngV (quoteP L pl pc q false)) ∧ Below w.heap.size w w' := by
  cases hb : byteB L pl pc with
  | false =>
    have HQR := Lib.hid (pairR_no (q := q) hb)
    have HY := Lib.hid (quoteP_no (q := q) (around := false) hb)
    clear hb
    go_enter Try.func32, Try.ntmps32
    go_wp2_with (go_at_call 98; refine (qpair_at _ _ L _ _ _ _ (by (repeat (first | assumption | refine LinesAt.ovr ?_ _ | refine LinesAt.alloc ?_ _ | refine LinesAt.drewN ?_ _ | refine LinesAt.drew ?_))) (by omega) HQR).mono ?_; rintro e w1 ⟨rfl, hbl⟩; obtain ⟨x, rfl⟩ := ovr_of_below hbl; clear hbl)
    refine bodyPost_ret (v := rngV noR) (by simp [results, Try.results32, go_sem, noR]) rfl ⟨by rw [HY.out], by (repeat (first | with_reducible exact Below.refl _ _ | (with_reducible refine Below.setCell ?_ ?_ _; rotate_left; · (first | exact Nat.le_refl _ | assumption | omega | (simp; done) | (simp; omega))) | (with_reducible refine Below.alloc ?_ ?_ _; rotate_left; · (first | exact Nat.le_refl _ | assumption | omega | (simp; done) | (simp; omega))) | with_reducible refine below_ovr_of ?_ | with_reducible refine drew_below ?_ _ | with_reducible refine Below.drew ?_ | with_reducible assumption))⟩
  | true =>
    obtain ⟨l, c, rfl, rfl, hl, hc, hp⟩ := byteB_spec hb
    have hqr := pairR_yes (q := q) hb rfl
    have hy := quoteP_yes (q := q) (around := false) hb rfl
    have hst := size_le_total L l hl
    obtain ⟨s, hs⟩ : ∃ s, L.getD l .empty = s := ⟨_, rfl⟩
    rw [hs] at hqr hy hc hst
    cases hT : pairQ s q c with
    | none =>
      rw [hT] at hqr hy
      have HQR : Hid (pairR L l c q = ((0, 0), false)) := Lib.hid hqr
      have HY : Hid (quoteP L l c q false = noR) := Lib.hid hy
      clear hb hqr hy hp hs hT
      go_enter Try.func32, Try.ntmps32
      go_wp2_with (go_at_call 98; refine (qpair_at _ _ L _ _ _ _ (by (repeat (first | assumption | refine LinesAt.ovr ?_ _ | refine LinesAt.alloc ?_ _ | refine LinesAt.drewN ?_ _ | refine LinesAt.drew ?_))) (by omega) HQR).mono ?_; rintro e w1 ⟨rfl, hbl⟩; obtain ⟨x, rfl⟩ := ovr_of_below hbl; clear hbl)
      refine bodyPost_ret (v := rngV noR) (by simp [results, Try.results32, go_sem, noR]) rfl ⟨by rw [HY.out], by (repeat (first | with_reducible exact Below.refl _ _ | (with_reducible refine Below.setCell ?_ ?_ _; rotate_left; · (first | exact Nat.le_refl _ | assumption | omega | (simp; done) | (simp; omega))) | (with_reducible refine Below.alloc ?_ ?_ _; rotate_left; · (first | exact Nat.le_refl _ | assumption | omega | (simp; done) | (simp; omega))) | with_reducible refine below_ovr_of ?_ | with_reducible refine drew_below ?_ _ | with_reducible refine Below.drew ?_ | with_reducible assumption))⟩
    | some p =>
      obtain ⟨fx, fy⟩ := p
      rw [hT] at hqr hy
      obtain ⟨g1, g2, _, _, _⟩ := pairQ_in hT
      simp only at g1 g2
      have HQR : Hid (pairR L l c q = (((fx : Int), (fy : Int)), true)) := Lib.hid hqr
      have HY : Hid (quoteP L l c q false = ((0, (l : Int), (fx : Int) + 1, (l : Int), (fy : Int)), true)) := Lib.hid hy
      have g3 : (fx : Int) ≤ 100000 := by omega
      have g4 : (0 : Int) ≤ (fx : Int) := by omega
      clear hb hqr hy hp hs hT
      go_enter Try.func32, Try.ntmps32
      go_wp2_with (first | (go_at_call 98; refine (qpair_at _ _ L _ _ _ _ (by (repeat (first | assumption | refine LinesAt.ovr ?_ _ | refine LinesAt.alloc ?_ _ | refine LinesAt.drewN ?_ _ | refine LinesAt.drew ?_))) (by omega) HQR).mono ?_; rintro e w1 ⟨rfl, hbl⟩; obtain ⟨x, rfl⟩ := ovr_of_below hbl; clear hbl) | (go_at_call 99; refine (qwithin_any _ _ _ _ _).mono ?_; rintro e w1 ⟨rfl, hbl⟩; obtain ⟨x, rfl⟩ := ovr_of_below hbl; clear hbl))
      refine bodyPost_ret (v := rngV ((0, (l : Int), (fx : Int) + 1, (l : Int), (fy : Int)), true)) (by simp [results, Try.results32, go_sem]) rfl ⟨by rw [HY.out], by (repeat (first | with_reducible exact Below.refl _ _ | (with_reducible refine Below.setCell ?_ ?_ _; rotate_left; · (first | exact Nat.le_refl _ | assumption | omega | (simp; done) | (simp; omega))) | (with_reducible refine Below.alloc ?_ ?_ _; rotate_left; · (first | exact Nat.le_refl _ | assumption | omega | (simp; done) | (simp; omega))) | with_reducible refine below_ovr_of ?_ | with_reducible refine drew_below ?_ _ | with_reducible refine Below.drew ?_ | with_reducible assumption))⟩

set_option maxRecDepth 100000 in
set_option maxHeartbeats 2000000 in
theorem qaround_any (a : Option Addr) (cap : Nat) (L : List ByteArray) (pl pc q : Int) (w : World) (hL : LinesAt w a L) (htot : total L ≤ 100000) :
    Calls Try.prog 34 #[.slice a L.length cap, .agg #[.int .i64 pl, .int .i64 pc], .int .u8 q] w fun e w' => e = .returned (rngV (quoteP L pl pc q true)) ∧ Below w.heap.size w w' := by
  have hn := hL.2.1
  cases hb : byteB L pl pc with
  | false =>
    have HQR := Lib.hid (pairR_no (q := q) hb)
    have HY := Lib.hid (quoteP_no (q := q) (around := true) hb)
    clear hb
    go_enter Try.func34, Try.ntmps34
    go_wp2_with (go_at_call 98; refine (qpair_at _ _ L _ _ _ _ (by (repeat (first | assumption | refine LinesAt.ovr ?_ _ | refine LinesAt.alloc ?_ _ | refine LinesAt.drewN ?_ _ | refine LinesAt.drew ?_))) (by omega) HQR).mono ?_; rintro e w1 ⟨rfl, hbl⟩; obtain ⟨x, rfl⟩ := ovr_of_below hbl; clear hbl)
    refine bodyPost_ret (v := rngV noR) (by simp [results, Try.results34, go_sem, noR]) rfl ⟨by rw [HY.out], by (repeat (first | with_reducible exact Below.refl _ _ | (with_reducible refine Below.setCell ?_ ?_ _; rotate_left; · (first | exact Nat.le_refl _ | assumption | omega | (simp; done) | (simp; omega))) | (with_reducible refine Below.alloc ?_ ?_ _; rotate_left; · (first | exact Nat.le_refl _ | assumption | omega | (simp; done) | (simp; omega))) | with_reducible refine below_ovr_of ?_ | with_reducible refine drew_below ?_ _ | with_reducible refine Below.drew ?_ | with_reducible assumption))⟩
  | true =>
    obtain ⟨l, c, rfl, rfl, hl, hc, hp⟩ := byteB_spec hb
    have hqr := pairR_yes (q := q) hb rfl
    have hy := quoteP_yes (q := q) (around := true) hb rfl
    have hst := size_le_total L l hl
    obtain ⟨b, off, s, rfl, hbb, hcell, hss, HS⟩ := line_facts' hL hl
    rw [HS.out] at hqr hy hc hst
    have hlI : (l : Int) < (L.length : Int) := by omega
    have hl0 : (0 : Int) ≤ (l : Int) := by omega
    cases hT : pairQ s q c with
    | none =>
      rw [hT] at hqr hy
      have HQR : Hid (pairR L l c q = ((0, 0), false)) := Lib.hid hqr
      have HY : Hid (quoteP L l c q true = noR) := Lib.hid hy
      clear hb hqr hy hp hT
      go_enter Try.func34, Try.ntmps34
      go_wp2_with (go_at_call 98; refine (qpair_at _ _ L _ _ _ _ (by (repeat (first | assumption | refine LinesAt.ovr ?_ _ | refine LinesAt.alloc ?_ _ | refine LinesAt.drewN ?_ _ | refine LinesAt.drew ?_))) (by omega) HQR).mono ?_; rintro e w1 ⟨rfl, hbl⟩; obtain ⟨x, rfl⟩ := ovr_of_below hbl; clear hbl)
      refine bodyPost_ret (v := rngV noR) (by simp [results, Try.results34, go_sem, noR]) rfl ⟨by rw [HY.out], by (repeat (first | with_reducible exact Below.refl _ _ | (with_reducible refine Below.setCell ?_ ?_ _; rotate_left; · (first | exact Nat.le_refl _ | assumption | omega | (simp; done) | (simp; omega))) | (with_reducible refine Below.alloc ?_ ?_ _; rotate_left; · (first | exact Nat.le_refl _ | assumption | omega | (simp; done) | (simp; omega))) | with_reducible refine below_ovr_of ?_ | with_reducible refine drew_below ?_ _ | with_reducible refine Below.drew ?_ | with_reducible assumption))⟩
    | some p =>
      obtain ⟨fx, fy⟩ := p
      rw [hT] at hqr hy
      obtain ⟨g1, g2, _, _, _⟩ := pairQ_in hT
      simp only at g1 g2
      have HQR : Hid (pairR L l c q = (((fx : Int), (fy : Int)), true)) := Lib.hid hqr
      obtain ⟨E, hE⟩ : ∃ E, skipF s (fy + 1) = E := ⟨_, rfl⟩
      obtain ⟨F, hF⟩ : ∃ F, (if E = fy + 1 then skipB s fx else fx) = F := ⟨_, rfl⟩
      have HY : Hid (quoteP L l c q true = ((0, (l : Int), (F : Int), (l : Int), (E : Int)), true)) := Lib.hid (hy.trans (by rw [quoteO, if_pos rfl, hE, hF]))
      have HE := Lib.hid hE
      have HF := Lib.hid hF
      have g4 : (0 : Int) ≤ (fy : Int) := by omega
      have g5 : (fy : Int) ≤ 100000 := by omega
      clear hb hqr hy hp hT hE hF
      go_enter Try.func34, Try.ntmps34
      go_wp2_with (go_at_call 98; refine (qpair_at _ _ L _ _ _ _ (by (repeat (first | assumption | refine LinesAt.ovr ?_ _ | refine LinesAt.alloc ?_ _ | refine LinesAt.drewN ?_ _ | refine LinesAt.drew ?_))) (by omega) HQR).mono ?_; rintro e w1 ⟨rfl, hbl⟩; obtain ⟨x, rfl⟩ := ovr_of_below hbl; clear hbl)
      go_loop [12] (fun i => ∃ k : Nat, fy + 1 ≤ k ∧ k ≤ s.size ∧ i = .int .i64 k ∧ Hid (skipF s k = E)) (fun i => s.size - (intOf i).toNat)
      case atStart => exact ⟨fy + 1, Nat.le_refl _, by omega, by go_num, HE⟩
      case round =>
        obtain ⟨k, hk1, hk2, rfl, HK⟩ := hrel
        by_cases hlt : k < s.size
        · have hltI : (k : Int) < (s.size : Int) := by omega
          have hbt := byt_at' s k hlt
          by_cases hbl0 : ofC (s[k].toNat : Int) true = 0
          · have t1 : (ofC (s[k].toNat : Int) true == 0) = true := by rw [beq_iff_eq]; exact hbl0
            have HK2 : Hid (skipF s (k + 1) = E) := Lib.hid (by rw [← skipF_on hlt (by rw [hbt]; exact hbl0)]; exact HK.out)
            clear hbl0 hbt
            go_wp2_with (go_at_call 103; refine (of_any _ _ _).mono ?_; rintro e w1 ⟨rfl, rfl⟩)
            go_round
            case rel => exact ⟨k + 1, by omega, by omega, by go_num, HK2⟩
            case measure => simp [intOf]; omega
          · have t1 : (ofC (s[k].toNat : Int) true == 0) = false := beq_eq_false_iff_ne.2 hbl0
            have e : k = E := by have := HK.out; rwa [skipF_stop hlt (by rw [hbt]; exact hbl0)] at this
            clear hbl0 hbt
            subst e
            go_wp2_with (go_at_call 103; refine (of_any _ _ _).mono ?_; rintro e w1 ⟨rfl, rfl⟩)
            go_loop [8] (fun i => ∃ j : Nat, j ≤ fx ∧ i = .int .i64 j ∧ Hid ((if k = fy + 1 then skipB s j else j) = F)) (fun i => (intOf i).toNat)
            case atStart => exact ⟨fx, Nat.le_refl _, rfl, HF⟩
            case round =>
              obtain ⟨j, hj, rfl, HJ⟩ := hrel
              by_cases hke : k = fy + 1
              · have HJ1 : Hid (skipB s j = F) := Lib.hid (by have := HJ.out; rwa [if_pos hke] at this)
                have tk : ((k : Int) == (fy : Int) + 1) = true := by rw [beq_iff_eq]; omega
                clear HJ
                by_cases hj0 : j = 0
                · subst hj0
                  have e : 0 = F := by have := HJ1.out; rwa [skipB_zero] at this
                  subst e
                  clear hke
                  go_wp2_with (first | (go_at_call 103; refine (of_any _ _ _).mono ?_; rintro e w1 ⟨rfl, rfl⟩) | (go_at_call 99; refine (qwithin_any _ _ _ _ _).mono ?_; rintro e w1 ⟨rfl, hbl⟩; obtain ⟨x, rfl⟩ := ovr_of_below hbl; clear hbl))
                  refine bodyPost_ret (v := rngV ((0, (l : Int), (0 : Nat), (l : Int), (k : Int)), true)) (by simp [results, Try.results34, go_sem]) rfl ⟨by rw [HY.out], by (repeat (first | with_reducible exact Below.refl _ _ | (with_reducible refine Below.setCell ?_ ?_ _; rotate_left; · (first | exact Nat.le_refl _ | assumption | omega | (simp; done) | (simp; omega))) | (with_reducible refine Below.alloc ?_ ?_ _; rotate_left; · (first | exact Nat.le_refl _ | assumption | omega | (simp; done) | (simp; omega))) | with_reducible refine below_ovr_of ?_ | with_reducible refine drew_below ?_ _ | with_reducible refine Below.drew ?_ | with_reducible assumption))⟩
                · obtain ⟨i, rfl⟩ : ∃ i, j = i + 1 := ⟨j - 1, by omega⟩
                  have hi : i < s.size := by omega
                  have hiI : (i : Int) < (s.size : Int) := by omega
                  have hi0 : (0 : Int) ≤ (i : Int) := by omega
                  have ei : ((i + 1 : Nat) : Int) - 1 = (i : Int) := by omega
                  have ei0 : decide ((0 : Int) < ((i + 1 : Nat) : Int)) = true := decide_eq_true (by omega)
                  have hbt := byt_at' s i hi
                  by_cases hbl0 : ofC (s[i].toNat : Int) true = 0
                  · have t2 : (ofC (s[i].toNat : Int) true == 0) = true := by rw [beq_iff_eq]; exact hbl0
                    have HJ2 : Hid ((if k = fy + 1 then skipB s i else i) = F) := Lib.hid (by rw [if_pos hke, ← skipB_on (by rw [hbt]; exact hbl0)]; exact HJ1.out)
                    clear hbl0 hbt HJ1 hke
                    go_wp2_with (go_at_call 103; refine (of_any _ _ _).mono ?_; rintro e w1 ⟨rfl, rfl⟩)
                    go_round
                    case rel => exact ⟨i, by omega, by go_num, HJ2⟩
                    case measure => first | (simp [intOf]; done) | (simp [intOf]; omega)
                  · have t2 : (ofC (s[i].toNat : Int) true == 0) = false := beq_eq_false_iff_ne.2 hbl0
                    have e : i + 1 = F := by have := HJ1.out; rwa [skipB_stop (by rw [hbt]; exact hbl0)] at this
                    subst e
                    clear hbl0 hbt HJ1 hke
                    go_wp2_with (first | (go_at_call 103; refine (of_any _ _ _).mono ?_; rintro e w1 ⟨rfl, rfl⟩) | (go_at_call 99; refine (qwithin_any _ _ _ _ _).mono ?_; rintro e w1 ⟨rfl, hbl⟩; obtain ⟨x, rfl⟩ := ovr_of_below hbl; clear hbl))
                    refine bodyPost_ret (v := rngV ((0, (l : Int), ((i + 1 : Nat) : Int), (l : Int), (k : Int)), true)) (by simp [results, Try.results34, go_sem]) rfl ⟨by rw [HY.out], by (repeat (first | with_reducible exact Below.refl _ _ | (with_reducible refine Below.setCell ?_ ?_ _; rotate_left; · (first | exact Nat.le_refl _ | assumption | omega | (simp; done) | (simp; omega))) | (with_reducible refine Below.alloc ?_ ?_ _; rotate_left; · (first | exact Nat.le_refl _ | assumption | omega | (simp; done) | (simp; omega))) | with_reducible refine below_ovr_of ?_ | with_reducible refine drew_below ?_ _ | with_reducible refine Below.drew ?_ | with_reducible assumption))⟩
              · have e : j = F := by have := HJ.out; rwa [if_neg hke] at this
                have tk : ((k : Int) == (fy : Int) + 1) = false := beq_eq_false_iff_ne.2 (by omega)
                subst e
                clear HJ hke
                go_wp2_with (first | (go_at_call 103; refine (of_any _ _ _).mono ?_; rintro e w1 ⟨rfl, rfl⟩) | (go_at_call 99; refine (qwithin_any _ _ _ _ _).mono ?_; rintro e w1 ⟨rfl, hbl⟩; obtain ⟨x, rfl⟩ := ovr_of_below hbl; clear hbl))
                refine bodyPost_ret (v := rngV ((0, (l : Int), (j : Int), (l : Int), (k : Int)), true)) (by simp [results, Try.results34, go_sem]) rfl ⟨by rw [HY.out], by (repeat (first | with_reducible exact Below.refl _ _ | (with_reducible refine Below.setCell ?_ ?_ _; rotate_left; · (first | exact Nat.le_refl _ | assumption | omega | (simp; done) | (simp; omega))) | (with_reducible refine Below.alloc ?_ ?_ _; rotate_left; · (first | exact Nat.le_refl _ | assumption | omega | (simp; done) | (simp; omega))) | with_reducible refine below_ovr_of ?_ | with_reducible refine drew_below ?_ _ | with_reducible refine Below.drew ?_ | with_reducible assumption))⟩
        · have e : k = E := by have := HK.out; rwa [skipF_end (by omega)] at this
          subst e
          have hge : decide (k < s.size) = false := decide_eq_false hlt
          go_wp2_with (go_at_call 103; refine (of_any _ _ _).mono ?_; rintro e w1 ⟨rfl, rfl⟩)
          go_loop [8] (fun i => ∃ j : Nat, j ≤ fx ∧ i = .int .i64 j ∧ Hid ((if k = fy + 1 then skipB s j else j) = F)) (fun i => (intOf i).toNat)
          case atStart => exact ⟨fx, Nat.le_refl _, rfl, HF⟩
          case round =>
            obtain ⟨j, hj, rfl, HJ⟩ := hrel
            by_cases hke : k = fy + 1
            · have HJ1 : Hid (skipB s j = F) := Lib.hid (by have := HJ.out; rwa [if_pos hke] at this)
              have tk : ((k : Int) == (fy : Int) + 1) = true := by rw [beq_iff_eq]; omega
              clear HJ
              by_cases hj0 : j = 0
              · subst hj0
                have e : 0 = F := by have := HJ1.out; rwa [skipB_zero] at this
                subst e
                clear hke
                go_wp2_with (first | (go_at_call 103; refine (of_any _ _ _).mono ?_; rintro e w1 ⟨rfl, rfl⟩) | (go_at_call 99; refine (qwithin_any _ _ _ _ _).mono ?_; rintro e w1 ⟨rfl, hbl⟩; obtain ⟨x, rfl⟩ := ovr_of_below hbl; clear hbl))
                refine bodyPost_ret (v := rngV ((0, (l : Int), (0 : Nat), (l : Int), (k : Int)), true)) (by simp [results, Try.results34, go_sem]) rfl ⟨by rw [HY.out], by (repeat (first | with_reducible exact Below.refl _ _ | (with_reducible refine Below.setCell ?_ ?_ _; rotate_left; · (first | exact Nat.le_refl _ | assumption | omega | (simp; done) | (simp; omega))) | (with_reducible refine Below.alloc ?_ ?_ _; rotate_left; · (first | exact Nat.le_refl _ | assumption | omega | (simp; done) | (simp; omega))) | with_reducible refine below_ovr_of ?_ | with_reducible refine drew_below ?_ _ | with_reducible refine Below.drew ?_ | with_reducible assumption))⟩
              · obtain ⟨i, rfl⟩ : ∃ i, j = i + 1 := ⟨j - 1, by omega⟩
                have hi : i < s.size := by omega
                have hiI : (i : Int) < (s.size : Int) := by omega
                have hi0 : (0 : Int) ≤ (i : Int) := by omega
                have ei : ((i + 1 : Nat) : Int) - 1 = (i : Int) := by omega
                have ei0 : decide ((0 : Int) < ((i + 1 : Nat) : Int)) = true := decide_eq_true (by omega)
                have hbt := byt_at' s i hi
                by_cases hbl0 : ofC (s[i].toNat : Int) true = 0
                · have t2 : (ofC (s[i].toNat : Int) true == 0) = true := by rw [beq_iff_eq]; exact hbl0
                  have HJ2 : Hid ((if k = fy + 1 then skipB s i else i) = F) := Lib.hid (by rw [if_pos hke, ← skipB_on (by rw [hbt]; exact hbl0)]; exact HJ1.out)
                  clear hbl0 hbt HJ1 hke
                  go_wp2_with (go_at_call 103; refine (of_any _ _ _).mono ?_; rintro e w1 ⟨rfl, rfl⟩)
                  go_round
                  case rel => exact ⟨i, by omega, by go_num, HJ2⟩
                  case measure => first | (simp [intOf]; done) | (simp [intOf]; omega)
                · have t2 : (ofC (s[i].toNat : Int) true == 0) = false := beq_eq_false_iff_ne.2 hbl0
                  have e : i + 1 = F := by have := HJ1.out; rwa [skipB_stop (by rw [hbt]; exact hbl0)] at this
                  subst e
                  clear hbl0 hbt HJ1 hke
                  go_wp2_with (first | (go_at_call 103; refine (of_any _ _ _).mono ?_; rintro e w1 ⟨rfl, rfl⟩) | (go_at_call 99; refine (qwithin_any _ _ _ _ _).mono ?_; rintro e w1 ⟨rfl, hbl⟩; obtain ⟨x, rfl⟩ := ovr_of_below hbl; clear hbl))
                  refine bodyPost_ret (v := rngV ((0, (l : Int), ((i + 1 : Nat) : Int), (l : Int), (k : Int)), true)) (by simp [results, Try.results34, go_sem]) rfl ⟨by rw [HY.out], by (repeat (first | with_reducible exact Below.refl _ _ | (with_reducible refine Below.setCell ?_ ?_ _; rotate_left; · (first | exact Nat.le_refl _ | assumption | omega | (simp; done) | (simp; omega))) | (with_reducible refine Below.alloc ?_ ?_ _; rotate_left; · (first | exact Nat.le_refl _ | assumption | omega | (simp; done) | (simp; omega))) | with_reducible refine below_ovr_of ?_ | with_reducible refine drew_below ?_ _ | with_reducible refine Below.drew ?_ | with_reducible assumption))⟩
            · have e : j = F := by have := HJ.out; rwa [if_neg hke] at this
              have tk : ((k : Int) == (fy : Int) + 1) = false := beq_eq_false_iff_ne.2 (by omega)
              subst e
              clear HJ hke
              go_wp2_with (first | (go_at_call 103; refine (of_any _ _ _).mono ?_; rintro e w1 ⟨rfl, rfl⟩) | (go_at_call 99; refine (qwithin_any _ _ _ _ _).mono ?_; rintro e w1 ⟨rfl, hbl⟩; obtain ⟨x, rfl⟩ := ovr_of_below hbl; clear hbl))
              refine bodyPost_ret (v := rngV ((0, (l : Int), (j : Int), (l : Int), (k : Int)), true)) (by simp [results, Try.results34, go_sem]) rfl ⟨by rw [HY.out], by (repeat (first | with_reducible exact Below.refl _ _ | (with_reducible refine Below.setCell ?_ ?_ _; rotate_left; · (first | exact Nat.le_refl _ | assumption | omega | (simp; done) | (simp; omega))) | (with_reducible refine Below.alloc ?_ ?_ _; rotate_left; · (first | exact Nat.le_refl _ | assumption | omega | (simp; done) | (simp; omega))) | with_reducible refine below_ovr_of ?_ | with_reducible refine drew_below ?_ _ | with_reducible refine Below.drew ?_ | with_reducible assumption))⟩
end Go.Proofs.Ytlbbgocggifjaaa
