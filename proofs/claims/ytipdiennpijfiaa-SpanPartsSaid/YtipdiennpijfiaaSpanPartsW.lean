/- The walk of the law SpanParts. Conditions: none beyond what it says. -/
import Derived.Test.YtipdiennpijfiaaSpanParts
import Derived.Test.YtipdiennpijfiaaSpan3
import Derived.Test.YtipdiennpijfiaaKnown6
import Derived.Test.YtipdiennpijfiaaLawKit
import Derived.Test.YtipdiennpijfiaaLine
import Derived.Test.YtipdiennpijfiaaAppStep
import Derived.Deep.RegionHeld3
namespace Go.Proofs.Ytipdiennpijfiaa
open Go.RowKit Go.Shelf

theorem lines_own' {w : World} {base : Nat} {e : TypeId} {v : Value} {L : List ByteArray} {n : Nat} (h : w.ownsRow base e 1 v n (L.map Value.string)) (hn : n = L.length) (hl : L.length ≤ 100000) (hs : ∀ s ∈ L, s.size ≤ 140737488351232) : ∃ a cap, v = .slice a L.length cap ∧ LinesAt w a L := by
  subst hn
  have h' := h
  rcases h.2 with ⟨rfl, h0⟩ | ⟨g, cap, cur, rfl, _, hgb, _⟩
  · have e0 : L = [] := List.eq_nil_of_length_eq_zero h0
    subst e0
    exact ⟨none, 0, rfl, ⟨fun i hi => by simp at hi, by simp, by simp⟩⟩
  · refine ⟨some ⟨g, 0, none⟩, cap, rfl, ⟨fun i hi => ⟨g, 0, rfl, (Array.getElem?_eq_some_iff.1 hgb).1, ?_⟩, by omega, fun s hs' => by have := hs s hs'; omega⟩⟩
    have := World.ownsRow.cells h' (g := g) rfl i (.string (L.getD i .empty)) (by rw [List.getElem?_map, List.getElem?_eq_getElem hi, List.getD_eq_getElem?_getD, List.getElem?_eq_getElem hi]; rfl)
    rw [addr_add] at this
    rw [Nat.zero_add]
    exact this
theorem name_calls {P : Program} {f : FuncId} {args : Array Value} {w : World} {R : Ending → World → Prop} (h : ∀ W, W = w → Calls P f args W R) : Calls P f args w R := h w rfl
/-- Three places in order. -/
def Sorted3 (L : List ByteArray) (a b c d e f : Int) : Prop := plcB L a b = true ∧ plcB L c d = true ∧ plcB L e f = true ∧ lessB c d a b = false ∧ lessB e f c d = false ∧ lessB e f a b = false
theorem ord_two {L : List ByteArray} {a b c d : Int} (h1 : plcB L a b = true) (h2 : plcB L c d = true) : ∃ p q r s, ordB a b c d = (p, q, r, s) ∧ plcB L p q = true ∧ plcB L r s = true ∧ lessB r s p q = false ∧ (∀ e f, lessB e f r s = false → lessB e f a b = false ∧ lessB e f c d = false) := by
  cases h : lessB c d a b with
  | true =>
    refine ⟨c, d, a, b, ordB_yes h, h2, h1, ?_, ?_⟩
    · simp only [lessB, decide_eq_true_eq, decide_eq_false_iff_not] at *; omega
    · intro e f he; simp only [lessB, decide_eq_true_eq, decide_eq_false_iff_not] at *; omega
  | false =>
    refine ⟨a, b, c, d, ordB_no h, h1, h2, h, ?_⟩
    intro e f he; simp only [lessB, decide_eq_false_iff_not] at *; omega
/-- What the law asks of three places in order, in lists. -/
theorem parts_lists {L : List ByteArray} {U V R S Z1 Z2 : Int} (h : Sorted3 L U V R S Z1 Z2) : ∃ (A B C : List ByteArray) (m : Nat) (X Y : ByteArray), spanT L 0 U V R S = A ∧ spanT L 0 R S Z1 Z2 = B ∧ spanT L 0 U V Z1 Z2 = C ∧ A.length = m + 1 ∧ 0 < B.length ∧ A.getD m .empty = X ∧ B.getD 0 .empty = Y ∧ (A.take m ++ [X ++ Y]) ++ B.drop 1 = C ∧ A.length ≤ L.length ∧ B.length ≤ L.length ∧ C.length ≤ L.length := by
  obtain ⟨h1, h2, h3, h4, h5, h6⟩ := h
  have qa := plcB_spec h1
  have qb := plcB_spec h2
  have qc := plcB_spec h3
  obtain ⟨a, rfl⟩ := Int.eq_ofNat_of_zero_le qa.1
  obtain ⟨b, rfl⟩ := Int.eq_ofNat_of_zero_le qb.1
  obtain ⟨c, rfl⟩ := Int.eq_ofNat_of_zero_le qc.1
  have l1 := h4
  have l2 := h5
  have l3 := h6
  simp only [lessB, decide_eq_false_iff_not] at l1 l2 l3
  have v1 : validB L 0 a V b S = true := by rw [validB_char (by omega) (by omega) (by omega), h1, h2, h4]; rfl
  have v2 : validB L 0 b S c Z2 = true := by rw [validB_char (by omega) (by omega) (by omega), h2, h3, h5]; rfl
  have v3 : validB L 0 a V c Z2 = true := by rw [validB_char (by omega) (by omega) (by omega), h1, h3, h6]; rfl
  have n1 := spanT_len v1
  have n2 := spanT_len v2
  have n3 := spanT_len v3
  have hj := span_join h1 h2 h3 h4 h5 h6
  have e1 : (spanT L 0 a V b S).getD (b - a) .empty = cutL L 0 a V b S b := by
    rw [List.getD_eq_getElem?_getD, spanT_at v1 (by omega)]
    simp only [Option.getD_some]
    congr 1; omega
  have e2 : (spanT L 0 b S c Z2).getD 0 .empty = cutL L 0 b S c Z2 b := by
    rw [List.getD_eq_getElem?_getD, spanT_at v2 (by omega)]
    rfl
  exact ⟨_, _, _, b - a, _, _, rfl, rfl, rfl, by omega, by omega, e1, e2, hj, by omega, by omega, by omega⟩
/-- A string just made, as what an append reads. -/
theorem src_new1 (W : World) (a : Value) (t : TypeId) (h1 : a.oneCell' = true) {n : Nat} (hn : n = W.heap.size) : Src (W.alloc (.cells #[a] t)) (some ⟨n, 0, none⟩) 1 1 [a] := by
  subst hn
  refine ⟨rfl, by intro u hu; simp at hu; subst hu; exact h1, .inr ⟨W.heap.size, 0, rfl, by simp, fun j u hj => ?_⟩⟩
  match j, hj with
  | 0, hj => simp at hj; subst hj; simp [go_sem, Addr.add]
theorem LinesAt.piece1 {w : World} {a : Option Addr} {L : List ByteArray} (h : LinesAt w a L) {cap : Nat} (hn : 1 ≤ L.length) (hc : L.length ≤ cap) : LinesAt w (if cap = 1 then a else a.map (·.add 1)) (L.drop 1) := by
  refine ⟨fun i hi => ?_, by have := h.2.1; simp; omega, fun s hs => h.2.2 s (List.mem_of_mem_drop hs)⟩
  rw [List.length_drop] at hi
  obtain ⟨b, off, e, hb, hcell⟩ := h.1 (1 + i) (by omega)
  refine ⟨b, off + 1, ?_, hb, ?_⟩
  · rw [if_neg (by omega), e]
    simp only [Option.map_some, add_none]
  · rw [show off + 1 + i = off + (1 + i) by omega, hcell, List.getD_eq_getElem?_getD, List.getD_eq_getElem?_getD, List.getElem?_drop]
theorem Src.drew {w : World} {A : Option Addr} {m s : Nat} {news : List Value} (h : Src w A m s news) : Src w.drew A m s news := h
theorem sort_three {L : List ByteArray} {u v r s l3 c3 : Int} {k : Bool} (q1 : plcB L u v = true) (q2 : plcB L r s = true) (p3 : plcB L l3 c3 = true) (q3 : lessB r s u v = false) (hk : lessB l3 c3 r s = k) :
    ∃ U V R S Y1 Y2 Z1 Z2, ordB u v Y1 Y2 = (U, V, R, S) ∧ Sorted3 L U V R S Z1 Z2 ∧ ((k = false ∧ Y1 = r ∧ Y2 = s ∧ Z1 = l3 ∧ Z2 = c3) ∨ (k = true ∧ Y1 = l3 ∧ Y2 = c3 ∧ Z1 = r ∧ Z2 = s)) := by
  cases k with
  | false =>
    refine ⟨u, v, r, s, r, s, l3, c3, ordB_no q3, ⟨q1, q2, p3, q3, hk, ?_⟩, .inl ⟨rfl, rfl, rfl, rfl, rfl⟩⟩
    simp only [lessB, decide_eq_false_iff_not] at hk q3 ⊢; omega
  | true =>
    cases h : lessB l3 c3 u v with
    | true =>
      refine ⟨l3, c3, u, v, l3, c3, r, s, ordB_yes h, ⟨p3, q1, q2, ?_, q3, ?_⟩, .inr ⟨rfl, rfl, rfl, rfl, rfl⟩⟩ <;> simp only [lessB, decide_eq_true_eq, decide_eq_false_iff_not] at h hk q3 ⊢ <;> omega
    | false =>
      refine ⟨u, v, l3, c3, l3, c3, r, s, ordB_no h, ⟨q1, p3, q2, h, ?_, q3⟩, .inr ⟨rfl, rfl, rfl, rfl, rfl⟩⟩
      simp only [lessB, decide_eq_true_eq, decide_eq_false_iff_not] at hk ⊢; omega
set_option maxRecDepth 100000 in
set_option maxHeartbeats 8000000 in
theorem spanParts_walk (a : Option Addr) (cap : Nat) (L : List ByteArray) (xa xb xc xd xe xf : Int) (W : World) (hL : LinesAt W a L) (ha : 0 ≤ xa ∧ xa ≤ 65535) (hb : 0 ≤ xb ∧ xb ≤ 65535) (hc : 0 ≤ xc ∧ xc ≤ 65535) (hd : 0 ≤ xd ∧ xd ≤ 65535) (he : 0 ≤ xe ∧ xe ≤ 65535) (hf : 0 ≤ xf ∧ xf ≤ 65535) :
    Calls Try.prog 3 #[.slice a L.length cap, .int .u16 xa, .int .u16 xb, .int .u16 xc, .int .u16 xd, .int .u16 xe, .int .u16 xf] W fun e W' => e = .returned (.bool true) ∧ Below W.heap.size W W' := by
  cases hli : textB L with
  | false =>
    go_enter Try.func3, Try.ntmps3
    go_wp2_with fail
    go_at_call 9; refine (known6_any _).mono ?_; rintro e w1 ⟨rfl, hbl⟩; obtain ⟨x0, rfl⟩ := ovr_of_below hbl; clear hbl
    go_wp2_with fail
    go_at_call 10; refine (text_any _ _ L _ (by (repeat (first | assumption | refine LinesAt.ovr ?_ _ | refine LinesAt.alloc ?_ _ | refine LinesAt.drewN ?_ _ | refine LinesAt.drew ?_)))).mono ?_; rw [hli]; rintro e w1 ⟨rfl, rfl⟩
    go_wp2_with fail
    go_ret
    exact ⟨rfl, by (repeat (first | with_reducible exact Below.refl _ _ | (with_reducible refine Below.setCell ?_ ?_ _; rotate_left; · (first | exact Nat.le_refl _ | assumption | omega | (simp; done) | (simp; omega))) | (with_reducible refine Below.alloc ?_ ?_ _; rotate_left; · (first | exact Nat.le_refl _ | assumption | omega | (simp; done) | (simp; omega))) | with_reducible refine below_ovr_of ?_ | with_reducible refine drew_below ?_ _ | with_reducible refine Below.drew ?_ | with_reducible assumption))⟩
  | true =>
    have HLI := Lib.hid hli
    obtain ⟨h0, hn, htot, _⟩ := text_spec hli
    obtain ⟨l1, c1, hs1, ht1, p1⟩ := seat_facts (L := L) (x := xa) (y := xb) h0 ha.1
    obtain ⟨l2, c2, hs2, ht2, p2⟩ := seat_facts (L := L) (x := xc) (y := xd) h0 hc.1
    obtain ⟨l3, c3, hs3, ht3, p3⟩ := seat_facts (L := L) (x := xe) (y := xf) h0 he.1
    have S1 := Lib.hid hs1
    have T1 := Lib.hid ht1
    have S2 := Lib.hid hs2
    have T2 := Lib.hid ht2
    have S3 := Lib.hid hs3
    have T3 := Lib.hid ht3
    obtain ⟨u, v, r, s, ho, q1, q2, q3, q4⟩ := ord_two p1 p2
    have HO := Lib.hid ho
    clear hs1 ht1 hs2 ht2 hs3 ht3 ho hli p1 p2
    go_enter Try.func3, Try.ntmps3
    go_wp2_with fail
    go_at_call 9; refine (known6_any _).mono ?_; rintro e w1 ⟨rfl, hbl⟩; obtain ⟨x0, rfl⟩ := ovr_of_below hbl; clear hbl
    go_wp2_with fail
    go_at_call 10; refine (text_any _ _ L _ (by (repeat (first | assumption | refine LinesAt.ovr ?_ _ | refine LinesAt.alloc ?_ _ | refine LinesAt.drewN ?_ _ | refine LinesAt.drew ?_)))).mono ?_; rw [HLI.out]; rintro e w1 ⟨rfl, rfl⟩
    go_wp2_with fail
    go_at_call 12; refine (seat_at _ _ L xa xb _ (by (repeat (first | assumption | refine LinesAt.ovr ?_ _ | refine LinesAt.alloc ?_ _ | refine LinesAt.drewN ?_ _ | refine LinesAt.drew ?_))) h0 ha hb S1 T1).mono ?_; rintro e w1 ⟨rfl, hbl⟩; obtain ⟨x1, rfl⟩ := ovr_of_below hbl; clear hbl
    go_wp2_with fail
    go_at_call 12; refine (seat_at _ _ L xc xd _ (by (repeat (first | assumption | refine LinesAt.ovr ?_ _ | refine LinesAt.alloc ?_ _ | refine LinesAt.drewN ?_ _ | refine LinesAt.drew ?_))) h0 hc hd S2 T2).mono ?_; rintro e w1 ⟨rfl, hbl⟩; obtain ⟨x2, rfl⟩ := ovr_of_below hbl; clear hbl
    go_wp2_with fail
    go_at_call 11; refine (order_any _ _ _ _ _).mono ?_; rw [HO.out]; rintro e w1 ⟨rfl, hbl⟩; obtain ⟨x3, rfl⟩ := ovr_of_below hbl; clear hbl
    go_wp2_with fail
    go_at_call 12; refine (seat_at _ _ L xe xf _ (by (repeat (first | assumption | refine LinesAt.ovr ?_ _ | refine LinesAt.alloc ?_ _ | refine LinesAt.drewN ?_ _ | refine LinesAt.drew ?_))) h0 he hf S3 T3).mono ?_; rintro e w1 ⟨rfl, hbl⟩; obtain ⟨x4, rfl⟩ := ovr_of_below hbl; clear hbl
    go_wp2_with fail
    obtain ⟨k, hk⟩ : ∃ k, lessB l3 c3 r s = k := ⟨_, rfl⟩
    have HK := Lib.hid hk
    go_at_call 13; refine (less_any _ _ _ _ _).mono ?_; rw [HK.out]; rintro e w1 ⟨rfl, hbl⟩; obtain ⟨x5, rfl⟩ := ovr_of_below hbl; clear hbl
    obtain ⟨U, V, R, S, Y1, Y2, Z1, Z2, ho2, hS, hsel⟩ := sort_three q1 q2 p3 q3 hk
    have HO2 := Lib.hid ho2
    clear hk q4 ho2
    rcases hsel with ⟨rfl, rfl, rfl, rfl, rfl⟩ | ⟨rfl, rfl, rfl, rfl, rfl⟩
    all_goals (
      go_wp2_with fail
      go_at_call 11; refine (order_any _ _ _ _ _).mono ?_; rw [HO2.out]; rintro e w1 ⟨rfl, hbl⟩; obtain ⟨x6, rfl⟩ := ovr_of_below hbl; clear hbl
      go_wp2_with fail
      refine name_calls ?_
      intro W8 hW8
      obtain ⟨bx, hbx⟩ : ∃ bx, W.heap.size + x0.heap.size + x1.heap.size + x2.heap.size + x3.heap.size = bx := ⟨_, rfl⟩
      have g0 : W8.cell? ⟨bx, 0, none⟩ = some (.int .i64 U) := by rw [hW8, ← hbx]; simp [go_sem]
      have g1 : W8.cell? ⟨bx, 1, none⟩ = some (.int .i64 V) := by rw [hW8, ← hbx]; simp [go_sem]
      have g2 : W8.cell? ⟨bx + 1, 0, none⟩ = some (.int .i64 R) := by rw [hW8, ← hbx]; simp [go_sem]
      have g3 : W8.cell? ⟨bx + 1, 1, none⟩ = some (.int .i64 S) := by rw [hW8, ← hbx]; simp [go_sem]
      have g4 : W8.cell? ⟨bx + 1 + 1 + x4.heap.size, 0, none⟩ = some (.int .i64 Z1) := by rw [hW8, ← hbx]; simp [go_sem]
      have g5 : W8.cell? ⟨bx + 1 + 1 + x4.heap.size, 1, none⟩ = some (.int .i64 Z2) := by rw [hW8, ← hbx]; simp [go_sem]
      have hb8 : Below W.heap.size W W8 := by rw [hW8]; (repeat (first | with_reducible exact Below.refl _ _ | (with_reducible refine Below.setCell ?_ ?_ _; rotate_left; · (first | exact Nat.le_refl _ | assumption | omega | (simp; done) | (simp; omega))) | (with_reducible refine Below.alloc ?_ ?_ _; rotate_left; · (first | exact Nat.le_refl _ | assumption | omega | (simp; done) | (simp; omega))) | with_reducible refine below_ovr_of ?_ | with_reducible refine drew_below ?_ _ | with_reducible refine Below.drew ?_ | with_reducible assumption))
      have hL8 := hL.below hb8 (Nat.le_refl _)
      have lZ : bx + 1 + 1 + x4.heap.size < W8.heap.size := by rw [hW8, ← hbx]; simp; omega
      rw [hbx]
      clear hW8 hbx
      obtain ⟨bz, hbz⟩ : ∃ bz, bx + 1 + 1 + x4.heap.size = bz := ⟨_, rfl⟩
      rw [hbz] at g4 g5 lZ ⊢
      have lY : bx + 1 < W8.heap.size := by omega
      have lX : bx < W8.heap.size := by omega
      obtain ⟨by_, hby⟩ : ∃ by_, bx + 1 = by_ := ⟨_, rfl⟩
      rw [hby] at g2 g3 lY ⊢
      obtain ⟨A, B, C, m, X, Y, hA, hB, hC, hAl, hBl, hX, hY, hABC, k1, k2, k3⟩ := parts_lists hS
      have HA := Lib.hid hA
      have HB := Lib.hid hB
      have HC := Lib.hid hC
      have HAL := Lib.hid hAl
      clear hby hbz HO2 q2 q3 HO S3 T3 S1 T1 S2 T2 HK p3 hA hB hC hS q1 hL hAl
      refine (spanText_cap _ _ L 0 U V R S _ hL8 (by omega)).mono ?_
      rw [HA.out]
      rintro e w9 ⟨ra, rc, rfl, hbl, hRA, hAc⟩
      have f2 := (hbl.cell (p := ⟨by_, 0, none⟩) lY).trans g2
      have f3 := (hbl.cell (p := ⟨by_, 1, none⟩) lY).trans g3
      have f4 := (hbl.cell (p := ⟨bz, 0, none⟩) lZ).trans g4
      have f5 := (hbl.cell (p := ⟨bz, 1, none⟩) lZ).trans g5
      have hL9 := hL8.below hbl (Nat.le_refl _)
      have hb9 := hb8.trans (hbl.mono hb8.size)
      have f0 := (hbl.cell (p := ⟨bx, 0, none⟩) lX).trans g0
      have f1 := (hbl.cell (p := ⟨bx, 1, none⟩) lX).trans g1
      have lX9 := Nat.lt_of_lt_of_le lX hbl.size
      have lY9 := Nat.lt_of_lt_of_le lY hbl.size
      have lZ9 := Nat.lt_of_lt_of_le lZ hbl.size
      clear hbl hL8 hb8 g0 g1 g2 g3 g4 g5 lX lY lZ
      go_wp2_with fail
      go_at_call 14
      refine (spanText_cap _ _ L 0 R S Z1 Z2 _ hL9 (by omega)).mono ?_
      rw [HB.out]
      rintro e w10 ⟨sa, sc, rfl, hbl, hRB, hBc⟩
      have j0 := (hbl.cell (p := ⟨bx, 0, none⟩) lX9).trans f0
      have j1 := (hbl.cell (p := ⟨bx, 1, none⟩) lX9).trans f1
      have j4 := (hbl.cell (p := ⟨bz, 0, none⟩) lZ9).trans f4
      have j5 := (hbl.cell (p := ⟨bz, 1, none⟩) lZ9).trans f5
      have hL10 := hL9.below hbl (Nat.le_refl _)
      have hRA10 := hRA.below hbl (Nat.le_refl _)
      have hb10 := hb9.trans (hbl.mono hb9.size)
      clear hbl hL9 hb9 f0 f1 f2 f3 f4 f5 lX9 lY9 lZ9 hRA
      go_wp2_with fail
      go_at_call 14
      refine (spanText_cap _ _ L 0 U V Z1 Z2 _ hL10 (by omega)).mono ?_
      rw [HC.out]
      rintro e w11 ⟨ta, tc, rfl, hbl, hRC, _⟩
      have hRA11 := hRA10.below hbl (Nat.le_refl _)
      have hRB11 := hRB.below hbl (Nat.le_refl _)
      have hb11 := hb10.trans (hbl.mono hb10.size)
      clear hbl hL10 hb10 j0 j1 j4 j5 hRA10 hRB
      obtain ⟨ga, oa, X', rfl, hga, hcA, hsX, HX⟩ := line_facts' hRA11 (i := m) (by have := HAL.out; omega)
      obtain ⟨gb, ob, Y', rfl, hgb, hcB, hsY, HY⟩ := line_facts' hRB11 (i := 0) hBl
      obtain rfl : X' = X := HX.out.symm.trans hX
      obtain rfl : Y' = Y := HY.out.symm.trans hY
      rw [Nat.add_zero] at hcB
      have hAl := HAL.out
      have hne : ((A.length : Int) == 0) = false := by rw [beq_eq_false_iff_ne]; omega
      have hne2 : ((B.length : Int) == 0) = false := by rw [beq_eq_false_iff_ne]; omega
      have hm1 : (A.length : Int) - 1 = (m : Int) := by omega
      have hm0 : (0 : Int) ≤ (m : Int) := by omega
      have hmA : (m : Int) < (A.length : Int) := by omega
      have hmc : (m : Int) ≤ (rc : Int) := by omega
      have hmAn : m < A.length := by omega
      have hXY : ¬ (9223372036854775807 < X'.size + Y'.size) := by omega
      have hB0 : (0 : Int) < (B.length : Int) := by omega
      have hB1 : (1 : Int) ≤ (B.length : Int) := by omega
      have hSA := Src.of_lines (L := A.take m) (w := w11) (A := some ⟨ga, oa, none⟩) ⟨fun i hi => by
        have hik : i < m ∧ i < A.length := by rw [List.length_take] at hi; omega
        obtain ⟨b', off', e', hb', hcell'⟩ := hRA11.1 i hik.2
        exact ⟨b', off', e', hb', by rw [hcell', List.getD_eq_getElem?_getD, List.getD_eq_getElem?_getD, List.getElem?_take_of_lt hik.1]⟩, by simp; omega, fun u hu => hRA11.2.2 u (List.mem_of_mem_take hu)⟩
      have hAm : (A.take m).length = m := by simp; omega
      rw [hAm] at hSA
      clear hAl hAm HX HY hX hY
      go_wp2_with fail
      obtain ⟨i0, hi, hz0, hz1, hz2⟩ := info_parts infoStr
      have b1 : 0 + m ≤ maxLen := by unfold maxLen; omega
      have b2 : (0 + m) * 16 ≤ 140737488355328 := by omega
      have b3 : m + 1 ≤ maxLen := by unfold maxLen; omega
      have b4 : (m + 1) * 16 ≤ 140737488355328 := by omega
      clear hm1 hne hne2
      go_region_held3 (fun w' => w'.cell? ⟨ga, oa + m, none⟩ = some (.string X') ∧ w'.cell? ⟨gb, ob, none⟩ = some (.string Y')) (((repeat' apply And.intro) <;> first | assumption | (simp [go_sem]; done) | (simp [go_sem, hcA, hcB, hga, hgb]; done) | (simp [go_sem, *]; done))) ((first | (refine step_append_src _ (by rfl) _ _ 22 (by rfl) w11.heap.size 9 i0 (.string ByteArray.empty) 1 16 Try.underlying22 hi hz0 hz1 hz2 rfl (by decide) _ 0 [] (by rfl) (World.ownsRow_nil _ _ _ _) (some ⟨ga, oa, none⟩) m rc ((A.take m).map Value.string) (by rfl) (hSA.below (B := w11.heap.size) (by (repeat (first | with_reducible exact Below.refl _ _ | (with_reducible refine Below.setCell ?_ ?_ _; rotate_left; · (first | exact Nat.le_refl _ | assumption | omega | (simp; done) | (simp; omega))) | (with_reducible refine Below.alloc ?_ ?_ _; rotate_left; · (first | exact Nat.le_refl _ | assumption | omega | (simp; done) | (simp; omega))) | with_reducible refine below_ovr_of ?_ | with_reducible refine drew_below ?_ _ | with_reducible refine Below.drew ?_ | with_reducible assumption))) (Nat.le_refl _)) b1 b2 (by first | exact Nat.le_refl _ | (simp; done) | (simp; omega)) ?_; intro v1 w12 hown1 hgrow1 hat1; rw [Nat.zero_add, List.nil_append] at hown1; have hgb1 := (Below.refl _ _).grown hgrow1 (Nat.le_refl _) (fun r e => by cases (show (none : Option Nat) = some r from e)); have hbe1 : Below w11.heap.size w11 w12 := Below.trans (by (repeat (first | with_reducible exact Below.refl _ _ | (with_reducible refine Below.setCell ?_ ?_ _; rotate_left; · (first | exact Nat.le_refl _ | assumption | omega | (simp; done) | (simp; omega))) | (with_reducible refine Below.alloc ?_ ?_ _; rotate_left; · (first | exact Nat.le_refl _ | assumption | omega | (simp; done) | (simp; omega))) | with_reducible refine below_ovr_of ?_ | with_reducible refine drew_below ?_ _ | with_reducible refine Below.drew ?_ | with_reducible assumption))) (hgb1.mono (by first | exact Nat.le_refl _ | (simp; done) | (simp; omega))); have hv1 : ∀ r, v1.ownBlock = some r → w11.heap.size ≤ r := fun r e => (hown1.lt r e).1; have p0 := (hbe1.cell (p := ⟨ga, oa + m, none⟩) hga).trans hcA; have p1 := (hbe1.cell (p := ⟨gb, ob, none⟩) hgb).trans hcB; have lga := Nat.lt_of_lt_of_le hga hbe1.size; have lgb := Nat.lt_of_lt_of_le hgb hbe1.size; have hs12 := hbe1.size) | (refine step_append_src _ (by rfl) _ _ 22 (by rfl) w11.heap.size 9 i0 (.string ByteArray.empty) 1 16 Try.underlying22 hi hz0 hz1 hz2 rfl (by decide) v1 m ((A.take m).map Value.string) (by rfl) (by first | exact hown1 | exact hown1.alloc _) _ 1 1 [.string (X' ++ Y')] (by rfl) (by first | exact src_new1 _ _ _ rfl rfl | exact (src_new1 _ _ _ rfl rfl).drew.below hgb1 (Nat.le_refl _)) b3 b4 (by first | exact hbe1.size | (have := hbe1.size; simp; omega)) ?_; intro v2 w13 hown2 hgrow2 hat2; have hbe2 : Below w11.heap.size w12 w13 := Below.grown (a := w12) (by (repeat (first | with_reducible exact Below.refl _ _ | (with_reducible refine Below.setCell ?_ ?_ _; rotate_left; · (first | exact Nat.le_refl _ | assumption | omega | (simp; done) | (simp; omega))) | (with_reducible refine Below.alloc ?_ ?_ _; rotate_left; · (first | exact Nat.le_refl _ | assumption | omega | (simp; done) | (simp; omega))) | with_reducible refine below_ovr_of ?_ | with_reducible refine drew_below ?_ _ | with_reducible refine Below.drew ?_ | with_reducible assumption))) hgrow2 (by first | exact hbe1.size | (have := hbe1.size; simp; omega)) hv1; have hbe3 : Below w11.heap.size w11 w13 := hbe1.trans hbe2; have z0 := (hbe3.cell (p := ⟨ga, oa + m, none⟩) hga).trans hcA; have z1 := (hbe3.cell (p := ⟨gb, ob, none⟩) hgb).trans hcB)))
      all_goals (
        have hR2 := Src.of_lines (L := B.drop 1) (w := w11) (A := if sc = 1 then some ⟨gb, ob, none⟩ else (some ⟨gb, ob, none⟩ : Option Addr).map (fun x => x.add 1)) (by
          have := hRB11.piece1 (by omega) hBc
          exact this)
        have hDl : (B.drop 1).length = B.length - 1 := by simp
        rw [hDl] at hR2
        have c1 : m + 1 + (B.length - 1) ≤ maxLen := by unfold maxLen; omega
        have c2 : (m + 1 + (B.length - 1)) * 16 ≤ 140737488355328 := by omega
        have hCl : m + 1 + (B.length - 1) = C.length := by rw [← hABC]; have := HAL.out; simp; omega
        have hv2 : ∀ r, v2.ownBlock = some r → w11.heap.size ≤ r := fun r e => (hown2.lt r e).1
        have hs13 := hbe3.size
        have HAB := Lib.hid hABC
        have HCL := Lib.hid hCl
        clear hABC hCl hown1 hgrow1 hat1 hgrow2 hat2 hcA hcB
        go_wp2_with (at_builtin; refine wpList_append_src _ rfl _ _ 22 rfl w11.heap.size 9 i0 (.string ByteArray.empty) 1 16 Try.underlying22 hi hz0 hz1 hz2 rfl (by decide) v2 (m + 1) ((A.take m).map Value.string ++ [.string (X' ++ Y')]) (by rfl) hown2 _ (B.length - 1) _ ((B.drop 1).map Value.string) rfl (hR2.below hbe3 (Nat.le_refl _)) c1 c2 hs13 ?_; intro v3 w14 hown3 hgrow3 _; have hbe4 : Below w11.heap.size w11 w14 := hbe3.grown hgrow3 hs13 hv2; obtain ⟨za, zc, rfl, hZ⟩ := lines_own' (L := C) (by rw [← HAB.out, List.map_append, List.map_append]; exact hown3) HCL.out (by omega) (fun s hs => hRC.2.2 s hs))
        all_goals (
          go_at_call 15; refine (strings_any _ _ _ _ C C _ hZ (hRC.below hbe4 (Nat.le_refl _))).mono ?_; rintro e w15 ⟨rfl, hbl⟩
          have hb15 := (hb11.trans (hbe4.mono hb11.size)).trans (hbl.mono (by have := hbe4.size; have := hb11.size; omega))
          clear hbl
          go_wp2_with fail
          go_ret
          exact ⟨by simp [sameB], hb15⟩)))
end Go.Proofs.Ytipdiennpijfiaa
