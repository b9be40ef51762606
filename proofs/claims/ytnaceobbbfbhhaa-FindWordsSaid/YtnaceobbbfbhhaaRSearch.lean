/- The contract of the reference's search. Conditions: none beyond what it says. -/
import Derived.Test.YtnaceobbbfbhhaaRAll
import Derived.Test.YtnaceobbbfbhhaaSent6
namespace Go.Proofs.Ytnaceobbbfbhhaa
open Go.RowKit Go.Shelf

theorem rcap_at (n : Int) (w : World) {m : Int} (h : Hid (min n 1073741824 = m)) : Calls Try.prog 90 #[.int .i64 n] w fun e w' => e = .returned (.int .i64 m) ∧ w = w' := by
  have hm := h.out
  go_enter Try.func90, Try.ntmps90
  go_wp2
  all_goals (go_ret; exact ⟨ret_int (by omega), rfl⟩)
theorem filter_step {f : Nat × Nat → Bool} {R : List (Nat × Nat)} {k : Nat} (hk : k < R.length) : (R.take (k + 1)).filter f = (R.take k).filter f ++ (if f (R.getD k (0, 0)) = true then [R.getD k (0, 0)] else []) := by
  rw [take_snoc_getD R (0, 0) k hk, List.filter_append, List.filter_cons, List.filter_nil]
theorem rev_getD {R : List (Nat × Nat)} {k : Nat} (hk : k < R.length) : R.reverse.getD k (0, 0) = R.getD (R.length - 1 - k) (0, 0) := by
  rw [List.getD_eq_getElem?_getD, List.getD_eq_getElem?_getD, List.getElem?_reverse hk]
theorem below_ovr3 {B : Nat} {w W x : World} (h : Below B w W) (hB : B ≤ W.heap.size) : Below B w (ovr W x) := h.trans ((below_ovr W x).mono hB)
theorem name_calls {P : Program} {f : FuncId} {args : Array Value} {w : World} {R : Ending → World → Prop} (h : ∀ W0, W0 = w → Calls P f args W0 R) : Calls P f args w R := h w rfl
set_option maxRecDepth 100000 in
set_option maxHeartbeats 8000000 in
theorem rsearch_fwd (a : Option Addr) (cap : Nat) (L : List ByteArray) (l c : Nat) (n : Int) (t : ByteArray) (w : World) (hL : LinesAt w a L) (htot : L.length + total L ≤ 100000) (ht : t.size ≤ 100000) (hp : plcB L l c = true) (h1 : 1 ≤ n) (hn2 : n ≤ 9223372036854775807) :
    Calls Try.prog 44 #[.slice a L.length cap, .agg #[.int .i64 l, .int .i64 c], .string t, .bool false, .int .i64 n] w fun e w' => e = .returned (movV (searchP L l c t false n)) ∧ Below w.heap.size w w' := by
  have hn := hL.2.1
  obtain ⟨i0, hi, hz0, hz1, hz2⟩ := info_parts infoPos
  have HQ : Hid ((plcB L l c && decide (1 ≤ n)) = true) := Lib.hid (by rw [hp, decide_eq_true h1]; rfl)
  have HRA := Lib.hid (fun (w0 : World) (h0 : LinesAt w0 a L) => rall_any a cap L t w0 h0 htot ht)
  have hRl := (allP_in (L := L) (t := t)).2
  have hRs := allP_sorted L t
  have hrnd := rndP_ref (l := (l : Int)) (c := (c : Int)) hRs false
  have hY := show searchP L l c t false n = if allP L t ≠ [] then fndM ((rndP l c (allP L t) false).getD ((min n 1073741824 - 1) % ((allP L t).length : Int)).toNat (0, 0)) else noMov by
    rw [searchP]
    by_cases h0 : allP L t ≠ []
    · rw [if_pos h0, if_pos ⟨hp, h1, h0⟩]
    · rw [if_neg h0, if_neg (fun h => h0 h.2.2)]
  have hrl := rndP_len (l : Int) (c : Int) false hRs
  obtain ⟨R, hR⟩ : ∃ R, allP L t = R := ⟨_, rfl⟩
  rw [hR] at HRA hRl hrnd hY hrl
  rw [hrnd] at hY hrl
  simp only [Bool.false_eq_true, if_false] at hY hrl
  have hR5 : R.length ≤ 100000 := by omega
  have HBH := Lib.hid (fun (w0 : World) (sa : Option Addr) (scap : Nat) (h0 : PairsAt w0 sa R) => rbehind_any sa scap R l c w0 h0 hR5)
  have HAH := Lib.hid (fun (w0 : World) (sa : Option Addr) (scap : Nat) (h0 : PairsAt w0 sa R) => rahead_any sa scap R l c w0 h0 hR5)
  by_cases h0 : R.length = 0
  · have h0I : (((R.length : Nat) : Int) == 0) = true := by rw [beq_iff_eq]; omega
    have HY := Lib.hid (hY.trans (if_neg (fun h => h (List.eq_nil_of_length_eq_zero h0))))
    clear hp hR hRs hrnd hY hrl h0
    go_enter Try.func44, Try.ntmps44
    go_wp2_with (first | (go_at_call 41; refine (HRA.out _ (by (repeat (first | assumption | refine LinesAt.ovr ?_ _ | refine LinesAt.alloc ?_ _ | refine LinesAt.drewN ?_ _ | refine LinesAt.drew ?_)))).mono ?_; rintro e1 w1 ⟨v, rfl, hrow, hbl⟩; obtain ⟨sa, scap, rfl, hps⟩ := pairs_of_owns hrow; obtain ⟨y1, rfl⟩ := ovr_of_below hbl; clear hbl hrow) | (go_at_call 85; refine (rmay_at _ _ L _ _ _ _ (by (repeat (first | assumption | refine LinesAt.ovr ?_ _ | refine LinesAt.alloc ?_ _ | refine LinesAt.drewN ?_ _ | refine LinesAt.drew ?_))) HQ).mono ?_; rintro e w1 ⟨rfl, hbl⟩; obtain ⟨x, rfl⟩ := ovr_of_below hbl; clear hbl) | (go_at_call 86; refine (rnone_any _).mono ?_; rintro e w1 ⟨rfl, hbl⟩; obtain ⟨x, rfl⟩ := ovr_of_below hbl; clear hbl))
    refine bodyPost_ret (v := movV noMov) (by simp [results, Try.results44, go_sem, noMov]) rfl ⟨by rw [HY.out], by (repeat (first | with_reducible exact Below.refl _ _ | (with_reducible refine Below.setCell ?_ ?_ _; rotate_left; · (first | exact Nat.le_refl _ | assumption | omega | (simp; done) | (simp; omega))) | (with_reducible refine Below.alloc ?_ ?_ _; rotate_left; · (first | exact Nat.le_refl _ | assumption | omega | (simp; done) | (simp; omega))) | with_reducible refine below_ovr_of ?_ | with_reducible refine drew_below ?_ _ | with_reducible refine Below.drew ?_ | with_reducible assumption))⟩
  · have h0I : (((R.length : Nat) : Int) == 0) = false := by rw [beq_eq_false_iff_ne]; omega
    have HY := Lib.hid (hY.trans (if_pos (fun h => h0 (by rw [h]; rfl))))
    have HRL := Lib.hid hrl
    clear hp hR hRs hrnd hY hrl
    go_enter Try.func44, Try.ntmps44
    go_wp2_with (first | (go_at_call 41; refine (HRA.out _ (by (repeat (first | assumption | refine LinesAt.ovr ?_ _ | refine LinesAt.alloc ?_ _ | refine LinesAt.drewN ?_ _ | refine LinesAt.drew ?_)))).mono ?_; rintro e1 w1 ⟨v, rfl, hrow, hbl⟩; obtain ⟨sa, scap, rfl, hps⟩ := pairs_of_owns hrow; obtain ⟨y1, rfl⟩ := ovr_of_below hbl; clear hbl hrow) | (go_at_call 85; refine (rmay_at _ _ L _ _ _ _ (by (repeat (first | assumption | refine LinesAt.ovr ?_ _ | refine LinesAt.alloc ?_ _ | refine LinesAt.drewN ?_ _ | refine LinesAt.drew ?_))) HQ).mono ?_; rintro e w1 ⟨rfl, hbl⟩; obtain ⟨x, rfl⟩ := ovr_of_below hbl; clear hbl))
    have hps1 := hps.ovr x
    refine name_calls ?_
    intro W0 hW0
    rw [← hW0] at hps1
    have cp0 : W0.cell? ⟨w.heap.size, 0, none⟩ = some (.int .i64 l) := by rw [hW0]; simp [go_sem]
    have cp1 : W0.cell? ⟨w.heap.size, 1, none⟩ = some (.int .i64 c) := by rw [hW0]; simp [go_sem]
    have cr0 : W0.cell? ⟨w.heap.size + 1, 0, none⟩ = some (.int .i64 0) := by rw [hW0]; simp [go_sem]
    have cr1 : W0.cell? ⟨w.heap.size + 1, 1, none⟩ = some (.int .i64 0) := by rw [hW0]; simp [go_sem]
    have cr2 : W0.cell? ⟨w.heap.size + 1, 2, none⟩ = some (.int .i64 0) := by rw [hW0]; simp [go_sem]
    have cr3 : W0.cell? ⟨w.heap.size + 1, 3, none⟩ = some (.bool false) := by rw [hW0]; simp [go_sem]
    have cr4 : W0.cell? ⟨w.heap.size + 1, 4, none⟩ = some (.int .i64 0) := by rw [hW0]; simp [go_sem]
    have hbel : Below w.heap.size w W0 := by rw [hW0]; (repeat (first | with_reducible exact Below.refl _ _ | (with_reducible refine Below.setCell ?_ ?_ _; rotate_left; · (first | exact Nat.le_refl _ | assumption | omega | (simp; done) | (simp; omega))) | (with_reducible refine Below.alloc ?_ ?_ _; rotate_left; · (first | exact Nat.le_refl _ | assumption | omega | (simp; done) | (simp; omega))) | with_reducible refine below_ovr_of ?_ | with_reducible refine drew_below ?_ _ | with_reducible refine Below.drew ?_ | with_reducible assumption))
    have cf0 : W0.frozen? ⟨w.heap.size + 1, 0, none⟩ = false := by rw [hW0]; simp [go_sem]
    have cf1 : W0.frozen? ⟨w.heap.size + 1, 1, none⟩ = false := by rw [hW0]; simp [go_sem]
    have cf2 : W0.frozen? ⟨w.heap.size + 1, 2, none⟩ = false := by rw [hW0]; simp [go_sem]
    have cf3 : W0.frozen? ⟨w.heap.size + 1, 3, none⟩ = false := by rw [hW0]; simp [go_sem]
    have cf4 : W0.frozen? ⟨w.heap.size + 1, 4, none⟩ = false := by rw [hW0]; simp [go_sem]
    have lR : w.heap.size + 1 < W0.heap.size := World.block_lt_of_cell? _ _ cr0
    clear hW0 hps
    go_at_call 87
    refine (HBH.out _ _ _ hps1).mono ?_
    rintro e2 w2 ⟨v1, rfl, hrow1, hb1⟩
    obtain ⟨ba, bcap, rfl, _⟩ := pairs_of_owns hrow1
    clear HAH
    clear HRA HQ
    go_wp2_with fail
    go_loopw [13, 14] (fun v i wr => ∃ (k : Nat) (pre : List (Nat × Nat)), k ≤ R.length ∧ i = .int .i64 k ∧ pre.length ≤ R.length + k ∧ Hid (behR (l : Int) (c : Int) R ++ ((R).take k).filter (fun s => !lessB (l : Int) (c : Int) (s.1 : Int) (s.2 : Int)) = pre) ∧ wr.ownsRow W0.heap.size 46 2 v pre.length (cellsV pre) ∧ Below W0.heap.size W0 wr)
      (fun _ i _ => R.length - (intOf i).toNat)
    case atStart => exact ⟨0, behR (l : Int) (c : Int) R, Nat.zero_le _, rfl, by have := behR_len l c R; omega, Lib.hid (by simp), hrow1, hb1⟩
    case round =>
      obtain ⟨k, pre, hk, rfl, hpl, HP, hrow, hB⟩ := hrel
      have gp0 := cell_keep_b hB cp0
      have gp1 := cell_keep_b hB cp1
      have hsB := hB.size
      have hsW := hbel.size
      have lw : w.heap.size < wr.heap.size := by omega
      by_cases hlt : k < R.length
      · have hltI : (k : Int) < (R.length : Int) := by omega
        have hk0 : (0 : Int) ≤ (k : Int) := by omega
        have haV := hps1.below hB (Nat.le_refl _)
        have hst := filter_step (f := fun s => !lessB (l : Int) (c : Int) (s.1 : Int) (s.2 : Int)) (R := R) (k := k) (by first | omega | (simp; omega))
        obtain ⟨g, rfl, hg, d0, d1⟩ := haV k hlt
        obtain ⟨⟨x, y⟩, hxy⟩ : ∃ p, R.getD k (0, 0) = p := ⟨_, rfl⟩
        rw [hxy] at d0 d1 hst
        simp only at d0 d1 hst
        obtain ⟨b, hb⟩ : ∃ b, lessB (l : Int) (c : Int) (x : Int) (y : Int) = b := ⟨_, rfl⟩
        rw [hb] at hst
        have HQ2 := Lib.hid hb
        clear hxy hb haV
        cases b with
        | true =>
          have HP2 : Hid (behR (l : Int) (c : Int) R ++ ((R).take (k + 1)).filter (fun s => !lessB (l : Int) (c : Int) (s.1 : Int) (s.2 : Int)) = pre) := Lib.hid (by rw [hst]; simpa using HP.out)
          clear hst HP
          go_wp2_with fail
          go_at_call 58; refine (rless_at _ _ _ _ _ HQ2).mono ?_; rintro e w1 ⟨rfl, hbl⟩; obtain ⟨zy, rfl⟩ := ovr_of_below hbl; clear hbl
          have hrow1' := own_ovr (x := zy) (hrow.alloc (.cells #[.int .i64 (x : Int), .int .i64 (y : Int)] 46))
          go_wp2_with fail
          go_roundw
          case rel => exact ⟨k + 1, pre, by omega, by go_num, by omega, HP2, hrow1', below_ovr3 (hB.alloc hB.size _) (by simp; omega)⟩
          case measure => simp [intOf]; omega
        | false =>
          have HP2 : Hid (behR (l : Int) (c : Int) R ++ ((R).take (k + 1)).filter (fun s => !lessB (l : Int) (c : Int) (s.1 : Int) (s.2 : Int)) = pre ++ [(x, y)]) := Lib.hid (by rw [hst, ← HP.out]; simp)
          have HC := Lib.hid (cellsV_snoc pre (x, y))
          clear hst HP
          go_wp2_with fail
          go_at_call 58; refine (rless_at _ _ _ _ _ HQ2).mono ?_; rintro e w1 ⟨rfl, hbl⟩; obtain ⟨zy, rfl⟩ := ovr_of_below hbl; clear hbl
          have hrow1' := own_ovr (x := zy) (hrow.alloc (.cells #[.int .i64 (x : Int), .int .i64 (y : Int)] 46))
          have hB1 := below_ovr3 (x := zy) (hB.alloc hB.size (.cells #[.int .i64 (x : Int), .int .i64 (y : Int)] 46)) (by simp; omega)
          go_wp2_with (at_builtin; refine wpList_append_own _ rfl _ _ 48 rfl W0.heap.size 46 i0 (.agg #[.int .i64 0, .int .i64 0]) 2 16 Try.underlying48 hi hz0 hz1 hz2 rfl (by decide) _ _ _ rfl (hrow1'.alloc _) ⟨wr.heap.size + 1 + zy.heap.size, 0, none⟩ 1 1 [.int .i64 (x : Int), .int .i64 (y : Int)] rfl rfl (cell_two_new' (by simp) _ _ _) (by intro u hu; simp at hu; rcases hu with rfl | rfl <;> rfl) (by unfold maxLen; omega) (by omega) (by have := hB1.size; simp at this ⊢; omega) ?_; intro v' w1 hown' hgrow _)
          have hB2 : Below W0.heap.size W0 w1 := (hB1.alloc hB1.size _).grown hgrow (by have := hB1.size; simp at this ⊢; omega) (fun r e => (hrow1'.lt r e).1)
          go_roundw
          case rel => exact ⟨k + 1, pre ++ [(x, y)], by omega, by go_num, by simp; omega, HP2, by rw [HC.out]; simpa using hown', hB2⟩
          case measure => simp [intOf]; omega
      · have hltI : ¬ (k : Int) < (R.length : Int) := by omega
        have e : behR (l : Int) (c : Int) R ++ (R).filter (fun s => !lessB (l : Int) (c : Int) (s.1 : Int) (s.2 : Int)) = pre := by rw [← HP.out, List.take_of_length_le (by first | omega | (simp; omega))]
        have hy := HY.out
        have hpl2 := HRL.out
        rw [e] at hy hpl2
        obtain ⟨i, hii⟩ : ∃ i : Nat, (min n 1073741824 - 1) % (R.length : Int) = (i : Int) := ⟨((min n 1073741824 - 1) % (R.length : Int)).toNat, by have := Int.emod_nonneg (min n 1073741824 - 1) (show (R.length : Int) ≠ 0 by omega); omega⟩
        have hil : i < R.length := by have := Int.emod_lt_of_pos (min n 1073741824 - 1) (show (0 : Int) < (R.length : Int) by omega); omega
        obtain ⟨va, vcap, rfl, hpv⟩ := pairs_of_owns hrow
        obtain ⟨g, rfl, hg, d0, d1⟩ := hpv i (by omega)
        obtain ⟨⟨fx, fy⟩, hxy⟩ : ∃ p, pre.getD i (0, 0) = p := ⟨_, rfl⟩
        rw [hii, Int.toNat_natCast, hxy] at hy
        rw [hxy] at d0 d1
        simp only at d0 d1
        have HR : Hid (searchP L l c t false n = (((fx : Int), (fy : Int), 0, true, -1), true)) := Lib.hid hy
        obtain ⟨m, hm⟩ : ∃ m, min n 1073741824 = m := ⟨_, rfl⟩
        have HM := Lib.hid hm
        rw [hm] at hii
        have hm1 : (0 : Int) ≤ m - 1 := by omega
        have hm2 : m ≤ 1073741824 := by omega
        have hiI : (i : Int) < (R.length : Int) := by omega
        have hi0 : (0 : Int) ≤ (i : Int) := by omega
        have hRp : (0 : Int) < (R.length : Int) := by omega
        have gr0 := cell_keep_b hB cr0
        have gr1 := cell_keep_b hB cr1
        have gr2 := cell_keep_b hB cr2
        have gr3 := cell_keep_b hB cr3
        have gr4 := cell_keep_b hB cr4
        have gf0 : wr.frozen? ⟨w.heap.size + 1, 0, none⟩ = false := (hB.frozen (p := ⟨w.heap.size + 1, 0, none⟩) (by simp; omega)).trans cf0
        have gf1 : wr.frozen? ⟨w.heap.size + 1, 1, none⟩ = false := (hB.frozen (p := ⟨w.heap.size + 1, 1, none⟩) (by simp; omega)).trans cf1
        have gf2 : wr.frozen? ⟨w.heap.size + 1, 2, none⟩ = false := (hB.frozen (p := ⟨w.heap.size + 1, 2, none⟩) (by simp; omega)).trans cf2
        have gf3 : wr.frozen? ⟨w.heap.size + 1, 3, none⟩ = false := (hB.frozen (p := ⟨w.heap.size + 1, 3, none⟩) (by simp; omega)).trans cf3
        have gf4 : wr.frozen? ⟨w.heap.size + 1, 4, none⟩ = false := (hB.frozen (p := ⟨w.heap.size + 1, 4, none⟩) (by simp; omega)).trans cf4
        have lR2 : w.heap.size + 1 < wr.heap.size := by omega
        have hbw : Below w.heap.size w wr := hbel.trans (hB.mono (by omega))
        clear e hy hm hxy HP HY HRL hpv
        go_wp2_with (first | (go_at_call 90; refine (rcap_at _ _ HM).mono ?_; rintro e9 w9 ⟨rfl, rfl⟩) | (go_at_call 89; refine (rjump_any _ _ _).mono ?_; rintro e w1 ⟨rfl, hbl⟩; obtain ⟨zj, rfl⟩ := ovr_of_below hbl; clear hbl))
        refine bodyPost_ret (v := movV (((fx : Int), (fy : Int), 0, true, -1), true)) (by simp [results, Try.results44, go_sem, gr0, gr1, gr2, gr3, gr4, lR2]) rfl ⟨by rw [HR.out], by (repeat (first | with_reducible exact Below.refl _ _ | (with_reducible refine Below.setCell ?_ ?_ _; rotate_left; · (first | exact Nat.le_refl _ | assumption | omega | (simp; done) | (simp; omega))) | (with_reducible refine Below.alloc ?_ ?_ _; rotate_left; · (first | exact Nat.le_refl _ | assumption | omega | (simp; done) | (simp; omega))) | with_reducible refine below_ovr_of ?_ | with_reducible refine drew_below ?_ _ | with_reducible refine Below.drew ?_ | with_reducible assumption))⟩
set_option maxRecDepth 100000 in
set_option maxHeartbeats 8000000 in
theorem rsearch_bwd (a : Option Addr) (cap : Nat) (L : List ByteArray) (l c : Nat) (n : Int) (t : ByteArray) (w : World) (hL : LinesAt w a L) (htot : L.length + total L ≤ 100000) (ht : t.size ≤ 100000) (hp : plcB L l c = true) (h1 : 1 ≤ n) (hn2 : n ≤ 9223372036854775807) :
    Calls Try.prog 44 #[.slice a L.length cap, .agg #[.int .i64 l, .int .i64 c], .string t, .bool true, .int .i64 n] w fun e w' => e = .returned (movV (searchP L l c t true n)) ∧ Below w.heap.size w w' := by
  have hn := hL.2.1
  obtain ⟨i0, hi, hz0, hz1, hz2⟩ := info_parts infoPos
  have HQ : Hid ((plcB L l c && decide (1 ≤ n)) = true) := Lib.hid (by rw [hp, decide_eq_true h1]; rfl)
  have HRA := Lib.hid (fun (w0 : World) (h0 : LinesAt w0 a L) => rall_any a cap L t w0 h0 htot ht)
  have hRl := (allP_in (L := L) (t := t)).2
  have hRs := allP_sorted L t
  have hrnd := rndP_ref (l := (l : Int)) (c := (c : Int)) hRs true
  have hY := show searchP L l c t true n = if allP L t ≠ [] then fndM ((rndP l c (allP L t) true).getD ((min n 1073741824 - 1) % ((allP L t).length : Int)).toNat (0, 0)) else noMov by
    rw [searchP]
    by_cases h0 : allP L t ≠ []
    · rw [if_pos h0, if_pos ⟨hp, h1, h0⟩]
    · rw [if_neg h0, if_neg (fun h => h0 h.2.2)]
  have hrl := rndP_len (l : Int) (c : Int) true hRs
  obtain ⟨R, hR⟩ : ∃ R, allP L t = R := ⟨_, rfl⟩
  rw [hR] at HRA hRl hrnd hY hrl
  rw [hrnd] at hY hrl
  simp only [if_true] at hY hrl
  have hR5 : R.length ≤ 100000 := by omega
  have HBH := Lib.hid (fun (w0 : World) (sa : Option Addr) (scap : Nat) (h0 : PairsAt w0 sa R) => rbehind_any sa scap R l c w0 h0 hR5)
  have HAH := Lib.hid (fun (w0 : World) (sa : Option Addr) (scap : Nat) (h0 : PairsAt w0 sa R) => rahead_any sa scap R l c w0 h0 hR5)
  by_cases h0 : R.length = 0
  · have h0I : (((R.length : Nat) : Int) == 0) = true := by rw [beq_iff_eq]; omega
    have HY := Lib.hid (hY.trans (if_neg (fun h => h (List.eq_nil_of_length_eq_zero h0))))
    clear hp hR hRs hrnd hY hrl h0
    go_enter Try.func44, Try.ntmps44
    go_wp2_with (first | (go_at_call 41; refine (HRA.out _ (by (repeat (first | assumption | refine LinesAt.ovr ?_ _ | refine LinesAt.alloc ?_ _ | refine LinesAt.drewN ?_ _ | refine LinesAt.drew ?_)))).mono ?_; rintro e1 w1 ⟨v, rfl, hrow, hbl⟩; obtain ⟨sa, scap, rfl, hps⟩ := pairs_of_owns hrow; obtain ⟨y1, rfl⟩ := ovr_of_below hbl; clear hbl hrow) | (go_at_call 85; refine (rmay_at _ _ L _ _ _ _ (by (repeat (first | assumption | refine LinesAt.ovr ?_ _ | refine LinesAt.alloc ?_ _ | refine LinesAt.drewN ?_ _ | refine LinesAt.drew ?_))) HQ).mono ?_; rintro e w1 ⟨rfl, hbl⟩; obtain ⟨x, rfl⟩ := ovr_of_below hbl; clear hbl) | (go_at_call 86; refine (rnone_any _).mono ?_; rintro e w1 ⟨rfl, hbl⟩; obtain ⟨x, rfl⟩ := ovr_of_below hbl; clear hbl))
    refine bodyPost_ret (v := movV noMov) (by simp [results, Try.results44, go_sem, noMov]) rfl ⟨by rw [HY.out], by (repeat (first | with_reducible exact Below.refl _ _ | (with_reducible refine Below.setCell ?_ ?_ _; rotate_left; · (first | exact Nat.le_refl _ | assumption | omega | (simp; done) | (simp; omega))) | (with_reducible refine Below.alloc ?_ ?_ _; rotate_left; · (first | exact Nat.le_refl _ | assumption | omega | (simp; done) | (simp; omega))) | with_reducible refine below_ovr_of ?_ | with_reducible refine drew_below ?_ _ | with_reducible refine Below.drew ?_ | with_reducible assumption))⟩
  · have h0I : (((R.length : Nat) : Int) == 0) = false := by rw [beq_eq_false_iff_ne]; omega
    have HY := Lib.hid (hY.trans (if_pos (fun h => h0 (by rw [h]; rfl))))
    have HRL := Lib.hid hrl
    clear hp hR hRs hrnd hY hrl
    go_enter Try.func44, Try.ntmps44
    go_wp2_with (first | (go_at_call 41; refine (HRA.out _ (by (repeat (first | assumption | refine LinesAt.ovr ?_ _ | refine LinesAt.alloc ?_ _ | refine LinesAt.drewN ?_ _ | refine LinesAt.drew ?_)))).mono ?_; rintro e1 w1 ⟨v, rfl, hrow, hbl⟩; obtain ⟨sa, scap, rfl, hps⟩ := pairs_of_owns hrow; obtain ⟨y1, rfl⟩ := ovr_of_below hbl; clear hbl hrow) | (go_at_call 85; refine (rmay_at _ _ L _ _ _ _ (by (repeat (first | assumption | refine LinesAt.ovr ?_ _ | refine LinesAt.alloc ?_ _ | refine LinesAt.drewN ?_ _ | refine LinesAt.drew ?_))) HQ).mono ?_; rintro e w1 ⟨rfl, hbl⟩; obtain ⟨x, rfl⟩ := ovr_of_below hbl; clear hbl))
    have hps1 := hps.ovr x
    refine name_calls ?_
    intro W0 hW0
    rw [← hW0] at hps1
    have cp0 : W0.cell? ⟨w.heap.size, 0, none⟩ = some (.int .i64 l) := by rw [hW0]; simp [go_sem]
    have cp1 : W0.cell? ⟨w.heap.size, 1, none⟩ = some (.int .i64 c) := by rw [hW0]; simp [go_sem]
    have cr0 : W0.cell? ⟨w.heap.size + 1, 0, none⟩ = some (.int .i64 0) := by rw [hW0]; simp [go_sem]
    have cr1 : W0.cell? ⟨w.heap.size + 1, 1, none⟩ = some (.int .i64 0) := by rw [hW0]; simp [go_sem]
    have cr2 : W0.cell? ⟨w.heap.size + 1, 2, none⟩ = some (.int .i64 0) := by rw [hW0]; simp [go_sem]
    have cr3 : W0.cell? ⟨w.heap.size + 1, 3, none⟩ = some (.bool false) := by rw [hW0]; simp [go_sem]
    have cr4 : W0.cell? ⟨w.heap.size + 1, 4, none⟩ = some (.int .i64 0) := by rw [hW0]; simp [go_sem]
    have hbel : Below w.heap.size w W0 := by rw [hW0]; (repeat (first | with_reducible exact Below.refl _ _ | (with_reducible refine Below.setCell ?_ ?_ _; rotate_left; · (first | exact Nat.le_refl _ | assumption | omega | (simp; done) | (simp; omega))) | (with_reducible refine Below.alloc ?_ ?_ _; rotate_left; · (first | exact Nat.le_refl _ | assumption | omega | (simp; done) | (simp; omega))) | with_reducible refine below_ovr_of ?_ | with_reducible refine drew_below ?_ _ | with_reducible refine Below.drew ?_ | with_reducible assumption))
    have cf0 : W0.frozen? ⟨w.heap.size + 1, 0, none⟩ = false := by rw [hW0]; simp [go_sem]
    have cf1 : W0.frozen? ⟨w.heap.size + 1, 1, none⟩ = false := by rw [hW0]; simp [go_sem]
    have cf2 : W0.frozen? ⟨w.heap.size + 1, 2, none⟩ = false := by rw [hW0]; simp [go_sem]
    have cf3 : W0.frozen? ⟨w.heap.size + 1, 3, none⟩ = false := by rw [hW0]; simp [go_sem]
    have cf4 : W0.frozen? ⟨w.heap.size + 1, 4, none⟩ = false := by rw [hW0]; simp [go_sem]
    have lR : w.heap.size + 1 < W0.heap.size := World.block_lt_of_cell? _ _ cr0
    clear hW0 hps
    go_at_call 87
    refine (HBH.out _ _ _ hps1).mono ?_
    rintro e2 w2 ⟨v1, rfl, hrow1, hb1⟩
    obtain ⟨ba, bcap, rfl, _⟩ := pairs_of_owns hrow1
    have hps2 := hps1.below hb1 (Nat.le_refl _)
    have ep0 := cell_keep_b hb1 cp0
    have ep1 := cell_keep_b hb1 cp1
    have er0 := cell_keep_b hb1 cr0
    have er1 := cell_keep_b hb1 cr1
    have er2 := cell_keep_b hb1 cr2
    have er3 := cell_keep_b hb1 cr3
    have er4 := cell_keep_b hb1 cr4
    have hsb1 := hb1.size
    have ef0 : w2.frozen? ⟨w.heap.size + 1, 0, none⟩ = false := (hb1.frozen (p := ⟨w.heap.size + 1, 0, none⟩) (by simp; omega)).trans cf0
    have ef1 : w2.frozen? ⟨w.heap.size + 1, 1, none⟩ = false := (hb1.frozen (p := ⟨w.heap.size + 1, 1, none⟩) (by simp; omega)).trans cf1
    have ef2 : w2.frozen? ⟨w.heap.size + 1, 2, none⟩ = false := (hb1.frozen (p := ⟨w.heap.size + 1, 2, none⟩) (by simp; omega)).trans cf2
    have ef3 : w2.frozen? ⟨w.heap.size + 1, 3, none⟩ = false := (hb1.frozen (p := ⟨w.heap.size + 1, 3, none⟩) (by simp; omega)).trans cf3
    have ef4 : w2.frozen? ⟨w.heap.size + 1, 4, none⟩ = false := (hb1.frozen (p := ⟨w.heap.size + 1, 4, none⟩) (by simp; omega)).trans cf4
    clear cp0 cp1 cr0 cr1 cr2 cr3 cr4 cf0 cf1 cf2 cf3 cf4 hps1 hrow1
    go_wp2_with fail
    go_at_call 88
    refine (HAH.out _ _ _ hps2).mono ?_
    rintro e3 w3 ⟨v2, rfl, hrow2, hb2⟩
    obtain ⟨ba2, bcap2, rfl, _⟩ := pairs_of_owns hrow2
    clear HAH
    clear HRA HQ
    go_wp2_with fail
    go_loopw [13, 14] (fun v i wr => ∃ (k : Nat) (pre : List (Nat × Nat)), k ≤ R.length ∧ i = .int .i64 k ∧ pre.length ≤ R.length + k ∧ Hid (ahdR (l : Int) (c : Int) R ++ ((R.reverse).take k).filter (fun s => !lessB (s.1 : Int) (s.2 : Int) (l : Int) (c : Int)) = pre) ∧ wr.ownsRow w2.heap.size 46 2 v pre.length (cellsV pre) ∧ Below w2.heap.size w2 wr)
      (fun _ i _ => R.length - (intOf i).toNat)
    case atStart => exact ⟨0, ahdR (l : Int) (c : Int) R, Nat.zero_le _, rfl, by have := ahdR_len l c R; omega, Lib.hid (by simp), hrow2, hb2⟩
    case round =>
      obtain ⟨k, pre, hk, rfl, hpl, HP, hrow, hB⟩ := hrel
      have gp0 := cell_keep_b hB ep0
      have gp1 := cell_keep_b hB ep1
      have hsB := hB.size
      have hsW := hbel.size
      have lw : w.heap.size < wr.heap.size := by omega
      by_cases hlt : k < R.length
      · have hltI : (k : Int) < (R.length : Int) := by omega
        have hk0 : (0 : Int) ≤ (k : Int) := by omega
        have haV := hps2.below hB (Nat.le_refl _)
        have hst := filter_step (f := fun s => !lessB (s.1 : Int) (s.2 : Int) (l : Int) (c : Int)) (R := R.reverse) (k := k) (by first | omega | (simp; omega))
        obtain ⟨q, hq⟩ : ∃ q, R.length - 1 - k = q := ⟨_, rfl⟩
        have hql : q < R.length := by omega
        rw [rev_getD (by omega), hq] at hst
        have eq : (R.length : Int) - 1 - (k : Int) = (q : Int) := by omega
        clear hq
        obtain ⟨g, rfl, hg, d0, d1⟩ := haV q hql
        obtain ⟨⟨x, y⟩, hxy⟩ : ∃ p, R.getD q (0, 0) = p := ⟨_, rfl⟩
        rw [hxy] at d0 d1 hst
        simp only at d0 d1 hst
        have hqI : (q : Int) < (R.length : Int) := by omega
        have hq0 : (0 : Int) ≤ (q : Int) := by omega
        obtain ⟨b, hb⟩ : ∃ b, lessB (x : Int) (y : Int) (l : Int) (c : Int) = b := ⟨_, rfl⟩
        rw [hb] at hst
        have HQ2 := Lib.hid hb
        clear hxy hb haV
        cases b with
        | true =>
          have HP2 : Hid (ahdR (l : Int) (c : Int) R ++ ((R.reverse).take (k + 1)).filter (fun s => !lessB (s.1 : Int) (s.2 : Int) (l : Int) (c : Int)) = pre) := Lib.hid (by rw [hst]; simpa using HP.out)
          clear hst HP
          go_wp2_with fail
          go_at_call 58; refine (rless_at _ _ _ _ _ HQ2).mono ?_; rintro e w1 ⟨rfl, hbl⟩; obtain ⟨zy, rfl⟩ := ovr_of_below hbl; clear hbl
          have hrow1' := own_ovr (x := zy) (hrow.alloc (.cells #[.int .i64 (x : Int), .int .i64 (y : Int)] 46))
          go_wp2_with fail
          go_roundw
          case rel => exact ⟨k + 1, pre, by omega, by go_num, by omega, HP2, hrow1', below_ovr3 (hB.alloc hB.size _) (by simp; omega)⟩
          case measure => simp [intOf]; omega
        | false =>
          have HP2 : Hid (ahdR (l : Int) (c : Int) R ++ ((R.reverse).take (k + 1)).filter (fun s => !lessB (s.1 : Int) (s.2 : Int) (l : Int) (c : Int)) = pre ++ [(x, y)]) := Lib.hid (by rw [hst, ← HP.out]; simp)
          have HC := Lib.hid (cellsV_snoc pre (x, y))
          clear hst HP
          go_wp2_with fail
          go_at_call 58; refine (rless_at _ _ _ _ _ HQ2).mono ?_; rintro e w1 ⟨rfl, hbl⟩; obtain ⟨zy, rfl⟩ := ovr_of_below hbl; clear hbl
          have hrow1' := own_ovr (x := zy) (hrow.alloc (.cells #[.int .i64 (x : Int), .int .i64 (y : Int)] 46))
          have hB1 := below_ovr3 (x := zy) (hB.alloc hB.size (.cells #[.int .i64 (x : Int), .int .i64 (y : Int)] 46)) (by simp; omega)
          go_wp2_with (at_builtin; refine wpList_append_own _ rfl _ _ 48 rfl w2.heap.size 46 i0 (.agg #[.int .i64 0, .int .i64 0]) 2 16 Try.underlying48 hi hz0 hz1 hz2 rfl (by decide) _ _ _ rfl (hrow1'.alloc _) ⟨wr.heap.size + 1 + zy.heap.size, 0, none⟩ 1 1 [.int .i64 (x : Int), .int .i64 (y : Int)] rfl rfl (cell_two_new' (by simp) _ _ _) (by intro u hu; simp at hu; rcases hu with rfl | rfl <;> rfl) (by unfold maxLen; omega) (by omega) (by have := hB1.size; simp at this ⊢; omega) ?_; intro v' w1 hown' hgrow _)
          have hB2 : Below w2.heap.size w2 w1 := (hB1.alloc hB1.size _).grown hgrow (by have := hB1.size; simp at this ⊢; omega) (fun r e => (hrow1'.lt r e).1)
          go_roundw
          case rel => exact ⟨k + 1, pre ++ [(x, y)], by omega, by go_num, by simp; omega, HP2, by rw [HC.out]; simpa using hown', hB2⟩
          case measure => simp [intOf]; omega
      · have hltI : ¬ (k : Int) < (R.length : Int) := by omega
        have e : ahdR (l : Int) (c : Int) R ++ (R.reverse).filter (fun s => !lessB (s.1 : Int) (s.2 : Int) (l : Int) (c : Int)) = pre := by rw [← HP.out, List.take_of_length_le (by first | omega | (simp; omega))]
        have hy := HY.out
        have hpl2 := HRL.out
        rw [e] at hy hpl2
        obtain ⟨i, hii⟩ : ∃ i : Nat, (min n 1073741824 - 1) % (R.length : Int) = (i : Int) := ⟨((min n 1073741824 - 1) % (R.length : Int)).toNat, by have := Int.emod_nonneg (min n 1073741824 - 1) (show (R.length : Int) ≠ 0 by omega); omega⟩
        have hil : i < R.length := by have := Int.emod_lt_of_pos (min n 1073741824 - 1) (show (0 : Int) < (R.length : Int) by omega); omega
        obtain ⟨va, vcap, rfl, hpv⟩ := pairs_of_owns hrow
        obtain ⟨g, rfl, hg, d0, d1⟩ := hpv i (by omega)
        obtain ⟨⟨fx, fy⟩, hxy⟩ : ∃ p, pre.getD i (0, 0) = p := ⟨_, rfl⟩
        rw [hii, Int.toNat_natCast, hxy] at hy
        rw [hxy] at d0 d1
        simp only at d0 d1
        have HR : Hid (searchP L l c t true n = (((fx : Int), (fy : Int), 0, true, -1), true)) := Lib.hid hy
        obtain ⟨m, hm⟩ : ∃ m, min n 1073741824 = m := ⟨_, rfl⟩
        have HM := Lib.hid hm
        rw [hm] at hii
        have hm1 : (0 : Int) ≤ m - 1 := by omega
        have hm2 : m ≤ 1073741824 := by omega
        have hiI : (i : Int) < (R.length : Int) := by omega
        have hi0 : (0 : Int) ≤ (i : Int) := by omega
        have hRp : (0 : Int) < (R.length : Int) := by omega
        have gr0 := cell_keep_b hB er0
        have gr1 := cell_keep_b hB er1
        have gr2 := cell_keep_b hB er2
        have gr3 := cell_keep_b hB er3
        have gr4 := cell_keep_b hB er4
        have gf0 : wr.frozen? ⟨w.heap.size + 1, 0, none⟩ = false := (hB.frozen (p := ⟨w.heap.size + 1, 0, none⟩) (by simp; omega)).trans ef0
        have gf1 : wr.frozen? ⟨w.heap.size + 1, 1, none⟩ = false := (hB.frozen (p := ⟨w.heap.size + 1, 1, none⟩) (by simp; omega)).trans ef1
        have gf2 : wr.frozen? ⟨w.heap.size + 1, 2, none⟩ = false := (hB.frozen (p := ⟨w.heap.size + 1, 2, none⟩) (by simp; omega)).trans ef2
        have gf3 : wr.frozen? ⟨w.heap.size + 1, 3, none⟩ = false := (hB.frozen (p := ⟨w.heap.size + 1, 3, none⟩) (by simp; omega)).trans ef3
        have gf4 : wr.frozen? ⟨w.heap.size + 1, 4, none⟩ = false := (hB.frozen (p := ⟨w.heap.size + 1, 4, none⟩) (by simp; omega)).trans ef4
        have lR2 : w.heap.size + 1 < wr.heap.size := by omega
        have hbw : Below w.heap.size w wr := (hbel.trans (hb1.mono (by omega))).trans (hB.mono (by omega))
        clear e hy hm hxy HP HY HRL hpv
        go_wp2_with (first | (go_at_call 90; refine (rcap_at _ _ HM).mono ?_; rintro e9 w9 ⟨rfl, rfl⟩) | (go_at_call 89; refine (rjump_any _ _ _).mono ?_; rintro e w1 ⟨rfl, hbl⟩; obtain ⟨zj, rfl⟩ := ovr_of_below hbl; clear hbl))
        refine bodyPost_ret (v := movV (((fx : Int), (fy : Int), 0, true, -1), true)) (by simp [results, Try.results44, go_sem, gr0, gr1, gr2, gr3, gr4, lR2]) rfl ⟨by rw [HR.out], by (repeat (first | with_reducible exact Below.refl _ _ | (with_reducible refine Below.setCell ?_ ?_ _; rotate_left; · (first | exact Nat.le_refl _ | assumption | omega | (simp; done) | (simp; omega))) | (with_reducible refine Below.alloc ?_ ?_ _; rotate_left; · (first | exact Nat.le_refl _ | assumption | omega | (simp; done) | (simp; omega))) | with_reducible refine below_ovr_of ?_ | with_reducible refine drew_below ?_ _ | with_reducible refine Below.drew ?_ | with_reducible assumption))⟩
end Go.Proofs.Ytnaceobbbfbhhaa
