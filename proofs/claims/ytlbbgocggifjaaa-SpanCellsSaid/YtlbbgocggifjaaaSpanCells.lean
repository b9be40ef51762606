/- The walk of the law SpanCells. Conditions: none beyond what it says. -/
import Derived.Test.YtlbbgocggifjaaaCellsLawP
import Derived.Test.YtlbbgocggifjaaaKnown6
import Derived.Test.YtlbbgocggifjaaaStill
import Derived.Test.YtlbbgocggifjaaaSpanBox
import Derived.Test.YtlbbgocggifjaaaRSize
import Derived.Test.YtlbbgocggifjaaaLawKit
namespace Go.Proofs.Ytlbbgocggifjaaa
open Go.RowKit Go.Shelf

attribute [local go_sem] Oper.semAt_some
set_option maxRecDepth 100000 in
set_option maxHeartbeats 16000000 in
theorem spanCells_walk (a : Option Addr) (cap : Nat) (L : List ByteArray) (sm : Int) (w : World) (hL : LinesAt w a L) (hsm : 0 ≤ sm ∧ sm ≤ 255) :
    Calls Try.prog 3 #[.slice a L.length cap, .int .u8 sm] w fun e w' => e = .returned (.bool true) ∧ Below w.heap.size w w' := by
  cases hli : lightB L with
  | false =>
    go_enter Try.func3, Try.ntmps3
    go_wp2_with (first | (go_at_call 21; refine (known6_any _).mono ?_; rintro e w1 ⟨rfl, hbl⟩; obtain ⟨x, rfl⟩ := ovr_of_below hbl; clear hbl) | (go_at_call 22; refine (light_any _ _ L _ (by (repeat (first | assumption | refine LinesAt.ovr ?_ _ | refine LinesAt.alloc ?_ _ | refine LinesAt.drewN ?_ _ | refine LinesAt.drew ?_)))).mono ?_; rintro e w1 ⟨rfl, rfl⟩))
    refine bodyPost_ret (v := .bool true) (by simp [results, Try.results3, go_sem]) rfl ⟨rfl, by (repeat (first | with_reducible exact Below.refl _ _ | (with_reducible refine Below.setCell ?_ ?_ _; rotate_left; · (first | exact Nat.le_refl _ | assumption | omega | (simp; done) | (simp; omega))) | (with_reducible refine Below.alloc ?_ ?_ _; rotate_left; · (first | exact Nat.le_refl _ | assumption | omega | (simp; done) | (simp; omega))) | with_reducible refine below_ovr_of ?_ | with_reducible refine drew_below ?_ _ | with_reducible refine Below.drew ?_ | with_reducible assumption))⟩
  | true =>
    obtain ⟨hl40, hl12, _⟩ := light_spec hli
    have HLI := Lib.hid hli
    have htot : L.length + total L ≤ 100000 := by omega
    have hnil : ∀ (B : Nat) (w : World), (binOp BinOp.eql 26 (.func (.func 96) #[] #[.pointer (some ⟨B, 0, none⟩)]) .nilFunc).run Try.prog w = .ok (.bool false) w := fun _ _ => by kernel_rfl
    clear hli
    refine (callsIn_wide (n := 9)).1 ?_
    refine callsIn_of_wp_marks Try.func3 rfl trivial ?_ rfl
    simp only [Try.ntmps3, List.size_toArray, List.length_cons, List.length_nil, Nat.reduceAdd, Nat.reduceSub, Array.replicate_succ, Array.replicate_zero, List.push_toArray, List.append_toArray, List.nil_append, List.cons_append]
    gi_wp2_with (first
      | (gi_at_call 21; refine (callsIn_wide.2 (known6_any _)).mono ?_; rintro e1 w1 ⟨rfl, hbl⟩; obtain ⟨x1, rfl⟩ := ovr_of_below hbl; clear hbl)
      | (gi_at_call 22; refine (callsIn_wide.2 (light_any _ _ L _ (by (repeat (first | assumption | refine LinesAt.ovr ?_ _ | refine LinesAt.alloc ?_ _ | refine LinesAt.drewN ?_ _ | refine LinesAt.drew ?_))))).mono ?_; rw [HLI.out]; rintro e1 w1 ⟨rfl, rfl⟩)
      | (gi_at_call 23; refine (callsIn_wide.2 (pcells_any _ _ L _)).mono ?_; rintro e1 w1 ⟨rfl, rfl⟩))
    obtain ⟨Tb, hTb⟩ : ∃ Tb, w.heap.size + 1 + 1 + x1.heap.size = Tb := ⟨_, rfl⟩
    rw [hTb]
    refine name_worldIn ?_
    intro W1 hW1
    have hmx : Try.prog.follows .mixedOrders = true := by kernel_rfl
    have cH : W1.cell? ⟨w.heap.size, 0, none⟩ = some (.slice a L.length cap) := by rw [hW1]; simp [go_sem]
    have cR : W1.cell? ⟨w.heap.size + 1, 0, none⟩ = some (.bool false) := by rw [hW1]; simp [go_sem]
    have fR : W1.frozen? ⟨w.heap.size + 1, 0, none⟩ = false := by rw [hW1]; simp [go_sem]
    have cB : W1.cell? ⟨Tb, 0, none⟩ = some (.slice a L.length cap) := by rw [hW1, ← hTb]; simp [go_sem]
    have b1 : Boxed W1 (Tb + 1) 3 (.int .i64 (0 : Nat)) := by rw [hW1]; exact ((boxP_new1 _ _ _ (by rw [← hTb]; simp)).alloc _).alloc _
    have b2 : Boxed W1 (Tb + 1 + 1) 3 (.int .i64 (0 : Nat)) := by rw [hW1]; exact (boxP_new1 _ _ _ (by rw [← hTb]; simp)).alloc _
    have b3 : Boxed W1 (Tb + 1 + 1 + 1) 3 (.int .i64 (0 : Nat)) := by rw [hW1]; exact boxP_new1 _ _ _ (by rw [← hTb]; simp)
    have hbel : Below w.heap.size w W1 := by rw [hW1]; (repeat (first | with_reducible exact Below.refl _ _ | (with_reducible refine Below.setCell ?_ ?_ _; rotate_left; · (first | exact Nat.le_refl _ | assumption | omega | (simp; done) | (simp; omega))) | (with_reducible refine Below.alloc ?_ ?_ _; rotate_left; · (first | exact Nat.le_refl _ | assumption | omega | (simp; done) | (simp; omega))) | with_reducible refine below_ovr_of ?_ | with_reducible refine drew_below ?_ _ | with_reducible refine Below.drew ?_ | with_reducible assumption))
    have hsz : W1.heap.size = Tb + 1 + 1 + 1 + 1 := by rw [hW1, ← hTb]; simp
    have hTw : w.heap.size + 1 + 1 ≤ Tb := by omega
    have hLW := hL.below hbel (Nat.le_refl _)
    have hbelS := hbel.size
    have hab : 0 < L.length → ∀ b off, a = some ⟨b, off, none⟩ → b < w.heap.size := fun h0 b off e => by
      obtain ⟨b', off', e', hlt, _⟩ := hL.1 0 h0
      rw [e] at e'
      cases e'
      exact hlt
    have hab2 : 0 < L.length → ∀ b off, a = some ⟨b, off, none⟩ → b < W1.heap.size ∧ b ∉ [Tb + 1, Tb + 1 + 1, Tb + 1 + 1 + 1] := fun h0 b off e => by
      have := hab h0 b off e
      exact ⟨by omega, by simp; omega⟩
    clear hW1 hTb
    have hK1 : ∀ X Y, But W1.heap.size [Tb + 1, Tb + 1 + 1, Tb + 1 + 1 + 1] X Y → X.cell? ⟨Tb, 0, none⟩ = some (.slice a L.length cap) → LinesAt X a L → Y.cell? ⟨Tb, 0, none⟩ = some (.slice a L.length cap) ∧ LinesAt Y a L := fun X Y h hc hl =>
      ⟨(h.cell (by omega) (by simp <;> omega)).trans hc, lines_but h hl hab2⟩
    have HAB := Lib.hid hab
    have HAB2 := Lib.hid hab2
    have HK1 := Lib.hid hK1
    clear hab hab2 hK1
    have hOwn : OwnFrom W1.heap.size (fun (pre : List (Cel 100000)) W => ∃ l i : Nat, NextC L (pre.map Subtype.val) l i ∧ Boxed W (Tb + 1) 3 (.int .i64 (l : Nat)) ∧ Boxed W (Tb + 1 + 1) 3 (.int .i64 (i : Nat)) ∧ Boxed W (Tb + 1 + 1 + 1) 3 (.int .i64 (pre.length : Nat)) ∧ But W1.heap.size [Tb + 1, Tb + 1 + 1, Tb + 1 + 1 + 1] W1 W) := fun pre X Y row hs hg hr => by
      obtain ⟨l, i, h1, h2, h3, h4, h5⟩ := hs
      exact ⟨l, i, h1, box_own (β := Unit) _ _ _ _ () X Y row h2 hg hr, box_own (β := Unit) _ _ _ _ () X Y row h3 hg hr, box_own (β := Unit) _ _ _ _ () X Y row h4 hg hr, h5.grown (by have := h5.size; omega) hg (fun r e => by have := (hr r e).1; omega)⟩
    refine wpIn_rangeFunc_ownH rfl (by omega) (gf := 96) (lb := #[.pointer (some ⟨Tb, 0, none⟩)]) rfl trivial (enters_of Try.func96 (by kernel_rfl) rfl)
      (cells_stopsK (But W1.heap.size [Tb + 1, Tb + 1 + 1, Tb + 1 + 1 + 1]) Tb 100000 a cap L W1 htot htot cB hLW HK1.out) (fun h k => But.trans h k) (butK_b (Nat.le_refl _)) (Below.refl _ _) (fun _ => rfl)
      _
      (fun k pre W => k = .ret ∧ ¬ (pre.map Subtype.val <+: cellP L))
      hOwn
      (fun k pre X Y row hs hg hr => hs)
      ⟨0, 0, nextC_start L, b1, b2, b3, But.refl _ _ _⟩
      (fun x a' W => ∃ Bx, W1.heap.size ≤ Bx ∧ BoxP W Bx 29 (.int .i64 (x.1.1 : Int)) (.int .i64 (x.1.2 : Int)) ∧ a' = { tmps := #[.slice a L.length cap, .int .u8 sm, .pointer (some ⟨w.heap.size, 0, none⟩), undef, .pointer (some ⟨w.heap.size + 1, 0, none⟩), .func (.func 96) #[] #[.pointer (some ⟨Tb, 0, none⟩)], .pointer (some ⟨Tb + 1, 0, none⟩), .pointer (some ⟨Tb + 1 + 1, 0, none⟩), .pointer (some ⟨Tb + 1 + 1 + 1, 0, none⟩), .pointer (some ⟨Bx, 0, none⟩), .int .u8 (bytA L x.1), undef, undef, .bool true, .bool false, .slice a L.length cap, .bool true, .bool false, .slice a L.length cap, .func (.func 96) #[] #[.pointer (some ⟨Tb, 0, none⟩)], .func (.func 96) #[] #[.pointer (some ⟨Tb, 0, none⟩)], .bool false, .func (.func 96) #[] #[.pointer (some ⟨Tb, 0, none⟩)], .agg #[.int .i64 (x.1.1 : Int), .int .i64 (x.1.2 : Int)], .int .u8 (bytA L x.1), undef, undef, undef, undef, undef, undef, undef, undef, undef, undef, undef, undef, undef, undef, undef, undef, undef, undef, undef, undef, undef, undef, undef, undef, undef, undef, undef, undef, undef, undef, undef, undef, undef, undef, undef, undef, undef, undef, undef, undef, undef, undef, undef, undef, undef, undef, undef, undef, undef, undef, undef, undef, undef, undef, undef, undef, undef, undef, undef, undef, undef, undef, undef, undef], defers := [] })
      (fun x a' _ X Y row ⟨Bx, h1, h2, h3⟩ hg hr => ⟨Bx, h1, BoxP.own (β := Unit) Bx _ _ _ _ () X Y row h2 hg hr, h3⟩)
      ?assign ?body ?done ?stop
    case assign =>
      intro l' pre x W K hI hK
      gi_wp2
      refine hK _ _ ((KeepsOthers.alloc W _).from _) ((But.refl _ _ W).alloc ?_ _) (hOwn.alloc _ hI) ⟨W.heap.size, ?_, boxP_new2 W _ _ _, rfl⟩
      · obtain ⟨_, _, _, _, _, _, h⟩ := hI
        exact h.size
      · obtain ⟨_, _, _, _, _, _, h⟩ := hI
        exact h.size
    case body =>
      rintro l' pre x a' W _ _ ⟨l0, i0, hN0, hl0, hi0, hn0, hB0⟩ ⟨Bx, hBx, hx, rfl⟩ hpl
      have hxl := hx.lt
      gi_wp2
      gi_loopw [] (fun wr => ∃ l i : Nat, Hid (NextC L (pre.map Subtype.val) l i) ∧ Boxed wr (Tb + 1) 3 (.int .i64 (l : Nat)) ∧ Boxed wr (Tb + 1 + 1) 3 (.int .i64 (i : Nat)) ∧ Boxed wr (Tb + 1 + 1 + 1) 3 (.int .i64 (pre.length : Nat)) ∧ But W1.heap.size [Tb + 1, Tb + 1 + 1, Tb + 1 + 1 + 1] W1 wr ∧ But W1.heap.size [Tb + 1, Tb + 1 + 1, Tb + 1 + 1 + 1] W wr ∧ KeepsOthers W wr ∧ BoxP wr Bx 29 (.int .i64 (x.1.1 : Int)) (.int .i64 (x.1.2 : Int)))
        (fun wr => L.length - (intOf ((wr.cell? ⟨Tb + 1, 0, none⟩).getD undef)).toNat)
      case atStart => exact ⟨l0, i0, Lib.hid hN0, hl0, hi0, hn0, hB0, But.refl _ _ _, KeepsOthers.refl _, hx⟩
      case round =>
        obtain ⟨l, i, HN, hl, hi, hn, hB, hBW, hKW, hxw⟩ := hrel
        clear hN0 hl0 hi0 hn0 hB0 hx
        have hlc := hl.cell
        have hic := hi.cell
        have hnc := hn.cell
        have hlf := hl.frozen
        have hif := hi.frozen
        have hnf := hn.frozen
        have hll := hl.lt
        have hil := hi.lt
        have hnl := hn.lt
        have hx0 := hxw.c0
        have hx1 := hxw.c1
        have hxlt := hxw.lt
        have n1 : ¬ Bx = Tb + 1 := by omega
        have n2 : ¬ Bx = Tb + 1 + 1 := by omega
        have n3 : ¬ Bx = Tb + 1 + 1 + 1 := by omega
        have gH : wr.cell? ⟨w.heap.size, 0, none⟩ = some (.slice a L.length cap) := (hB.cell (by omega) (by simp <;> omega)).trans cH
        have gR : wr.cell? ⟨w.heap.size + 1, 0, none⟩ = some (.bool false) := (hB.cell (by omega) (by simp <;> omega)).trans cR
        have gF : wr.frozen? ⟨w.heap.size + 1, 0, none⟩ = false := (hB.frozen (by omega) (by simp <;> omega)).trans fR
        have lR : w.heap.size + 1 < wr.heap.size := by omega
        have lH : w.heap.size < wr.heap.size := by omega
        have hLr : LinesAt wr a L := lines_but hB hLW HAB2.out
        have hmeas : intOf ((wr.cell? ⟨Tb + 1, 0, none⟩).getD undef) = (l : Int) := by rw [hlc]; rfl
        rw [hmeas]
        clear hmeas
        by_cases hlt : l < L.length
        · obtain ⟨b, off, rfl, hb, hcell, hs⟩ := hLr.line hlt
          have hbw := HAB.out (by omega) b off rfl
          obtain ⟨s, hs'⟩ : ∃ s, L.getD l .empty = s := ⟨_, rfl⟩
          have HS := Lib.hid hs'
          rw [hs'] at hcell hs
          have hltI : (l : Int) < (L.length : Int) := by omega
          have hltI2 : ¬ (L.length : Int) ≤ (l : Int) := by omega
          have hl0I : (0 : Int) ≤ (l : Int) := by omega
          clear hs' hl0I
          by_cases hle : s.size ≤ i
          · have hleI : (s.size : Int) ≤ (i : Int) := by omega
            gi_wp2
            refine wpIn_round_still_tail 12 ?_ hmx ?_ ?_ ?_
            · rintro ⟨_, _, h⟩; exact h
            · kernel_rfl
            · kernel_rfl
            simp only [List.take_succ_cons, List.take_zero, List.drop_succ_cons, List.drop_zero]
            refine of_shut ?_
            repeat (refine hstill_step (fun K hK => ?_); go_simp; refine hK _ ?_; clear hK K)
            refine hstill_nil ?_
            go_wp2
            gi_wp2
            have hl2 : Boxed ((wr.setCell ⟨Tb + 1, 0, none⟩ (.int .i64 ((l : Int) + 1))).setCell ⟨Tb + 1 + 1, 0, none⟩ (.int .i64 0)) (Tb + 1) 3 (.int .i64 ((l + 1 : Nat) : Int)) := by
              have := (hl.set (.int .i64 ((l + 1 : Nat) : Int))).other (show Tb + 1 ≠ Tb + 1 + 1 by omega) (.int .i64 0)
              simpa using this
            have hi2 : Boxed ((wr.setCell ⟨Tb + 1, 0, none⟩ (.int .i64 ((l : Int) + 1))).setCell ⟨Tb + 1 + 1, 0, none⟩ (.int .i64 0)) (Tb + 1 + 1) 3 (.int .i64 ((0 : Nat) : Int)) := by
              have := (hi.other (show Tb + 1 + 1 ≠ Tb + 1 by omega) (.int .i64 ((l : Int) + 1))).set (.int .i64 ((0 : Nat) : Int))
              simpa using this
            go_roundw
            case rel => exact ⟨l + 1, 0, Lib.hid (nextC_skip HN.out hlt (by rw [HS.out]; exact hle)), hl2, hi2, (hn.other (by omega) _).other (by omega) _, ((hB.setCell (.inl (by simp)) 0 _).setCell (.inl (by simp)) 0 _).drew, ((hBW.setCell (.inl (by simp)) 0 _).setCell (.inl (by simp)) 0 _).drew, (hKW.trans ((KeepsOthers.setCell _ _ _).trans (KeepsOthers.setCell _ _ _))).trans (KeepsOthers.drew _), (hxw.other n1).other n2⟩
            case measure => exact meas_lt hl2.cell (by omega)
          · have hleI : ¬ (s.size : Int) ≤ (i : Int) := by omega
            have hisI : (i : Int) < (s.size : Int) := by omega
            have his : i < s.size := by omega
            have hi0I : (0 : Int) ≤ (i : Int) := by omega
            gi_wp2
            refine wpIn_round_still_tail 12 ?_ hmx ?_ ?_ ?_
            · rintro ⟨_, _, h⟩; exact h
            · kernel_rfl
            · kernel_rfl
            simp only [List.take_succ_cons, List.take_zero, List.drop_succ_cons, List.drop_zero]
            refine of_shut ?_
            repeat (refine hstill_step (fun K hK => ?_); go_simp; refine hK _ ?_; clear hK K)
            refine hstill_nil ?_
            go_wp2
            gi_wp2
            have hge : decide (L.length ≤ l) = false := decide_eq_false (by omega)
            by_cases hxe : x.1 = (l, i)
            · have hby : (bytA L (l, i) != (s[i].toNat : Int)) = false := by
                have : bytA L (l, i) = (s[i].toNat : Int) := by rw [bytA, HS.out]; exact byt_at' s i his
                rw [this]; simp
              refine wpIn_round_still_tail 20 ?_ hmx ?_ ?_ ?_
              · rintro ⟨_, _, h⟩; exact h
              · kernel_rfl
              · kernel_rfl
              simp only [List.take_succ_cons, List.take_zero, List.drop_succ_cons, List.drop_zero]
              refine of_shut ?_
              repeat (refine hstill_step (fun K hK => ?_); go_simp; refine hK _ ?_; clear hK K)
              refine hstill_nil ?_
              go_wp2
              gi_wp2
              have hX : NextC L ((pre ++ [x]).map Subtype.val) l (i + 1) := by
                rw [List.map_append]
                show NextC L (pre.map Subtype.val ++ [x.1]) l (i + 1)
                rw [hxe]
                exact nextC_step HN.out (by rw [HS.out]; exact his)
              have hi2 : Boxed ((wr.setCell ⟨Tb + 1 + 1, 0, none⟩ (.int .i64 ((i : Int) + 1))).setCell ⟨Tb + 1 + 1 + 1, 0, none⟩ (.int .i64 ((pre.length : Int) + 1))) (Tb + 1 + 1) 3 (.int .i64 ((i + 1 : Nat) : Int)) := by
                have := (hi.set (.int .i64 ((i + 1 : Nat) : Int))).other (show Tb + 1 + 1 ≠ Tb + 1 + 1 + 1 by omega) (.int .i64 ((pre.length : Int) + 1))
                simpa using this
              have hn2 : Boxed ((wr.setCell ⟨Tb + 1 + 1, 0, none⟩ (.int .i64 ((i : Int) + 1))).setCell ⟨Tb + 1 + 1 + 1, 0, none⟩ (.int .i64 ((pre.length : Int) + 1))) (Tb + 1 + 1 + 1) 3 (.int .i64 (((pre ++ [x]).length : Nat) : Int)) := by
                have := (hn.other (show Tb + 1 + 1 + 1 ≠ Tb + 1 + 1 by omega) (.int .i64 ((i : Int) + 1))).set (.int .i64 (((pre ++ [x]).length : Nat) : Int))
                simpa using this
              exact ⟨((hKW.trans ((KeepsOthers.setCell _ _ _).trans (KeepsOthers.setCell _ _ _))).trans ((KeepsOthers.drew _).trans (KeepsOthers.drew _))).from _, ((hBW.setCell (.inl (by simp)) 0 _).setCell (.inl (by simp)) 0 _).drew.drew, l, i + 1, hX, (hl.other (by omega) _).other (by omega) _, hi2, hn2, ((hB.setCell (.inl (by simp)) 0 _).setCell (.inl (by simp)) 0 _).drew.drew⟩
            · have HX := Lib.hid (nextC_bad HN.out (by rw [HS.out]; exact his) hxe)
              have h12 : ¬ (x.1.1 = l ∧ x.1.2 = i) := fun h => hxe (Prod.ext h.1 h.2)
              clear hxe
              by_cases h1 : x.1.1 = l
              · have h2 : ¬ x.1.2 = i := fun h => h12 ⟨h1, h⟩
                have h2b : (((x.1.2 : Nat) : Int) == (i : Int)) = false := by rw [beq_eq_false_iff_ne]; omega
                clear h12
                refine wpIn_round_still_tail 20 ?_ hmx ?_ ?_ ?_
                · rintro ⟨_, _, h⟩; exact h
                · kernel_rfl
                · kernel_rfl
                simp only [List.take_succ_cons, List.take_zero, List.drop_succ_cons, List.drop_zero]
                refine of_shut ?_
                repeat (refine hstill_step (fun K hK => ?_); go_simp; refine hK _ ?_; clear hK K)
                refine hstill_nil ?_
                go_wp2
                gi_wp2
                exact ⟨(hKW.trans (by repeat (first | with_reducible exact KeepsOthers.refl _ | with_reducible exact KeepsOthers.drew _ | with_reducible refine KeepsOthers.trans ?_ (KeepsOthers.drew _) | with_reducible refine KeepsOthers.trans ?_ (KeepsOthers.setCell _ _ _)))).from _, rfl, by rw [List.map_append]; exact HX.out⟩
              · have h1b : (((x.1.1 : Nat) : Int) == (l : Int)) = false := by rw [beq_eq_false_iff_ne]; omega
                clear h12
                refine wpIn_round_still_tail 20 ?_ hmx ?_ ?_ ?_
                · rintro ⟨_, _, h⟩; exact h
                · kernel_rfl
                · kernel_rfl
                simp only [List.take_succ_cons, List.take_zero, List.drop_succ_cons, List.drop_zero]
                refine of_shut ?_
                repeat (refine hstill_step (fun K hK => ?_); go_simp; refine hK _ ?_; clear hK K)
                refine hstill_nil ?_
                go_wp2
                gi_wp2
                exact ⟨(hKW.trans (by repeat (first | with_reducible exact KeepsOthers.refl _ | with_reducible exact KeepsOthers.drew _ | with_reducible refine KeepsOthers.trans ?_ (KeepsOthers.drew _) | with_reducible refine KeepsOthers.trans ?_ (KeepsOthers.setCell _ _ _)))).from _, rfl, by rw [List.map_append]; exact HX.out⟩
        · have HX := Lib.hid (nextC_bad_end HN.out (by omega) x.1)
          have hltI : ¬ (l : Int) < (L.length : Int) := by omega
          have hltI2 : (L.length : Int) ≤ (l : Int) := by omega
          have hge : decide (L.length ≤ l) = true := decide_eq_true (by omega)
          gi_wp2
          refine wpIn_round_still_tail 12 ?_ hmx ?_ ?_ ?_
          · rintro ⟨_, _, h⟩; exact h
          · kernel_rfl
          · kernel_rfl
          simp only [List.take_succ_cons, List.take_zero, List.drop_succ_cons, List.drop_zero]
          refine of_shut ?_
          repeat (refine hstill_step (fun K hK => ?_); go_simp; refine hK _ ?_; clear hK K)
          refine hstill_nil ?_
          go_wp2
          gi_wp2
          refine wpIn_round_still_tail 20 ?_ hmx ?_ ?_ ?_
          · rintro ⟨_, _, h⟩; exact h
          · kernel_rfl
          · kernel_rfl
          simp only [List.take_succ_cons, List.take_zero, List.drop_succ_cons, List.drop_zero]
          refine of_shut ?_
          repeat (refine hstill_step (fun K hK => ?_); go_simp; refine hK _ ?_; clear hK K)
          refine hstill_nil ?_
          go_wp2
          gi_wp2
          exact ⟨(hKW.trans (by repeat (first | with_reducible exact KeepsOthers.refl _ | with_reducible exact KeepsOthers.drew _ | with_reducible refine KeepsOthers.trans ?_ (KeepsOthers.drew _) | with_reducible refine KeepsOthers.trans ?_ (KeepsOthers.setCell _ _ _)))).from _, rfl, by rw [List.map_append]; exact HX.out⟩
    case done =>
      rintro D ys W hD hys ⟨l, i, hN, hl, hi, hn, hB⟩ hK
      have hlen : ys.length = total L := by rw [← cellP_len, ← hys, List.length_map]
      rw [hlen] at hn
      have hnc := hn.cell
      have hnl := hn.lt
      have gH : W.cell? ⟨w.heap.size, 0, none⟩ = some (.slice a L.length cap) := (hB.cell (by omega) (by simp <;> omega)).trans cH
      have gR : W.cell? ⟨w.heap.size + 1, 0, none⟩ = some (.bool false) := (hB.cell (by omega) (by simp <;> omega)).trans cR
      have gF : W.frozen? ⟨w.heap.size + 1, 0, none⟩ = false := (hB.frozen (by omega) (by simp <;> omega)).trans fR
      have gB : W.cell? ⟨Tb, 0, none⟩ = some (.slice a L.length cap) := (hB.cell (by omega) (by simp <;> omega)).trans cB
      have hLr : LinesAt W a L := lines_but hB hLW HAB2.out
      have hbw : Below w.heap.size w W := hB.below hbel (by omega) (by simp <;> omega)
      have hsub : ((total L : Int) + (L.length : Int)) - (L.length : Int) = (total L : Int) := by omega
      obtain ⟨m, hm⟩ : ∃ m : Nat, sm % 30 = m := ⟨(sm % 30).toNat, by omega⟩
      have hm30 : sm.tmod 30 = (m : Int) := by rw [Int.tmod_eq_emod_of_nonneg hsm.1, hm]
      have hmlt : m < 30 := by omega
      have hDl : D < W.heap.size := (Array.getElem?_eq_some_iff.1 hK).1
      have lR : w.heap.size + 1 < W.heap.size := by omega
      clear hys hN hl hi hm
      gi_wp2
      gi_quiet ((gi_at_call 24; refine CallsIn.quiet_of_same (callsIn_wide.2 ((rsize_any _ _ L _ (hLr.drewN _) (by omega) (by omega)).mono fun _ _ ⟨h1, h2⟩ => ⟨h1, h2.symm⟩))))
      generalize hW2 : W.drewN nq = W2
      have cH2 : W2.cell? ⟨w.heap.size, 0, none⟩ = some (.slice a L.length cap) := by rw [← hW2]; exact gH
      have cR2 : W2.cell? ⟨w.heap.size + 1, 0, none⟩ = some (.bool false) := by rw [← hW2]; exact gR
      have fR2 : W2.frozen? ⟨w.heap.size + 1, 0, none⟩ = false := by rw [← hW2]; exact gF
      have cB2 : W2.cell? ⟨Tb, 0, none⟩ = some (.slice a L.length cap) := by rw [← hW2]; exact gB
      have hL2 : LinesAt W2 a L := by rw [← hW2]; exact hLr
      have hb2 : Below w.heap.size w W2 := by rw [← hW2]; exact ⟨hbw.os, hbw.tape, hbw.output, hbw.size, hbw.block⟩
      have hn2 : Boxed W2 (Tb + 1 + 1 + 1) 3 (.int .i64 (total L : Nat)) := by rw [← hW2]; exact hn
      have hK2 : W2.heap[D]? = some (.deferred (some [])) := by rw [← hW2]; exact hK
      have hs2 : W2.heap.size = W.heap.size := by rw [← hW2]; rfl
      clear hW2 hK hn gH gR gF gB hbw hLr hnc hnl lR hB
      have hnc := hn2.cell
      have hnl := hn2.lt
      have lR2 : w.heap.size + 1 < W2.heap.size := by omega
      have lH2 : w.heap.size < W2.heap.size := by omega
      gi_wp2
      obtain ⟨Kb, hKb⟩ : ∃ Kb, W.heap.size = Kb := ⟨_, rfl⟩
      rw [hKb] at hs2 hDl ⊢
      refine name_worldIn ?_
      intro W3 hW3
      have hb23 : Below W2.heap.size W2 W3 := by rw [hW3]; (repeat (first | with_reducible exact Below.refl _ _ | (with_reducible refine Below.setCell ?_ ?_ _; rotate_left; · (first | exact Nat.le_refl _ | assumption | omega | (simp; done) | (simp; omega))) | (with_reducible refine Below.alloc ?_ ?_ _; rotate_left; · (first | exact Nat.le_refl _ | assumption | omega | (simp; done) | (simp; omega))) | with_reducible refine below_ovr_of ?_ | with_reducible refine drew_below ?_ _ | with_reducible refine Below.drew ?_ | with_reducible assumption))
      have hsz3 : W3.heap.size = Kb + 1 + 1 := by rw [hW3]; simp [hs2]
      have cR3 : W3.cell? ⟨w.heap.size + 1, 0, none⟩ = some (.bool false) := (hb23.cell (p := ⟨w.heap.size + 1, 0, none⟩) lR2).trans cR2
      have fR3 : W3.frozen? ⟨w.heap.size + 1, 0, none⟩ = false := (hb23.frozen (p := ⟨w.heap.size + 1, 0, none⟩) lR2).trans fR2
      have cB3 : W3.cell? ⟨Tb, 0, none⟩ = some (.slice a L.length cap) := (hb23.cell (p := ⟨Tb, 0, none⟩) (by show Tb < _; omega)).trans cB2
      have hL3 : LinesAt W3 a L := hL2.below hb23 (Nat.le_refl _)
      have hb3 : Below w.heap.size w W3 := hb2.trans (hb23.mono (by omega))
      have hn3 : Boxed W3 (Tb + 1 + 1 + 1) 3 (.int .i64 (total L : Nat)) := (hb23.block _ hnl).trans hn2
      have hK3 : W3.heap[D]? = some (.deferred (some [])) := (hb23.block _ (by omega)).trans hK2
      have bK : Boxed W3 Kb 3 (.int .i64 ((0 : Nat) : Int)) := by rw [hW3]; exact (boxP_new1 _ _ _ hs2.symm).alloc _
      have bW : Boxed W3 (Kb + 1) 3 (.int .i64 ((m : Int) + 1)) := by rw [hW3]; exact boxP_new1 _ _ _ (by simp [hs2])
      clear hW3 hb23 hn2 hK2 hb2 hL2 cB2 cR2 fR2 cH2 hnc hnl lR2 lH2
      have HAB3 := Lib.hid (show 0 < L.length → ∀ b off, a = some ⟨b, off, none⟩ → b < W3.heap.size ∧ b ∉ [Kb] from fun h0 b off e => by
        have := HAB.out h0 b off e
        exact ⟨by omega, by simp; omega⟩)
      have HK3 := Lib.hid (show ∀ X Y, But W3.heap.size [Kb] X Y → X.cell? ⟨Tb, 0, none⟩ = some (.slice a L.length cap) → LinesAt X a L → Y.cell? ⟨Tb, 0, none⟩ = some (.slice a L.length cap) ∧ LinesAt Y a L from fun X Y h hc hl =>
        ⟨(h.cell (by omega) (by simp <;> omega)).trans hc, lines_but h hl HAB3.out⟩)
      refine wpIn_rangeFunc_ownG rfl (by omega) (gf := 96) (lb := #[.pointer (some ⟨Tb, 0, none⟩)]) rfl trivial (enters_of Try.func96 (by kernel_rfl) rfl)
        (cells_stopsK (But W3.heap.size [Kb]) Tb 100000 a cap L W3 htot htot cB3 hL3 HK3.out) (fun h k => But.trans h k) (butK_b (Nat.le_refl _)) (Below.refl _ _) (fun _ => rfl)
        (fun pre W => Boxed W Kb 3 (.int .i64 ((pre.length : Nat) : Int)) ∧ pre.length < m + 1 ∧ But W3.heap.size [Kb] W3 W)
        (fun k pre W => k = .exit 4 ∧ pre.length = m + 1 ∧ Boxed W Kb 3 (.int .i64 ((pre.length : Nat) : Int)) ∧ But W3.heap.size [Kb] W3 W)
        (fun pre X Y row hs hg hr => ⟨box_own (β := Unit) _ _ _ _ () X Y row hs.1 hg hr, hs.2.1, hs.2.2.grown (by have := hs.2.2.size; omega) hg (fun r e => by have := (hr r e).1; omega)⟩)
        (fun k pre X Y row hs hg hr => ⟨hs.1, hs.2.1, box_own (β := Unit) _ _ _ _ () X Y row hs.2.2.1 hg hr, hs.2.2.2.grown (by have := hs.2.2.2.size; omega) hg (fun r e => by have := (hr r e).1; omega)⟩)
        ⟨bK, by simp, But.refl _ _ _⟩
        (fun x => { tmps := #[.slice a L.length cap, .int .u8 sm, .pointer (some ⟨w.heap.size, 0, none⟩), undef, .pointer (some ⟨w.heap.size + 1, 0, none⟩), .func (.func 96) #[] #[.pointer (some ⟨Tb, 0, none⟩)], .pointer (some ⟨Tb + 1, 0, none⟩), .pointer (some ⟨Tb + 1 + 1, 0, none⟩), .pointer (some ⟨Tb + 1 + 1 + 1, 0, none⟩), undef, undef, .pointer (some ⟨Kb, 0, none⟩), .pointer (some ⟨Kb + 1, 0, none⟩), .bool true, .bool false, .slice a L.length cap, .bool true, .bool false, .slice a L.length cap, .func (.func 96) #[] #[.pointer (some ⟨Tb, 0, none⟩)], .func (.func 96) #[] #[.pointer (some ⟨Tb, 0, none⟩)], .bool false, .func (.func 96) #[] #[.pointer (some ⟨Tb, 0, none⟩)], undef, undef, undef, undef, undef, undef, undef, undef, undef, undef, undef, undef, undef, undef, undef, undef, undef, undef, undef, undef, undef, undef, undef, undef, undef, undef, undef, undef, undef, undef, undef, undef, undef, undef, undef, undef, undef, undef, undef, undef, undef, undef, .int .i64 (total L : Int), .slice a L.length cap, .int .i64 ((total L : Int) + (L.length : Int)), .slice a L.length cap, .int .i64 (L.length : Int), .int .i64 (total L : Int), .bool false, .int .u8 sm, .int .u8 (m : Int), .int .i64 (m : Int), .int .i64 ((m : Int) + 1), .func (.func 96) #[] #[.pointer (some ⟨Tb, 0, none⟩)], .agg #[.int .i64 (x.1.1 : Int), .int .i64 (x.1.2 : Int)], .int .u8 (bytA L x.1), undef, undef, undef, undef, undef, undef, undef, undef, undef, undef], defers := [] }) ?assign2 ?body2 ?done2 ?stop2
      case assign2 =>
        intro l' x W K hK
        gi_wp2
        exact hK
      case body2 =>
        rintro l' pre x Wd ⟨hk, hlt, hBd⟩ _
        have hkc := hk.cell
        have hkf := hk.frozen
        have gWd : Wd.cell? ⟨Kb + 1, 0, none⟩ = some (.int .i64 ((m : Int) + 1)) := (hBd.cell (by omega) (by simp)).trans bW.cell
        have hlw : Kb + 1 < Wd.heap.size := by have := hBd.size; omega
        have hkl := hk.lt
        have hset : Boxed (Wd.setCell ⟨Kb, 0, none⟩ (.int .i64 ((pre.length : Int) + 1))) Kb 3 (.int .i64 (((pre ++ [x]).length : Nat) : Int)) := by
          have := hk.set (.int .i64 (((pre ++ [x]).length : Nat) : Int))
          simpa using this
        have hb6 : But W3.heap.size [Kb] W3 (Wd.setCell ⟨Kb, 0, none⟩ (.int .i64 ((pre.length : Int) + 1))) := hBd.setCell (.inl (by simp)) 0 _
        have hb7 : But W3.heap.size [Kb] Wd (Wd.setCell ⟨Kb, 0, none⟩ (.int .i64 ((pre.length : Int) + 1))) := (But.refl _ _ _).setCell (.inl (by simp)) 0 _
        rw [hsz3] at hb6 hb7
        by_cases hle : m + 1 ≤ pre.length + 1
        · have hleI : (m : Int) + 1 ≤ (pre.length : Int) + 1 := by omega
          have hleI2 : ¬ (pre.length : Int) + 1 < (m : Int) + 1 := by omega
          have hm1 : (m : Int) ≤ (pre.length : Int) := by omega
          have hm2 : m ≤ pre.length := by omega
          gi_wp2
          exact ⟨(KeepsOthers.setCell _ _ _).from _, rfl, by simp; omega, hset, hb6⟩
        · have hleI : ¬ (m : Int) + 1 ≤ (pre.length : Int) + 1 := by omega
          have hm1 : ¬ (m : Int) ≤ (pre.length : Int) := by omega
          have hm2 : ¬ m ≤ pre.length := by omega
          gi_wp2
          exact ⟨(KeepsOthers.setCell _ _ _).from _, hb7, hset, by simp; omega, hb6⟩
      case done2 =>
        rintro D2 ys2 Wd hD2 hys2 ⟨hk, hlt, hBd⟩ hKd
        have hlen2 : ys2.length = total L := by rw [← cellP_len, ← hys2, List.length_map]
        rw [hlen2] at hk hlt
        clear hys2
        have hlR : w.heap.size + 1 < Wd.heap.size := by have := hBd.size; omega
        have gRd : Wd.cell? ⟨w.heap.size + 1, 0, none⟩ = some (.bool false) := (hBd.cell (by omega) (by simp <;> omega)).trans cR3
        have gFd : Wd.frozen? ⟨w.heap.size + 1, 0, none⟩ = false := (hBd.frozen (by omega) (by simp <;> omega)).trans fR3
        have gWd : Wd.cell? ⟨Kb + 1, 0, none⟩ = some (.int .i64 ((m : Int) + 1)) := (hBd.cell (by omega) (by simp)).trans bW.cell
        have gNd : Wd.cell? ⟨Tb + 1 + 1 + 1, 0, none⟩ = some (.int .i64 (total L : Int)) := (hBd.cell (by omega) (by simp <;> omega)).trans hn3.cell
        have hbd : Below w.heap.size w Wd := hBd.below hb3 (by omega) (by simp <;> omega)
        have hKo : Wd.heap[D]? = some (.deferred (some [])) := (hBd.block D (by omega) (by simp <;> omega)).trans hK3
        have hkc := hk.cell
        have hmin : min ((m : Int) + 1) (total L : Int) = (total L : Int) := by omega
        have hmi2 : ¬ (m : Int) + 1 ≤ (total L : Int) := by omega
        have hmi3 : (total L : Int) < (m : Int) + 1 := by omega
        gi_wp2
        have hK4 : (Wd.setCell ⟨w.heap.size + 1, 0, none⟩ (.bool true)).heap[D2]? = some (.deferred (some [])) := (KeepsOthers.setCell Wd ⟨w.heap.size + 1, 0, none⟩ (.bool true)).same D2 _ hKd rfl
        have hK5 : ((Wd.setCell ⟨w.heap.size + 1, 0, none⟩ (.bool true)).putObj D2 (.deferred none)).heap[D]? = some (.deferred (some [])) := by
          simp only [World.putObj]
          rw [Array.getElem?_setIfInBounds_ne (by omega)]
          exact (KeepsOthers.setCell Wd ⟨w.heap.size + 1, 0, none⟩ (.bool true)).same D _ hKo rfl
        exact ⟨by simp, .inl ⟨_, _, rfl, run_takeDeferred hK4, ⟨by simp, .inl ⟨_, _, rfl, run_takeDeferred hK5, .bool true, by
          have r := cell_put (cell_put (show (Wd.setCell ⟨w.heap.size + 1, 0, none⟩ (.bool true)).cell? ⟨w.heap.size + 1, 0, none⟩ = some (.bool true) by simp [go_sem, gRd]) hK4) hK5
          simp [results, Try.results3, go_sem, r], rfl, below_put (by omega) hK5 (below_put (by omega) hK4 (hbd.setCell (by simp) _))⟩⟩⟩⟩
      case stop2 =>
        rintro D2 k pre Wd hD2 hsp ⟨rfl, hlen2, hk, hBd⟩ hKd
        have hle2 : pre.length ≤ total L := by rw [← cellP_len, ← List.length_map (f := Subtype.val)]; exact hsp.length_le
        rw [hlen2] at hk hle2
        clear hsp
        have hlR : w.heap.size + 1 < Wd.heap.size := by have := hBd.size; omega
        have gRd : Wd.cell? ⟨w.heap.size + 1, 0, none⟩ = some (.bool false) := (hBd.cell (by omega) (by simp <;> omega)).trans cR3
        have gFd : Wd.frozen? ⟨w.heap.size + 1, 0, none⟩ = false := (hBd.frozen (by omega) (by simp <;> omega)).trans fR3
        have gWd : Wd.cell? ⟨Kb + 1, 0, none⟩ = some (.int .i64 ((m : Int) + 1)) := (hBd.cell (by omega) (by simp)).trans bW.cell
        have gNd : Wd.cell? ⟨Tb + 1 + 1 + 1, 0, none⟩ = some (.int .i64 (total L : Int)) := (hBd.cell (by omega) (by simp <;> omega)).trans hn3.cell
        have hbd : Below w.heap.size w Wd := hBd.below hb3 (by omega) (by simp <;> omega)
        have hKo : Wd.heap[D]? = some (.deferred (some [])) := (hBd.block D (by omega) (by simp <;> omega)).trans hK3
        have hkc := hk.cell
        have hmin : min ((m : Int) + 1) (total L : Int) = (m : Int) + 1 := by omega
        have hmi2 : (m : Int) + 1 ≤ (total L : Int) := by omega
        have hmi3 : ¬ (total L : Int) < (m : Int) + 1 := by omega
        gi_wp2
        have hK4 : (Wd.setCell ⟨w.heap.size + 1, 0, none⟩ (.bool true)).heap[D2]? = some (.deferred (some [])) := (KeepsOthers.setCell Wd ⟨w.heap.size + 1, 0, none⟩ (.bool true)).same D2 _ hKd rfl
        have hK5 : ((Wd.setCell ⟨w.heap.size + 1, 0, none⟩ (.bool true)).putObj D2 (.deferred none)).heap[D]? = some (.deferred (some [])) := by
          simp only [World.putObj]
          rw [Array.getElem?_setIfInBounds_ne (by omega)]
          exact (KeepsOthers.setCell Wd ⟨w.heap.size + 1, 0, none⟩ (.bool true)).same D _ hKo rfl
        exact ⟨by simp, .inl ⟨_, _, rfl, run_takeDeferred hK4, ⟨by simp, .inl ⟨_, _, rfl, run_takeDeferred hK5, .bool true, by
          have r := cell_put (cell_put (show (Wd.setCell ⟨w.heap.size + 1, 0, none⟩ (.bool true)).cell? ⟨w.heap.size + 1, 0, none⟩ = some (.bool true) by simp [go_sem, gRd]) hK4) hK5
          simp [results, Try.results3, go_sem, r], rfl, below_put (by omega) hK5 (below_put (by omega) hK4 (hbd.setCell (by simp) _))⟩⟩⟩⟩
    case stop =>
      rintro D k pre W hD hsp ⟨rfl, hno⟩ hK
      exact absurd hsp hno
end Go.Proofs.Ytlbbgocggifjaaa
