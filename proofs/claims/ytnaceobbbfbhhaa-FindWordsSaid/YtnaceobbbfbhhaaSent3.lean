/- The contract of para.Sentences: an iterator. Conditions: none beyond what it says. -/
import Derived.Test.YtnaceobbbfbhhaaSent2
import Derived.Test.YtnaceobbbfbhhaaTyp
import Derived.Test.YtnaceobbbfbhhaaWide
namespace Go.Proofs.Ytnaceobbbfbhhaa
open Go.RowKit Go.Shelf

attribute [local go_sem] Oper.semAt_some

/-- A place of a text of m lines, m bytes at most in each. -/
abbrev Plc (m : Nat) := { p : Nat × Nat // p.1 ≤ m ∧ p.2 ≤ m }
theorem grown_below {X Y : World} (h : Below X.heap.size X Y) : X.grownBy Y none := ⟨h.os, h.tape, h.output, h.size, fun k hk _ => h.block k hk⟩
theorem row_keep {X Y : World} {base size k : Nat} {t : TypeId} {v : Value} {xs : List Value} (hr : X.ownsRow base t size v k xs) (h : ∀ g cs m, base ≤ g → X.heap[g]? = some (.cells cs t m) → Y.heap[g]? = some (.cells cs t m)) : Y.ownsRow base t size v k xs := by
  refine ⟨hr.1, ?_⟩
  rcases hr.2 with h0 | ⟨g, cap, cur, e, hb, hg, hc, hm, hs, ht⟩
  · exact .inl h0
  · exact .inr ⟨g, cap, cur, e, hb, h g cur _ hb hg, hc, hm, hs, ht⟩
theorem row_cell {X : World} {base : Nat} {t : TypeId} {v : Value} {l : List Nat} (hr : X.ownsRow base t 1 v l.length (cellsN l)) {i : Nat} (hi : i < l.length) : ∃ g cap, v = .slice (some ⟨g, 0, none⟩) l.length cap ∧ X.cell? ⟨g, i, none⟩ = some (.int .i64 ((l.getD i 0 : Nat) : Int)) := by
  have hr' := hr
  rcases hr.2 with ⟨_, h0⟩ | ⟨g, cap, cur, e, hb, hg, _⟩
  · omega
  · refine ⟨g, cap, e, ?_⟩
    have := World.ownsRow.cells hr' (g := g) (by rw [e]; rfl) i (.int .i64 ((l.getD i 0 : Nat) : Int)) (by
      rw [cellsN, List.getElem?_map, List.getElem?_eq_getElem hi, List.getD_eq_getElem?_getD, List.getElem?_eq_getElem hi]; rfl)
    rw [addr_add] at this
    exact this
theorem own_slice {X : World} {base size k : Nat} {t : TypeId} {v : Value} {xs : List Value} (hr : X.ownsRow base t size v k xs) : ∃ va vcap, v = .slice va k vcap := by
  rcases hr.2 with ⟨rfl, rfl⟩ | ⟨g, cap, cur, e, _⟩
  · exact ⟨_, _, rfl⟩
  · exact ⟨_, _, e⟩
theorem row_base {X : World} {base base' size k : Nat} {t : TypeId} {v : Value} {xs : List Value} (hr : X.ownsRow base t size v k xs) (h : base' ≤ base) : X.ownsRow base' t size v k xs := by
  refine ⟨hr.1, ?_⟩
  rcases hr.2 with h0 | ⟨g, cap, cur, e, hb, r⟩
  · exact .inl h0
  · exact .inr ⟨g, cap, cur, e, Nat.le_trans h hb, r⟩
theorem cell_keep_b {w w' : World} {b o : Nat} {v : Value} (hb : Below w.heap.size w w') (h : w.cell? ⟨b, o, none⟩ = some v) : w'.cell? ⟨b, o, none⟩ = some v :=
  (hb.cell (p := ⟨b, o, none⟩) (World.block_lt_of_cell? w _ h)).trans h
set_option maxRecDepth 100000 in
set_option maxHeartbeats 8000000 in
theorem sent1_in (n : Nat) (hn : 1 ≤ n) (l Bl m : Nat) (a : Option Addr) (cap : Nat) (L : List ByteArray) (Kp : World → World → Prop) (N : Nat)
    (hsz : L.length + total L ≤ 100000) (hm : L.length + total L ≤ m) (hN : L.length + total L ≤ N) (W : World)
    (hK1 : ∀ X Y, Kp X Y → X.cell? ⟨Bl, 0, none⟩ = some (.slice a L.length cap) → LinesAt X a L → Y.cell? ⟨Bl, 0, none⟩ = some (.slice a L.length cap) ∧ LinesAt Y a L)
    (hK2 : ∀ X Y g cs q, Kp X Y → W.heap.size ≤ g → X.heap[g]? = some (.cells cs 3 q) → Y.heap[g]? = some (.cells cs 3 q))
    (hK3 : ∀ X Y, Kp X Y → X.heap.size ≤ Y.heap.size)
    (J Jx : List (Plc m) → World → Prop)
    (hD : ∀ pre (X Y : World), J pre X → X.grownBy Y none → J pre Y)
    (hY : ∀ (pre : List (Plc m)) (x : Plc m) (X : World), J pre X → pre.length < N → YieldAt Fence.wide (n - 1) Try.prog l #[.agg #[.int .i64 (x.1.1 : Int), .int .i64 (x.1.2 : Int)]] X fun e X' =>
      (e = .returned (.bool true) ∧ J (pre ++ [x]) X' ∧ Kp X X') ∨ (e = .returned (.bool false) ∧ Jx (pre ++ [x]) X'))
    (hBl : W.cell? ⟨Bl, 0, none⟩ = some (.slice a L.length cap)) (hL : LinesAt W a L) (h0 : J [] W) :
    CallsIn Fence.wide n Try.prog 98 #[.func (.yield l) #[] #[], .pointer (some ⟨Bl, 0, none⟩)] W fun e W' => (∃ v, e = .returned v) ∧
      ((∃ ys, ys.map Subtype.val = sentP L ∧ J ys W') ∨ (∃ pre, pre.map Subtype.val <+: sentP L ∧ Jx pre W')) := by
  have hLn := hL.2.1
  have hRl := (sentP_in (L := L)).2
  obtain ⟨R, hR⟩ : ∃ R, sentP L = R := ⟨_, rfl⟩
  rw [hR] at hRl ⊢
  have HR := Lib.hid hR
  have HK1 := Lib.hid hK1
  have HK2' := Lib.hid hK2
  have HK3 := Lib.hid hK3
  have HD := Lib.hid hD
  have HY := Lib.hid hY
  clear hR hK1 hK2 hK3 hD hY
  refine callsIn_of_wp Try.func98 rfl trivial ?_ rfl
  simp only [Try.ntmps98, List.size_toArray, List.length_cons, List.length_nil, Nat.reduceAdd, Nat.reduceSub, Array.replicate_succ, Array.replicate_zero, List.push_toArray, List.append_toArray, List.nil_append, List.cons_append]
  gi_wp2
  gi_loopw [3, 14] (fun o i wr => ∃ (k : Nat) (op : Bool) (pre : List (Plc m)), k ≤ L.length ∧ i = .int .i64 k ∧ o = .bool op ∧ Hid (pre.map Subtype.val ++ sentF L op k = R) ∧ J pre wr ∧ wr.cell? ⟨Bl, 0, none⟩ = some (.slice a L.length cap) ∧ LinesAt wr a L ∧ W.heap.size ≤ wr.heap.size)
    (fun _ i _ => L.length - (intOf i).toNat)
  case atStart => exact ⟨0, true, [], Nat.zero_le _, rfl, rfl, Lib.hid (by simpa [sentP] using HR.out), h0, hBl, hL, Nat.le_refl _⟩
  case round =>
    obtain ⟨k, op, pre, hk, rfl, rfl, HK, hJ, hc, hLV, hWs⟩ := hrel
    by_cases hlt : k < L.length
    · have hltI : (k : Int) < (L.length : Int) := by omega
      have hk0 : (0 : Int) ≤ (k : Int) := by omega
      obtain ⟨b, off, s, rfl, hb, hcell, hw1⟩ := emp_facts hLV hlt
      have hst := size_le_total L k hlt
      rcases hw1 with ⟨h1, rfl⟩ | ⟨h1, hse, hs⟩
      · cases hh : headB L k with
        | true =>
          have HK2 : Hid ((pre ++ [(⟨(k, 0), by simp only; omega, Nat.zero_le _⟩ : Plc m)]).map Subtype.val ++ sentF L true (k + 1) = R) := Lib.hid (by rw [← HK.out, sentF_head hlt h1 hh]; simp)
          have hpl : pre.length < N := by have := congrArg List.length HK2.out; simp at this; omega
          have HYY := Lib.hid (HY.out pre ⟨(k, 0), by simp only; omega, Nat.zero_le _⟩ wr hJ hpl)
          have hcase : (((k : Int) == 0) = true) ∨ ∃ (k1 : Nat) (s2 : ByteArray), (k : Int) - 1 = (k1 : Int) ∧ (0 : Int) ≤ (k1 : Int) ∧ (k1 : Int) < (L.length : Int) ∧ ((k : Int) == 0) = false ∧ wr.cell? ⟨b, off + k1, none⟩ = some (.string s2) ∧ s2.toList.isEmpty = false := by
            simp only [headB, Bool.or_eq_true, decide_eq_true_eq, Bool.not_eq_true'] at hh
            by_cases h0 : k = 0
            · exact .inl (beq_iff_eq.2 (by omega))
            · have he : emp L (k - 1) = false := by rcases hh with hh | hh; exact absurd hh h0; exact hh
              obtain ⟨b', off', s2, e', _, hc2, hw2⟩ := emp_facts hLV (i := k - 1) (by omega)
              cases e'
              rcases hw2 with ⟨e, _⟩ | ⟨_, hse2, _⟩
              · rw [he] at e; cases e
              · exact .inr ⟨k - 1, s2, by omega, by omega, by omega, beq_eq_false_iff_ne.2 (by omega), hc2, hse2⟩
          clear hh h1 HK
          rcases hcase with e0 | ⟨k1, s2, e1, e2, e3, e4, hc2, hse2⟩
          all_goals (
            obtain ⟨fn, tmps, assign, body, hy, hYR⟩ := HYY.out
            dsimp only at hy
            (try rw [show ((0 : Nat) : Int) = 0 from rfl] at hy)
            gi_wp2
            refine hYR.mono ?_
            rintro e W3 (⟨rfl, hJ3, hk3⟩ | ⟨rfl, hJx3⟩)
            · obtain ⟨hc3, hL3⟩ := HK1.out _ _ hk3 hc hLV
              have hs3 := HK3.out _ _ hk3
              gi_wp2
              go_roundw
              case rel => exact ⟨k + 1, true, _, by omega, by go_num, rfl, HK2, hJ3, hc3, hL3, by omega⟩
              case measure => simp [intOf]; omega
            · gi_wp2
              refine bodyPost_ret (results_none rfl _ _ _) rfl ?_
              exact ⟨⟨_, rfl⟩, .inr ⟨_, ⟨_, HK2.out⟩, hJx3⟩⟩)
        | false =>
          have HK2 : Hid (pre.map Subtype.val ++ sentF L true (k + 1) = R) := Lib.hid (by rw [← HK.out, sentF_more hlt h1 hh])
          obtain ⟨k1, e1, e2, e3, e4, hc2⟩ : ∃ (k1 : Nat), (k : Int) - 1 = (k1 : Int) ∧ (0 : Int) ≤ (k1 : Int) ∧ (k1 : Int) < (L.length : Int) ∧ ((k : Int) == 0) = false ∧ wr.cell? ⟨b, off + k1, none⟩ = some (.string ⟨#[]⟩) := by
            simp only [headB, Bool.or_eq_false_iff, decide_eq_false_iff_not, Bool.not_eq_false'] at hh
            obtain ⟨h0, he⟩ := hh
            obtain ⟨b', off', s2, e', _, hc2, hw2⟩ := emp_facts hLV (i := k - 1) (by omega)
            cases e'
            rcases hw2 with ⟨_, rfl⟩ | ⟨e, _, _⟩
            · exact ⟨k - 1, by omega, by omega, by omega, beq_eq_false_iff_ne.2 (by omega), hc2⟩
            · rw [he] at e; cases e
          clear hh h1 HK
          gi_wp2
          go_roundw
          case rel => exact ⟨k + 1, true, pre, by omega, by go_num, rfl, HK2, hJ, hc, hLV, hWs⟩
          case measure => simp [intOf]; omega
      · obtain ⟨b', off', s', e', _, hcell', _, HSL⟩ := line_facts' hLV hlt
        cases e'
        obtain rfl : s = s' := by have := hcell.symm.trans hcell'; simpa using this
        have hsz2 : s.size ≤ 100000 := by rw [HSL.out] at hst; omega
        have hszm : s.size ≤ m := by rw [HSL.out] at hst; omega
        have hline := sentF_line (op := op) hlt h1 HSL.out
        have HST := Lib.hid (fun w0 => starts_any s op w0 hsz2)
        obtain ⟨O, hO⟩ : ∃ O, opF s op 0 = O := ⟨_, rfl⟩
        obtain ⟨sl, hsl⟩ : ∃ sl, solF s 0 = sl := ⟨_, rfl⟩
        obtain ⟨C, hC⟩ : ∃ C, colF s op 0 = C := ⟨_, rfl⟩
        have hCin := (colF_in (s := s) _ (op := op) (i := 0) rfl).1
        have hClen := (colF_in (s := s) _ (op := op) (i := 0) rfl).2
        have HSO := Lib.hid (fun w0 => psolid_any s w0 (by omega))
        rw [hO, hC] at HST
        rw [hsl] at HSO
        rw [hC] at hCin hClen
        rw [hO, hsl, hC] at hline
        have HK0 : Hid (pre.map Subtype.val ++ C.map (fun c => (k, c)) ++ sentF L (O && sl) (k + 1) = R) := Lib.hid (by rw [← HK.out, hline, List.append_assoc])
        have HCI := Lib.hid hCin
        have hCl5 : C.length ≤ 100000 := by omega
        clear hO hsl hline hcell' h1 HK hC hCin
        gi_wp2_with (gi_at_call 99; refine (callsIn_wide.2 (HST.out _)).mono ?_; rintro e w1 ⟨v, rfl, hrow, hbl⟩; obtain ⟨va, vcap, rfl⟩ := own_slice hrow)
        have hJ1 := HD.out _ _ _ hJ (grown_below hbl)
        have hc1 := cell_keep_b hbl hc
        have hL1 := hLV.below hbl (Nat.le_refl _)
        have hWs1 : W.heap.size ≤ w1.heap.size := by have := hbl.size; omega
        have hrow1 := row_base hrow hWs
        clear hrow hbl hJ hc hLV hWs hcell hb
        gi_wp2
        gi_loopw [46] (fun i wr' => ∃ (j : Nat) (pre' : List (Plc m)), j ≤ C.length ∧ i = .int .i64 j ∧ Hid (pre'.map Subtype.val ++ (C.drop j).map (fun c => (k, c)) ++ sentF L (O && sl) (k + 1) = R) ∧ J pre' wr' ∧ wr'.cell? ⟨Bl, 0, none⟩ = some (.slice (some ⟨b, off, none⟩) L.length cap) ∧ LinesAt wr' (some ⟨b, off, none⟩) L ∧ W.heap.size ≤ wr'.heap.size ∧ wr'.ownsRow W.heap.size 3 1 (.slice va C.length vcap) C.length (cellsN C))
          (fun i _ => C.length - (intOf i).toNat)
        case atStart => exact ⟨0, pre, Nat.zero_le _, rfl, Lib.hid (by simpa using HK0.out), hJ1, hc1, hL1, hWs1, hrow1⟩
        case round =>
          obtain ⟨j, pre', hj, rfl, HJ, hJ', hc', hL', hWs', hrow'⟩ := hrel
          by_cases hjl : j < C.length
          · have hjI : (j : Int) < (C.length : Int) := by omega
            have hj0 : (0 : Int) ≤ (j : Int) := by omega
            obtain ⟨g, vcap', e', hcg⟩ := row_cell hrow' hjl
            obtain ⟨rfl, rfl⟩ : va = some ⟨g, 0, none⟩ ∧ vcap = vcap' := by simpa using e'
            obtain ⟨c, hcq⟩ : ∃ c, C.getD j 0 = c := ⟨_, rfl⟩
            have hcin := HCI.out c (by rw [← hcq]; exact getD_mem C 0 j hjl)
            rw [hcq] at hcg
            have hdr : C.drop j = c :: C.drop (j + 1) := by
              rw [List.drop_eq_getElem_cons hjl, ← hcq, List.getD_eq_getElem?_getD, List.getElem?_eq_getElem hjl]; rfl
            have HJ2 : Hid ((pre' ++ [(⟨(k, c), by simp only; omega, by simp only; omega⟩ : Plc m)]).map Subtype.val ++ (C.drop (j + 1)).map (fun c => (k, c)) ++ sentF L (O && sl) (k + 1) = R) := Lib.hid (by rw [← HJ.out, hdr]; simp)
            have hpl : pre'.length < N := by have := congrArg List.length HJ2.out; simp at this; omega
            have HYY := Lib.hid (HY.out pre' ⟨(k, c), by simp only; omega, by simp only; omega⟩ wr hJ' hpl)
            clear HJ hdr hcq e'
            obtain ⟨fn, tmps, assign, body, hy, hYR⟩ := HYY.out
            dsimp only at hy
            (try rw [show ((0 : Nat) : Int) = 0 from rfl] at hy)
            gi_wp2
            refine hYR.mono ?_
            rintro e W3 (⟨rfl, hJ3, hk3⟩ | ⟨rfl, hJx3⟩)
            · obtain ⟨hc3, hL3⟩ := HK1.out _ _ hk3 hc' hL'
              have hs3 := HK3.out _ _ hk3
              have hrow3 := row_keep hrow' (fun g cs q hg hgq => HK2'.out _ _ g cs q hk3 hg hgq)
              gi_wp2
              go_roundw
              case rel => exact ⟨j + 1, _, by omega, by go_num, HJ2, hJ3, hc3, hL3, by omega, hrow3⟩
              case measure => simp [intOf]; omega
            · gi_wp2
              refine bodyPost_ret (results_none rfl _ _ _) rfl ?_
              exact ⟨⟨_, rfl⟩, .inr ⟨_, ⟨_, by rw [← HJ2.out, List.append_assoc]⟩, hJx3⟩⟩
          · have hjI : ¬ (j : Int) < (C.length : Int) := by omega
            have HK2 : Hid (pre'.map Subtype.val ++ sentF L (O && sl) (k + 1) = R) := Lib.hid (by rw [← HJ.out, List.drop_eq_nil_of_le (by omega)]; simp)
            clear HJ hrow'
            have HK3 : Hid (pre'.map Subtype.val ++ sentF L (O && sl) (k + 1) = R) := HK2
            clear HK2 HK0
            cases sl <;> cases O
            all_goals (
              gi_wp2_with (gi_at_call 100; refine (callsIn_wide.2 (HSO.out _)).mono ?_; rintro e w1 ⟨⟨i9, rfl⟩, rfl⟩)
              go_roundw
              case rel => exact ⟨k + 1, _, pre', by omega, by go_num, rfl, HK3, hJ', hc', hL', hWs'⟩
              case measure => simp [intOf]; omega)
    · have HE : Hid (pre.map Subtype.val = R) := Lib.hid (by have := HK.out; rwa [sentF_end (by omega), List.append_nil] at this)
      gi_wp2
      go_end0
      exact ⟨⟨_, rfl⟩, .inl ⟨pre, HE.out, hJ⟩⟩
end Go.Proofs.Ytnaceobbbfbhhaa
