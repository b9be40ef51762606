/- Several texts in one: Sent3, Heard2, Sent4, Sent5, SentO, Sent6, Sent7, Sent8, Heard3. Conditions: none beyond what each says. -/
import Derived.Test.YtlbbgocggifjaaaOI29
import Derived.Test.YtlbbgocggifjaaaOI21
import Derived.Test.YtlbbgocggifjaaaOI22
import Derived.Test.YtlbbgocggifjaaaOI15
import Derived.Deep.RegionHeld3
namespace Go.Proofs.Ytlbbgocggifjaaa
open Go.RowKit Go.Shelf

attribute [local go_sem] Oper.semAt_some

/-- A place of a text of m lines, m bytes at most in each. -/
abbrev Plc (m : Nat) := { p : Nat × Nat // p.1 ≤ m ∧ p.2 ≤ m }
theorem grown_below {X Y : World} (h : Below X.heap.size X Y) : X.grownBy Y none := ⟨h.os, h.tape, h.output, h.size, fun k hk _ => h.block k hk⟩
theorem row_keep {X Y : World} {base size k : Nat} {t : TypeId} {v : Value} {xs : List Value} (hr : X.ownsRow base t size v k xs) (h : ∀ g cs m, base ≤ g → X.heap[g]? = some (.cells cs t m) → Y.heap[g]? = some (.cells cs t m)) : Y.ownsRow base t size v k xs := by
  refine ⟨hr.1, ?_⟩
  rcases hr.2 with h0 | ⟨g, cap, cur, e, hb, hg, hc, hm, hs, ht⟩
  · exact .inl h0
  · exact .inr ⟨g, cap, cur, e, hb, h g cur _ hb hg, hc, hm, hs, ht⟩
theorem row_cell {X : World} {base : Nat} {t : TypeId} {v : Value} {l : List Nat} (hr : X.ownsRow base t 1 v l.length (cellsN l)) {i : Nat} (hi : i < l.length) : ∃ g cap, v = .slice (some ⟨g, 0, none⟩) l.length cap ∧ X.cell? ⟨g, i, none⟩ = some (.int .i64 ((l.getD i 0 : Nat) : Int)) := by
  have hr' := hr
  rcases hr.2 with ⟨_, h0⟩ | ⟨g, cap, cur, e, hb, hg, _⟩
  · omega
  · refine ⟨g, cap, e, ?_⟩
    have := World.ownsRow.cells hr' (g := g) (by rw [e]; rfl) i (.int .i64 ((l.getD i 0 : Nat) : Int)) (by
      rw [cellsN, List.getElem?_map, List.getElem?_eq_getElem hi, List.getD_eq_getElem?_getD, List.getElem?_eq_getElem hi]; rfl)
    rw [addr_add] at this
    exact this
theorem own_slice {X : World} {base size k : Nat} {t : TypeId} {v : Value} {xs : List Value} (hr : X.ownsRow base t size v k xs) : ∃ va vcap, v = .slice va k vcap := by
  rcases hr.2 with ⟨rfl, rfl⟩ | ⟨g, cap, cur, e, _⟩
  · exact ⟨_, _, rfl⟩
  · exact ⟨_, _, e⟩
theorem row_base {X : World} {base base' size k : Nat} {t : TypeId} {v : Value} {xs : List Value} (hr : X.ownsRow base t size v k xs) (h : base' ≤ base) : X.ownsRow base' t size v k xs := by
  refine ⟨hr.1, ?_⟩
  rcases hr.2 with h0 | ⟨g, cap, cur, e, hb, r⟩
  · exact .inl h0
  · exact .inr ⟨g, cap, cur, e, Nat.le_trans h hb, r⟩
theorem cell_keep_b {w w' : World} {b o : Nat} {v : Value} (hb : Below w.heap.size w w') (h : w.cell? ⟨b, o, none⟩ = some v) : w'.cell? ⟨b, o, none⟩ = some v :=
  (hb.cell (p := ⟨b, o, none⟩) (World.block_lt_of_cell? w _ h)).trans h
set_option maxRecDepth 100000 in
set_option maxHeartbeats 8000000 in
theorem sent1_in (n : Nat) (hn : 1 ≤ n) (l Bl m : Nat) (a : Option Addr) (cap : Nat) (L : List ByteArray) (Kp : World → World → Prop) (N : Nat)
    (hsz : L.length + total L ≤ 100000) (hm : L.length + total L ≤ m) (hN : L.length + total L ≤ N) (W : World)
    (hK1 : ∀ X Y, Kp X Y → X.cell? ⟨Bl, 0, none⟩ = some (.slice a L.length cap) → LinesAt X a L → Y.cell? ⟨Bl, 0, none⟩ = some (.slice a L.length cap) ∧ LinesAt Y a L)
    (hK2 : ∀ X Y g cs q, Kp X Y → W.heap.size ≤ g → X.heap[g]? = some (.cells cs 3 q) → Y.heap[g]? = some (.cells cs 3 q))
    (hK3 : ∀ X Y, Kp X Y → X.heap.size ≤ Y.heap.size)
    (J Jx : List (Plc m) → World → Prop)
    (hD : ∀ pre (X Y : World), J pre X → X.grownBy Y none → J pre Y)
    (hY : ∀ (pre : List (Plc m)) (x : Plc m) (X : World), J pre X → pre.length < N → YieldAt Fence.wide (n - 1) Try.prog l #[.agg #[.int .i64 (x.1.1 : Int), .int .i64 (x.1.2 : Int)]] X fun e X' =>
      (e = .returned (.bool true) ∧ J (pre ++ [x]) X' ∧ Kp X X') ∨ (e = .returned (.bool false) ∧ Jx (pre ++ [x]) X'))
    (hBl : W.cell? ⟨Bl, 0, none⟩ = some (.slice a L.length cap)) (hL : LinesAt W a L) (h0 : J [] W) :
    CallsIn Fence.wide n Try.prog 128 #[.func (.yield l) #[] #[], .pointer (some ⟨Bl, 0, none⟩)] W fun e W' => (∃ v, e = .returned v) ∧
      ((∃ ys, ys.map Subtype.val = sentP L ∧ J ys W') ∨ (∃ pre, pre.map Subtype.val <+: sentP L ∧ Jx pre W')) := by
  have hLn := hL.2.1
  have hRl := (sentP_in (L := L)).2
  obtain ⟨R, hR⟩ : ∃ R, sentP L = R := ⟨_, rfl⟩
  rw [hR] at hRl ⊢
  have HR := Lib.hid hR
  have HK1 := Lib.hid hK1
  have HK2' := Lib.hid hK2
  have HK3 := Lib.hid hK3
  have HD := Lib.hid hD
  have HY := Lib.hid hY
  clear hR hK1 hK2 hK3 hD hY
  refine callsIn_of_wp Try.func128 rfl trivial ?_ rfl
  simp only [Try.ntmps128, List.size_toArray, List.length_cons, List.length_nil, Nat.reduceAdd, Nat.reduceSub, Array.replicate_succ, Array.replicate_zero, List.push_toArray, List.append_toArray, List.nil_append, List.cons_append]
  gi_wp2
  gi_loopw [3, 14] (fun o i wr => ∃ (k : Nat) (op : Bool) (pre : List (Plc m)), k ≤ L.length ∧ i = .int .i64 k ∧ o = .bool op ∧ Hid (pre.map Subtype.val ++ sentF L op k = R) ∧ J pre wr ∧ wr.cell? ⟨Bl, 0, none⟩ = some (.slice a L.length cap) ∧ LinesAt wr a L ∧ W.heap.size ≤ wr.heap.size)
    (fun _ i _ => L.length - (intOf i).toNat)
  case atStart => exact ⟨0, true, [], Nat.zero_le _, rfl, rfl, Lib.hid (by simpa [sentP] using HR.out), h0, hBl, hL, Nat.le_refl _⟩
  case round =>
    obtain ⟨k, op, pre, hk, rfl, rfl, HK, hJ, hc, hLV, hWs⟩ := hrel
    by_cases hlt : k < L.length
    · have hltI : (k : Int) < (L.length : Int) := by omega
      have hk0 : (0 : Int) ≤ (k : Int) := by omega
      obtain ⟨b, off, s, rfl, hb, hcell, hw1⟩ := emp_facts hLV hlt
      have hst := size_le_total L k hlt
      rcases hw1 with ⟨h1, rfl⟩ | ⟨h1, hse, hs⟩
      · cases hh : headB L k with
        | true =>
          have HK2 : Hid ((pre ++ [(⟨(k, 0), by simp only; omega, Nat.zero_le _⟩ : Plc m)]).map Subtype.val ++ sentF L true (k + 1) = R) := Lib.hid (by rw [← HK.out, sentF_head hlt h1 hh]; simp)
          have hpl : pre.length < N := by have := congrArg List.length HK2.out; simp at this; omega
          have HYY := Lib.hid (HY.out pre ⟨(k, 0), by simp only; omega, Nat.zero_le _⟩ wr hJ hpl)
          have hcase : (((k : Int) == 0) = true) ∨ ∃ (k1 : Nat) (s2 : ByteArray), (k : Int) - 1 = (k1 : Int) ∧ (0 : Int) ≤ (k1 : Int) ∧ (k1 : Int) < (L.length : Int) ∧ ((k : Int) == 0) = false ∧ wr.cell? ⟨b, off + k1, none⟩ = some (.string s2) ∧ s2.toList.isEmpty = false := by
            simp only [headB, Bool.or_eq_true, decide_eq_true_eq, Bool.not_eq_true'] at hh
            by_cases h0 : k = 0
            · exact .inl (beq_iff_eq.2 (by omega))
            · have he : emp L (k - 1) = false := by rcases hh with hh | hh; exact absurd hh h0; exact hh
              obtain ⟨b', off', s2, e', _, hc2, hw2⟩ := emp_facts hLV (i := k - 1) (by omega)
              cases e'
              rcases hw2 with ⟨e, _⟩ | ⟨_, hse2, _⟩
              · rw [he] at e; cases e
              · exact .inr ⟨k - 1, s2, by omega, by omega, by omega, beq_eq_false_iff_ne.2 (by omega), hc2, hse2⟩
          clear hh h1 HK
          rcases hcase with e0 | ⟨k1, s2, e1, e2, e3, e4, hc2, hse2⟩
          all_goals (
            obtain ⟨fn, tmps, assign, body, hy, hYR⟩ := HYY.out
            dsimp only at hy
            (try rw [show ((0 : Nat) : Int) = 0 from rfl] at hy)
            gi_wp2
            refine hYR.mono ?_
            rintro e W3 (⟨rfl, hJ3, hk3⟩ | ⟨rfl, hJx3⟩)
            · obtain ⟨hc3, hL3⟩ := HK1.out _ _ hk3 hc hLV
              have hs3 := HK3.out _ _ hk3
              gi_wp2
              go_roundw
              case rel => exact ⟨k + 1, true, _, by omega, by go_num, rfl, HK2, hJ3, hc3, hL3, by omega⟩
              case measure => simp [intOf]; omega
            · gi_wp2
              refine bodyPost_ret (results_none rfl _ _ _) rfl ?_
              exact ⟨⟨_, rfl⟩, .inr ⟨_, ⟨_, HK2.out⟩, hJx3⟩⟩)
        | false =>
          have HK2 : Hid (pre.map Subtype.val ++ sentF L true (k + 1) = R) := Lib.hid (by rw [← HK.out, sentF_more hlt h1 hh])
          obtain ⟨k1, e1, e2, e3, e4, hc2⟩ : ∃ (k1 : Nat), (k : Int) - 1 = (k1 : Int) ∧ (0 : Int) ≤ (k1 : Int) ∧ (k1 : Int) < (L.length : Int) ∧ ((k : Int) == 0) = false ∧ wr.cell? ⟨b, off + k1, none⟩ = some (.string ⟨#[]⟩) := by
            simp only [headB, Bool.or_eq_false_iff, decide_eq_false_iff_not, Bool.not_eq_false'] at hh
            obtain ⟨h0, he⟩ := hh
            obtain ⟨b', off', s2, e', _, hc2, hw2⟩ := emp_facts hLV (i := k - 1) (by omega)
            cases e'
            rcases hw2 with ⟨_, rfl⟩ | ⟨e, _, _⟩
            · exact ⟨k - 1, by omega, by omega, by omega, beq_eq_false_iff_ne.2 (by omega), hc2⟩
            · rw [he] at e; cases e
          clear hh h1 HK
          gi_wp2
          go_roundw
          case rel => exact ⟨k + 1, true, pre, by omega, by go_num, rfl, HK2, hJ, hc, hLV, hWs⟩
          case measure => simp [intOf]; omega
      · obtain ⟨b', off', s', e', _, hcell', _, HSL⟩ := line_facts' hLV hlt
        cases e'
        obtain rfl : s = s' := by have := hcell.symm.trans hcell'; simpa using this
        have hsz2 : s.size ≤ 100000 := by rw [HSL.out] at hst; omega
        have hszm : s.size ≤ m := by rw [HSL.out] at hst; omega
        have hline := sentF_line (op := op) hlt h1 HSL.out
        have HST := Lib.hid (fun w0 => starts_any s op w0 hsz2)
        obtain ⟨O, hO⟩ : ∃ O, opF s op 0 = O := ⟨_, rfl⟩
        obtain ⟨sl, hsl⟩ : ∃ sl, solF s 0 = sl := ⟨_, rfl⟩
        obtain ⟨C, hC⟩ : ∃ C, colF s op 0 = C := ⟨_, rfl⟩
        have hCin := (colF_in (s := s) _ (op := op) (i := 0) rfl).1
        have hClen := (colF_in (s := s) _ (op := op) (i := 0) rfl).2
        have HSO := Lib.hid (fun w0 => psolid_any s w0 (by omega))
        rw [hO, hC] at HST
        rw [hsl] at HSO
        rw [hC] at hCin hClen
        rw [hO, hsl, hC] at hline
        have HK0 : Hid (pre.map Subtype.val ++ C.map (fun c => (k, c)) ++ sentF L (O && sl) (k + 1) = R) := Lib.hid (by rw [← HK.out, hline, List.append_assoc])
        have HCI := Lib.hid hCin
        have hCl5 : C.length ≤ 100000 := by omega
        clear hO hsl hline hcell' h1 HK hC hCin
        gi_wp2_with (gi_at_call 129; refine (callsIn_wide.2 (HST.out _)).mono ?_; rintro e w1 ⟨v, rfl, hrow, hbl⟩; obtain ⟨va, vcap, rfl⟩ := own_slice hrow)
        have hJ1 := HD.out _ _ _ hJ (grown_below hbl)
        have hc1 := cell_keep_b hbl hc
        have hL1 := hLV.below hbl (Nat.le_refl _)
        have hWs1 : W.heap.size ≤ w1.heap.size := by have := hbl.size; omega
        have hrow1 := row_base hrow hWs
        clear hrow hbl hJ hc hLV hWs hcell hb
        gi_wp2
        gi_loopw [46] (fun i wr' => ∃ (j : Nat) (pre' : List (Plc m)), j ≤ C.length ∧ i = .int .i64 j ∧ Hid (pre'.map Subtype.val ++ (C.drop j).map (fun c => (k, c)) ++ sentF L (O && sl) (k + 1) = R) ∧ J pre' wr' ∧ wr'.cell? ⟨Bl, 0, none⟩ = some (.slice (some ⟨b, off, none⟩) L.length cap) ∧ LinesAt wr' (some ⟨b, off, none⟩) L ∧ W.heap.size ≤ wr'.heap.size ∧ wr'.ownsRow W.heap.size 3 1 (.slice va C.length vcap) C.length (cellsN C))
          (fun i _ => C.length - (intOf i).toNat)
        case atStart => exact ⟨0, pre, Nat.zero_le _, rfl, Lib.hid (by simpa using HK0.out), hJ1, hc1, hL1, hWs1, hrow1⟩
        case round =>
          obtain ⟨j, pre', hj, rfl, HJ, hJ', hc', hL', hWs', hrow'⟩ := hrel
          by_cases hjl : j < C.length
          · have hjI : (j : Int) < (C.length : Int) := by omega
            have hj0 : (0 : Int) ≤ (j : Int) := by omega
            obtain ⟨g, vcap', e', hcg⟩ := row_cell hrow' hjl
            obtain ⟨rfl, rfl⟩ : va = some ⟨g, 0, none⟩ ∧ vcap = vcap' := by simpa using e'
            obtain ⟨c, hcq⟩ : ∃ c, C.getD j 0 = c := ⟨_, rfl⟩
            have hcin := HCI.out c (by rw [← hcq]; exact getD_mem C 0 j hjl)
            rw [hcq] at hcg
            have hdr : C.drop j = c :: C.drop (j + 1) := by
              rw [List.drop_eq_getElem_cons hjl, ← hcq, List.getD_eq_getElem?_getD, List.getElem?_eq_getElem hjl]; rfl
            have HJ2 : Hid ((pre' ++ [(⟨(k, c), by simp only; omega, by simp only; omega⟩ : Plc m)]).map Subtype.val ++ (C.drop (j + 1)).map (fun c => (k, c)) ++ sentF L (O && sl) (k + 1) = R) := Lib.hid (by rw [← HJ.out, hdr]; simp)
            have hpl : pre'.length < N := by have := congrArg List.length HJ2.out; simp at this; omega
            have HYY := Lib.hid (HY.out pre' ⟨(k, c), by simp only; omega, by simp only; omega⟩ wr hJ' hpl)
            clear HJ hdr hcq e'
            obtain ⟨fn, tmps, assign, body, hy, hYR⟩ := HYY.out
            dsimp only at hy
            (try rw [show ((0 : Nat) : Int) = 0 from rfl] at hy)
            gi_wp2
            refine hYR.mono ?_
            rintro e W3 (⟨rfl, hJ3, hk3⟩ | ⟨rfl, hJx3⟩)
            · obtain ⟨hc3, hL3⟩ := HK1.out _ _ hk3 hc' hL'
              have hs3 := HK3.out _ _ hk3
              have hrow3 := row_keep hrow' (fun g cs q hg hgq => HK2'.out _ _ g cs q hk3 hg hgq)
              gi_wp2
              go_roundw
              case rel => exact ⟨j + 1, _, by omega, by go_num, HJ2, hJ3, hc3, hL3, by omega, hrow3⟩
              case measure => simp [intOf]; omega
            · gi_wp2
              refine bodyPost_ret (results_none rfl _ _ _) rfl ?_
              exact ⟨⟨_, rfl⟩, .inr ⟨_, ⟨_, by rw [← HJ2.out, List.append_assoc]⟩, hJx3⟩⟩
          · have hjI : ¬ (j : Int) < (C.length : Int) := by omega
            have HK2 : Hid (pre'.map Subtype.val ++ sentF L (O && sl) (k + 1) = R) := Lib.hid (by rw [← HJ.out, List.drop_eq_nil_of_le (by omega)]; simp)
            clear HJ hrow'
            have HK3 : Hid (pre'.map Subtype.val ++ sentF L (O && sl) (k + 1) = R) := HK2
            clear HK2 HK0
            cases sl <;> cases O
            all_goals (
              gi_wp2_with (gi_at_call 130; refine (callsIn_wide.2 (HSO.out _)).mono ?_; rintro e w1 ⟨⟨i9, rfl⟩, rfl⟩)
              go_roundw
              case rel => exact ⟨k + 1, _, pre', by omega, by go_num, rfl, HK3, hJ', hc', hL', hWs'⟩
              case measure => simp [intOf]; omega)
    · have HE : Hid (pre.map Subtype.val = R) := Lib.hid (by have := HK.out; rwa [sentF_end (by omega), List.append_nil] at this)
      gi_wp2
      go_end0
      exact ⟨⟨_, rfl⟩, .inl ⟨pre, HE.out, hJ⟩⟩
end Go.Proofs.Ytlbbgocggifjaaa
namespace Go.Proofs.Ytlbbgocggifjaaa
open Go.RowKit Go.Shelf

attribute [local go_sem] Oper.semAt_some

/-- A place in a box. -/
def Box2 (W : World) (B : Nat) (t : TypeId) (u v : Value) : Prop := W.heap[B]? = some (.cells #[u, v] t (0, 0))
theorem Box2.c0 {W : World} {B : Nat} {t : TypeId} {u v : Value} (h : Box2 W B t u v) : W.cell? ⟨B, 0, none⟩ = some u := by simp [World.cell?, show W.heap[B]? = _ from h]
theorem Box2.c1 {W : World} {B : Nat} {t : TypeId} {u v : Value} (h : Box2 W B t u v) : W.cell? ⟨B, 1, none⟩ = some v := by simp [World.cell?, show W.heap[B]? = _ from h]
theorem Box2.lt {W : World} {B : Nat} {t : TypeId} {u v : Value} (h : Box2 W B t u v) : B < W.heap.size := (Array.getElem?_eq_some_iff.1 h).1
theorem Box2.own {β : Type} (B n : Nat) (t : TypeId) (u v : Value) : OwnFrom (β := β) n (fun _ W => Box2 W B t u v) := fun _ X Y row hs hg hr => by
  refine (hg.block B hs.lt (fun e => ?_)).trans hs
  obtain ⟨o, ho, hc⟩ := (hr B e.symm).2
  rw [show X.heap[B]? = _ from hs] at ho
  cases ho; cases hc
/-- The pairs that came. -/
abbrev valsP {m : Nat} (pre : List (Plc m)) : List (Nat × Nat) := pre.map Subtype.val
theorem typFrom {β : Type} {t : TypeId} {n B : Nat} {E : List Nat} {w₀ : World} (hB : n ≤ B) : OwnFrom B (fun (_ : β) W => Typ t n E w₀ W) :=
  fun _ X Y row hs hg hr => hs.grown hg (fun j e => ⟨.inl (by have := (hr j e).1; omega), .inr (fun cs m e2 => by
    obtain ⟨o, ho, hc⟩ := (hr j e).2
    rw [e2] at ho
    cases ho; cases hc)⟩)
theorem typ_appended {X w1 : World} {n B : Nat} {E : List Nat} {t e t0 : TypeId} {size : Nat} {v v' : Value} {k m : Nat} {xs ys : List Value} {tmp : Obj} (hv : Boxed X B t v) (hte : t ≠ e) (het : e ≠ t0) (hrow : X.ownsRow n e size v k xs) (hown' : w1.ownsRow n e size v' m ys)
    (hgrow : (X.alloc tmp).grownBy w1 v.ownBlock) (_hn : n ≤ X.heap.size) (hE : B ∈ E) :
    Boxed w1 B t v ∧ Boxed (w1.setCell ⟨B, 0, none⟩ v') B t v' ∧ (w1.setCell ⟨B, 0, none⟩ v').ownsRow n e size v' m ys ∧ KeepsOthers X (w1.setCell ⟨B, 0, none⟩ v') ∧ Typ t0 n E X (w1.setCell ⟨B, 0, none⟩ v') := by
  have hv1 : Boxed w1 B t v := (hv.alloc tmp).kept hgrow (hv.not_row hte hrow)
  have ho := own_other het hrow
  refine ⟨hv1, hv1.set v', hown'.kept (grownBy_setCell' w1 B v') (.inr (hv1.not_row hte hown').symm), ?_, ?_⟩
  · refine ((KeepsOthers.alloc X tmp).trans (KeepsOthers.of_grownBy hgrow fun j o ej hj => ?_)).trans (KeepsOthers.setCell _ _ _)
    rcases (hrow.alloc tmp).2 with ⟨rfl, _⟩ | ⟨g, cap, cur, rfl, _, hgb, _⟩
    · simp [Value.ownBlock] at ej
    · obtain rfl : g = j := by simpa [Value.ownBlock] using ej
      rw [hgb] at hj; cases hj; rfl
  · refine (((Typ.refl t0 n E X).alloc tmp).grown hgrow fun j ej => ⟨.inl (ho j ej).1, .inr (fun cs q hq => ?_)⟩).setCell hE 0 v'
    rw [Below.heap_alloc _ _ _ (hrow.lt j ej).2] at hq
    exact (ho j ej).2 cs q hq
theorem appended_box2 {X w1 : World} {Bx : Nat} {t : TypeId} {u v : Value} {tmp : Obj} {r : Option Nat} (h : Box2 X Bx t u v) (hgrow : (X.alloc tmp).grownBy w1 r) (hne : r ≠ some Bx) : Box2 w1 Bx t u v :=
  (hgrow.block Bx (by have := h.lt; simp; omega) (fun e => hne e.symm)).trans ((Below.heap_alloc _ _ _ h.lt).trans h)
end Go.Proofs.Ytlbbgocggifjaaa
namespace Go.Proofs.Ytlbbgocggifjaaa
open Go.RowKit Go.Shelf

theorem psent_any (a : Option Addr) (cap : Nat) (L : List ByteArray) (w : World) : Calls Try.prog 70 #[.slice a L.length cap] w fun e w' =>
    e = .returned (.func (.func 128) #[] #[.pointer (some ⟨w.heap.size, 0, none⟩)]) ∧ w.alloc (.cells #[.slice a L.length cap] 22) = w' := by
  go_enter Try.func70, Try.ntmps70
  go_wp2
  go_ret
  exact ⟨rfl, rfl⟩
theorem lines_typ {X Y : World} {t : TypeId} {n : Nat} {E : List Nat} {a : Option Addr} {L : List ByteArray} (h : Typ t n E X Y) (hL : LinesAt X a L) (hE : ∀ b off, a = some ⟨b, off, none⟩ → b < n ∧ b ∉ E) : LinesAt Y a L :=
  ⟨fun i hi => by
    obtain ⟨b, off, e, hlt, hc⟩ := hL.1 i hi
    obtain ⟨h1, h2⟩ := hE b off e
    exact ⟨b, off, e, Nat.lt_of_lt_of_le hlt h.size, h.cell h1 h2 hc⟩, hL.2⟩
theorem sent_stops (Bl m : Nat) (a : Option Addr) (cap : Nat) (L : List ByteArray) (E : List Nat) (W : World) (hsz : L.length + total L ≤ 100000) (hm : L.length + total L ≤ m)
    (hBl : W.cell? ⟨Bl, 0, none⟩ = some (.slice a L.length cap)) (hL : LinesAt W a L) (hEn : ∀ k ∈ E, k < W.heap.size) (hBE : Bl ∉ E) (hE : ∀ b off, a = some ⟨b, off, none⟩ → b < W.heap.size ∧ b ∉ E) :
    SeqStopsK Fence.wide 8 Try.prog 128 #[.pointer (some ⟨Bl, 0, none⟩)] (fun x : Plc m => #[Value.agg #[Value.int .i64 (x.1.1 : Int), Value.int .i64 (x.1.2 : Int)]]) (Typ 3 W.heap.size E)
      (fun ys => ys.map Subtype.val = sentP L) (fun pre => pre.map Subtype.val <+: sentP L) 100000 W := fun l J Jx X hX hJ _ hY h0 =>
  sent1_in 8 (by omega) l Bl m a cap L (Typ 3 W.heap.size E) 100000 hsz hm hsz X
    (fun A B hk hc hl => ⟨hk.cell (World.block_lt_of_cell? _ _ hBl) hBE hc, lines_typ hk hl hE⟩)
    (fun A B g cs q hk hg hc => hk.row g cs q hc (fun he => by have := hEn g he; have := hX.size; omega))
    (fun A B hk => hk.size)
    J Jx (fun pre A B h g => hJ pre A B none h g (fun r e => by cases e)) (fun pre x A h hl => hY pre x A h hl)
    ((hX.cell (p := ⟨Bl, 0, none⟩) (World.block_lt_of_cell? _ _ hBl)).trans hBl) (hL.below hX (Nat.le_refl _)) h0
end Go.Proofs.Ytlbbgocggifjaaa
namespace Go.Proofs.Ytlbbgocggifjaaa
open Go.RowKit Go.Shelf

/-- The places behind one; those ahead of it, the last first. -/
def behR (l c : Int) (R : List (Nat × Nat)) : List (Nat × Nat) := R.filter (fun s => lessB l c (s.1 : Int) (s.2 : Int))
def ahdR (l c : Int) (R : List (Nat × Nat)) : List (Nat × Nat) := (R.filter (fun s => lessB (s.1 : Int) (s.2 : Int) l c)).reverse
theorem behR_len (l c : Int) (R : List (Nat × Nat)) : (behR l c R).length ≤ R.length := List.length_filter_le _ _
theorem ahdR_len (l c : Int) (R : List (Nat × Nat)) : (ahdR l c R).length ≤ R.length := by rw [ahdR, List.length_reverse]; exact List.length_filter_le _ _
theorem behR_step {l c : Int} {R : List (Nat × Nat)} {k : Nat} (hk : k < R.length) : behR l c (R.take (k + 1)) = behR l c (R.take k) ++ (if lessB l c ((R.getD k (0, 0)).1 : Int) ((R.getD k (0, 0)).2 : Int) = true then [R.getD k (0, 0)] else []) := by
  rw [take_snoc_getD R (0, 0) k hk, behR, behR, List.filter_append]
  congr 1
  rw [List.filter_cons, List.filter_nil]
theorem ahdR_step {l c : Int} {R : List (Nat × Nat)} {k : Nat} (hk : k < R.length) : ahdR l c (R.drop k) = ahdR l c (R.drop (k + 1)) ++ (if lessB ((R.getD k (0, 0)).1 : Int) ((R.getD k (0, 0)).2 : Int) l c = true then [R.getD k (0, 0)] else []) := by
  have e : R.drop k = R.getD k (0, 0) :: R.drop (k + 1) := by
    rw [List.drop_eq_getElem_cons hk, List.getD_eq_getElem?_getD, List.getElem?_eq_getElem hk]; rfl
  rw [e, ahdR, ahdR, List.filter_cons]
  split
  · rw [List.reverse_cons]
  · rw [List.append_nil]
theorem cell_two_new' {w : World} {n : Nat} (h : n = w.heap.size) (a b : Value) (t : TypeId) : ∀ j u, [a, b][j]? = some u → (w.alloc (.cells #[a, b] t)).cell? ((⟨n, 0, none⟩ : Addr).add j) = some u := by
  subst h
  exact cell_two_new w a b t
theorem own_ovr {w x : World} {base size k : Nat} {t : TypeId} {v : Value} {xs : List Value} (h : w.ownsRow base t size v k xs) : (ovr w x).ownsRow base t size v k xs := h.kept (grown_below (below_ovr w x)) (by
  cases hv : v.ownBlock with
  | none => exact .inl rfl
  | some j => exact .inr (by simp))
set_option maxRecDepth 100000 in
set_option maxHeartbeats 4000000 in
theorem rbehind_any (a : Option Addr) (cap : Nat) (R : List (Nat × Nat)) (l c : Int) (w : World) (ha : PairsAt w a R) (hR : R.length ≤ 100000) : Calls Try.prog 133 #[.slice a R.length cap, .agg #[.int .i64 l, .int .i64 c], .bool false] w fun e w' =>
    ∃ v, e = .returned v ∧ w'.ownsRow w.heap.size 29 2 v (behR l c R).length (cellsV (behR l c R)) ∧ Below w.heap.size w w' := by
  obtain ⟨i0, hi, hz0, hz1, hz2⟩ := info_parts infoPos
  obtain ⟨B, hB0⟩ : ∃ B, behR l c R = B := ⟨_, rfl⟩
  rw [hB0]
  have HB := Lib.hid hB0
  clear hB0
  go_enter Try.func133, Try.ntmps133
  go_wp2
  refine name_world ?_
  intro W0 hW0
  have p0 : W0.cell? ⟨w.heap.size, 0, none⟩ = some (.int .i64 l) := by rw [hW0]; simp [go_sem]
  have p1 : W0.cell? ⟨w.heap.size, 1, none⟩ = some (.int .i64 c) := by rw [hW0]; simp [go_sem]
  have hb0 : Below w.heap.size w W0 := by rw [hW0]; (repeat (first | with_reducible exact Below.refl _ _ | (with_reducible refine Below.setCell ?_ ?_ _; rotate_left; · (first | exact Nat.le_refl _ | assumption | omega | (simp; done) | (simp; omega))) | (with_reducible refine Below.alloc ?_ ?_ _; rotate_left; · (first | exact Nat.le_refl _ | assumption | omega | (simp; done) | (simp; omega))) | with_reducible refine below_ovr_of ?_ | with_reducible refine drew_below ?_ _ | with_reducible refine Below.drew ?_ | with_reducible assumption))
  have hs0 : W0.heap.size = w.heap.size + 1 := by rw [hW0]; simp
  clear hW0
  go_loopw [7, 8] (fun v i wr => ∃ (k : Nat) (pre : List (Nat × Nat)), k ≤ R.length ∧ i = .int .i64 k ∧ pre.length ≤ k ∧ Hid (behR l c (R.take k) = pre) ∧ wr.ownsRow W0.heap.size 29 2 v pre.length (cellsV pre) ∧ Below W0.heap.size W0 wr)
    (fun _ i _ => R.length - (intOf i).toNat)
  case atStart => exact ⟨0, [], Nat.zero_le _, rfl, Nat.le_refl _, Lib.hid rfl, World.ownsRow_nil _ _ _ _, Below.refl _ _⟩
  case round =>
    obtain ⟨k, pre, hk, rfl, hp, HP, hrow, hB⟩ := hrel
    have c0 := cell_keep_b hB p0
    have c1 := cell_keep_b hB p1
    have lw : w.heap.size < wr.heap.size := by have := hB.size; omega
    by_cases hlt : k < R.length
    · have hltI : (k : Int) < (R.length : Int) := by omega
      have hk0 : (0 : Int) ≤ (k : Int) := by omega
      have haV := (ha.below hb0 (Nat.le_refl _)).below hB (Nat.le_refl _)
      obtain ⟨g, rfl, hg, d0, d1⟩ := haV k hlt
      have hst := behR_step (l := l) (c := c) hlt
      obtain ⟨⟨x, y⟩, hxy⟩ : ∃ p, R.getD k (0, 0) = p := ⟨_, rfl⟩
      rw [hxy] at d0 d1 hst
      rw [HP.out] at hst
      simp only at d0 d1 hst
      obtain ⟨q, hq⟩ : ∃ q, lessB l c (x : Int) (y : Int) = q := ⟨_, rfl⟩
      rw [hq] at hst
      have HQ2 := Lib.hid hq
      clear hxy hq haV
      cases q with
      | false =>
        have HP2 : Hid (behR l c (R.take (k + 1)) = pre) := Lib.hid (by rw [hst]; simp)
        clear hst HP
        go_wp2
        (refine wp_region_ovr (by kernel_rfl) (by kernel_rfl) ?_; (repeat (go_big_quiet_step ((go_at_call 72; exact quiet_ovr (rless_at _ _ _ _ _ HQ2))))); refine wpQuiet_nil ?_; rintro _ ⟨zq, rfl⟩)
        have hrow1 := own_ovr (x := zq) hrow
        go_wp2
        go_roundw
        case rel => exact ⟨k + 1, pre, by omega, by go_num, by omega, HP2, hrow1, hB.trans ((below_ovr wr zq).mono (by have := hB.size; omega))⟩
        case measure => simp [intOf]; omega
      | true =>
        have HP2 : Hid (behR l c (R.take (k + 1)) = pre ++ [(x, y)]) := Lib.hid (by rw [hst]; simp)
        have HC := Lib.hid (cellsV_snoc pre (x, y))
        clear hst HP
        go_wp2
        (refine wp_region_ovr (by kernel_rfl) (by kernel_rfl) ?_; (repeat (go_big_quiet_step ((go_at_call 72; exact quiet_ovr (rless_at _ _ _ _ _ HQ2))))); refine wpQuiet_nil ?_; rintro _ ⟨zq, rfl⟩)
        have hrow1 := own_ovr (x := zq) hrow
        have hB1 := hB.trans ((below_ovr wr zq).mono (by have := hB.size; omega))
        have d0' := cell_keep_b (below_ovr wr zq) d0
        have d1' := cell_keep_b (below_ovr wr zq) d1
        go_wp2_with (at_builtin; refine wpList_append_own _ rfl _ _ 43 rfl W0.heap.size 29 i0 (.agg #[.int .i64 0, .int .i64 0]) 2 16 Try.underlying43 hi hz0 hz1 hz2 rfl (by decide) _ _ _ rfl (hrow1.alloc _) ⟨wr.heap.size + zq.heap.size, 0, none⟩ 1 1 [.int .i64 (x : Int), .int .i64 (y : Int)] rfl rfl (cell_two_new' (by simp) _ _ _) (by intro u hu; simp at hu; rcases hu with rfl | rfl <;> rfl) (by unfold maxLen; omega) (by omega) (by have := hB1.size; simp at this ⊢; omega) ?_; intro v' w1 hown' hgrow _)
        have hB2 : Below W0.heap.size W0 w1 := (hB1.alloc hB1.size _).grown hgrow (by have := hB1.size; simp at this ⊢; omega) (fun r e => (hrow1.lt r e).1)
        go_roundw
        case rel => exact ⟨k + 1, pre ++ [(x, y)], by omega, by go_num, by simp; omega, HP2, by rw [HC.out]; simpa using hown', hB2⟩
        case measure => simp [intOf]; omega
    · have e : pre = B := by rw [← HP.out, List.take_of_length_le (by omega)]; exact HB.out
      subst e
      go_wp2
      go_ret
      exact ⟨_, rfl, row_base hrow (by omega), hb0.trans (hB.mono (by omega))⟩
end Go.Proofs.Ytlbbgocggifjaaa
namespace Go.Proofs.Ytlbbgocggifjaaa

/-- One place ahead of another. -/
def ltN (p q : Nat × Nat) : Prop := p.1 < q.1 ∨ p.1 = q.1 ∧ p.2 < q.2
theorem colF_sorted {s : ByteArray} : ∀ (n : Nat) {op : Bool} {i : Nat}, s.size - i = n → (colF s op i).Pairwise (· < ·)
  | 0, op, i, h => by rw [colF_end (by omega)]; exact .nil
  | n + 1, op, i, h => by
    have hi : i < s.size := by omega
    by_cases hc : clsT s i = 0
    · rw [colF_blank hi hc]; exact colF_sorted n (by omega)
    · cases op with
      | true =>
        rw [colF_on hi hc]
        refine List.pairwise_cons.2 ⟨fun c hcm => ?_, colF_sorted n (by omega)⟩
        have := (colF_in (s := s) _ (op := stopB s i) (i := i + 1) rfl).1 c hcm
        omega
      | false => rw [colF_off hi hc]; exact colF_sorted n (by omega)
theorem sentF_sorted {L : List ByteArray} : ∀ (n : Nat) {op : Bool} {k : Nat}, L.length - k = n → (sentF L op k).Pairwise ltN
  | 0, op, k, h => by rw [sentF_end (by omega)]; exact .nil
  | n + 1, op, k, h => by
    have hk : k < L.length := by omega
    cases he : emp L k with
    | true =>
      cases hh : headB L k with
      | true =>
        rw [sentF_head hk he hh]
        refine List.pairwise_cons.2 ⟨fun p hp => ?_, sentF_sorted n (by omega)⟩
        have := (sentF_in (L := L) _ (op := true) (k := k + 1) rfl).1 p hp
        exact .inl (by simp only; omega)
      | false => rw [sentF_more hk he hh]; exact sentF_sorted n (by omega)
    | false =>
      rw [sentF_line hk he rfl]
      refine List.pairwise_append.2 ⟨?_, sentF_sorted n (by omega), fun p hp q hq => ?_⟩
      · refine List.pairwise_map.2 ((colF_sorted _ rfl).imp fun h => .inr ⟨rfl, h⟩)
      · obtain ⟨c, _, rfl⟩ := List.mem_map.1 hp
        have := (sentF_in (L := L) _ (op := _) (k := k + 1) rfl).1 q hq
        exact .inl (by simp only; omega)
theorem sentP_sorted (L : List ByteArray) : (sentP L).Pairwise ltN := sentF_sorted _ rfl
theorem ltN_less {p q : Nat × Nat} : lessB (p.1 : Int) (p.2 : Int) (q.1 : Int) (q.2 : Int) = true ↔ ltN p q := by
  simp only [lessB, ltN, decide_eq_true_eq]
  omega
theorem ltN_trans {p q r : Nat × Nat} (h : ltN p q) (k : ltN q r) : ltN p r := by
  simp only [ltN] at *
  omega
theorem ltN_asymm {p q : Nat × Nat} (h : ltN p q) : ¬ ltN q p := by
  simp only [ltN] at *
  omega
theorem ltN_irrefl {p : Nat × Nat} : ¬ ltN p p := by simp [ltN]
/-- A list in order, cut where a place stands that is not ahead. -/
theorem filter_cut {l c : Int} {A T : List (Nat × Nat)} {x : Nat × Nat} (hs : (A ++ x :: T).Pairwise ltN) (hA : ∀ p ∈ A, lessB (p.1 : Int) (p.2 : Int) l c = true) (hx : lessB (x.1 : Int) (x.2 : Int) l c = false) :
    (A ++ x :: T).filter (fun s => lessB (s.1 : Int) (s.2 : Int) l c) = A := by
  rw [List.filter_append, List.filter_eq_self.2 hA, List.filter_eq_nil_iff.2, List.append_nil]
  intro p hp
  rcases List.mem_cons.1 hp with rfl | hp
  · rw [hx]; decide
  · have h1 := (List.pairwise_cons.1 (List.pairwise_append.1 hs).2.1).1 p hp
    simp only [lessB, ltN, decide_eq_false_iff_not, decide_eq_true_eq] at *
    omega
theorem get_split {R : List (Nat × Nat)} {i : Nat} (hi : i < R.length) : R = R.take i ++ R.getD i (0, 0) :: R.drop (i + 1) := by
  have e : R.drop i = R.getD i (0, 0) :: R.drop (i + 1) := by
    rw [List.drop_eq_getElem_cons hi, List.getD_eq_getElem?_getD, List.getElem?_eq_getElem hi]; rfl
  rw [← e, List.take_append_drop]
theorem sorted_at {R : List (Nat × Nat)} {i : Nat} (hs : R.Pairwise ltN) (hi : i < R.length) : (∀ p ∈ R.take i, ltN p (R.getD i (0, 0))) ∧ (∀ p ∈ R.drop (i + 1), ltN (R.getD i (0, 0)) p) := by
  rw [get_split hi] at hs
  obtain ⟨_, h2, h3⟩ := List.pairwise_append.1 hs
  exact ⟨fun p hp => h3 p hp _ (List.mem_cons_self ..), fun p hp => (List.pairwise_cons.1 h2).1 p hp⟩
theorem behR_at {R : List (Nat × Nat)} {i : Nat} (hs : R.Pairwise ltN) (hi : i < R.length) : behR ((R.getD i (0, 0)).1 : Int) ((R.getD i (0, 0)).2 : Int) R = R.drop (i + 1) := by
  obtain ⟨h1, h2⟩ := sorted_at hs hi
  obtain ⟨g, hg⟩ : ∃ g, R.getD i (0, 0) = g := ⟨_, rfl⟩
  rw [hg] at h1 h2 ⊢
  have e := get_split hi
  rw [hg] at e
  rw [behR]
  conv => lhs; rw [e]
  rw [List.filter_append, List.filter_eq_nil_iff.2, List.nil_append, List.filter_cons, if_neg, List.filter_eq_self.2]
  · exact fun p hp => ltN_less.2 (h2 p hp)
  · exact fun h => ltN_irrefl (ltN_less.1 h)
  · exact fun p hp h => ltN_asymm (h1 p hp) (ltN_less.1 h)
theorem ahdR_at {R : List (Nat × Nat)} {i : Nat} (hs : R.Pairwise ltN) (hi : i < R.length) : ahdR ((R.getD i (0, 0)).1 : Int) ((R.getD i (0, 0)).2 : Int) R = (R.take i).reverse := by
  obtain ⟨h1, h2⟩ := sorted_at hs hi
  obtain ⟨g, hg⟩ : ∃ g, R.getD i (0, 0) = g := ⟨_, rfl⟩
  rw [hg] at h1 h2 ⊢
  have e := get_split hi
  rw [hg] at e
  rw [ahdR]
  congr 1
  conv => lhs; rw [e]
  refine filter_cut (by rw [← e]; exact hs) (fun p hp => ltN_less.2 (h1 p hp)) ?_
  rw [Bool.eq_false_iff]
  exact fun h => ltN_irrefl (ltN_less.1 h)
end Go.Proofs.Ytlbbgocggifjaaa
namespace Go.Proofs.Ytlbbgocggifjaaa
open Go.RowKit Go.Shelf

def jumpM (s : Nat × Nat) : Mov × Bool := (((s.1 : Int), (s.2 : Int), 0, true, -1), true)
def sentNextO (B : List (Nat × Nat)) (l c : Int) (e ec : Nat) (op : Bool) (m : Nat) : Mov × Bool :=
  if m ≤ B.length then jumpM (B.getD (m - 1) (0, 0)) else if op = true ∧ m = B.length + 1 ∧ lessB l c (e : Int) (ec : Int) = true then jumpM (e, ec) else noMov
/-- The n-th sentence behind a place; the text's end, for an operator. -/
def sentNextP (L : List ByteArray) (pl pc n : Int) (op : Bool) : Mov × Bool :=
  if plcB L pl pc = true ∧ 1 ≤ n then sentNextO (behR pl pc (sentP L)) pl pc (L.length - 1) (L.getD (L.length - 1) .empty).size op n.toNat else noMov
def sentBackO (A : List (Nat × Nat)) (m : Nat) : Mov × Bool := if m ≤ A.length then jumpM (A.getD (m - 1) (0, 0)) else noMov
def sentBackP (L : List ByteArray) (pl pc n : Int) : Mov × Bool := if plcB L pl pc = true ∧ 1 ≤ n then sentBackO (ahdR pl pc (sentP L)) n.toNat else noMov
theorem sentNextP_no {L : List ByteArray} {pl pc n : Int} {op : Bool} (h : ¬ (plcB L pl pc = true ∧ 1 ≤ n)) : sentNextP L pl pc n op = noMov := by rw [sentNextP, if_neg h]
theorem sentBackP_no {L : List ByteArray} {pl pc n : Int} (h : ¬ (plcB L pl pc = true ∧ 1 ≤ n)) : sentBackP L pl pc n = noMov := by rw [sentBackP, if_neg h]
theorem sent_in {L : List ByteArray} {pl pc n : Int} (h : plcB L pl pc = true ∧ 1 ≤ n) : ∃ l c m : Nat, pl = l ∧ pc = c ∧ n = m ∧ l < L.length ∧ 1 ≤ m ∧ (∀ op, sentNextP L l c m op = sentNextO (behR l c (sentP L)) l c (L.length - 1) (L.getD (L.length - 1) .empty).size op m) ∧ sentBackP L l c m = sentBackO (ahdR l c (sentP L)) m := by
  obtain ⟨h1, h2⟩ := h
  obtain ⟨p1, p2, p3, p4⟩ := plcB_spec h1
  obtain ⟨l, rfl⟩ := Int.eq_ofNat_of_zero_le p1
  obtain ⟨c, rfl⟩ := Int.eq_ofNat_of_zero_le p3
  obtain ⟨m, rfl⟩ := Int.eq_ofNat_of_zero_le (show 0 ≤ n by omega)
  exact ⟨l, c, m, rfl, rfl, rfl, by omega, by omega, fun op => by rw [sentNextP, if_pos ⟨h1, h2⟩]; rfl, by rw [sentBackP, if_pos ⟨h1, h2⟩]; rfl⟩
theorem sentNextO_in {B : List (Nat × Nat)} {l c : Int} {e ec m x y : Nat} {op : Bool} (h : m ≤ B.length) (hx : B.getD (m - 1) (0, 0) = (x, y)) : sentNextO B l c e ec op m = (((x : Int), (y : Int), 0, true, -1), true) := by rw [sentNextO, if_pos h, hx]; rfl
theorem sentNextO_end {B : List (Nat × Nat)} {l c : Int} {e ec m : Nat} (h : m = B.length + 1) (hl : lessB l c (e : Int) (ec : Int) = true) : sentNextO B l c e ec true m = (((e : Int), (ec : Int), 0, true, -1), true) := by rw [sentNextO, if_neg (by omega), if_pos ⟨rfl, h, hl⟩]; rfl
theorem sentNextO_no {B : List (Nat × Nat)} {l c : Int} {e ec m : Nat} {op : Bool} (h : ¬ m ≤ B.length) (hl : ¬ (op = true ∧ m = B.length + 1 ∧ lessB l c (e : Int) (ec : Int) = true)) : sentNextO B l c e ec op m = noMov := by rw [sentNextO, if_neg h, if_neg hl]
set_option maxRecDepth 100000 in
set_option maxHeartbeats 4000000 in
theorem rahead_any (a : Option Addr) (cap : Nat) (R : List (Nat × Nat)) (l c : Int) (w : World) (ha : PairsAt w a R) (hR : R.length ≤ 100000) : Calls Try.prog 134 #[.slice a R.length cap, .agg #[.int .i64 l, .int .i64 c]] w fun e w' =>
    ∃ v, e = .returned v ∧ w'.ownsRow w.heap.size 29 2 v (ahdR l c R).length (cellsV (ahdR l c R)) ∧ Below w.heap.size w w' := by
  obtain ⟨i0, hi, hz0, hz1, hz2⟩ := info_parts infoPos
  obtain ⟨B, hB0⟩ : ∃ B, ahdR l c R = B := ⟨_, rfl⟩
  rw [hB0]
  have HB := Lib.hid hB0
  clear hB0
  go_enter Try.func134, Try.ntmps134
  go_wp2
  refine name_world ?_
  intro W0 hW0
  have p0 : W0.cell? ⟨w.heap.size, 0, none⟩ = some (.int .i64 l) := by rw [hW0]; simp [go_sem]
  have p1 : W0.cell? ⟨w.heap.size, 1, none⟩ = some (.int .i64 c) := by rw [hW0]; simp [go_sem]
  have hb0 : Below w.heap.size w W0 := by rw [hW0]; (repeat (first | with_reducible exact Below.refl _ _ | (with_reducible refine Below.setCell ?_ ?_ _; rotate_left; · (first | exact Nat.le_refl _ | assumption | omega | (simp; done) | (simp; omega))) | (with_reducible refine Below.alloc ?_ ?_ _; rotate_left; · (first | exact Nat.le_refl _ | assumption | omega | (simp; done) | (simp; omega))) | with_reducible refine below_ovr_of ?_ | with_reducible refine drew_below ?_ _ | with_reducible refine Below.drew ?_ | with_reducible assumption))
  have hs0 : W0.heap.size = w.heap.size + 1 := by rw [hW0]; simp
  clear hW0
  go_loopw [5, 6] (fun v i wr => ∃ (k : Nat) (pre : List (Nat × Nat)), k ≤ R.length ∧ i = .int .i64 ((k : Int) - 1) ∧ pre.length + k ≤ R.length ∧ Hid (ahdR l c (R.drop k) = pre) ∧ wr.ownsRow W0.heap.size 29 2 v pre.length (cellsV pre) ∧ Below W0.heap.size W0 wr)
    (fun _ i _ => (intOf i + 1).toNat)
  case atStart => exact ⟨R.length, [], Nat.le_refl _, by go_num, by simp, Lib.hid (by rw [List.drop_length]; rfl), World.ownsRow_nil _ _ _ _, Below.refl _ _⟩
  case round =>
    obtain ⟨k', pre, hk, rfl, hp, HP, hrow, hB⟩ := hrel
    have c0 := cell_keep_b hB p0
    have c1 := cell_keep_b hB p1
    have lw : w.heap.size < wr.heap.size := by have := hB.size; omega
    rcases k' with _ | k
    · have e : pre = B := by rw [← HP.out, List.drop_zero]; exact HB.out
      subst e
      have e0 : ((0 : Nat) : Int) - 1 = -1 := by omega
      rw [e0]
      clear e0
      go_wp2
      go_ret
      exact ⟨_, rfl, row_base hrow (by omega), hb0.trans (hB.mono (by omega))⟩
    · have e0 : ((k + 1 : Nat) : Int) - 1 = (k : Int) := by omega
      rw [e0]
      clear e0
      have hlt : k < R.length := by omega
      have hltI : (k : Int) < (R.length : Int) := by omega
      have hk0 : (0 : Int) ≤ (k : Int) := by omega
      have haV := (ha.below hb0 (Nat.le_refl _)).below hB (Nat.le_refl _)
      obtain ⟨g, rfl, hg, d0, d1⟩ := haV k hlt
      have hst := ahdR_step (l := l) (c := c) hlt
      obtain ⟨⟨x, y⟩, hxy⟩ : ∃ p, R.getD k (0, 0) = p := ⟨_, rfl⟩
      rw [hxy] at d0 d1 hst
      rw [HP.out] at hst
      simp only at d0 d1 hst
      obtain ⟨q, hq⟩ : ∃ q, lessB (x : Int) (y : Int) l c = q := ⟨_, rfl⟩
      rw [hq] at hst
      have HQ2 := Lib.hid hq
      clear hxy hq haV
      cases q with
      | false =>
        have HP2 : Hid (ahdR l c (R.drop k) = pre) := Lib.hid (by rw [hst]; simp)
        clear hst HP
        go_wp2
        (refine wp_region_ovr (by kernel_rfl) (by kernel_rfl) ?_; (repeat (go_big_quiet_step ((go_at_call 72; exact quiet_ovr (rless_at _ _ _ _ _ HQ2))))); refine wpQuiet_nil ?_; rintro _ ⟨zq, rfl⟩)
        have hrow1 := own_ovr (x := zq) hrow
        go_wp2
        go_roundw
        case rel => exact ⟨k, pre, by omega, by go_num, by omega, HP2, hrow1, hB.trans ((below_ovr wr zq).mono (by have := hB.size; omega))⟩
        case measure => simp [intOf] <;> omega
      | true =>
        have HP2 : Hid (ahdR l c (R.drop k) = pre ++ [(x, y)]) := Lib.hid (by rw [hst]; simp)
        have HC := Lib.hid (cellsV_snoc pre (x, y))
        clear hst HP
        go_wp2
        (refine wp_region_ovr (by kernel_rfl) (by kernel_rfl) ?_; (repeat (go_big_quiet_step ((go_at_call 72; exact quiet_ovr (rless_at _ _ _ _ _ HQ2))))); refine wpQuiet_nil ?_; rintro _ ⟨zq, rfl⟩)
        have hrow1 := own_ovr (x := zq) hrow
        have hB1 := hB.trans ((below_ovr wr zq).mono (by have := hB.size; omega))
        have d0' := cell_keep_b (below_ovr wr zq) d0
        have d1' := cell_keep_b (below_ovr wr zq) d1
        go_wp2_with (at_builtin; refine wpList_append_own _ rfl _ _ 43 rfl W0.heap.size 29 i0 (.agg #[.int .i64 0, .int .i64 0]) 2 16 Try.underlying43 hi hz0 hz1 hz2 rfl (by decide) _ _ _ rfl (hrow1.alloc _) ⟨wr.heap.size + zq.heap.size, 0, none⟩ 1 1 [.int .i64 (x : Int), .int .i64 (y : Int)] rfl rfl (cell_two_new' (by simp) _ _ _) (by intro u hu; simp at hu; rcases hu with rfl | rfl <;> rfl) (by unfold maxLen; omega) (by omega) (by have := hB1.size; simp at this ⊢; omega) ?_; intro v' w1 hown' hgrow _)
        have hB2 : Below W0.heap.size W0 w1 := (hB1.alloc hB1.size _).grown hgrow (by have := hB1.size; simp at this ⊢; omega) (fun r e => (hrow1.lt r e).1)
        go_roundw
        case rel => exact ⟨k, pre ++ [(x, y)], by omega, by go_num, by simp; omega, HP2, by rw [HC.out]; simpa using hown', hB2⟩
        case measure => simp [intOf] <;> omega
end Go.Proofs.Ytlbbgocggifjaaa
namespace Go.Proofs.Ytlbbgocggifjaaa
open Go.RowKit Go.Shelf

set_option maxRecDepth 100000 in
set_option maxHeartbeats 8000000 in
theorem rsentNext_any (a : Option Addr) (cap : Nat) (L : List ByteArray) (pl pc n : Int) (op : Bool) (w : World) (hL : LinesAt w a L) (htot : L.length + total L ≤ 100000) (hn2 : n ≤ 9223372036854775807) :
    Calls Try.prog 74 #[.slice a L.length cap, .agg #[.int .i64 pl, .int .i64 pc], .int .i64 n, .bool op] w fun e w' => e = .returned (movV (sentNextP L pl pc n op)) ∧ Below w.heap.size w w' := by
  have hn := hL.2.1
  by_cases h : plcB L pl pc = true ∧ 1 ≤ n
  · have HQ : Hid ((plcB L pl pc && decide (1 ≤ n)) = true) := Lib.hid (by rw [h.1, decide_eq_true h.2]; rfl)
    obtain ⟨l, c, m, rfl, rfl, rfl, hl, hm, hp, _⟩ := sent_in h
    replace hp := hp op
    have HSN := Lib.hid (fun (w0 : World) (h0 : LinesAt w0 a L) => rsent_any a cap L w0 h0 htot)
    have hRl := (sentP_in (L := L)).2
    obtain ⟨R, hR⟩ : ∃ R, sentP L = R := ⟨_, rfl⟩
    rw [hR] at hp HSN hRl
    have hR5 : R.length ≤ 100000 := by omega
    have hBl := behR_len l c R
    have HBH := Lib.hid (fun (w0 : World) (sa : Option Addr) (scap : Nat) (h0 : PairsAt w0 sa R) => rbehind_any sa scap R l c w0 h0 hR5)
    obtain ⟨B, hB⟩ : ∃ B, behR l c R = B := ⟨_, rfl⟩
    rw [hB] at hp HBH hBl
    obtain ⟨e, he⟩ : ∃ e, L.length - 1 = e := ⟨_, rfl⟩
    obtain ⟨b, off, s, rfl, hb, hcell, hs, HS⟩ := line_facts' hL (i := e) (by omega)
    rw [he, HS.out] at hp
    have HE := Lib.hid he
    have HP := Lib.hid hp
    have hB5 : B.length ≤ 100000 := by omega
    obtain ⟨q, hq⟩ : ∃ q, lessB (l : Int) (c : Int) (e : Int) (s.size : Int) = q := ⟨_, rfl⟩
    have HQ2 := Lib.hid hq
    clear h hR hB he hq hp
    go_enter Try.func74, Try.ntmps74
    go_wp2_with (go_at_call 111; refine (rmay_at _ _ L _ _ _ _ (by (repeat (first | assumption | refine LinesAt.ovr ?_ _ | refine LinesAt.alloc ?_ _ | refine LinesAt.drewN ?_ _ | refine LinesAt.drew ?_))) HQ).mono ?_; rintro e w1 ⟨rfl, hbl⟩; obtain ⟨x, rfl⟩ := ovr_of_below hbl; clear hbl)
    go_region_held3 (fun w' => w.heap.size < w'.heap.size ∧ w'.cell? ⟨w.heap.size, 0, none⟩ = some (.int .i64 l) ∧ w'.cell? ⟨w.heap.size, 1, none⟩ = some (.int .i64 c)) (((repeat' apply And.intro) <;> first | assumption | (simp [go_sem]; done) | (simp [go_sem, *]; done) | (simp [go_sem]; omega))) ((first | (go_at_call 71; refine (HSN.out _ (by (repeat (first | assumption | refine LinesAt.ovr ?_ _ | refine LinesAt.alloc ?_ _ | refine LinesAt.drewN ?_ _ | refine LinesAt.drew ?_)))).mono ?_; rintro e1 w1 ⟨v, rfl, hrow, hbl⟩; obtain ⟨sa, scap, rfl, hps⟩ := pairs_of_owns hrow; obtain ⟨y1, rfl⟩ := ovr_of_below hbl; clear hbl hrow) | (go_at_call 133; refine (HBH.out _ _ _ (by (repeat (first | assumption | refine PairsAt.ovr ?_ _ | refine PairsAt.alloc ?_ _ | refine PairsAt.drewN ?_ _ | refine PairsAt.drew ?_)))).mono ?_; rintro e1 w1 ⟨v, rfl, hrow, hbl⟩; obtain ⟨ba, bcap, rfl, hpb⟩ := pairs_of_owns hrow; obtain ⟨y2, rfl⟩ := ovr_of_below hbl; clear hbl hrow)))
    all_goals (go_wp2_with fail)
    all_goals (go_at_call 125; refine (rend_any _ _ L _ (by (repeat (first | assumption | refine LinesAt.ovr ?_ _ | refine LinesAt.alloc ?_ _ | refine LinesAt.drewN ?_ _ | refine LinesAt.drew ?_))) (by omega) HE.out HS.out).mono ?_; rintro e' w1 ⟨rfl, hbl⟩; obtain ⟨y3, rfl⟩ := ovr_of_below hbl; clear hbl)
    obtain ⟨m1, hm1⟩ : ∃ m1, m - 1 = m1 := ⟨_, rfl⟩
    have em : (m : Int) - 1 = (m1 : Int) := by omega
    have hm10 : (0 : Int) ≤ (m1 : Int) := by omega
    rcases (by omega : m1 < B.length ∨ m1 = B.length ∨ B.length < m1) with hc | hc | hc
    · have hb1 : ((B.length : Int) == (m1 : Int)) = false := beq_eq_false_iff_ne.2 (by omega)
      have hb2 : ¬ (B.length : Int) < (m : Int) := by omega
      have hb3 : (m1 : Int) < (B.length : Int) := by omega
      obtain ⟨g, rfl, hg, d0, d1⟩ := (hpb.ovr y3) m1 hc
      obtain ⟨⟨fx, fy⟩, hxy⟩ : ∃ p, B.getD m1 (0, 0) = p := ⟨_, rfl⟩
      rw [hxy] at d0 d1
      simp only at d0 d1
      simp at hg
      have HR : Hid (sentNextP L l c m op = (((fx : Int), (fy : Int), 0, true, -1), true)) := Lib.hid (HP.out.trans (sentNextO_in (by omega) (by rw [hm1, hxy])))
      clear hxy hm1
      cases op
      all_goals (
        go_wp2_with (go_at_call 126; refine (rjump_any _ _ _).mono ?_; rintro e w1 ⟨rfl, hbl⟩; obtain ⟨x, rfl⟩ := ovr_of_below hbl; clear hbl)
        refine bodyPost_ret (v := movV (((fx : Int), (fy : Int), 0, true, -1), true)) (by simp [results, Try.results74, go_sem]) rfl ⟨by rw [HR.out], by (repeat (first | with_reducible exact Below.refl _ _ | (with_reducible refine Below.setCell ?_ ?_ _; rotate_left; · (first | exact Nat.le_refl _ | assumption | omega | (simp; done) | (simp; omega))) | (with_reducible refine Below.alloc ?_ ?_ _; rotate_left; · (first | exact Nat.le_refl _ | assumption | omega | (simp; done) | (simp; omega))) | with_reducible refine below_ovr_of ?_ | with_reducible refine drew_below ?_ _ | with_reducible refine Below.drew ?_ | with_reducible assumption))⟩)
    · subst hc
      have hb2 : (B.length : Int) < (m : Int) := by omega
      cases op with
      | true =>
        cases q with
        | true =>
          have HR := Lib.hid (HP.out.trans (sentNextO_end (by omega) HQ2.out))
          clear hm1
          go_wp2_with (first | (go_at_call 72; refine (rless_at _ _ _ _ _ HQ2).mono ?_; rintro e w1 ⟨rfl, hbl⟩; obtain ⟨x, rfl⟩ := ovr_of_below hbl; clear hbl) | (go_at_call 126; refine (rjump_any _ _ _).mono ?_; rintro e w1 ⟨rfl, hbl⟩; obtain ⟨x, rfl⟩ := ovr_of_below hbl; clear hbl))
          refine bodyPost_ret (v := movV (((e : Int), (s.size : Int), 0, true, -1), true)) (by simp [results, Try.results74, go_sem]) rfl ⟨by rw [HR.out], by (repeat (first | with_reducible exact Below.refl _ _ | (with_reducible refine Below.setCell ?_ ?_ _; rotate_left; · (first | exact Nat.le_refl _ | assumption | omega | (simp; done) | (simp; omega))) | (with_reducible refine Below.alloc ?_ ?_ _; rotate_left; · (first | exact Nat.le_refl _ | assumption | omega | (simp; done) | (simp; omega))) | with_reducible refine below_ovr_of ?_ | with_reducible refine drew_below ?_ _ | with_reducible refine Below.drew ?_ | with_reducible assumption))⟩
        | false =>
          have HR := Lib.hid (HP.out.trans (sentNextO_no (by omega) (fun h => by have := h.2.2; rw [HQ2.out] at this; cases this)))
          clear hm1
          go_wp2_with (first | (go_at_call 72; refine (rless_at _ _ _ _ _ HQ2).mono ?_; rintro e w1 ⟨rfl, hbl⟩; obtain ⟨x, rfl⟩ := ovr_of_below hbl; clear hbl) | (go_at_call 112; refine (rnone_any _).mono ?_; rintro e w1 ⟨rfl, hbl⟩; obtain ⟨x, rfl⟩ := ovr_of_below hbl; clear hbl))
          refine bodyPost_ret (v := movV noMov) (by simp [results, Try.results74, go_sem, noMov]) rfl ⟨by rw [HR.out], by (repeat (first | with_reducible exact Below.refl _ _ | (with_reducible refine Below.setCell ?_ ?_ _; rotate_left; · (first | exact Nat.le_refl _ | assumption | omega | (simp; done) | (simp; omega))) | (with_reducible refine Below.alloc ?_ ?_ _; rotate_left; · (first | exact Nat.le_refl _ | assumption | omega | (simp; done) | (simp; omega))) | with_reducible refine below_ovr_of ?_ | with_reducible refine drew_below ?_ _ | with_reducible refine Below.drew ?_ | with_reducible assumption))⟩
      | false =>
        have HR := Lib.hid (HP.out.trans (sentNextO_no (by omega) (fun h => by cases h.1)))
        clear hm1
        go_wp2_with (go_at_call 112; refine (rnone_any _).mono ?_; rintro e w1 ⟨rfl, hbl⟩; obtain ⟨x, rfl⟩ := ovr_of_below hbl; clear hbl)
        refine bodyPost_ret (v := movV noMov) (by simp [results, Try.results74, go_sem, noMov]) rfl ⟨by rw [HR.out], by (repeat (first | with_reducible exact Below.refl _ _ | (with_reducible refine Below.setCell ?_ ?_ _; rotate_left; · (first | exact Nat.le_refl _ | assumption | omega | (simp; done) | (simp; omega))) | (with_reducible refine Below.alloc ?_ ?_ _; rotate_left; · (first | exact Nat.le_refl _ | assumption | omega | (simp; done) | (simp; omega))) | with_reducible refine below_ovr_of ?_ | with_reducible refine drew_below ?_ _ | with_reducible refine Below.drew ?_ | with_reducible assumption))⟩
    · have hb1 : ((B.length : Int) == (m1 : Int)) = false := beq_eq_false_iff_ne.2 (by omega)
      have hb2 : (B.length : Int) < (m : Int) := by omega
      have HR := Lib.hid (HP.out.trans (sentNextO_no (by omega) (fun h => by omega)))
      clear hm1
      cases op
      all_goals (
        go_wp2_with (go_at_call 112; refine (rnone_any _).mono ?_; rintro e w1 ⟨rfl, hbl⟩; obtain ⟨x, rfl⟩ := ovr_of_below hbl; clear hbl)
        refine bodyPost_ret (v := movV noMov) (by simp [results, Try.results74, go_sem, noMov]) rfl ⟨by rw [HR.out], by (repeat (first | with_reducible exact Below.refl _ _ | (with_reducible refine Below.setCell ?_ ?_ _; rotate_left; · (first | exact Nat.le_refl _ | assumption | omega | (simp; done) | (simp; omega))) | (with_reducible refine Below.alloc ?_ ?_ _; rotate_left; · (first | exact Nat.le_refl _ | assumption | omega | (simp; done) | (simp; omega))) | with_reducible refine below_ovr_of ?_ | with_reducible refine drew_below ?_ _ | with_reducible refine Below.drew ?_ | with_reducible assumption))⟩)
  · have HQ : Hid ((plcB L pl pc && decide (1 ≤ n)) = false) := Lib.hid (by
      rw [Bool.eq_false_iff]; intro e; simp only [Bool.and_eq_true, decide_eq_true_eq] at e; exact h e)
    have HP := Lib.hid (sentNextP_no (op := op) h)
    clear h
    go_enter Try.func74, Try.ntmps74
    go_wp2_with (first | (go_at_call 111; refine (rmay_at _ _ L _ _ _ _ (by (repeat (first | assumption | refine LinesAt.ovr ?_ _ | refine LinesAt.alloc ?_ _ | refine LinesAt.drewN ?_ _ | refine LinesAt.drew ?_))) HQ).mono ?_; rintro e w1 ⟨rfl, hbl⟩; obtain ⟨x, rfl⟩ := ovr_of_below hbl; clear hbl) | (go_at_call 112; refine (rnone_any _).mono ?_; rintro e w1 ⟨rfl, hbl⟩; obtain ⟨x, rfl⟩ := ovr_of_below hbl; clear hbl))
    refine bodyPost_ret (v := movV noMov) (by simp [results, Try.results74, go_sem, noMov]) rfl ⟨by rw [HP.out], by (repeat (first | with_reducible exact Below.refl _ _ | (with_reducible refine Below.setCell ?_ ?_ _; rotate_left; · (first | exact Nat.le_refl _ | assumption | omega | (simp; done) | (simp; omega))) | (with_reducible refine Below.alloc ?_ ?_ _; rotate_left; · (first | exact Nat.le_refl _ | assumption | omega | (simp; done) | (simp; omega))) | with_reducible refine below_ovr_of ?_ | with_reducible refine drew_below ?_ _ | with_reducible refine Below.drew ?_ | with_reducible assumption))⟩

set_option maxRecDepth 100000 in
set_option maxHeartbeats 8000000 in
theorem rsentBack_any (a : Option Addr) (cap : Nat) (L : List ByteArray) (pl pc n : Int) (w : World) (hL : LinesAt w a L) (htot : L.length + total L ≤ 100000) (hn2 : n ≤ 9223372036854775807) :
    Calls Try.prog 76 #[.slice a L.length cap, .agg #[.int .i64 pl, .int .i64 pc], .int .i64 n] w fun e w' => e = .returned (movV (sentBackP L pl pc n)) ∧ Below w.heap.size w w' := by
  have hn := hL.2.1
  by_cases h : plcB L pl pc = true ∧ 1 ≤ n
  · have HQ : Hid ((plcB L pl pc && decide (1 ≤ n)) = true) := Lib.hid (by rw [h.1, decide_eq_true h.2]; rfl)
    obtain ⟨l, c, m, rfl, rfl, rfl, hl, hm, _, hp⟩ := sent_in h
    have HSN := Lib.hid (fun (w0 : World) (h0 : LinesAt w0 a L) => rsent_any a cap L w0 h0 htot)
    have hRl := (sentP_in (L := L)).2
    obtain ⟨R, hR⟩ : ∃ R, sentP L = R := ⟨_, rfl⟩
    rw [hR] at hp HSN hRl
    have hR5 : R.length ≤ 100000 := by omega
    have hBl := ahdR_len l c R
    have HBH := Lib.hid (fun (w0 : World) (sa : Option Addr) (scap : Nat) (h0 : PairsAt w0 sa R) => rahead_any sa scap R l c w0 h0 hR5)
    obtain ⟨B, hB⟩ : ∃ B, ahdR l c R = B := ⟨_, rfl⟩
    rw [hB] at hp HBH hBl
    have HP := Lib.hid hp
    have hB5 : B.length ≤ 100000 := by omega
    clear h hR hB hp
    go_enter Try.func76, Try.ntmps76
    go_wp2_with (go_at_call 111; refine (rmay_at _ _ L _ _ _ _ (by (repeat (first | assumption | refine LinesAt.ovr ?_ _ | refine LinesAt.alloc ?_ _ | refine LinesAt.drewN ?_ _ | refine LinesAt.drew ?_))) HQ).mono ?_; rintro e w1 ⟨rfl, hbl⟩; obtain ⟨x, rfl⟩ := ovr_of_below hbl; clear hbl)
    go_region_held3 (fun w' => w.heap.size < w'.heap.size ∧ w'.cell? ⟨w.heap.size, 0, none⟩ = some (.int .i64 l) ∧ w'.cell? ⟨w.heap.size, 1, none⟩ = some (.int .i64 c)) (((repeat' apply And.intro) <;> first | assumption | (simp [go_sem]; done) | (simp [go_sem, *]; done) | (simp [go_sem]; omega))) ((first | (go_at_call 71; refine (HSN.out _ (by (repeat (first | assumption | refine LinesAt.ovr ?_ _ | refine LinesAt.alloc ?_ _ | refine LinesAt.drewN ?_ _ | refine LinesAt.drew ?_)))).mono ?_; rintro e1 w1 ⟨v, rfl, hrow, hbl⟩; obtain ⟨sa, scap, rfl, hps⟩ := pairs_of_owns hrow; obtain ⟨y1, rfl⟩ := ovr_of_below hbl; clear hbl hrow) | (go_at_call 134; refine (HBH.out _ _ _ (by (repeat (first | assumption | refine PairsAt.ovr ?_ _ | refine PairsAt.alloc ?_ _ | refine PairsAt.drewN ?_ _ | refine PairsAt.drew ?_)))).mono ?_; rintro e1 w1 ⟨v, rfl, hrow, hbl⟩; obtain ⟨ba, bcap, rfl, hpb⟩ := pairs_of_owns hrow; obtain ⟨y2, rfl⟩ := ovr_of_below hbl; clear hbl hrow)))
    obtain ⟨m1, hm1⟩ : ∃ m1, m - 1 = m1 := ⟨_, rfl⟩
    have em : (m : Int) - 1 = (m1 : Int) := by omega
    have hm10 : (0 : Int) ≤ (m1 : Int) := by omega
    by_cases hc : m1 < B.length
    · have hb2 : ¬ (B.length : Int) < (m : Int) := by omega
      have hb3 : (m1 : Int) < (B.length : Int) := by omega
      obtain ⟨g, rfl, hg, d0, d1⟩ := hpb m1 hc
      obtain ⟨⟨fx, fy⟩, hxy⟩ : ∃ p, B.getD m1 (0, 0) = p := ⟨_, rfl⟩
      rw [hxy] at d0 d1
      simp only at d0 d1
      simp at hg
      have HR : Hid (sentBackP L l c m = (((fx : Int), (fy : Int), 0, true, -1), true)) := Lib.hid (by rw [HP.out, sentBackO, if_pos (by omega), hm1, hxy]; rfl)
      clear hxy hm1
      go_wp2_with (go_at_call 126; refine (rjump_any _ _ _).mono ?_; rintro e w1 ⟨rfl, hbl⟩; obtain ⟨x, rfl⟩ := ovr_of_below hbl; clear hbl)
      refine bodyPost_ret (v := movV (((fx : Int), (fy : Int), 0, true, -1), true)) (by simp [results, Try.results76, go_sem]) rfl ⟨by rw [HR.out], by (repeat (first | with_reducible exact Below.refl _ _ | (with_reducible refine Below.setCell ?_ ?_ _; rotate_left; · (first | exact Nat.le_refl _ | assumption | omega | (simp; done) | (simp; omega))) | (with_reducible refine Below.alloc ?_ ?_ _; rotate_left; · (first | exact Nat.le_refl _ | assumption | omega | (simp; done) | (simp; omega))) | with_reducible refine below_ovr_of ?_ | with_reducible refine drew_below ?_ _ | with_reducible refine Below.drew ?_ | with_reducible assumption))⟩
    · have hb2 : (B.length : Int) < (m : Int) := by omega
      have HR : Hid (sentBackP L l c m = noMov) := Lib.hid (by rw [HP.out, sentBackO, if_neg (by omega)])
      clear hm1
      go_wp2_with (go_at_call 112; refine (rnone_any _).mono ?_; rintro e w1 ⟨rfl, hbl⟩; obtain ⟨x, rfl⟩ := ovr_of_below hbl; clear hbl)
      refine bodyPost_ret (v := movV noMov) (by simp [results, Try.results76, go_sem, noMov]) rfl ⟨by rw [HR.out], by (repeat (first | with_reducible exact Below.refl _ _ | (with_reducible refine Below.setCell ?_ ?_ _; rotate_left; · (first | exact Nat.le_refl _ | assumption | omega | (simp; done) | (simp; omega))) | (with_reducible refine Below.alloc ?_ ?_ _; rotate_left; · (first | exact Nat.le_refl _ | assumption | omega | (simp; done) | (simp; omega))) | with_reducible refine below_ovr_of ?_ | with_reducible refine drew_below ?_ _ | with_reducible refine Below.drew ?_ | with_reducible assumption))⟩
  · have HQ : Hid ((plcB L pl pc && decide (1 ≤ n)) = false) := Lib.hid (by
      rw [Bool.eq_false_iff]; intro e; simp only [Bool.and_eq_true, decide_eq_true_eq] at e; exact h e)
    have HP := Lib.hid (sentBackP_no h)
    clear h
    go_enter Try.func76, Try.ntmps76
    go_wp2_with (first | (go_at_call 111; refine (rmay_at _ _ L _ _ _ _ (by (repeat (first | assumption | refine LinesAt.ovr ?_ _ | refine LinesAt.alloc ?_ _ | refine LinesAt.drewN ?_ _ | refine LinesAt.drew ?_))) HQ).mono ?_; rintro e w1 ⟨rfl, hbl⟩; obtain ⟨x, rfl⟩ := ovr_of_below hbl; clear hbl) | (go_at_call 112; refine (rnone_any _).mono ?_; rintro e w1 ⟨rfl, hbl⟩; obtain ⟨x, rfl⟩ := ovr_of_below hbl; clear hbl))
    refine bodyPost_ret (v := movV noMov) (by simp [results, Try.results76, go_sem, noMov]) rfl ⟨by rw [HP.out], by (repeat (first | with_reducible exact Below.refl _ _ | (with_reducible refine Below.setCell ?_ ?_ _; rotate_left; · (first | exact Nat.le_refl _ | assumption | omega | (simp; done) | (simp; omega))) | (with_reducible refine Below.alloc ?_ ?_ _; rotate_left; · (first | exact Nat.le_refl _ | assumption | omega | (simp; done) | (simp; omega))) | with_reducible refine below_ovr_of ?_ | with_reducible refine drew_below ?_ _ | with_reducible refine Below.drew ?_ | with_reducible assumption))⟩
end Go.Proofs.Ytlbbgocggifjaaa
namespace Go.Proofs.Ytlbbgocggifjaaa
open Go.RowKit Go.Shelf

attribute [local go_sem] Oper.semAt_some
theorem Typ.frozen {t : TypeId} {n : Nat} {E : List Nat} {X Y : World} (h : Typ t n E X Y) {b o : Nat} (hb : b < n) (hx : b < X.heap.size) (he : b ∉ E) : Y.frozen? ⟨b, o, none⟩ = X.frozen? ⟨b, o, none⟩ := by
  simp [World.frozen?, h.block b hb hx he]
theorem keeps_ovr (w x : World) : KeepsOthers w (ovr w x) := ⟨by simp, fun k _ hk _ => (heap_ovr w x k (Array.getElem?_eq_some_iff.1 hk).1).trans hk⟩
theorem keeps_in {A w x : World} (h : KeepsOthers A w) : KeepsOthers A (ovr w x) := h.trans (keeps_ovr w x)
theorem keeps_set {A w : World} {p : Addr} {v : Value} (h : KeepsOthers A w) : KeepsOthers A (w.setCell p v) := h.trans (KeepsOthers.setCell _ _ _)
theorem keeps_alloc {A w : World} {o : Obj} (h : KeepsOthers A w) : KeepsOthers A (w.alloc o) := h.trans (KeepsOthers.alloc _ _)
theorem typ_ovr {t : TypeId} {n : Nat} {E : List Nat} {A w x : World} (h : Typ t n E A w) : Typ t n E A (ovr w x) := h.trans (Typ.of_below (below_ovr w x))
theorem keeps_from {B : Nat} {W W' : World} (h : KeepsOthers W W') : KeepsFrom B W W' := h.from B
theorem below_ovr2 {B : Nat} {w W x : World} (h : Below B w W) (hB : B ≤ W.heap.size) : Below B w (ovr W x) := h.trans ((below_ovr W x).mono hB)
theorem ret6 {W' : World} {D Rb Bb : Nat} {a b c t : Int} {j ok : Bool} {tm : Array Value} {Q : Value → Prop} (h8 : tm.getD 8 undef = .pointer (some ⟨Rb, 0, none⟩)) (h9 : tm.getD 9 undef = .pointer (some ⟨Bb, 0, none⟩)) (hK : W'.heap[D]? = some (.deferred (some [])))
    (c0 : W'.cell? ⟨Rb, 0, none⟩ = some (.int .i64 a)) (c1 : W'.cell? ⟨Rb, 1, none⟩ = some (.int .i64 b)) (c2 : W'.cell? ⟨Rb, 2, none⟩ = some (.int .i64 c)) (c3 : W'.cell? ⟨Rb, 3, none⟩ = some (.bool j)) (c4 : W'.cell? ⟨Rb, 4, none⟩ = some (.int .i64 t)) (c5 : W'.cell? ⟨Bb, 0, none⟩ = some (.bool ok)) (hQ : Q (movV ((a, b, c, j, t), ok))) :
    ∃ v, (results Try.f73 tm).run Try.prog (W'.putObj D (.deferred none)) = .ok v (W'.putObj D (.deferred none)) ∧ Q v := by
  have r0 := cell_put c0 hK
  have r1 := cell_put c1 hK
  have r2 := cell_put c2 hK
  have r3 := cell_put c3 hK
  have r4 := cell_put c4 hK
  have r5 := cell_put c5 hK
  rw [Array.getD_eq_getD_getElem?] at h8 h9
  exact ⟨_, by simp [results, Try.results73, go_sem, h8, h9, r0, r1, r2, r3, r4, r5], hQ⟩
theorem boxed_lit (w x : World) (o1 o2 o3 o4 : Obj) {t : TypeId} {v : Value} : Boxed ((ovr ((((w.alloc o1).alloc (.cells #[v] t)).alloc o2).alloc o3) x).alloc o4) (w.heap.size + 1) t v := by
  have h : Boxed ((w.alloc o1).alloc (.cells #[v] t)) (w.heap.size + 1) t v := by have := Boxed.new (w.alloc o1) t v; rwa [World.size_alloc] at this
  exact (((h.alloc o2).alloc o3).kept (grown_below (below_ovr _ x)) (by simp)).alloc o4
/-- How many are behind, one by one. -/
theorem behR_snoc {l c : Int} {m : Nat} {pre : List (Plc m)} {x : Plc m} : behR l c (valsP (pre ++ [x])) = behR l c (valsP pre) ++ (if lessB l c (x.1.1 : Int) (x.1.2 : Int) = true then [x.1] else []) := by
  rw [valsP, List.map_append, behR, List.filter_append]
  congr 1
  rw [List.map_cons, List.map_nil, List.filter_cons, List.filter_nil]
theorem behR_prefix {l c : Int} {A R : List (Nat × Nat)} (h : A <+: R) : behR l c A <+: behR l c R := by
  obtain ⟨t, rfl⟩ := h
  rw [behR, behR, List.filter_append]
  exact ⟨_, rfl⟩
set_option maxRecDepth 100000 in
set_option maxHeartbeats 8000000 in
theorem psentNext_any (a : Option Addr) (cap : Nat) (L : List ByteArray) (pl pc n : Int) (op : Bool) (w : World) (hL : LinesAt w a L) (htot : L.length + total L ≤ 100000) (hn2 : n ≤ 9223372036854775807) :
    Calls Try.prog 73 #[.slice a L.length cap, .agg #[.int .i64 pl, .int .i64 pc], .int .i64 n, .bool op] w fun e w' => e = .returned (movV (sentNextP L pl pc n op)) ∧ Below w.heap.size w w' := by
  have hn := hL.2.1
  by_cases h : plcB L pl pc = true ∧ 1 ≤ n
  · have HQ : Hid ((plcB L pl pc && decide (1 ≤ n)) = true) := Lib.hid (by rw [h.1, decide_eq_true h.2]; rfl)
    obtain ⟨l, c, m, rfl, rfl, rfl, hl, hm, hp, _⟩ := sent_in h
    replace hp := hp op
    have hRl := (sentP_in (L := L)).2
    obtain ⟨e, he⟩ : ∃ e, L.length - 1 = e := ⟨_, rfl⟩
    obtain ⟨b, off, s, rfl, hb, hcell, hs, HS⟩ := line_facts' hL (i := e) (by omega)
    rw [he, HS.out] at hp
    have HP := Lib.hid hp
    clear h hp
    refine (callsIn_wide (n := 9)).1 ?_
    refine callsIn_of_wp_marks Try.func73 rfl trivial ?_ rfl
    simp only [Try.ntmps73, List.size_toArray, List.length_cons, List.length_nil, Nat.reduceAdd, Nat.reduceSub, Array.replicate_succ, Array.replicate_zero, List.push_toArray, List.append_toArray, List.nil_append, List.cons_append]
    gi_wp2_with (first
      | (gi_at_call 122; refine (callsIn_wide.2 (pfails_at _ _ L _ _ _ _ (by (repeat (first | assumption | refine LinesAt.ovr ?_ _ | refine LinesAt.alloc ?_ _ | refine LinesAt.drewN ?_ _ | refine LinesAt.drew ?_))) HQ)).mono ?_; rintro e1 w1 ⟨rfl, hbl⟩; obtain ⟨x1, rfl⟩ := ovr_of_below hbl; clear hbl)
      | (gi_at_call 70; refine (callsIn_wide.2 (psent_any _ _ L _)).mono ?_; rintro e1 w1 ⟨rfl, rfl⟩))
    obtain ⟨Bl, hBl⟩ : ∃ Bl, w.heap.size + 1 + 1 + 1 + 1 + x1.heap.size = Bl := ⟨_, rfl⟩
    rw [hBl]
    refine name_worldIn ?_
    intro W1 hW1
    have cp0 : W1.cell? ⟨w.heap.size, 0, none⟩ = some (.int .i64 l) := by rw [hW1]; simp [go_sem]
    have cp1 : W1.cell? ⟨w.heap.size, 1, none⟩ = some (.int .i64 c) := by rw [hW1]; simp [go_sem]
    have cr0 : W1.cell? ⟨w.heap.size + 1 + 1, 0, none⟩ = some (.int .i64 0) := by rw [hW1]; simp [go_sem]
    have cr1 : W1.cell? ⟨w.heap.size + 1 + 1, 1, none⟩ = some (.int .i64 0) := by rw [hW1]; simp [go_sem]
    have cr2 : W1.cell? ⟨w.heap.size + 1 + 1, 2, none⟩ = some (.int .i64 0) := by rw [hW1]; simp [go_sem]
    have cr3 : W1.cell? ⟨w.heap.size + 1 + 1, 3, none⟩ = some (.bool false) := by rw [hW1]; simp [go_sem]
    have cr4 : W1.cell? ⟨w.heap.size + 1 + 1, 4, none⟩ = some (.int .i64 0) := by rw [hW1]; simp [go_sem]
    have cb0 : W1.cell? ⟨w.heap.size + 1 + 1 + 1, 0, none⟩ = some (.bool false) := by rw [hW1]; simp [go_sem]
    have cf0 : W1.frozen? ⟨w.heap.size + 1 + 1, 0, none⟩ = false := by rw [hW1]; simp [go_sem]
    have cf1 : W1.frozen? ⟨w.heap.size + 1 + 1, 1, none⟩ = false := by rw [hW1]; simp [go_sem]
    have cf2 : W1.frozen? ⟨w.heap.size + 1 + 1, 2, none⟩ = false := by rw [hW1]; simp [go_sem]
    have cf3 : W1.frozen? ⟨w.heap.size + 1 + 1, 3, none⟩ = false := by rw [hW1]; simp [go_sem]
    have cf4 : W1.frozen? ⟨w.heap.size + 1 + 1, 4, none⟩ = false := by rw [hW1]; simp [go_sem]
    have cfb : W1.frozen? ⟨w.heap.size + 1 + 1 + 1, 0, none⟩ = false := by rw [hW1]; simp [go_sem]
    have bN : Boxed W1 (w.heap.size + 1) 3 (.int .i64 m) := by rw [hW1]; exact boxed_lit _ _ _ _ _ _
    have hBlc : W1.cell? ⟨Bl, 0, none⟩ = some (.slice (some ⟨b, off, none⟩) L.length cap) := by rw [hW1, ← hBl]; simp [go_sem]
    have hbel : Below w.heap.size w W1 := by rw [hW1]; (repeat (first | with_reducible exact Below.refl _ _ | (with_reducible refine Below.setCell ?_ ?_ _; rotate_left; · (first | exact Nat.le_refl _ | assumption | omega | (simp; done) | (simp; omega))) | (with_reducible refine Below.alloc ?_ ?_ _; rotate_left; · (first | exact Nat.le_refl _ | assumption | omega | (simp; done) | (simp; omega))) | with_reducible refine below_ovr_of ?_ | with_reducible refine drew_below ?_ _ | with_reducible refine Below.drew ?_ | with_reducible assumption))
    have hsz : W1.heap.size = Bl + 1 := by rw [hW1, ← hBl]; simp
    have hBlw : w.heap.size + 1 + 1 + 1 < Bl := by omega
    have hLW := hL.below hbel (Nat.le_refl _)
    have hbelS := hbel.size
    clear hW1 hBl
    have hOwn : OwnFrom W1.heap.size (fun (pre : List (Plc 100000)) W => (Boxed W (w.heap.size + 1) 3 (.int .i64 ((m - (behR l c (valsP pre)).length : Nat) : Int)) ∧ (behR l c (valsP pre)).length < m) ∧ Typ 3 W1.heap.size [w.heap.size + 1] W1 W) :=
      OwnFrom.and (OwnFrom.and (Own.from (boxed_own (w.heap.size + 1) 3 (fun pre : List (Plc 100000) => Value.int .i64 ((m - (behR l c (valsP pre)).length : Nat) : Int))) _) (ownFrom_pure _ _)) (typFrom (Nat.le_refl _))
    refine wpIn_rangeFunc_ownH rfl (by omega) (gf := 128) (lb := #[.pointer (some ⟨Bl, 0, none⟩)]) rfl trivial (enters_of Try.func128 (by kernel_rfl) rfl)
      (sent_stops Bl 100000 (some ⟨b, off, none⟩) cap L [w.heap.size + 1] W1 htot htot hBlc hLW (by intro k hk; simp at hk; omega) (by simp; omega) (by intro b' off' e'; cases e'; exact ⟨by omega, by simp; omega⟩)) (fun h k => Typ.trans h k) (typK_b (Nat.le_refl _)) (Below.refl _ _) (fun _ => rfl)
      _
      (fun k pre W => (k = .ret ∧ ∃ (x y : Nat), (behR l c (valsP pre)).length = m ∧ (behR l c (valsP pre)).getD (m - 1) (0, 0) = (x, y) ∧ W.cell? ⟨w.heap.size + 1 + 1, 0, none⟩ = some (.int .i64 x) ∧ W.cell? ⟨w.heap.size + 1 + 1, 1, none⟩ = some (.int .i64 y) ∧ W.cell? ⟨w.heap.size + 1 + 1, 2, none⟩ = some (.int .i64 0) ∧ W.cell? ⟨w.heap.size + 1 + 1, 3, none⟩ = some (.bool true) ∧ W.cell? ⟨w.heap.size + 1 + 1, 4, none⟩ = some (.int .i64 (-1)) ∧ W.cell? ⟨w.heap.size + 1 + 1 + 1, 0, none⟩ = some (.bool true)) ∧ Below w.heap.size w W)
      hOwn
      (fun k => OwnFrom.and (Own.from (fun s A B row hs hg hr => by
        obtain ⟨e0, x, y, e1, e2, e3, e4, e5, e6, e7, e8⟩ := hs
        exact ⟨e0, x, y, e1, e2, cell_kept e3 hg hr, cell_kept e4 hg hr, cell_kept e5 hg hr, cell_kept e6 hg hr, cell_kept e7 hg hr, cell_kept e8 hg hr⟩) _) (ownFrom_below (Nat.le_refl _) hbel.size))
      ⟨⟨by simpa [behR] using bN, by simp [behR]; omega⟩, Typ.refl _ _ _ _⟩
      (fun x a' W => ∃ Bx, W1.heap.size ≤ Bx ∧ Box2 W Bx 29 (.int .i64 (x.1.1 : Int)) (.int .i64 (x.1.2 : Int)) ∧ a' = { tmps := #[.slice (some ⟨b, off, none⟩) L.length cap, .agg #[.int .i64 l, .int .i64 c], .int .i64 m, .bool op, undef, .pointer (some ⟨w.heap.size, 0, none⟩), .pointer (some ⟨w.heap.size + 1, 0, none⟩), undef, .pointer (some ⟨w.heap.size + 1 + 1, 0, none⟩), .pointer (some ⟨w.heap.size + 1 + 1 + 1, 0, none⟩), .pointer (some ⟨Bx, 0, none⟩), undef, undef, .slice (some ⟨b, off, none⟩) L.length cap, .agg #[.int .i64 l, .int .i64 c], .int .i64 m, .bool false, undef, .slice (some ⟨b, off, none⟩) L.length cap, .func (.func 128) #[] #[.pointer (some ⟨Bl, 0, none⟩)], .agg #[.int .i64 (x.1.1 : Int), .int .i64 (x.1.2 : Int)], undef, undef, undef, undef, undef, undef, undef, undef, undef, undef, undef, undef, undef, undef, undef, undef, undef, undef, undef, undef, undef, undef, undef, undef, undef, undef, undef, undef, undef, undef, undef, undef, undef, undef, undef], defers := [] })
      (fun x a' _ X Y row ⟨Bx, h1, h2, h3⟩ hg hr => ⟨Bx, h1, Box2.own (β := Unit) Bx _ _ _ _ () X Y row h2 hg hr, h3⟩)
      ?assign ?body ?done ?stop
    case assign =>
      intro l' pre x W K hI hK
      gi_wp2
      exact hK _ _ ((KeepsOthers.alloc W _).from _) ((Typ.refl _ _ _ W).alloc _) (hOwn.alloc _ hI) ⟨W.heap.size, hI.2.size, World.alloc_heap_new W _, rfl⟩
    case body =>
      rintro l' pre x a' W _ _ ⟨⟨hN, hlt⟩, hB⟩ ⟨Bx, hBx, hx, rfl⟩ _
      have hx0 := hx.c0
      have hx1 := hx.c1
      have hxl := hx.lt
      have hBs := hB.size
      have gp0 : W.cell? ⟨w.heap.size, 0, none⟩ = some (.int .i64 l) := hB.cell (by omega) (by simp <;> omega) cp0
      have gp1 : W.cell? ⟨w.heap.size, 1, none⟩ = some (.int .i64 c) := hB.cell (by omega) (by simp <;> omega) cp1
      have gr0 : W.cell? ⟨w.heap.size + 1 + 1, 0, none⟩ = some (.int .i64 0) := hB.cell (by omega) (by simp <;> omega) cr0
      have gr1 : W.cell? ⟨w.heap.size + 1 + 1, 1, none⟩ = some (.int .i64 0) := hB.cell (by omega) (by simp <;> omega) cr1
      have gr2 : W.cell? ⟨w.heap.size + 1 + 1, 2, none⟩ = some (.int .i64 0) := hB.cell (by omega) (by simp <;> omega) cr2
      have gr3 : W.cell? ⟨w.heap.size + 1 + 1, 3, none⟩ = some (.bool false) := hB.cell (by omega) (by simp <;> omega) cr3
      have gr4 : W.cell? ⟨w.heap.size + 1 + 1, 4, none⟩ = some (.int .i64 0) := hB.cell (by omega) (by simp <;> omega) cr4
      have gb0 : W.cell? ⟨w.heap.size + 1 + 1 + 1, 0, none⟩ = some (.bool false) := hB.cell (by omega) (by simp <;> omega) cb0
      have gf0 : W.frozen? ⟨w.heap.size + 1 + 1, 0, none⟩ = false := (hB.frozen (by omega) (by omega) (by simp <;> omega)).trans cf0
      have gf1 : W.frozen? ⟨w.heap.size + 1 + 1, 1, none⟩ = false := (hB.frozen (by omega) (by omega) (by simp <;> omega)).trans cf1
      have gf2 : W.frozen? ⟨w.heap.size + 1 + 1, 2, none⟩ = false := (hB.frozen (by omega) (by omega) (by simp <;> omega)).trans cf2
      have gf3 : W.frozen? ⟨w.heap.size + 1 + 1, 3, none⟩ = false := (hB.frozen (by omega) (by omega) (by simp <;> omega)).trans cf3
      have gf4 : W.frozen? ⟨w.heap.size + 1 + 1, 4, none⟩ = false := (hB.frozen (by omega) (by omega) (by simp <;> omega)).trans cf4
      have gfb : W.frozen? ⟨w.heap.size + 1 + 1 + 1, 0, none⟩ = false := (hB.frozen (by omega) (by omega) (by simp <;> omega)).trans cfb
      have hbw : Below w.heap.size w W := hB.below hbel (by omega) (by omega) (by simp)
      have n1 : ¬ Bx = w.heap.size + 1 := by omega
      have n2 : ¬ w.heap.size + 1 = Bx := by omega
      have lN := hN.lt
      have lR : w.heap.size + 1 + 1 < W.heap.size := by omega
      have lB : w.heap.size + 1 + 1 + 1 < W.heap.size := by omega
      have lP : w.heap.size < W.heap.size := by omega
      obtain ⟨q, hq⟩ : ∃ q, lessB l c (x.1.1 : Int) (x.1.2 : Int) = q := ⟨_, rfl⟩
      have hst := behR_snoc (l := l) (c := c) (pre := pre) (x := x)
      rw [hq] at hst
      have HQ2 := Lib.hid hq
      clear hq
      cases q with
      | false =>
        have HB2 : Hid (behR l c (valsP (pre ++ [x])) = behR l c (valsP pre)) := Lib.hid (by rw [hst]; simp)
        have HLT := Lib.hid hlt
        have HN := Lib.hid hN
        clear hst hlt hN
        gi_wp2_with (gi_at_call 95; refine (callsIn_wide.2 (less_at _ _ _ _ _ HQ2)).mono ?_; rintro e1 w2 ⟨rfl, hbl⟩; obtain ⟨y1, rfl⟩ := ovr_of_below hbl; clear hbl)
        exact ⟨(keeps_in (KeepsOthers.refl _)).from _, typ_ovr (Typ.refl _ _ _ _), ⟨by rw [HB2.out]; exact HN.out.kept (grown_below (below_ovr W y1)) (by simp), by rw [HB2.out]; exact HLT.out⟩, typ_ovr hB⟩
      | true =>
        obtain ⟨d, hd⟩ : ∃ d, m - (behR l c (valsP pre)).length = d + 1 := ⟨m - (behR l c (valsP pre)).length - 1, by omega⟩
        rw [hd] at hN
        have HB2 : Hid (behR l c (valsP (pre ++ [x])) = behR l c (valsP pre) ++ [x.1]) := Lib.hid (by rw [hst]; simp)
        have hl2 : (behR l c (valsP (pre ++ [x]))).length = (behR l c (valsP pre)).length + 1 := by rw [HB2.out]; simp
        have HL2 := Lib.hid hl2
        have HD := Lib.hid hd
        have hnc := hN.cell
        have hnf := hN.frozen
        have ed : ((d + 1 : Nat) : Int) - 1 = (d : Int) := by omega
        have hset := hN.set (.int .i64 (d : Int))
        have hsc := hset.cell
        have HSET := Lib.hid hset
        have hdm : d ≤ 9223372036854775807 := by omega
        clear hst hl2 hd hset hlt
        rcases d with _ | d
        · have HLM : Hid ((behR l c (valsP pre)).length + 1 = m) := Lib.hid (by have := HD.out; omega)
          gi_wp2_with (first | (gi_at_call 95; refine (callsIn_wide.2 (less_at _ _ _ _ _ HQ2)).mono ?_; rintro e1 w2 ⟨rfl, hbl⟩; obtain ⟨y1, rfl⟩ := ovr_of_below hbl; clear hbl) | (gi_at_call 124; refine (callsIn_wide.2 (pjump_any _ _ _)).mono ?_; rintro e1 w2 ⟨rfl, hbl⟩; obtain ⟨y2, rfl⟩ := ovr_of_below hbl; clear hbl))
          exact ⟨keeps_from (by repeat (first | with_reducible exact KeepsOthers.refl _ | with_reducible refine keeps_in ?_ | with_reducible refine keeps_set ?_ | with_reducible refine keeps_alloc ?_)), ⟨rfl, x.1.1, x.1.2, by rw [HL2.out]; exact HLM.out, by rw [HB2.out, show m - 1 = (behR l c (valsP pre)).length by have := HLM.out; omega]; simp, by simp [go_sem, gr0, lR], by simp [go_sem, gr1, lR], by simp [go_sem, gr2, lR], by simp [go_sem, gr3, lR], by simp [go_sem, gr4, lR], by simp [go_sem, gb0, lB]⟩, by repeat (first | with_reducible exact hbw | (with_reducible refine below_ovr2 ?_ ?_; rotate_left; · (simp <;> omega)) | (with_reducible refine Below.setCell ?_ ?_ _; rotate_left; · (simp <;> omega)))⟩
        · gi_wp2_with (gi_at_call 95; refine (callsIn_wide.2 (less_at _ _ _ _ _ HQ2)).mono ?_; rintro e1 w2 ⟨rfl, hbl⟩; obtain ⟨y1, rfl⟩ := ovr_of_below hbl; clear hbl)
          exact ⟨keeps_from (by repeat (first | with_reducible exact KeepsOthers.refl _ | with_reducible refine keeps_in ?_ | with_reducible refine keeps_set ?_ | with_reducible refine keeps_alloc ?_)), typ_ovr ((Typ.refl _ _ _ _).setCell (by simp) _ _), ⟨by rw [show m - (behR l c (valsP (pre ++ [x]))).length = d + 1 by have := HL2.out; have := HD.out; omega]; exact HSET.out.kept (grown_below (below_ovr _ y1)) (by simp), by have := HL2.out; have := HD.out; omega⟩, typ_ovr (hB.setCell (by simp) _ _)⟩
    case done =>
      rintro D ys W hD hys ⟨⟨hN, hlt⟩, hB⟩ hK
      rw [show valsP ys = sentP L from hys] at hN hlt
      have hBs := hB.size
      have gp0 : W.cell? ⟨w.heap.size, 0, none⟩ = some (.int .i64 l) := hB.cell (by omega) (by simp <;> omega) cp0
      have gp1 : W.cell? ⟨w.heap.size, 1, none⟩ = some (.int .i64 c) := hB.cell (by omega) (by simp <;> omega) cp1
      have gr0 : W.cell? ⟨w.heap.size + 1 + 1, 0, none⟩ = some (.int .i64 0) := hB.cell (by omega) (by simp <;> omega) cr0
      have gr1 : W.cell? ⟨w.heap.size + 1 + 1, 1, none⟩ = some (.int .i64 0) := hB.cell (by omega) (by simp <;> omega) cr1
      have gr2 : W.cell? ⟨w.heap.size + 1 + 1, 2, none⟩ = some (.int .i64 0) := hB.cell (by omega) (by simp <;> omega) cr2
      have gr3 : W.cell? ⟨w.heap.size + 1 + 1, 3, none⟩ = some (.bool false) := hB.cell (by omega) (by simp <;> omega) cr3
      have gr4 : W.cell? ⟨w.heap.size + 1 + 1, 4, none⟩ = some (.int .i64 0) := hB.cell (by omega) (by simp <;> omega) cr4
      have gb0 : W.cell? ⟨w.heap.size + 1 + 1 + 1, 0, none⟩ = some (.bool false) := hB.cell (by omega) (by simp <;> omega) cb0
      have gf0 : W.frozen? ⟨w.heap.size + 1 + 1, 0, none⟩ = false := (hB.frozen (by omega) (by omega) (by simp <;> omega)).trans cf0
      have gf1 : W.frozen? ⟨w.heap.size + 1 + 1, 1, none⟩ = false := (hB.frozen (by omega) (by omega) (by simp <;> omega)).trans cf1
      have gf2 : W.frozen? ⟨w.heap.size + 1 + 1, 2, none⟩ = false := (hB.frozen (by omega) (by omega) (by simp <;> omega)).trans cf2
      have gf3 : W.frozen? ⟨w.heap.size + 1 + 1, 3, none⟩ = false := (hB.frozen (by omega) (by omega) (by simp <;> omega)).trans cf3
      have gf4 : W.frozen? ⟨w.heap.size + 1 + 1, 4, none⟩ = false := (hB.frozen (by omega) (by omega) (by simp <;> omega)).trans cf4
      have gfb : W.frozen? ⟨w.heap.size + 1 + 1 + 1, 0, none⟩ = false := (hB.frozen (by omega) (by omega) (by simp <;> omega)).trans cfb
      have hbw : Below w.heap.size w W := hB.below hbel (by omega) (by omega) (by simp)
      have hcs : W.cell? ⟨b, off + e, none⟩ = some (.string s) := hB.cell (by omega) (by simp <;> omega) ((hbel.cell (p := ⟨b, off + e, none⟩) hb).trans hcell)
      obtain ⟨B, hBB⟩ : ∃ B, behR l c (sentP L) = B := ⟨_, rfl⟩
      have hp2 := HP.out
      rw [hBB] at hN hlt hp2
      have HP2 := Lib.hid hp2
      obtain ⟨d, hd⟩ : ∃ d, m - B.length = d + 1 := ⟨m - B.length - 1, by omega⟩
      rw [hd] at hN
      obtain ⟨q, hq⟩ : ∃ q, lessB (l : Int) (c : Int) (e : Int) (s.size : Int) = q := ⟨_, rfl⟩
      have HQ2 := Lib.hid hq
      have e1 : (L.length : Int) - 1 = (e : Int) := by omega
      have e2 : (e : Int) < (L.length : Int) := by omega
      have e3 : (0 : Int) ≤ (e : Int) := by omega
      have hnc := hN.cell
      have lN := hN.lt
      have lR : w.heap.size + 1 + 1 < W.heap.size := by omega
      have lB : w.heap.size + 1 + 1 + 1 < W.heap.size := by omega
      have lP : w.heap.size < W.heap.size := by omega
      have lb : b < W.heap.size := by omega
      have hKK := fun (W' : World) (h : KeepsOthers W W') => h.same D _ hK rfl
      have HKK := Lib.hid hKK
      have HML := Lib.hid (show m = B.length + (d + 1) by omega)
      clear hys hBB hq hp2 hKK hd he
      rcases d with _ | d
      · cases op with
        | true =>
          cases q with
          | true =>
            have HR := Lib.hid (HP2.out.trans (sentNextO_end (by have := HML.out; omega) HQ2.out))
            gi_wp2_with (first | (gi_at_call 95; refine (callsIn_wide.2 (less_at _ _ _ _ _ HQ2)).mono ?_; rintro e1 w2 ⟨rfl, hbl⟩; obtain ⟨y1, rfl⟩ := ovr_of_below hbl; clear hbl) | (gi_at_call 124; refine (callsIn_wide.2 (pjump_any _ _ _)).mono ?_; rintro e1 w2 ⟨rfl, hbl⟩; obtain ⟨y2, rfl⟩ := ovr_of_below hbl; clear hbl))
            have hKK := HKK.out
            refine ⟨by simp, .inl ⟨_, _, rfl, run_takeDeferred (hKK _ (by repeat (first | with_reducible exact KeepsOthers.refl _ | with_reducible refine keeps_in ?_ | with_reducible refine keeps_set ?_ | with_reducible refine keeps_alloc ?_))), ?_⟩⟩
            exact ret6 (a := (e : Int)) (b := (s.size : Int)) (c := 0) (j := true) (t := -1) (ok := true) rfl rfl (hKK _ (by repeat (first | with_reducible exact KeepsOthers.refl _ | with_reducible refine keeps_in ?_ | with_reducible refine keeps_set ?_ | with_reducible refine keeps_alloc ?_))) (by simp [go_sem, gr0, lR, lN]) (by simp [go_sem, gr1, lR, lN]) (by simp [go_sem, gr2, lR, lN]) (by simp [go_sem, gr3, lR, lN]) (by simp [go_sem, gr4, lR, lN]) (by simp [go_sem, gb0, lB, lR]) ⟨by rw [HR.out], below_put (by omega) (hKK _ (by repeat (first | with_reducible exact KeepsOthers.refl _ | with_reducible refine keeps_in ?_ | with_reducible refine keeps_set ?_ | with_reducible refine keeps_alloc ?_))) (by repeat (first | with_reducible exact hbw | (with_reducible refine below_ovr2 ?_ ?_; rotate_left; · (simp <;> omega)) | (with_reducible refine Below.alloc ?_ ?_ _; rotate_left; · (simp <;> omega)) | (with_reducible refine Below.setCell ?_ ?_ _; rotate_left; · (simp <;> omega))))⟩
          | false =>
            have HR := Lib.hid (HP2.out.trans (sentNextO_no (by have := HML.out; omega) (fun h => by have := h.2.2; rw [HQ2.out] at this; cases this)))
            gi_wp2_with (first | (gi_at_call 95; refine (callsIn_wide.2 (less_at _ _ _ _ _ HQ2)).mono ?_; rintro e1 w2 ⟨rfl, hbl⟩; obtain ⟨y1, rfl⟩ := ovr_of_below hbl; clear hbl) | (gi_at_call 124; refine (callsIn_wide.2 (pjump_any _ _ _)).mono ?_; rintro e1 w2 ⟨rfl, hbl⟩; obtain ⟨y2, rfl⟩ := ovr_of_below hbl; clear hbl))
            have hKK := HKK.out
            refine ⟨by simp, .inl ⟨_, _, rfl, run_takeDeferred (hKK _ (by repeat (first | with_reducible exact KeepsOthers.refl _ | with_reducible refine keeps_in ?_ | with_reducible refine keeps_set ?_ | with_reducible refine keeps_alloc ?_))), ?_⟩⟩
            exact ret6 (a := 0) (b := 0) (c := 0) (j := false) (t := 0) (ok := false) rfl rfl (hKK _ (by repeat (first | with_reducible exact KeepsOthers.refl _ | with_reducible refine keeps_in ?_ | with_reducible refine keeps_set ?_ | with_reducible refine keeps_alloc ?_))) (by simp [go_sem, gr0, lR, lN]) (by simp [go_sem, gr1, lR, lN]) (by simp [go_sem, gr2, lR, lN]) (by simp [go_sem, gr3, lR, lN]) (by simp [go_sem, gr4, lR, lN]) (by simp [go_sem, gb0, lB, lR]) ⟨by rw [HR.out]; rfl, below_put (by omega) (hKK _ (by repeat (first | with_reducible exact KeepsOthers.refl _ | with_reducible refine keeps_in ?_ | with_reducible refine keeps_set ?_ | with_reducible refine keeps_alloc ?_))) (by repeat (first | with_reducible exact hbw | (with_reducible refine below_ovr2 ?_ ?_; rotate_left; · (simp <;> omega)) | (with_reducible refine Below.alloc ?_ ?_ _; rotate_left; · (simp <;> omega)) | (with_reducible refine Below.setCell ?_ ?_ _; rotate_left; · (simp <;> omega))))⟩
        | false =>
          have HR := Lib.hid (HP2.out.trans (sentNextO_no (by have := HML.out; omega) (fun h => by cases h.1)))
          gi_wp2_with (first | (gi_at_call 95; refine (callsIn_wide.2 (less_at _ _ _ _ _ HQ2)).mono ?_; rintro e1 w2 ⟨rfl, hbl⟩; obtain ⟨y1, rfl⟩ := ovr_of_below hbl; clear hbl) | (gi_at_call 124; refine (callsIn_wide.2 (pjump_any _ _ _)).mono ?_; rintro e1 w2 ⟨rfl, hbl⟩; obtain ⟨y2, rfl⟩ := ovr_of_below hbl; clear hbl))
          have hKK := HKK.out
          refine ⟨by simp, .inl ⟨_, _, rfl, run_takeDeferred (hKK _ (by repeat (first | with_reducible exact KeepsOthers.refl _ | with_reducible refine keeps_in ?_ | with_reducible refine keeps_set ?_ | with_reducible refine keeps_alloc ?_))), ?_⟩⟩
          exact ret6 (a := 0) (b := 0) (c := 0) (j := false) (t := 0) (ok := false) rfl rfl (hKK _ (by repeat (first | with_reducible exact KeepsOthers.refl _ | with_reducible refine keeps_in ?_ | with_reducible refine keeps_set ?_ | with_reducible refine keeps_alloc ?_))) (by simp [go_sem, gr0, lR]) (by simp [go_sem, gr1, lR]) (by simp [go_sem, gr2, lR]) (by simp [go_sem, gr3, lR]) (by simp [go_sem, gr4, lR]) (by simp [go_sem, gb0, lB]) ⟨by rw [HR.out]; rfl, below_put (by omega) (hKK _ (by repeat (first | with_reducible exact KeepsOthers.refl _ | with_reducible refine keeps_in ?_ | with_reducible refine keeps_set ?_ | with_reducible refine keeps_alloc ?_))) (by repeat (first | with_reducible exact hbw | (with_reducible refine below_ovr2 ?_ ?_; rotate_left; · (simp <;> omega)) | (with_reducible refine Below.alloc ?_ ?_ _; rotate_left; · (simp <;> omega)) | (with_reducible refine Below.setCell ?_ ?_ _; rotate_left; · (simp <;> omega))))⟩
      · have hd1 : (((d + 1 + 1 : Nat) : Int) != 1) = true := by rw [bne_iff_ne]; omega
        have HR := Lib.hid (HP2.out.trans (sentNextO_no (by have := HML.out; omega) (fun h => by have := HML.out; omega)))
        cases op
        all_goals (
          gi_wp2_with (first | (gi_at_call 95; refine (callsIn_wide.2 (less_at _ _ _ _ _ HQ2)).mono ?_; rintro e1 w2 ⟨rfl, hbl⟩; obtain ⟨y1, rfl⟩ := ovr_of_below hbl; clear hbl) | (gi_at_call 124; refine (callsIn_wide.2 (pjump_any _ _ _)).mono ?_; rintro e1 w2 ⟨rfl, hbl⟩; obtain ⟨y2, rfl⟩ := ovr_of_below hbl; clear hbl))
          have hKK := HKK.out
          refine ⟨by simp, .inl ⟨_, _, rfl, run_takeDeferred (hKK _ (by repeat (first | with_reducible exact KeepsOthers.refl _ | with_reducible refine keeps_in ?_ | with_reducible refine keeps_set ?_ | with_reducible refine keeps_alloc ?_))), ?_⟩⟩
          exact ret6 (a := 0) (b := 0) (c := 0) (j := false) (t := 0) (ok := false) rfl rfl (hKK _ (by repeat (first | with_reducible exact KeepsOthers.refl _ | with_reducible refine keeps_in ?_ | with_reducible refine keeps_set ?_ | with_reducible refine keeps_alloc ?_))) (by simp [go_sem, gr0, lR]) (by simp [go_sem, gr1, lR]) (by simp [go_sem, gr2, lR]) (by simp [go_sem, gr3, lR]) (by simp [go_sem, gr4, lR]) (by simp [go_sem, gb0, lB]) ⟨by rw [HR.out]; rfl, below_put (by omega) (hKK _ (by repeat (first | with_reducible exact KeepsOthers.refl _ | with_reducible refine keeps_in ?_ | with_reducible refine keeps_set ?_ | with_reducible refine keeps_alloc ?_))) (by repeat (first | with_reducible exact hbw | (with_reducible refine below_ovr2 ?_ ?_; rotate_left; · (simp <;> omega)) | (with_reducible refine Below.alloc ?_ ?_ _; rotate_left; · (simp <;> omega)) | (with_reducible refine Below.setCell ?_ ?_ _; rotate_left; · (simp <;> omega))))⟩)
    case stop =>
      rintro D k pre W hD hsp ⟨⟨rfl, x, y, e1, e2, e3, e4, e5, e6, e7, e8⟩, hB⟩ hK
      have hpf : behR l c (valsP pre) <+: behR l c (sentP L) := behR_prefix hsp
      have HR : Hid (sentNextP L l c m op = (((x : Int), (y : Int), 0, true, -1), true)) := Lib.hid (by
        obtain ⟨t, ht⟩ := hpf
        rw [HP.out]
        refine sentNextO_in (by rw [← ht, List.length_append]; omega) ?_
        rw [← ht, List.getD_eq_getElem?_getD, List.getElem?_append_left (by omega), ← List.getD_eq_getElem?_getD]
        exact e2)
      have r0 := cell_put e3 hK
      have r1 := cell_put e4 hK
      have r2 := cell_put e5 hK
      have r3 := cell_put e6 hK
      have r4 := cell_put e7 hK
      have r5 := cell_put e8 hK
      clear hpf hsp e1 e2
      gi_wp2
      refine ⟨by simp, .inl ⟨_, _, rfl, run_takeDeferred hK, ?_⟩⟩
      exact ⟨movV (((x : Int), (y : Int), 0, true, -1), true), by simp [results, Try.results73, go_sem, r0, r1, r2, r3, r4, r5], by rw [HR.out], below_put (by omega) hK hB⟩
  · have HQ : Hid ((plcB L pl pc && decide (1 ≤ n)) = false) := Lib.hid (by
      rw [Bool.eq_false_iff]; intro e; simp only [Bool.and_eq_true, decide_eq_true_eq] at e; exact h e)
    have HP := Lib.hid (sentNextP_no (op := op) h)
    clear h
    go_enter Try.func73, Try.ntmps73
    go_wp2_with (go_at_call 122; refine (pfails_at _ _ L _ _ _ _ (by (repeat (first | assumption | refine LinesAt.ovr ?_ _ | refine LinesAt.alloc ?_ _ | refine LinesAt.drewN ?_ _ | refine LinesAt.drew ?_))) HQ).mono ?_; rintro e w1 ⟨rfl, hbl⟩; obtain ⟨x, rfl⟩ := ovr_of_below hbl; clear hbl)
    refine bodyPost_ret (v := movV noMov) (by simp [results, Try.results73, go_sem, noMov]) rfl ⟨by rw [HP.out], by (repeat (first | with_reducible exact Below.refl _ _ | (with_reducible refine Below.setCell ?_ ?_ _; rotate_left; · (first | exact Nat.le_refl _ | assumption | omega | (simp; done) | (simp; omega))) | (with_reducible refine Below.alloc ?_ ?_ _; rotate_left; · (first | exact Nat.le_refl _ | assumption | omega | (simp; done) | (simp; omega))) | with_reducible refine below_ovr_of ?_ | with_reducible refine drew_below ?_ _ | with_reducible refine Below.drew ?_ | with_reducible assumption))⟩
end Go.Proofs.Ytlbbgocggifjaaa
namespace Go.Proofs.Ytlbbgocggifjaaa
open Go.RowKit Go.Shelf

attribute [local go_sem] Oper.semAt_some

theorem boxed_new' (W : World) (t : TypeId) (v : Value) {n : Nat} (h : n = W.heap.size) : Boxed (W.alloc (.cells #[v] t)) n t v := by subst h; exact Boxed.new W t v
theorem prefix_take' {α β : Type} {f : α → β} {pre : List α} {R : List β} (h : pre.map f <+: R) : R.take pre.length = pre.map f := by
  obtain ⟨t, rfl⟩ := h
  rw [List.take_append_of_le_length (by simp), List.take_of_length_le (by simp)]
set_option maxRecDepth 100000 in
set_option maxHeartbeats 4000000 in
theorem heard10_any (m gf : Nat) (lb : Array Value) (R : List (Nat × Nat)) (hR : R.length ≤ 100000) (most : Nat) (hm : 1 ≤ most) (hm2 : most ≤ 100000) (w : World)
    (hE : ∀ args W, (callFunc gf args).run Try.prog W = .ok (.enter gf args) W)
    (hS : ∀ W, Below w.heap.size w W → W.heap.size = w.heap.size + 1 + 1 → SeqStopsK Fence.wide 8 Try.prog gf lb (fun x : Plc m => #[Value.agg #[Value.int .i64 (x.1.1 : Int), Value.int .i64 (x.1.2 : Int)]]) (Typ 3 W.heap.size [w.heap.size + 1]) (fun ys => valsP ys = R) (fun pre => valsP pre <+: R) 100000 W) :
    Calls Try.prog 69 #[.func (.func gf) #[] lb, .int .i64 most] w fun e w' => ∃ a cap, e = .returned (.tuple #[.slice a (R.take most).length cap, .bool true]) ∧ PairsAt w' a (R.take most) ∧ Below w.heap.size w w' := by
  obtain ⟨i0, hi, hz0, hz1, hz2⟩ := info_parts infoPos
  have hnil : ∀ w : World, (binOp BinOp.eql 77 (.func (.func gf) #[] lb) .nilFunc).run Try.prog w = .ok (.bool false) w := fun _ => by kernel_rfl
  refine (callsIn_wide (n := 9)).1 ?_
  refine callsIn_of_wp_marks Try.func69 rfl trivial ?_ rfl
  simp only [Try.ntmps69, List.size_toArray, List.length_cons, List.length_nil, Nat.reduceAdd, Nat.reduceSub, Array.replicate_succ, Array.replicate_zero, List.push_toArray, List.append_toArray, List.nil_append, List.cons_append]
  gi_wp2
  refine name_worldIn ?_
  intro W1 hW1
  have bM : Boxed W1 w.heap.size 3 (.int .i64 most) := by rw [hW1]; exact (boxed_new' _ _ _ rfl).alloc _
  have bO : Boxed W1 (w.heap.size + 1) 43 (.slice none 0 0) := by rw [hW1]; exact boxed_new' _ _ _ (by simp)
  have hB0 : Below w.heap.size w W1 := by rw [hW1]; (repeat (first | with_reducible exact Below.refl _ _ | (with_reducible refine Below.setCell ?_ ?_ _; rotate_left; · (first | exact Nat.le_refl _ | assumption | omega | (simp; done) | (simp; omega))) | (with_reducible refine Below.alloc ?_ ?_ _; rotate_left; · (first | exact Nat.le_refl _ | assumption | omega | (simp; done) | (simp; omega))) | with_reducible refine below_ovr_of ?_ | with_reducible refine drew_below ?_ _ | with_reducible refine Below.drew ?_ | with_reducible assumption))
  have hsz : W1.heap.size = w.heap.size + 1 + 1 := by rw [hW1]; simp
  clear hW1
  have hOwn : OwnFrom W1.heap.size (fun (pre : List (Plc m)) W => (((∃ v, Boxed W (w.heap.size + 1) 43 v ∧ W.ownsRow W1.heap.size 29 2 v pre.length (cellsV (valsP pre)) ∧ True) ∧ Boxed W w.heap.size 3 (.int .i64 most)) ∧ pre.length < most) ∧ Typ 3 W1.heap.size [w.heap.size + 1] W1 W) :=
    OwnFrom.and (OwnFrom.and (OwnFrom.and (Own.from (holdsRow_own W1.heap.size (w.heap.size + 1) 43 29 2 (fun pre : List (Plc m) => pre.length) (fun pre => cellsV (valsP pre)) (fun _ _ => True)) _) (Own.from (boxed_own _ _ _) _)) (ownFrom_pure _ _)) (typFrom (Nat.le_refl _))
  refine wpIn_rangeFunc_ownH rfl (by omega) (gf := gf) (lb := lb) rfl trivial hE (hS _ hB0 hsz) (fun h k => Typ.trans h k) (typK_b (Nat.le_refl _)) (Below.refl _ _) (fun _ => rfl)
    _
    (fun c pre W => ((∃ v, Boxed W (w.heap.size + 1) 43 v ∧ W.ownsRow W1.heap.size 29 2 v pre.length (cellsV (valsP pre)) ∧ True) ∧ (c = .exit 0 ∧ pre.length = most)) ∧ Typ 3 W1.heap.size [w.heap.size + 1] W1 W)
    hOwn
    (fun c => OwnFrom.and (OwnFrom.and (Own.from (holdsRow_own W1.heap.size (w.heap.size + 1) 43 29 2 (fun pre : List (Plc m) => pre.length) (fun pre => cellsV (valsP pre)) (fun _ _ => True)) _) (ownFrom_pure _ _)) (typFrom (Nat.le_refl _)))
    ⟨⟨⟨⟨_, bO, World.ownsRow_nil _ _ _ _, trivial⟩, bM⟩, by simp; omega⟩, Typ.refl _ _ _ _⟩
    (fun x a' W => ∃ Bx, W1.heap.size ≤ Bx ∧ Box2 W Bx 29 (.int .i64 (x.1.1 : Int)) (.int .i64 (x.1.2 : Int)) ∧ a' = { tmps := #[.func (.func gf) #[] lb, .int .i64 most, undef, .pointer (some ⟨w.heap.size, 0, none⟩), .slice none 0 0, .bool false, .pointer (some ⟨w.heap.size + 1, 0, none⟩), .pointer (some ⟨Bx, 0, none⟩), .func (.func gf) #[] lb, .bool false, .func (.func gf) #[] lb, .agg #[.int .i64 (x.1.1 : Int), .int .i64 (x.1.2 : Int)], undef, undef, undef, undef, undef, undef, undef, undef, undef], defers := [] })
    (fun x a' _ X Y row ⟨Bx, h1, h2, h3⟩ hg hr => ⟨Bx, h1, Box2.own (β := Unit) Bx _ _ _ _ () X Y row h2 hg hr, h3⟩)
    ?assign ?body ?done ?stop
  case assign =>
    intro l pre x W K hI hK
    gi_wp2
    exact hK _ _ ((KeepsOthers.alloc W _).from _) ((Typ.refl _ _ _ W).alloc _) (hOwn.alloc _ hI) ⟨W.heap.size, hI.2.size, World.alloc_heap_new W _, rfl⟩
  case body =>
    rintro l pre x a' W _ _ ⟨⟨⟨⟨v, hv, hrow, _⟩, hM⟩, hlt⟩, hB⟩ ⟨Bx, hBx, hx, rfl⟩ hN
    have hc := hv.cell
    have hmc := hM.cell
    have hx0 := hx.c0
    have hx1 := hx.c1
    have hxl := hx.lt
    have hBs := hB.size
    have hlen1 : pre.length + 1 ≤ 100000 := by omega
    have hcat : cellsV (valsP (pre ++ [x])) = cellsV (valsP pre) ++ [.int .i64 (x.1.1 : Int), .int .i64 (x.1.2 : Int)] := by rw [valsP, List.map_append]; exact cellsV_snoc _ _
    have HCAT := Lib.hid hcat
    have HLT := Lib.hid hlt
    clear hcat hlt hN
    gi_wp2_with (gi_at_builtin; refine wpListIn_append_own _ rfl _ _ 43 rfl W1.heap.size 29 i0 (.agg #[.int .i64 0, .int .i64 0]) 2 16 Try.underlying43 hi hz0 hz1 hz2 rfl (by decide) _ _ _ rfl (hrow.alloc _) ⟨W.heap.size, 0, none⟩ 1 1 [.int .i64 (x.1.1 : Int), .int .i64 (x.1.2 : Int)] rfl rfl (cell_two_new _ _ _ _) (by intro u hu; simp at hu; rcases hu with rfl | rfl <;> rfl) (by unfold maxLen; omega) (by omega) (by simp; omega) ?_; intro v' w1 hown' hgrow _; obtain ⟨g', cap', rfl⟩ := ownsRow_succ hown'; obtain ⟨hv1, hv2, hr2, hk2, hb2⟩ := typ_appended (t0 := 3) hv (by decide) (by decide) hrow hown' hgrow hBs (E := [w.heap.size + 1]) (by simp); have hM1 := (hM.alloc _).kept hgrow (hM.not_row (by decide) hrow); have hM2 := hM1.other (show w.heap.size ≠ w.heap.size + 1 by omega) (.slice (some ⟨g', 0, none⟩) (pre.length + 1) cap'); have hc1 := hv1.cell; have hf1 := hv1.frozen; have hc2 := hv2.cell; have hm1' := hM1.cell)
    · have h1 : (most : Int) ≤ (pre.length : Int) + 1 := by assumption
      have h2 := HLT.out
      exact ⟨hk2.from _, ⟨⟨_, hv2, by rw [HCAT.out]; simpa using hr2, trivial⟩, rfl, by simp; omega⟩, hB.trans hb2⟩
    · have h1 : (pre.length : Int) + 1 < (most : Int) := by assumption
      exact ⟨hk2.from _, hb2, ⟨⟨⟨_, hv2, by rw [HCAT.out]; simpa using hr2, trivial⟩, hM2⟩, by simp; omega⟩, hB.trans hb2⟩
  case done =>
    rintro D ys W hD rfl ⟨⟨⟨⟨v, hv, hrow, _⟩, hM⟩, hlt⟩, hB⟩ hK
    have hrow' := ownsRow_putObj hrow (.deferred none) hK rfl
    have e : (valsP ys).take most = valsP ys := List.take_of_length_le (by simp; omega)
    obtain ⟨a, cap, hve, hp⟩ := pairs_of_owns (rs := valsP ys) (by simpa using hrow')
    subst hve
    have hc := hv.cell
    have HE := Lib.hid e
    have hfin : Below w.heap.size w W := hB.below hB0 (by omega) (by omega) (by simp)
    clear e
    gi_wp2
    refine ⟨by simp, .inl ⟨_, _, rfl, run_takeDeferred hK, ?_⟩⟩
    exact ⟨_, results_tmp2 rfl _ _ _, a, cap, by rw [HE.out]; first | (simp; done) | (simp; omega), by rw [HE.out]; exact hp, below_put (by omega) hK hfin⟩
  case stop =>
    rintro D c pre W hD hsp ⟨⟨⟨v, hv, hrow, _⟩, ⟨rfl, hl⟩⟩, hB⟩ hK
    have hrow' := ownsRow_putObj hrow (.deferred none) hK rfl
    have e : R.take most = valsP pre := by rw [← hl]; exact prefix_take' hsp
    obtain ⟨a, cap, hve, hp⟩ := pairs_of_owns (rs := valsP pre) (by simpa using hrow')
    subst hve
    have hc := hv.cell
    have HE := Lib.hid e
    have hfin : Below w.heap.size w W := hB.below hB0 (by omega) (by omega) (by simp)
    clear e
    gi_wp2
    refine ⟨by simp, .inl ⟨_, _, rfl, run_takeDeferred hK, ?_⟩⟩
    exact ⟨_, results_tmp2 rfl _ _ _, a, cap, by rw [HE.out]; first | (simp; done) | (simp; omega), by rw [HE.out]; exact hp, below_put (by omega) hK hfin⟩
set_option maxRecDepth 100000 in
set_option maxHeartbeats 4000000 in
theorem heard12_any (m gf : Nat) (lb : Array Value) (R : List (Nat × Nat)) (hR : R.length ≤ 100000) (most : Nat) (hm : 1 ≤ most) (hm2 : most ≤ 100000) (w : World)
    (hE : ∀ args W, (callFunc gf args).run Try.prog W = .ok (.enter gf args) W)
    (hS : ∀ W, Below w.heap.size w W → W.heap.size = w.heap.size + 1 + 1 → SeqStopsK Fence.wide 8 Try.prog gf lb (fun x : Plc m => #[Value.agg #[Value.int .i64 (x.1.1 : Int), Value.int .i64 (x.1.2 : Int)]]) (Typ 3 W.heap.size [w.heap.size + 1]) (fun ys => valsP ys = R) (fun pre => valsP pre <+: R) 100000 W) :
    Calls Try.prog 59 #[.func (.func gf) #[] lb, .int .i64 most] w fun e w' => ∃ a cap, e = .returned (.tuple #[.slice a (R.take most).length cap, .bool true]) ∧ PairsAt w' a (R.take most) ∧ Below w.heap.size w w' := by
  obtain ⟨i0, hi, hz0, hz1, hz2⟩ := info_parts infoPos
  have hnil : ∀ w : World, (binOp BinOp.eql 77 (.func (.func gf) #[] lb) .nilFunc).run Try.prog w = .ok (.bool false) w := fun _ => by kernel_rfl
  refine (callsIn_wide (n := 9)).1 ?_
  refine callsIn_of_wp_marks Try.func59 rfl trivial ?_ rfl
  simp only [Try.ntmps59, List.size_toArray, List.length_cons, List.length_nil, Nat.reduceAdd, Nat.reduceSub, Array.replicate_succ, Array.replicate_zero, List.push_toArray, List.append_toArray, List.nil_append, List.cons_append]
  gi_wp2
  refine name_worldIn ?_
  intro W1 hW1
  have bM : Boxed W1 w.heap.size 3 (.int .i64 most) := by rw [hW1]; exact (boxed_new' _ _ _ rfl).alloc _
  have bO : Boxed W1 (w.heap.size + 1) 43 (.slice none 0 0) := by rw [hW1]; exact boxed_new' _ _ _ (by simp)
  have hB0 : Below w.heap.size w W1 := by rw [hW1]; (repeat (first | with_reducible exact Below.refl _ _ | (with_reducible refine Below.setCell ?_ ?_ _; rotate_left; · (first | exact Nat.le_refl _ | assumption | omega | (simp; done) | (simp; omega))) | (with_reducible refine Below.alloc ?_ ?_ _; rotate_left; · (first | exact Nat.le_refl _ | assumption | omega | (simp; done) | (simp; omega))) | with_reducible refine below_ovr_of ?_ | with_reducible refine drew_below ?_ _ | with_reducible refine Below.drew ?_ | with_reducible assumption))
  have hsz : W1.heap.size = w.heap.size + 1 + 1 := by rw [hW1]; simp
  clear hW1
  have hOwn : OwnFrom W1.heap.size (fun (pre : List (Plc m)) W => (((∃ v, Boxed W (w.heap.size + 1) 43 v ∧ W.ownsRow W1.heap.size 29 2 v pre.length (cellsV (valsP pre)) ∧ True) ∧ Boxed W w.heap.size 3 (.int .i64 most)) ∧ pre.length < most) ∧ Typ 3 W1.heap.size [w.heap.size + 1] W1 W) :=
    OwnFrom.and (OwnFrom.and (OwnFrom.and (Own.from (holdsRow_own W1.heap.size (w.heap.size + 1) 43 29 2 (fun pre : List (Plc m) => pre.length) (fun pre => cellsV (valsP pre)) (fun _ _ => True)) _) (Own.from (boxed_own _ _ _) _)) (ownFrom_pure _ _)) (typFrom (Nat.le_refl _))
  refine wpIn_rangeFunc_ownH rfl (by omega) (gf := gf) (lb := lb) rfl trivial hE (hS _ hB0 hsz) (fun h k => Typ.trans h k) (typK_b (Nat.le_refl _)) (Below.refl _ _) (fun _ => rfl)
    _
    (fun c pre W => ((∃ v, Boxed W (w.heap.size + 1) 43 v ∧ W.ownsRow W1.heap.size 29 2 v pre.length (cellsV (valsP pre)) ∧ True) ∧ (c = .exit 0 ∧ pre.length = most)) ∧ Typ 3 W1.heap.size [w.heap.size + 1] W1 W)
    hOwn
    (fun c => OwnFrom.and (OwnFrom.and (Own.from (holdsRow_own W1.heap.size (w.heap.size + 1) 43 29 2 (fun pre : List (Plc m) => pre.length) (fun pre => cellsV (valsP pre)) (fun _ _ => True)) _) (ownFrom_pure _ _)) (typFrom (Nat.le_refl _)))
    ⟨⟨⟨⟨_, bO, World.ownsRow_nil _ _ _ _, trivial⟩, bM⟩, by simp; omega⟩, Typ.refl _ _ _ _⟩
    (fun x a' W => ∃ Bx, W1.heap.size ≤ Bx ∧ Box2 W Bx 29 (.int .i64 (x.1.1 : Int)) (.int .i64 (x.1.2 : Int)) ∧ a' = { tmps := #[.func (.func gf) #[] lb, .int .i64 most, undef, .pointer (some ⟨w.heap.size, 0, none⟩), .slice none 0 0, .bool false, .pointer (some ⟨w.heap.size + 1, 0, none⟩), .pointer (some ⟨Bx, 0, none⟩), .func (.func gf) #[] lb, .bool false, .func (.func gf) #[] lb, .agg #[.int .i64 (x.1.1 : Int), .int .i64 (x.1.2 : Int)], undef, undef, undef, undef, undef, undef, undef, undef, undef], defers := [] })
    (fun x a' _ X Y row ⟨Bx, h1, h2, h3⟩ hg hr => ⟨Bx, h1, Box2.own (β := Unit) Bx _ _ _ _ () X Y row h2 hg hr, h3⟩)
    ?assign ?body ?done ?stop
  case assign =>
    intro l pre x W K hI hK
    gi_wp2
    exact hK _ _ ((KeepsOthers.alloc W _).from _) ((Typ.refl _ _ _ W).alloc _) (hOwn.alloc _ hI) ⟨W.heap.size, hI.2.size, World.alloc_heap_new W _, rfl⟩
  case body =>
    rintro l pre x a' W _ _ ⟨⟨⟨⟨v, hv, hrow, _⟩, hM⟩, hlt⟩, hB⟩ ⟨Bx, hBx, hx, rfl⟩ hN
    have hc := hv.cell
    have hmc := hM.cell
    have hx0 := hx.c0
    have hx1 := hx.c1
    have hxl := hx.lt
    have hBs := hB.size
    have hlen1 : pre.length + 1 ≤ 100000 := by omega
    have hcat : cellsV (valsP (pre ++ [x])) = cellsV (valsP pre) ++ [.int .i64 (x.1.1 : Int), .int .i64 (x.1.2 : Int)] := by rw [valsP, List.map_append]; exact cellsV_snoc _ _
    have HCAT := Lib.hid hcat
    have HLT := Lib.hid hlt
    clear hcat hlt hN
    gi_wp2_with (gi_at_builtin; refine wpListIn_append_own _ rfl _ _ 43 rfl W1.heap.size 29 i0 (.agg #[.int .i64 0, .int .i64 0]) 2 16 Try.underlying43 hi hz0 hz1 hz2 rfl (by decide) _ _ _ rfl (hrow.alloc _) ⟨W.heap.size, 0, none⟩ 1 1 [.int .i64 (x.1.1 : Int), .int .i64 (x.1.2 : Int)] rfl rfl (cell_two_new _ _ _ _) (by intro u hu; simp at hu; rcases hu with rfl | rfl <;> rfl) (by unfold maxLen; omega) (by omega) (by simp; omega) ?_; intro v' w1 hown' hgrow _; obtain ⟨g', cap', rfl⟩ := ownsRow_succ hown'; obtain ⟨hv1, hv2, hr2, hk2, hb2⟩ := typ_appended (t0 := 3) hv (by decide) (by decide) hrow hown' hgrow hBs (E := [w.heap.size + 1]) (by simp); have hM1 := (hM.alloc _).kept hgrow (hM.not_row (by decide) hrow); have hM2 := hM1.other (show w.heap.size ≠ w.heap.size + 1 by omega) (.slice (some ⟨g', 0, none⟩) (pre.length + 1) cap'); have hc1 := hv1.cell; have hf1 := hv1.frozen; have hc2 := hv2.cell; have hm1' := hM1.cell)
    · have h1 : (most : Int) ≤ (pre.length : Int) + 1 := by assumption
      have h2 := HLT.out
      exact ⟨hk2.from _, ⟨⟨_, hv2, by rw [HCAT.out]; simpa using hr2, trivial⟩, rfl, by simp; omega⟩, hB.trans hb2⟩
    · have h1 : (pre.length : Int) + 1 < (most : Int) := by assumption
      exact ⟨hk2.from _, hb2, ⟨⟨⟨_, hv2, by rw [HCAT.out]; simpa using hr2, trivial⟩, hM2⟩, by simp; omega⟩, hB.trans hb2⟩
  case done =>
    rintro D ys W hD rfl ⟨⟨⟨⟨v, hv, hrow, _⟩, hM⟩, hlt⟩, hB⟩ hK
    have hrow' := ownsRow_putObj hrow (.deferred none) hK rfl
    have e : (valsP ys).take most = valsP ys := List.take_of_length_le (by simp; omega)
    obtain ⟨a, cap, hve, hp⟩ := pairs_of_owns (rs := valsP ys) (by simpa using hrow')
    subst hve
    have hc := hv.cell
    have HE := Lib.hid e
    have hfin : Below w.heap.size w W := hB.below hB0 (by omega) (by omega) (by simp)
    clear e
    gi_wp2
    refine ⟨by simp, .inl ⟨_, _, rfl, run_takeDeferred hK, ?_⟩⟩
    exact ⟨_, results_tmp2 rfl _ _ _, a, cap, by rw [HE.out]; first | (simp; done) | (simp; omega), by rw [HE.out]; exact hp, below_put (by omega) hK hfin⟩
  case stop =>
    rintro D c pre W hD hsp ⟨⟨⟨v, hv, hrow, _⟩, ⟨rfl, hl⟩⟩, hB⟩ hK
    have hrow' := ownsRow_putObj hrow (.deferred none) hK rfl
    have e : R.take most = valsP pre := by rw [← hl]; exact prefix_take' hsp
    obtain ⟨a, cap, hve, hp⟩ := pairs_of_owns (rs := valsP pre) (by simpa using hrow')
    subst hve
    have hc := hv.cell
    have HE := Lib.hid e
    have hfin : Below w.heap.size w W := hB.below hB0 (by omega) (by omega) (by simp)
    clear e
    gi_wp2
    refine ⟨by simp, .inl ⟨_, _, rfl, run_takeDeferred hK, ?_⟩⟩
    exact ⟨_, results_tmp2 rfl _ _ _, a, cap, by rw [HE.out]; first | (simp; done) | (simp; omega), by rw [HE.out]; exact hp, below_put (by omega) hK hfin⟩
end Go.Proofs.Ytlbbgocggifjaaa
