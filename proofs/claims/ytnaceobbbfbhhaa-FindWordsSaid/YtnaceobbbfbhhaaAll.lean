/- The contract of find.All: an iterator. Conditions: none beyond what each says. -/
import Derived.Test.YtnaceobbbfbhhaaFindP
import Derived.Test.YtnaceobbbfbhhaaTailW
import Derived.Test.YtnaceobbbfbhhaaPara2
namespace Go.Proofs.Ytnaceobbbfbhhaa
open Go.RowKit Go.Shelf

attribute [local go_sem] Oper.semAt_some
theorem hasp_same (s t : ByteArray) (w : World) (hs : s.size ≤ 140737488351232) (ht : t.size ≤ 140737488351232) {q : Bool} (h : Hid (preB s t = q)) : Calls Try.prog 80 #[.string s, .string t] w fun e w' => e = .returned (.bool q) ∧ w' = w :=
  (hasp_any s t w hs ht).mono fun _ _ ⟨h1, h2⟩ => ⟨by rw [h1, h.out], h2.symm⟩
set_option maxRecDepth 100000 in
set_option maxHeartbeats 8000000 in
theorem all1_in (n : Nat) (hn : 1 ≤ n) (l Bl Bt m : Nat) (a : Option Addr) (cap : Nat) (L : List ByteArray) (t : ByteArray) (Kp : World → World → Prop) (N : Nat)
    (hsz : L.length + total L ≤ 100000) (hm : L.length + total L ≤ m) (hN : L.length + total L ≤ N) (ht : t.size ≤ 100000)
    (hK1 : ∀ X Y, Kp X Y → X.cell? ⟨Bl, 0, none⟩ = some (.slice a L.length cap) → LinesAt X a L → Y.cell? ⟨Bl, 0, none⟩ = some (.slice a L.length cap) ∧ LinesAt Y a L)
    (hK2 : ∀ X Y, Kp X Y → X.cell? ⟨Bt, 0, none⟩ = some (.string t) → Y.cell? ⟨Bt, 0, none⟩ = some (.string t))
    (J Jx : List (Plc m) → World → Prop)
    (hD : ∀ pre (X Y : World), J pre X → X.grownBy Y none → J pre Y)
    (hY : ∀ (pre : List (Plc m)) (x : Plc m) (X : World), J pre X → pre.length < N → YieldAt Fence.wide (n - 1) Try.prog l #[.agg #[.int .i64 (x.1.1 : Int), .int .i64 (x.1.2 : Int)]] X fun e X' =>
      (e = .returned (.bool true) ∧ J (pre ++ [x]) X' ∧ Kp X X') ∨ (e = .returned (.bool false) ∧ Jx (pre ++ [x]) X'))
    (W : World) (hBl : W.cell? ⟨Bl, 0, none⟩ = some (.slice a L.length cap)) (hBt : W.cell? ⟨Bt, 0, none⟩ = some (.string t)) (hL : LinesAt W a L) (h0 : J [] W) :
    CallsIn Fence.wide n Try.prog 79 #[.func (.yield l) #[] #[], .pointer (some ⟨Bt, 0, none⟩), .pointer (some ⟨Bl, 0, none⟩)] W fun e W' => (∃ v, e = .returned v) ∧
      ((∃ ys, ys.map Subtype.val = allP L t ∧ J ys W') ∨ (∃ pre, pre.map Subtype.val <+: allP L t ∧ Jx pre W')) := by
  have hLn := hL.2.1
  have hRl := (allP_in (L := L) (t := t)).2
  obtain ⟨R, hR⟩ : ∃ R, allP L t = R := ⟨_, rfl⟩
  rw [hR] at hRl ⊢
  have HRL := Lib.hid hRl
  have HR := Lib.hid hR
  have HK1 := Lib.hid hK1
  have HK2 := Lib.hid hK2
  have HD := Lib.hid hD
  have HY := Lib.hid hY
  clear hRl hR hK1 hK2 hD hY
  refine callsIn_of_wp Try.func79 rfl trivial ?_ rfl
  simp only [Try.ntmps79, List.size_toArray, List.length_cons, List.length_nil, Nat.reduceAdd, Nat.reduceSub, Array.replicate_succ, Array.replicate_zero, List.push_toArray, List.append_toArray, List.nil_append, List.cons_append]
  by_cases ht0 : t.size = 0
  · obtain rfl : t = ⟨#[]⟩ := str_nil ht0
    have HE : Hid (R = []) := Lib.hid (by rw [← HR.out, allP, if_pos ht0])
    gi_wp2
    refine bodyPost_ret (results_none rfl _ _ _) rfl ?_
    exact ⟨⟨_, rfl⟩, .inl ⟨[], HE.out.symm, h0⟩⟩
  · have hte : t.toList.isEmpty = false := str_empty ht0
    have HR0 : Hid (fAll L t 0 = R) := Lib.hid (by rw [← HR.out, allP, if_neg ht0])
    clear HR
    gi_wp2
    gi_loopw [11] (fun i wr => ∃ (k : Nat) (pre : List (Plc m)), k ≤ L.length ∧ i = .int .i64 k ∧ Hid (pre.map Subtype.val ++ fAll L t k = R) ∧ J pre wr ∧ wr.cell? ⟨Bl, 0, none⟩ = some (.slice a L.length cap) ∧ wr.cell? ⟨Bt, 0, none⟩ = some (.string t) ∧ LinesAt wr a L)
      (fun i _ => L.length - (intOf i).toNat)
    case atStart => exact ⟨0, [], Nat.zero_le _, rfl, Lib.hid (by simpa using HR0.out), h0, hBl, hBt, hL⟩
    case round =>
      obtain ⟨k, pre, hk, rfl, HK, hJ, hc, hct, hLV⟩ := hrel
      by_cases hlt : k < L.length
      · have hltI : (k : Int) < (L.length : Int) := by omega
        have hk0 : (0 : Int) ≤ (k : Int) := by omega
        obtain ⟨b, off, s, rfl, hb, hcell, hs, HS⟩ := line_facts' hLV hlt
        have hst := size_le_total L k hlt
        have HK0 : Hid (pre.map Subtype.val ++ fRow s t k 0 ++ fAll L t (k + 1) = R) := Lib.hid (by rw [← HK.out, fAll_on hlt HS.out, List.append_assoc])
        have hszm : s.size ≤ m := by rw [HS.out] at hst; omega
        have hsz5 : s.size ≤ 100000 := by rw [HS.out] at hst; omega
        clear HK hs hst
        gi_wp2
        gi_loopw [18] (fun i wr' => ∃ (j : Nat) (pre' : List (Plc m)), j ≤ s.size ∧ i = .int .i64 j ∧ Hid (pre'.map Subtype.val ++ fRow s t k j ++ fAll L t (k + 1) = R) ∧ J pre' wr' ∧ wr'.cell? ⟨Bl, 0, none⟩ = some (.slice (some ⟨b, off, none⟩) L.length cap) ∧ wr'.cell? ⟨Bt, 0, none⟩ = some (.string t) ∧ LinesAt wr' (some ⟨b, off, none⟩) L)
          (fun i _ => s.size - (intOf i).toNat)
        case atStart => exact ⟨0, pre, Nat.zero_le _, rfl, HK0, hJ, hc, hct, hLV⟩
        case round =>
          obtain ⟨j, pre', hj, rfl, HJ, hJ', hc', hct', hL'⟩ := hrel
          by_cases hjl : j < s.size
          · have hjI : (j : Int) < (s.size : Int) := by omega
            have hj0 : (0 : Int) ≤ (j : Int) := by omega
            have hpre := hasB_pre (s := s) (t := t) hj
            have hxs : (s.extract j s.size).size ≤ 140737488351232 := by rw [ByteArray.size_extract]; omega
            cases hh : hasB s t j with
            | false =>
              have HQ : Hid (preB (s.extract j s.size) t = false) := Lib.hid (hpre.trans hh)
              have HJ2 : Hid (pre'.map Subtype.val ++ fRow s t k (j + 1) ++ fAll L t (k + 1) = R) := Lib.hid (by rw [← HJ.out, fRow_no hjl hh])
              clear HJ hpre hh
              gi_wp2
              gi_quiet ((gi_at_call 80; refine CallsIn.quiet_of_same (callsIn_wide.2 (hasp_same _ _ _ hxs (by omega) HQ))))
              gi_wp2
              go_roundw
              case rel => exact ⟨j + 1, pre', by omega, by go_num, HJ2, HD.out _ _ _ hJ' (grown_drewN _ _), hc', hct', hL'⟩
              case measure => simp [intOf]; omega
            | true =>
              have HQ : Hid (preB (s.extract j s.size) t = true) := Lib.hid (hpre.trans hh)
              have HJ2 : Hid ((pre' ++ [(⟨(k, j), by simp only; omega, by simp only; omega⟩ : Plc m)]).map Subtype.val ++ fRow s t k (j + 1) ++ fAll L t (k + 1) = R) := Lib.hid (by rw [← HJ.out, fRow_yes hjl hh]; simp)
              have hpl : pre'.length < N := by have q1 := congrArg List.length HJ2.out; have q2 := HRL.out; simp at q1; omega
              have HYY := Lib.hid (HY.out pre' ⟨(k, j), by simp only; omega, by simp only; omega⟩ wr.drew (HD.out _ _ _ hJ' (grown_drew _)) hpl)
              clear HJ hpre hh hpl
              obtain ⟨fn, tmps, assign, body, hy, hYR⟩ := HYY.out
              dsimp only at hy
              (try rw [show ((0 : Nat) : Int) = 0 from rfl] at hy)
              gi_wp2
              refine wpIn_still_tail 10 (by kernel_rfl) (by kernel_rfl) ?_
              simp only [List.take_succ_cons, List.take_zero, List.drop_succ_cons, List.drop_zero]
              iterate 4 still_step
              still_call (hasp_same _ _ _ hxs (by omega) HQ)
              repeat still_step
              refine wpStill_nil ?_
              gi_wp2
              refine hYR.mono ?_
              rintro e W3 (⟨rfl, hJ3, hk3⟩ | ⟨rfl, hJx3⟩)
              · obtain ⟨hc3, hL3⟩ := HK1.out _ _ hk3 hc' hL'
                have ht3 := HK2.out _ _ hk3 hct'
                gi_wp2
                go_roundw
                case rel => exact ⟨j + 1, _, by omega, by go_num, HJ2, hJ3, hc3, ht3, hL3⟩
                case measure => simp [intOf]; omega
              · gi_wp2
                refine bodyPost_ret (results_none rfl _ _ _) rfl ?_
                exact ⟨⟨_, rfl⟩, .inr ⟨_, ⟨_, by rw [← HJ2.out, List.append_assoc]⟩, hJx3⟩⟩
          · have hjI : ¬ (j : Int) < (s.size : Int) := by omega
            have HK2' : Hid (pre'.map Subtype.val ++ fAll L t (k + 1) = R) := Lib.hid (by rw [← HJ.out, fRow_end (by omega)]; simp)
            gi_wp2
            go_roundw
            case rel => exact ⟨k + 1, pre', by omega, by go_num, HK2', hJ', hc', hct', hL'⟩
            case measure => simp [intOf]; omega
      · have HE : Hid (pre.map Subtype.val = R) := Lib.hid (by have := HK.out; rwa [fAll_end (by omega), List.append_nil] at this)
        gi_wp2
        go_end0
        exact ⟨⟨_, rfl⟩, .inl ⟨pre, HE.out, hJ⟩⟩
theorem pall_any (a : Option Addr) (cap : Nat) (L : List ByteArray) (t : ByteArray) (w : World) : Calls Try.prog 40 #[.slice a L.length cap, .string t] w fun e w' =>
    e = .returned (.func (.func 79) #[] #[.pointer (some ⟨w.heap.size + 1, 0, none⟩), .pointer (some ⟨w.heap.size, 0, none⟩)]) ∧ (w.alloc (.cells #[.slice a L.length cap] 22)).alloc (.cells #[.string t] 9) = w' := by
  go_enter Try.func40, Try.ntmps40
  go_wp2
  go_ret
  exact ⟨rfl, rfl⟩
end Go.Proofs.Ytnaceobbbfbhhaa
