/- The contract of paraobj.Blocks: an iterator. Conditions: none beyond what it says. -/
import Derived.Test.YtlbbgocggifjaaaOI22
import Derived.Test.YtlbbgocggifjaaaOI11
import Derived.Test.YtlbbgocggifjaaaOI15
import Derived.Test.YtlbbgocggifjaaaOI23
namespace Go.Proofs.Ytlbbgocggifjaaa
open Go.RowKit Go.Shelf

attribute [local go_sem] Oper.semAt_some
set_option maxRecDepth 100000 in
set_option maxHeartbeats 8000000 in
theorem blk1_in (n : Nat) (hn : 1 ≤ n) (l Bl : Nat) (a : Option Addr) (cap : Nat) (L : List ByteArray) (Kp : World → World → Prop) (hl : L.length ≤ 100000)
    (hK1 : ∀ X Y, Kp X Y → X.cell? ⟨Bl, 0, none⟩ = some (.slice a L.length cap) → LinesAt X a L → Y.cell? ⟨Bl, 0, none⟩ = some (.slice a L.length cap) ∧ LinesAt Y a L)
    (J Jx : List (Ivl L.length) → World → Prop)
    (hY : ∀ (pre : List (Ivl L.length)) (x : Ivl L.length) (X : World), J pre X → pre.length < L.length → YieldAt Fence.wide (n - 1) Try.prog l #[.int .i64 (x.1.1 : Int), .int .i64 (x.1.2 : Int)] X fun e X' =>
      (e = .returned (.bool true) ∧ J (pre ++ [x]) X' ∧ Kp X X') ∨ (e = .returned (.bool false) ∧ Jx (pre ++ [x]) X'))
    (W : World) (hBl : W.cell? ⟨Bl, 0, none⟩ = some (.slice a L.length cap)) (hL : LinesAt W a L) (h0 : J [] W) :
    CallsIn Fence.wide n Try.prog 135 #[.func (.yield l) #[] #[], .pointer (some ⟨Bl, 0, none⟩)] W fun e W' => (∃ v, e = .returned v) ∧
      ((∃ ys, ys.map Subtype.val = blkP L ∧ J ys W') ∨ (∃ pre, pre.map Subtype.val <+: blkP L ∧ Jx pre W')) := by
  obtain ⟨R, hR⟩ : ∃ R, blkP L = R := ⟨_, rfl⟩
  rw [hR]
  have HR := Lib.hid hR
  have HK1 := Lib.hid hK1
  have HY := Lib.hid hY
  clear hR hK1 hY
  refine callsIn_of_wp Try.func135 rfl trivial ?_ rfl
  simp only [Try.ntmps135, List.size_toArray, List.length_cons, List.length_nil, Nat.reduceAdd, Nat.reduceSub, Array.replicate_succ, Array.replicate_zero, List.push_toArray, List.append_toArray, List.nil_append, List.cons_append]
  gi_wp2
  gi_loopw [3, 8] (fun f i wr => ∃ (k fr : Nat), k ≤ L.length ∧ i = .int .i64 k ∧ f = .int .i64 fr ∧ fr ≤ k ∧ ∃ pre : List (Ivl L.length), pre.length ≤ k ∧ Hid (pre.map Subtype.val ++ blkF L fr k = R) ∧ J pre wr ∧ wr.cell? ⟨Bl, 0, none⟩ = some (.slice a L.length cap) ∧ LinesAt wr a L)
    (fun _ i _ => L.length - (intOf i).toNat)
  case atStart => exact ⟨0, 0, Nat.zero_le _, rfl, rfl, Nat.le_refl _, [], Nat.le_refl _, Lib.hid (by simpa [blkP] using HR.out), h0, hBl, hL⟩
  case round =>
    obtain ⟨k, fr, hk, rfl, rfl, hf, pre, hp, HK, hJ, hc, hLV⟩ := hrel
    by_cases hlt : k < L.length
    · have hltI : (k : Int) < (L.length : Int) := by omega
      have hk0 : (0 : Int) ≤ (k : Int) := by omega
      obtain ⟨b, off, s, rfl, hb, hcell, hw1⟩ := emp_facts hLV hlt
      have hcut : ∀ (hc : ¬ (k + 1 < L.length ∧ emp L (k + 1) = emp L k)), Hid ((pre ++ [(⟨(fr, k + 1), by simp only; omega, by simp only; omega⟩ : Ivl L.length)]).map Subtype.val ++ blkF L (k + 1) (k + 1) = R) := fun hc => Lib.hid (by rw [← HK.out, blk_cut hlt hc]; simp)
      have HYY := Lib.hid (HY.out pre ⟨(fr, k + 1), by simp only; omega, by simp only; omega⟩ wr hJ (by omega))
      by_cases h1 : k + 1 < L.length
      · have h1I : (k : Int) + 1 < (L.length : Int) := by omega
        have h10 : (0 : Int) ≤ (k : Int) + 1 := by omega
        have e1n : ((k : Int) + 1).toNat = k + 1 := by omega
        obtain ⟨b', off', s2, e', _, hc2, hw2⟩ := emp_facts hLV h1
        cases e'
        by_cases h2 : emp L (k + 1) = emp L k
        · have HK2 : Hid (pre.map Subtype.val ++ blkF L fr (k + 1) = R) := Lib.hid (by rw [← blk_on h1 h2]; exact HK.out)
          rcases hw1 with ⟨g1, rfl⟩ | ⟨g1, hse, _⟩ <;> rcases hw2 with ⟨g2, rfl⟩ | ⟨g2, hse2, _⟩
          · clear HK h2 hcut HYY
            gi_wp2
            go_roundw
            case rel => exact ⟨k + 1, fr, by omega, by go_num, rfl, by omega, pre, by omega, HK2, hJ, hc, hLV⟩
            case measure => simp [intOf]; omega
          · rw [g1, g2] at h2; cases h2
          · rw [g1, g2] at h2; cases h2
          · clear HK h2 hcut HYY
            gi_wp2
            go_roundw
            case rel => exact ⟨k + 1, fr, by omega, by go_num, rfl, by omega, pre, by omega, HK2, hJ, hc, hLV⟩
            case measure => simp [intOf]; omega
        · have HK2 := hcut (fun hc => h2 hc.2)
          rcases hw1 with ⟨g1, rfl⟩ | ⟨g1, hse, _⟩ <;> rcases hw2 with ⟨g2, rfl⟩ | ⟨g2, hse2, _⟩
          · exact absurd (g2.trans g1.symm) h2
          rotate_left 2
          · exact absurd (g2.trans g1.symm) h2
          all_goals (
            clear HK h2 hcut
            obtain ⟨fn, tmps, assign, body, hy, hYR⟩ := HYY.out
            dsimp only at hy
            rw [show ((k + 1 : Nat) : Int) = (k : Int) + 1 by omega] at hy
            gi_wp2
            refine hYR.mono ?_
            rintro e W3 (⟨rfl, hJ3, hk3⟩ | ⟨rfl, hJx3⟩)
            · obtain ⟨hc3, hL3⟩ := HK1.out _ _ hk3 hc hLV
              gi_wp2
              go_roundw
              case rel => exact ⟨k + 1, k + 1, by omega, by go_num, by go_num, by omega, _, by simp; omega, HK2, hJ3, hc3, hL3⟩
              case measure => simp [intOf]; omega
            · gi_wp2
              refine bodyPost_ret (results_none rfl _ _ _) rfl ?_
              exact ⟨⟨_, rfl⟩, .inr ⟨_, ⟨_, HK2.out⟩, hJx3⟩⟩)
      · have h1d : decide ((k : Int) + 1 < (L.length : Int)) = false := decide_eq_false (by omega)
        have h1I : ¬ (k : Int) + 1 < (L.length : Int) := by omega
        have HK2 := hcut (fun hc => h1 hc.1)
        clear HK hcut
        obtain ⟨fn, tmps, assign, body, hy, hYR⟩ := HYY.out
        dsimp only at hy
        rw [show ((k + 1 : Nat) : Int) = (k : Int) + 1 by omega] at hy
        gi_wp2
        refine hYR.mono ?_
        rintro e W3 (⟨rfl, hJ3, hk3⟩ | ⟨rfl, hJx3⟩)
        · obtain ⟨hc3, hL3⟩ := HK1.out _ _ hk3 hc hLV
          gi_wp2
          go_roundw
          case rel => exact ⟨k + 1, k + 1, by omega, by go_num, by go_num, by omega, _, by simp; omega, HK2, hJ3, hc3, hL3⟩
          case measure => simp [intOf]; omega
        · gi_wp2
          refine bodyPost_ret (results_none rfl _ _ _) rfl ?_
          exact ⟨⟨_, rfl⟩, .inr ⟨_, ⟨_, HK2.out⟩, hJx3⟩⟩
    · have HE : Hid (pre.map Subtype.val = R) := Lib.hid (by have := HK.out; rwa [blk_end (by omega), List.append_nil] at this)
      gi_wp2
      go_end0
      exact ⟨⟨_, rfl⟩, .inl ⟨pre, HE.out, hJ⟩⟩
end Go.Proofs.Ytlbbgocggifjaaa
