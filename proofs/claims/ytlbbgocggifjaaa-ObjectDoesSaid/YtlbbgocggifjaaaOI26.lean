/- The contract of wordobj.Runs: an iterator. Conditions: none beyond what it says. -/
import Derived.Test.YtlbbgocggifjaaaOI21
import Derived.Test.YtlbbgocggifjaaaOI4
import Derived.Test.YtlbbgocggifjaaaOI22
import Derived.Test.YtlbbgocggifjaaaOI8
namespace Go.Proofs.Ytlbbgocggifjaaa
open Go.RowKit Go.Shelf

attribute [local go_sem] Oper.semAt_some

set_option maxRecDepth 100000 in
set_option maxHeartbeats 2000000 in
theorem wruns1_in (n : Nat) (hn : 1 ≤ n) (l Bs Bq : Nat) (Kp : World → World → Prop) (s : ByteArray) (big : Bool) (hK1 : ∀ X Y, Kp X Y → Y.cell? ⟨Bs, 0, none⟩ = X.cell? ⟨Bs, 0, none⟩) (hK2 : ∀ X Y, Kp X Y → Y.cell? ⟨Bq, 0, none⟩ = X.cell? ⟨Bq, 0, none⟩) (hs : s.size ≤ 140737488351232) (J Jx : List (Ivl s.size) → World → Prop)
    (hD : ∀ pre (X Y : World), J pre X → X.grownBy Y none → J pre Y)
    (hY : ∀ (pre : List (Ivl s.size)) (x : Ivl s.size) (X : World), J pre X → pre.length < s.size → YieldAt Fence.wide (n - 1) Try.prog l #[.int .i64 (x.1.1 : Int), .int .i64 (x.1.2 : Int)] X fun e X' =>
      (e = .returned (.bool true) ∧ J (pre ++ [x]) X' ∧ Kp X X') ∨ (e = .returned (.bool false) ∧ Jx (pre ++ [x]) X'))
    (W : World) (hBs : W.cell? ⟨Bs, 0, none⟩ = some (.string s)) (hBq : W.cell? ⟨Bq, 0, none⟩ = some (.bool big)) (h0 : J [] W) :
    CallsIn Fence.wide n Try.prog 104 #[.func (.yield l) #[] #[], .pointer (some ⟨Bs, 0, none⟩), .pointer (some ⟨Bq, 0, none⟩)] W fun e W' => (∃ v, e = .returned v) ∧
      ((∃ ys, ys.map Subtype.val = runF s big 0 0 ∧ J ys W') ∨ (∃ pre, pre.map Subtype.val <+: runF s big 0 0 ∧ Jx pre W')) := by
  obtain ⟨R, hR⟩ : ∃ R, runF s big 0 0 = R := ⟨_, rfl⟩
  rw [hR]
  have HR := Lib.hid hR
  clear hR
  refine callsIn_of_wp Try.func104 rfl trivial ?_ rfl
  simp only [Try.ntmps104, List.size_toArray, List.length_cons, List.length_nil, Nat.reduceAdd, Nat.reduceSub, Array.replicate_succ, Array.replicate_zero, List.push_toArray, List.append_toArray, List.nil_append, List.cons_append]
  gi_wp2
  gi_loopw [4, 8] (fun f i wr => ∃ (k fr : Nat), k ≤ s.size ∧ i = .int .i64 k ∧ f = .int .i64 fr ∧ fr ≤ k ∧ ∃ pre : List (Ivl s.size), pre.length ≤ k ∧ Hid (pre.map Subtype.val ++ runF s big fr k = R) ∧ J pre wr ∧ wr.cell? ⟨Bs, 0, none⟩ = some (.string s) ∧ wr.cell? ⟨Bq, 0, none⟩ = some (.bool big))
    (fun _ i _ => s.size - (intOf i).toNat)
  case atStart => exact ⟨0, 0, Nat.zero_le _, rfl, rfl, Nat.le_refl _, [], Nat.le_refl _, Lib.hid (by simpa using HR.out), h0, hBs, hBq⟩
  case round =>
    obtain ⟨k, fr, hk, rfl, rfl, hf, pre, hp, HK, hJ, c1, c2⟩ := hrel
    by_cases hlt : k < s.size
    · have hltI : (k : Int) < (s.size : Int) := by omega
      have ew : IntKind.i64.wrap ((k : Int) + 1) = (k : Int) + 1 := IntWalk.i64_in _ (by omega)
      have hcut : ∀ (hc : ¬ (k + 1 < s.size ∧ clsB s big (k + 1) = clsB s big k)), Hid ((pre ++ [(⟨(fr, k + 1), by omega, by omega⟩ : Ivl s.size)]).map Subtype.val ++ runF s big (k + 1) (k + 1) = R) := fun hc => Lib.hid (by rw [← HK.out, runF_cut hlt hc]; simp)
      by_cases h1 : k + 1 < s.size
      · have h1I : (k : Int) + 1 < (s.size : Int) := by omega
        have h10 : (0 : Int) ≤ (k : Int) + 1 := by omega
        have e1n : ((k : Int) + 1).toNat = k + 1 := by omega
        have hb := byt_at' s k hlt
        have hb1 := byt_at' s (k + 1) h1
        by_cases h2 : clsB s big (k + 1) = clsB s big k
        · have t1 : (ofC (s[k + 1].toNat : Int) big == ofC (s[k].toNat : Int) big) = true := by rw [beq_iff_eq, ← hb, ← hb1]; exact h2
          have HK2 : Hid (pre.map Subtype.val ++ runF s big fr (k + 1) = R) := Lib.hid (by rw [← runF_on h1 h2]; exact HK.out)
          clear HK h2 hb hb1 hcut
          gi_wp2
          gi_quiet ((gi_at_call 103; refine CallsIn.quiet_of_same (callsIn_wide.2 (of_same _ _ _))))
          gi_wp2
          go_roundw
          case rel => exact ⟨k + 1, fr, by omega, by go_num, rfl, by omega, pre, by omega, HK2, hD _ _ _ hJ (grown_drewN _ _), c1, c2⟩
          case measure => simp [intOf]; omega
        · have t1 : (ofC (s[k + 1].toNat : Int) big == ofC (s[k].toNat : Int) big) = false := by rw [beq_eq_false_iff_ne, ← hb, ← hb1]; exact h2
          have HK2 := hcut (fun hc => h2 hc.2)
          have hYY := fun (nq : Nat) => hY pre ⟨(fr, k + 1), by omega, by omega⟩ (wr.drewN nq) (hD _ _ _ hJ (grown_drewN _ _)) (by omega)
          have HYY := Lib.hid hYY
          clear HK h2 hb hb1 hcut hYY
          gi_wp2
          gi_quiet ((gi_at_call 103; refine CallsIn.quiet_of_same (callsIn_wide.2 (of_same _ _ _))))
          obtain ⟨fn, tmps, assign, body, hy, hR⟩ := HYY.out nq
          rw [show ((k + 1 : Nat) : Int) = (k : Int) + 1 by omega] at hy
          gi_wp2
          refine hR.mono ?_
          rintro e W3 (⟨rfl, hJ3, hk3⟩ | ⟨rfl, hJx3⟩)
          · gi_wp2
            go_roundw
            case rel => exact ⟨k + 1, k + 1, by omega, by go_num, by go_num, by omega, _, by simp; omega, HK2, hJ3, (hK1 _ _ hk3).trans c1, (hK2 _ _ hk3).trans c2⟩
            case measure => simp [intOf]; omega
          · gi_wp2
            refine bodyPost_ret (results_none rfl _ _ _) rfl ?_
            exact ⟨⟨_, rfl⟩, .inr ⟨_, ⟨_, HK2.out⟩, hJx3⟩⟩
      · have h1d : decide ((k : Int) + 1 < (s.size : Int)) = false := decide_eq_false (by omega)
        have HK2 := hcut (fun hc => h1 hc.1)
        have hYY := fun (nq : Nat) => hY pre ⟨(fr, k + 1), by omega, by omega⟩ (wr.drewN nq) (hD _ _ _ hJ (grown_drewN _ _)) (by omega)
        have HYY := Lib.hid hYY
        clear HK hcut hYY
        gi_wp2
        gi_quiet (fail)
        obtain ⟨fn, tmps, assign, body, hy, hR⟩ := HYY.out nq
        rw [show ((k + 1 : Nat) : Int) = (k : Int) + 1 by omega] at hy
        gi_wp2
        refine hR.mono ?_
        rintro e W3 (⟨rfl, hJ3, hk3⟩ | ⟨rfl, hJx3⟩)
        · gi_wp2
          go_roundw
          case rel => exact ⟨k + 1, k + 1, by omega, by go_num, by go_num, by omega, _, by simp; omega, HK2, hJ3, (hK1 _ _ hk3).trans c1, (hK2 _ _ hk3).trans c2⟩
          case measure => simp [intOf]; omega
        · gi_wp2
          refine bodyPost_ret (results_none rfl _ _ _) rfl ?_
          exact ⟨⟨_, rfl⟩, .inr ⟨_, ⟨_, HK2.out⟩, hJx3⟩⟩
    · have HE : Hid (pre.map Subtype.val = R) := Lib.hid (by have := HK.out; rwa [runF_end (by omega), List.append_nil] at this)
      gi_wp2
      go_end0
      exact ⟨⟨_, rfl⟩, .inl ⟨pre, HE.out, hJ⟩⟩
end Go.Proofs.Ytlbbgocggifjaaa
