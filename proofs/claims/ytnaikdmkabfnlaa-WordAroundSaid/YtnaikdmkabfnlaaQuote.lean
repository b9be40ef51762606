/- The contract of quoteobj.Pairs: an iterator. Conditions: none beyond what it says. -/
import Derived.Test.YtnaikdmkabfnlaaRng
import Derived.Test.YtnaikdmkabfnlaaQuoteP
namespace Go.Proofs.Ytnaikdmkabfnlaa
open Go.RowKit Go.Shelf

attribute [local go_sem] Oper.semAt_some

set_option maxRecDepth 100000 in
set_option maxHeartbeats 2000000 in
theorem qpairs1_in (n : Nat) (hn : 1 ≤ n) (l Bs Bq n₀ : Nat) (s : ByteArray) (q : Int) (hbs : Bs < n₀) (hbq : Bq < n₀) (hs : s.size ≤ 140737488351232) (J Jx : List (Ivl s.size) → World → Prop)
    (hD : ∀ pre (X Y : World), J pre X → X.grownBy Y none → J pre Y)
    (hY : ∀ (pre : List (Ivl s.size)) (x : Ivl s.size) (X : World), J pre X → pre.length < s.size → YieldAt Fence.wide (n - 1) Try.prog l #[.int .i64 (x.1.1 : Int), .int .i64 (x.1.2 : Int)] X fun e X' =>
      (e = .returned (.bool true) ∧ J (pre ++ [x]) X' ∧ Below n₀ X X') ∨ (e = .returned (.bool false) ∧ Jx (pre ++ [x]) X'))
    (W : World) (hBs : W.cell? ⟨Bs, 0, none⟩ = some (.string s)) (hBq : W.cell? ⟨Bq, 0, none⟩ = some (.int .u8 q)) (h0 : J [] W) :
    CallsIn Fence.wide n Try.prog 66 #[.func (.yield l) #[] #[], .pointer (some ⟨Bs, 0, none⟩), .pointer (some ⟨Bq, 0, none⟩)] W fun e W' => (∃ v, e = .returned v) ∧
      ((∃ ys, ys.map Subtype.val = qpF s q none 0 ∧ J ys W') ∨ (∃ pre, pre.map Subtype.val <+: qpF s q none 0 ∧ Jx pre W')) := by
  obtain ⟨R, hR⟩ : ∃ R, qpF s q none 0 = R := ⟨_, rfl⟩
  rw [hR]
  have HR := Lib.hid hR
  clear hR
  refine callsIn_of_wp Try.func66 rfl trivial ?_ rfl
  simp only [Try.ntmps66, List.size_toArray, List.length_cons, List.length_nil, Nat.reduceAdd, Nat.reduceSub, Array.replicate_succ, Array.replicate_zero, List.push_toArray, List.append_toArray, List.nil_append, List.cons_append]
  gi_wp2
  gi_loopw [4, 8] (fun f i wr => ∃ (k : Nat) (o : Option Nat), k ≤ s.size ∧ i = .int .i64 k ∧ f = .int .i64 (fstI o) ∧ (∀ a, o = some a → a < k) ∧ ∃ pre : List (Ivl s.size), pre.length ≤ k ∧ Hid (pre.map Subtype.val ++ qpF s q o k = R) ∧ J pre wr ∧ Below n₀ W wr)
    (fun _ i _ => s.size - (intOf i).toNat)
  case atStart => exact ⟨0, none, Nat.zero_le _, rfl, rfl, (fun a h => by cases h), [], Nat.le_refl _, Lib.hid (by simpa using HR.out), h0, Below.refl _ _⟩
  case round =>
    obtain ⟨k, o, hk, rfl, rfl, ho, pre, hp, HK, hJ, hB⟩ := hrel
    have c1 : wr.cell? ⟨Bs, 0, none⟩ = some (.string s) := (hB.cell (p := ⟨Bs, 0, none⟩) hbs).trans hBs
    have c2 : wr.cell? ⟨Bq, 0, none⟩ = some (.int .u8 q) := (hB.cell (p := ⟨Bq, 0, none⟩) hbq).trans hBq
    by_cases hlt : k < s.size
    · have hb := byt_at' s k hlt
      have hltI : (k : Int) < (s.size : Int) := by omega
      obtain ⟨cc, hcc⟩ : ∃ cc : Int, (s[k].toNat : Int) = cc := ⟨_, rfl⟩
      rw [hcc] at hb
      have hd := hD
      by_cases h1 : cc = q
      · have t1 : (cc != q) = false := by rw [bne_eq_false_iff_eq]; exact h1
        cases o with
        | none =>
          have HK2 : Hid (pre.map Subtype.val ++ qpF s q (some k) (k + 1) = R) := Lib.hid (by rw [← qpF_open hlt (hb.trans h1)]; exact HK.out)
          have e1 : fstI none = -1 := rfl
          clear HK h1 hb ho
          gi_wp2
          gi_region
          all_goals gi_wp2
          go_roundw
          case rel => exact ⟨k + 1, some k, by omega, by go_num, rfl, (fun a e => by cases e; omega), pre, by omega, HK2, hD _ _ _ hJ (grown_drew _), hB.drew⟩
          case measure => simp [intOf]; omega
        | some a =>
          have ha := ho a rfl
          have e1 : fstI (some a) = (a : Int) := rfl
          have HK2 : Hid ((pre ++ [(⟨(a, k), by omega, by omega⟩ : Ivl s.size)]).map Subtype.val ++ qpF s q none (k + 1) = R) := Lib.hid (by rw [← HK.out, qpF_shut hlt (hb.trans h1)]; simp)
          obtain ⟨fn, tmps, assign, body, hy, hR⟩ := hY pre ⟨(a, k), by omega, by omega⟩ wr.drew (hD _ _ _ hJ (grown_drew _)) (by omega)
          dsimp only at hy
          have ha0 : (0 : Int) ≤ (a : Int) := by omega
          clear HK h1 hb ho
          gi_wp2
          gi_region
          all_goals gi_wp2
          refine hR.mono ?_
          rintro e W3 (⟨rfl, hJ3, hk3⟩ | ⟨rfl, hJx3⟩)
          · gi_wp2
            go_roundw
            case rel => exact ⟨k + 1, none, by omega, by go_num, rfl, (fun a e => by cases e), _, by simp; omega, HK2, hJ3, hB.drew.trans hk3⟩
            case measure => simp [intOf]; omega
          · gi_wp2
            refine bodyPost_ret (results_none rfl _ _ _) rfl ?_
            exact ⟨⟨_, rfl⟩, .inr ⟨_, ⟨_, HK2.out⟩, hJx3⟩⟩
      · have t1 : (cc != q) = true := by rw [bne_iff_ne]; exact h1
        have HK2 : Hid (pre.map Subtype.val ++ qpF s q o (k + 1) = R) := Lib.hid (by rw [← qpF_no hlt (by rw [hb]; exact h1)]; exact HK.out)
        clear HK h1 hb
        gi_wp2
        gi_region
        all_goals gi_wp2
        go_roundw
        case rel => exact ⟨k + 1, o, by omega, by go_num, rfl, (fun a e => by have := ho a e; omega), pre, by omega, HK2, hD _ _ _ hJ (grown_drew _), hB.drew⟩
        case measure => simp [intOf]; omega
    · have HE : Hid (pre.map Subtype.val = R) := Lib.hid (by have := HK.out; rwa [qpF_end (by omega), List.append_nil] at this)
      gi_wp2
      go_end0
      exact ⟨⟨_, rfl⟩, .inl ⟨pre, HE.out, hJ⟩⟩
end Go.Proofs.Ytnaikdmkabfnlaa
