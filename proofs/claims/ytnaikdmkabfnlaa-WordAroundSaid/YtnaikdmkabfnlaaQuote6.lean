/- The reference's Pairs once more, with its capacity. Conditions: none beyond what it says. -/
import Derived.Test.YtnaikdmkabfnlaaQuote2
namespace Go.Proofs.Ytnaikdmkabfnlaa
open Go.RowKit Go.Shelf

theorem pairs_of_owns_cap {w : World} {base : Nat} {e : TypeId} {v : Value} {rs : List (Nat × Nat)} (h : w.ownsRow base e 2 v rs.length (cellsV rs)) : ∃ a cap, v = .slice a rs.length cap ∧ PairsAt w a rs ∧ rs.length ≤ cap := by
  obtain ⟨a, cap, rfl, hp⟩ := pairs_of_owns h
  refine ⟨a, cap, rfl, hp, ?_⟩
  rcases h.2 with ⟨h1, h0⟩ | ⟨g, cap', cur, h1, _, _, hc, _⟩
  · omega
  · simp only [Value.slice.injEq] at h1
    omega

set_option maxRecDepth 100000 in
set_option maxHeartbeats 2000000 in
theorem rqpairs_cap (s : ByteArray) (q : Int) (w : World) (hs : s.size ≤ 100000) : Calls Try.prog 32 #[.string s, .int .u8 q] w fun e w' =>
    ∃ a cap, e = .returned (.slice a (qpF s q none 0).length cap) ∧ PairsAt w' a (qpF s q none 0) ∧ (qpF s q none 0).length ≤ cap ∧ Below w.heap.size w w' := by
  obtain ⟨i0, hi, hz0, hz1, hz2⟩ := info_parts infoRun
  obtain ⟨R, hR⟩ : ∃ R, qpF s q none 0 = R := ⟨_, rfl⟩
  rw [hR]
  have HR := Lib.hid hR
  clear hR
  go_enter Try.func32, Try.ntmps32
  go_wp2
  go_loopw [5, 6, 7] (fun v f i wr => ∃ (k : Nat) (o : Option Nat) (pre : List (Nat × Nat)), k ≤ s.size ∧ i = .int .i64 k ∧ f = .int .i64 (fstI o) ∧ (∀ a, o = some a → a < k) ∧ pre.length ≤ k ∧ wr.ownsRow w.heap.size 61 2 v pre.length (cellsV pre) ∧ Hid (pre ++ qpF s q o k = R) ∧ Below w.heap.size w wr)
    (fun _ _ i _ => s.size - (intOf i).toNat)
  case atStart => exact ⟨0, none, [], Nat.zero_le _, rfl, rfl, (fun a h => by cases h), Nat.le_refl _, World.ownsRow_nil _ _ _ _, Lib.hid (by rw [List.nil_append]; exact HR.out), Below.refl _ _⟩
  case round =>
    obtain ⟨k, o, pre, hk, rfl, rfl, ho, hp, hrow, HK, hB⟩ := hrel
    by_cases hlt : k < s.size
    · have hb := byt_at' s k hlt
      have hltI : (k : Int) < (s.size : Int) := by omega
      obtain ⟨cc, hcc⟩ : ∃ cc : Int, (s[k].toNat : Int) = cc := ⟨_, rfl⟩
      rw [hcc] at hb
      by_cases h1 : cc = q
      · have t1 : (cc != q) = false := by rw [bne_eq_false_iff_eq]; exact h1
        cases o with
        | none =>
          have HK2 : Hid (pre ++ qpF s q (some k) (k + 1) = R) := Lib.hid (by rw [← qpF_open hlt (hb.trans h1)]; exact HK.out)
          have e1 : fstI none = -1 := rfl
          clear HK h1 hb ho
          go_wp2
          go_roundw
          case rel => exact ⟨k + 1, some k, pre, by omega, by go_num, rfl, (fun a e => by cases e; omega), by omega, hrow, HK2, hB⟩
          case measure => simp [intOf]; omega
        | some a =>
          have ha := ho a rfl
          have e1 : fstI (some a) = (a : Int) := rfl
          have HK2 : Hid ((pre ++ [(a, k)]) ++ qpF s q none (k + 1) = R) := Lib.hid (by rw [← HK.out, qpF_shut hlt (hb.trans h1)]; simp)
          have HC := Lib.hid (cellsV_snoc pre (a, k))
          have ha0 : (0 : Int) ≤ (a : Int) := by omega
          clear HK h1 hb ho
          go_wp2_with (at_builtin; refine wpList_append_own _ rfl _ _ 42 rfl w.heap.size 61 i0 (.agg #[.int .i64 0, .int .i64 0]) 2 16 Try.underlying42 hi hz0 hz1 hz2 rfl (by decide) _ _ _ rfl (hrow.alloc _) ⟨wr.heap.size, 0, none⟩ 1 1 [.int .i64 (a : Int), .int .i64 (k : Int)] rfl rfl (cell_two_new _ _ _ _) (by intro u hu; simp at hu; rcases hu with rfl | rfl <;> rfl) (by unfold maxLen; omega) (by omega) (by have := hB.size; simp; omega) ?_; intro v' w1 hown' hgrow _)
          have hB1 : Below w.heap.size w w1 := (hB.alloc hB.size _).grown hgrow (by have := hB.size; simp; omega) (fun r e => (hrow.lt r e).1)
          go_roundw
          case rel => exact ⟨k + 1, none, pre ++ [(a, k)], by omega, by go_num, rfl, (fun a e => by cases e), by simp; omega, by rw [HC.out]; simpa using hown', HK2, hB1⟩
          case measure => simp [intOf]; omega
      · have t1 : (cc != q) = true := by rw [bne_iff_ne]; exact h1
        have HK2 : Hid (pre ++ qpF s q o (k + 1) = R) := Lib.hid (by rw [← qpF_no hlt (by rw [hb]; exact h1)]; exact HK.out)
        clear HK h1 hb
        go_wp2
        go_roundw
        case rel => exact ⟨k + 1, o, pre, by omega, by go_num, rfl, (fun a e => by have := ho a e; omega), by omega, hrow, HK2, hB⟩
        case measure => simp [intOf]; omega
    · have e : pre = R := by have := HK.out; rwa [qpF_end (by omega), List.append_nil] at this
      subst e
      obtain ⟨a, cap, hve, hpa, hcap⟩ := pairs_of_owns_cap hrow
      subst hve
      go_wp2
      go_ret
      exact ⟨a, cap, rfl, hpa, hcap, hB⟩

end Go.Proofs.Ytnaikdmkabfnlaa
