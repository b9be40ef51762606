/- The contracts of quoteobj.Pairs and of its reference. Conditions: none beyond what each says. -/
import Derived.Test.YtnaikdmkabfnlaaQuote
import Derived.Test.YtnaikdmkabfnlaaHeard
namespace Go.Proofs.Ytnaikdmkabfnlaa
open Go.RowKit Go.Shelf

theorem qpairs_any (s : ByteArray) (q : Int) (w : World) : Calls Try.prog 31 #[.string s, .int .u8 q] w fun e w' =>
    e = .returned (.func (.func 66) #[] #[.pointer (some ⟨w.heap.size, 0, none⟩), .pointer (some ⟨w.heap.size + 1, 0, none⟩)]) ∧ (w.alloc (.cells #[.string s] 9)).alloc (.cells #[.int .u8 q] 5) = w' := by
  go_enter Try.func31, Try.ntmps31
  go_wp2
  go_ret
  exact ⟨rfl, rfl⟩
theorem qpairs_stops (n₀ Bs Bq : Nat) (s : ByteArray) (q : Int) (W : World) (hbs : Bs < n₀) (hbq : Bq < n₀) (hn₀ : n₀ ≤ W.heap.size) (hs : s.size ≤ 100000) (hBs : W.cell? ⟨Bs, 0, none⟩ = some (.string s)) (hBq : W.cell? ⟨Bq, 0, none⟩ = some (.int .u8 q)) :
    SeqStopsK Fence.wide 8 Try.prog 66 #[.pointer (some ⟨Bs, 0, none⟩), .pointer (some ⟨Bq, 0, none⟩)] (fun x : Ivl s.size => #[Value.int .i64 (x.1.1 : Int), Value.int .i64 (x.1.2 : Int)]) (Below n₀)
      (fun ys => vals ys = qpF s q none 0) (fun pre => vals pre <+: qpF s q none 0) 100000 W := fun l J Jx X hX hJ _ hY h0 =>
  qpairs1_in 8 (by omega) l Bs Bq n₀ s q hbs hbq (by omega) J Jx (fun pre A B h g => hJ pre A B none h g (fun r e => by cases e)) (fun pre x A h hl => hY pre x A h (by omega)) X
    ((hX.cell (p := ⟨Bs, 0, none⟩) (by simp; omega)).trans hBs) ((hX.cell (p := ⟨Bq, 0, none⟩) (by simp; omega)).trans hBq) h0

set_option maxRecDepth 100000 in
set_option maxHeartbeats 2000000 in
theorem rqpairs_any (s : ByteArray) (q : Int) (w : World) (hs : s.size ≤ 100000) : Calls Try.prog 32 #[.string s, .int .u8 q] w fun e w' =>
    ∃ a cap, e = .returned (.slice a (qpF s q none 0).length cap) ∧ PairsAt w' a (qpF s q none 0) ∧ Below w.heap.size w w' := by
  obtain ⟨i0, hi, hz0, hz1, hz2⟩ := info_parts infoRun
  obtain ⟨R, hR⟩ : ∃ R, qpF s q none 0 = R := ⟨_, rfl⟩
  rw [hR]
  have HR := Lib.hid hR
  clear hR
  go_enter Try.func32, Try.ntmps32
  go_wp2
  go_loopw [5, 6, 7] (fun v f i wr => ∃ (k : Nat) (o : Option Nat) (pre : List (Nat × Nat)), k ≤ s.size ∧ i = .int .i64 k ∧ f = .int .i64 (fstI o) ∧ (∀ a, o = some a → a < k) ∧ pre.length ≤ k ∧ wr.ownsRow w.heap.size 61 2 v pre.length (cellsV pre) ∧ Hid (pre ++ qpF s q o k = R) ∧ Below w.heap.size w wr)
    (fun _ _ i _ => s.size - (intOf i).toNat)
  case atStart => exact ⟨0, none, [], Nat.zero_le _, rfl, rfl, (fun a h => by cases h), Nat.le_refl _, World.ownsRow_nil _ _ _ _, Lib.hid (by rw [List.nil_append]; exact HR.out), Below.refl _ _⟩
  case round =>
    obtain ⟨k, o, pre, hk, rfl, rfl, ho, hp, hrow, HK, hB⟩ := hrel
    by_cases hlt : k < s.size
    · have hb := byt_at' s k hlt
      have hltI : (k : Int) < (s.size : Int) := by omega
      obtain ⟨cc, hcc⟩ : ∃ cc : Int, (s[k].toNat : Int) = cc := ⟨_, rfl⟩
      rw [hcc] at hb
      by_cases h1 : cc = q
      · have t1 : (cc != q) = false := by rw [bne_eq_false_iff_eq]; exact h1
        cases o with
        | none =>
          have HK2 : Hid (pre ++ qpF s q (some k) (k + 1) = R) := Lib.hid (by rw [← qpF_open hlt (hb.trans h1)]; exact HK.out)
          have e1 : fstI none = -1 := rfl
          clear HK h1 hb ho
          go_wp2
          go_roundw
          case rel => exact ⟨k + 1, some k, pre, by omega, by go_num, rfl, (fun a e => by cases e; omega), by omega, hrow, HK2, hB⟩
          case measure => simp [intOf]; omega
        | some a =>
          have ha := ho a rfl
          have e1 : fstI (some a) = (a : Int) := rfl
          have HK2 : Hid ((pre ++ [(a, k)]) ++ qpF s q none (k + 1) = R) := Lib.hid (by rw [← HK.out, qpF_shut hlt (hb.trans h1)]; simp)
          have HC := Lib.hid (cellsV_snoc pre (a, k))
          have ha0 : (0 : Int) ≤ (a : Int) := by omega
          clear HK h1 hb ho
          go_wp2_with (at_builtin; refine wpList_append_own _ rfl _ _ 42 rfl w.heap.size 61 i0 (.agg #[.int .i64 0, .int .i64 0]) 2 16 Try.underlying42 hi hz0 hz1 hz2 rfl (by decide) _ _ _ rfl (hrow.alloc _) ⟨wr.heap.size, 0, none⟩ 1 1 [.int .i64 (a : Int), .int .i64 (k : Int)] rfl rfl (cell_two_new _ _ _ _) (by intro u hu; simp at hu; rcases hu with rfl | rfl <;> rfl) (by unfold maxLen; omega) (by omega) (by have := hB.size; simp; omega) ?_; intro v' w1 hown' hgrow _)
          have hB1 : Below w.heap.size w w1 := (hB.alloc hB.size _).grown hgrow (by have := hB.size; simp; omega) (fun r e => (hrow.lt r e).1)
          go_roundw
          case rel => exact ⟨k + 1, none, pre ++ [(a, k)], by omega, by go_num, rfl, (fun a e => by cases e), by simp; omega, by rw [HC.out]; simpa using hown', HK2, hB1⟩
          case measure => simp [intOf]; omega
      · have t1 : (cc != q) = true := by rw [bne_iff_ne]; exact h1
        have HK2 : Hid (pre ++ qpF s q o (k + 1) = R) := Lib.hid (by rw [← qpF_no hlt (by rw [hb]; exact h1)]; exact HK.out)
        clear HK h1 hb
        go_wp2
        go_roundw
        case rel => exact ⟨k + 1, o, pre, by omega, by go_num, rfl, (fun a e => by have := ho a e; omega), by omega, hrow, HK2, hB⟩
        case measure => simp [intOf]; omega
    · have e : pre = R := by have := HK.out; rwa [qpF_end (by omega), List.append_nil] at this
      subst e
      obtain ⟨a, cap, hve, hpa⟩ := pairs_of_owns hrow
      subst hve
      go_wp2
      go_ret
      exact ⟨a, cap, rfl, hpa, hB⟩

set_option maxHeartbeats 1000000 in
theorem same16_any (a b : Option Addr) (ca cb : Nat) (R : List (Nat × Nat)) (hR : R.length ≤ 100000) (w : World) (ha : PairsAt w a R) (hb : PairsAt w b R) :
    Calls Try.prog 33 #[.slice a R.length ca, .slice b R.length cb] w fun e w' => e = .returned (.bool true) ∧ Below w.heap.size w w' := by
  rcases ha.split with rfl | ⟨g, rfl, hg, h0, hc⟩
  · go_enter Try.func33, Try.ntmps33
    go_wp2
    go_loop [5] (fun i => i = .int .i64 0) (fun _ => 0)
    case atStart => rfl
    case round =>
      subst hrel
      go_wp2
      go_ret
      exact ⟨rfl, by (repeat (first | exact Below.refl _ _ | refine Below.alloc ?_ (by first | exact Nat.le_refl _ | (simp; done) | (simp; omega)) _ | refine below_ovr_of ?_ | refine drew_below ?_ _ | refine Below.drew ?_ | refine Below.setCell ?_ (by first | exact Nat.le_refl _ | (simp; done) | (simp; omega)) _ | assumption))⟩
  · rcases hb.split with rfl | ⟨g', rfl, hg', _, hc'⟩
    · simp at h0
    · have HC := Lib.hid hc
      have HC' := Lib.hid hc'
      clear hc hc' ha hb
      go_enter Try.func33, Try.ntmps33
      go_wp2
      go_loopw [5] (fun i wr => ∃ k : Nat, k ≤ R.length ∧ i = .int .i64 k ∧ ∃ n, wr = w.drewN n) (fun i _ => R.length - (intOf i).toNat)
      case atStart => exact ⟨0, Nat.zero_le _, rfl, 0, rfl⟩
      case round =>
        obtain ⟨k, hk, rfl, n, rfl⟩ := hrel
        by_cases hlt : k < R.length
        · have hltI : (k : Int) < (R.length : Int) := by omega
          have hk0 : (0 : Int) ≤ (k : Int) := by omega
          obtain ⟨c1, c2⟩ := HC.out k hlt
          obtain ⟨d1, d2⟩ := HC'.out k hlt
          go_wp2
          go_quiet (fail)
          go_wp2
          go_roundw
          case rel => exact ⟨k + 1, by omega, by go_num, _, rfl⟩
          case measure => simp [intOf]; omega
        · go_wp2
          go_ret
          exact ⟨rfl, by (repeat (first | exact Below.refl _ _ | refine Below.alloc ?_ (by first | exact Nat.le_refl _ | (simp; done) | (simp; omega)) _ | refine below_ovr_of ?_ | refine drew_below ?_ _ | refine Below.drew ?_ | refine Below.setCell ?_ (by first | exact Nat.le_refl _ | (simp; done) | (simp; omega)) _ | assumption))⟩
set_option maxHeartbeats 1000000 in
theorem same15_any (a b : Option Addr) (ca cb : Nat) (R : List (Nat × Nat)) (hR : R.length ≤ 100000) (w : World) (ha : PairsAt w a R) (hb : PairsAt w b R) :
    Calls Try.prog 41 #[.slice a R.length ca, .slice b R.length cb] w fun e w' => e = .returned (.bool true) ∧ Below w.heap.size w w' := by
  rcases ha.split with rfl | ⟨g, rfl, hg, h0, hc⟩
  · go_enter Try.func41, Try.ntmps41
    go_wp2
    go_loop [5] (fun i => i = .int .i64 0) (fun _ => 0)
    case atStart => rfl
    case round =>
      subst hrel
      go_wp2
      go_ret
      exact ⟨rfl, by (repeat (first | exact Below.refl _ _ | refine Below.alloc ?_ (by first | exact Nat.le_refl _ | (simp; done) | (simp; omega)) _ | refine below_ovr_of ?_ | refine drew_below ?_ _ | refine Below.drew ?_ | refine Below.setCell ?_ (by first | exact Nat.le_refl _ | (simp; done) | (simp; omega)) _ | assumption))⟩
  · rcases hb.split with rfl | ⟨g', rfl, hg', _, hc'⟩
    · simp at h0
    · have HC := Lib.hid hc
      have HC' := Lib.hid hc'
      clear hc hc' ha hb
      go_enter Try.func41, Try.ntmps41
      go_wp2
      go_loopw [5] (fun i wr => ∃ k : Nat, k ≤ R.length ∧ i = .int .i64 k ∧ ∃ n, wr = w.drewN n) (fun i _ => R.length - (intOf i).toNat)
      case atStart => exact ⟨0, Nat.zero_le _, rfl, 0, rfl⟩
      case round =>
        obtain ⟨k, hk, rfl, n, rfl⟩ := hrel
        by_cases hlt : k < R.length
        · have hltI : (k : Int) < (R.length : Int) := by omega
          have hk0 : (0 : Int) ≤ (k : Int) := by omega
          obtain ⟨c1, c2⟩ := HC.out k hlt
          obtain ⟨d1, d2⟩ := HC'.out k hlt
          go_wp2
          go_quiet (fail)
          go_wp2
          go_roundw
          case rel => exact ⟨k + 1, by omega, by go_num, _, rfl⟩
          case measure => simp [intOf]; omega
        · go_wp2
          go_ret
          exact ⟨rfl, by (repeat (first | exact Below.refl _ _ | refine Below.alloc ?_ (by first | exact Nat.le_refl _ | (simp; done) | (simp; omega)) _ | refine below_ovr_of ?_ | refine drew_below ?_ _ | refine Below.drew ?_ | refine Below.setCell ?_ (by first | exact Nat.le_refl _ | (simp; done) | (simp; omega)) _ | assumption))⟩
end Go.Proofs.Ytnaikdmkabfnlaa
