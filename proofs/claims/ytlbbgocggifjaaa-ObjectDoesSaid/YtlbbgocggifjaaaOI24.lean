/- Several texts in one: RunsCap, Quote6, AppNew. Conditions: none beyond what each says. -/
import Derived.Test.YtlbbgocggifjaaaOI23
import Derived.Laws.OwnMore
namespace Go.Proofs.Ytlbbgocggifjaaa
open Go.RowKit Go.Shelf

theorem pairs_of_owns_cap {w : World} {base : Nat} {e : TypeId} {v : Value} {rs : List (Nat × Nat)} (h : w.ownsRow base e 2 v rs.length (cellsV rs)) : ∃ a cap, v = .slice a rs.length cap ∧ PairsAt w a rs ∧ rs.length ≤ cap := by
  obtain ⟨a, cap, rfl, hp⟩ := pairs_of_owns h
  refine ⟨a, cap, rfl, hp, ?_⟩
  rcases h.2 with ⟨h1, h0⟩ | ⟨g, cap', cur, h1, _, _, hc, _⟩
  · omega
  · simp only [Value.slice.injEq] at h1
    omega

theorem cellsV_len (rs : List (Nat × Nat)) : (cellsV rs).length = rs.length * 2 := by
  induction rs with
  | nil => rfl
  | cons p rs ih => rw [cellsV, List.length_cons, List.length_cons, ih, List.length_cons]; omega
theorem cellsV_set (pre : List (Nat × Nat)) (f a b : Nat) : (cellsV (pre ++ [(f, a)])).set (pre.length * 2 + 1) (.int .i64 (b : Int)) = cellsV (pre ++ [(f, b)]) := by
  rw [cellsV_snoc, cellsV_snoc, List.set_append_right _ _ (by rw [cellsV_len]; omega), cellsV_len, show pre.length * 2 + 1 - pre.length * 2 = 1 by omega]
  rfl

theorem tri_base {w : World} {base : Nat} {e : TypeId} {k n n' cap : Nat} {a : Option Addr} {cs : List Value} (h : w.ownsRow base e k (.slice a n' cap) n cs) : ∀ g, a = some ⟨g, 0, none⟩ → base ≤ g := by
  intro g hg
  subst hg
  rcases h.2 with ⟨h1, _⟩ | ⟨g', cap', cur, h1, h2, _⟩
  · cases h1
  · cases h1; exact h2

end Go.Proofs.Ytlbbgocggifjaaa
namespace Go.Proofs.Ytlbbgocggifjaaa
open Go.RowKit Go.Shelf

set_option maxRecDepth 100000 in
set_option maxHeartbeats 2000000 in
theorem rqpairs_cap (s : ByteArray) (q : Int) (w : World) (hs : s.size ≤ 100000) : Calls Try.prog 28 #[.string s, .int .u8 q] w fun e w' =>
    ∃ a cap, e = .returned (.slice a (qpF s q none 0).length cap) ∧ PairsAt w' a (qpF s q none 0) ∧ (qpF s q none 0).length ≤ cap ∧ Below w.heap.size w w' := by
  obtain ⟨i0, hi, hz0, hz1, hz2⟩ := info_parts infoRun
  obtain ⟨R, hR⟩ : ∃ R, qpF s q none 0 = R := ⟨_, rfl⟩
  rw [hR]
  have HR := Lib.hid hR
  clear hR
  go_enter Try.func28, Try.ntmps28
  go_wp2
  go_loopw [5, 6, 7] (fun v f i wr => ∃ (k : Nat) (o : Option Nat) (pre : List (Nat × Nat)), k ≤ s.size ∧ i = .int .i64 k ∧ f = .int .i64 (fstI o) ∧ (∀ a, o = some a → a < k) ∧ pre.length ≤ k ∧ wr.ownsRow w.heap.size 54 2 v pre.length (cellsV pre) ∧ Hid (pre ++ qpF s q o k = R) ∧ Below w.heap.size w wr)
    (fun _ _ i _ => s.size - (intOf i).toNat)
  case atStart => exact ⟨0, none, [], Nat.zero_le _, rfl, rfl, (fun a h => by cases h), Nat.le_refl _, World.ownsRow_nil _ _ _ _, Lib.hid (by rw [List.nil_append]; exact HR.out), Below.refl _ _⟩
  case round =>
    obtain ⟨k, o, pre, hk, rfl, rfl, ho, hp, hrow, HK, hB⟩ := hrel
    by_cases hlt : k < s.size
    · have hb := byt_at' s k hlt
      have hltI : (k : Int) < (s.size : Int) := by omega
      obtain ⟨cc, hcc⟩ : ∃ cc : Int, (s[k].toNat : Int) = cc := ⟨_, rfl⟩
      rw [hcc] at hb
      by_cases h1 : cc = q
      · have t1 : (cc != q) = false := by rw [bne_eq_false_iff_eq]; exact h1
        cases o with
        | none =>
          have HK2 : Hid (pre ++ qpF s q (some k) (k + 1) = R) := Lib.hid (by rw [← qpF_open hlt (hb.trans h1)]; exact HK.out)
          have e1 : fstI none = -1 := rfl
          clear HK h1 hb ho
          go_wp2
          go_roundw
          case rel => exact ⟨k + 1, some k, pre, by omega, by go_num, rfl, (fun a e => by cases e; omega), by omega, hrow, HK2, hB⟩
          case measure => simp [intOf]; omega
        | some a =>
          have ha := ho a rfl
          have e1 : fstI (some a) = (a : Int) := rfl
          have HK2 : Hid ((pre ++ [(a, k)]) ++ qpF s q none (k + 1) = R) := Lib.hid (by rw [← HK.out, qpF_shut hlt (hb.trans h1)]; simp)
          have HC := Lib.hid (cellsV_snoc pre (a, k))
          have ha0 : (0 : Int) ≤ (a : Int) := by omega
          clear HK h1 hb ho
          go_wp2_with (at_builtin; refine wpList_append_own _ rfl _ _ 32 rfl w.heap.size 54 i0 (.agg #[.int .i64 0, .int .i64 0]) 2 16 Try.underlying32 hi hz0 hz1 hz2 rfl (by decide) _ _ _ rfl (hrow.alloc _) ⟨wr.heap.size, 0, none⟩ 1 1 [.int .i64 (a : Int), .int .i64 (k : Int)] rfl rfl (cell_two_new _ _ _ _) (by intro u hu; simp at hu; rcases hu with rfl | rfl <;> rfl) (by unfold maxLen; omega) (by omega) (by have := hB.size; simp; omega) ?_; intro v' w1 hown' hgrow _)
          have hB1 : Below w.heap.size w w1 := (hB.alloc hB.size _).grown hgrow (by have := hB.size; simp; omega) (fun r e => (hrow.lt r e).1)
          go_roundw
          case rel => exact ⟨k + 1, none, pre ++ [(a, k)], by omega, by go_num, rfl, (fun a e => by cases e), by simp; omega, by rw [HC.out]; simpa using hown', HK2, hB1⟩
          case measure => simp [intOf]; omega
      · have t1 : (cc != q) = true := by rw [bne_iff_ne]; exact h1
        have HK2 : Hid (pre ++ qpF s q o (k + 1) = R) := Lib.hid (by rw [← qpF_no hlt (by rw [hb]; exact h1)]; exact HK.out)
        clear HK h1 hb
        go_wp2
        go_roundw
        case rel => exact ⟨k + 1, o, pre, by omega, by go_num, rfl, (fun a e => by have := ho a e; omega), by omega, hrow, HK2, hB⟩
        case measure => simp [intOf]; omega
    · have e : pre = R := by have := HK.out; rwa [qpF_end (by omega), List.append_nil] at this
      subst e
      obtain ⟨a, cap, hve, hpa, hcap⟩ := pairs_of_owns_cap hrow
      subst hve
      go_wp2
      go_ret
      exact ⟨a, cap, rfl, hpa, hcap, hB⟩

end Go.Proofs.Ytlbbgocggifjaaa
namespace Go.Proofs.Ytlbbgocggifjaaa
open Go.RowKit Go.Shelf

theorem run_append_new {P : Program} (w : World) (base : Nat) (t ty e : TypeId) (i : TypeInfo) (z : Value) (size bytes : Nat) (ht : P.underlying t = some (.slice e)) (hi : P.info? e = some i) (hz : i.zero = some z)
    (hsize : i.size = size) (hby : i.bytes = bytes) (hzs : z.cells.size = size) (g n : Nat) (xs : List Value) (hg : w.heap[g]? = some (.cells xs.toArray e (0, 0))) (hxl : xs.length = n * size)
    (a : Addr) (m c : Nat) (news : List Value) (hl : news.length = m * size) (hnews : ∀ j u, news[j]? = some u → w.cell? (a.add j) = some u) (hm : 0 < m)
    (h63 : n + m ≤ maxLen) (hbytes : (n + m) * bytes ≤ 140737488355328) (hbase : base ≤ w.heap.size) :
    ∃ v' w', (Builtin.append_ #[t, t] ty #[.slice (some ⟨g, 0, none⟩) n n, .slice (some a) m c]).run P w = .ok v' w' ∧ w'.ownsRow base e size v' (n + m) (xs ++ news) ∧ w.grownBy w' none := by
  subst hsize
  subst hby
  have hsmall : n + m ≤ 9223372036854775807 := by simp only [maxLen] at h63; omega
  have holds : ∀ j u, xs[j]? = some u → w.cell? ((⟨g, 0, none⟩ : Addr).add j) = some u := fun j u hj => by
    rw [addr_add, cell_of_row w g j xs.toArray e (0, 0) hg]
    simpa using hj
  have hr := run_append_grow (P := P) w t ty e i z ht hi hz ⟨g, 0, none⟩ n n xs hxl holds a m c news hl hnews (by omega) (by omega) (growslice_fits (by omega) hbytes)
  have hge := grownCap_ge w (n + m) n e
  have hcm : grownCap w (n + m) n e ≤ maxLen := grownCap_le_maxLen w (n + m) n e h63
  have hlen : (xs ++ news).length = (n + m) * i.size := by rw [List.length_append, hxl, hl, Nat.add_mul]
  refine ⟨_, _, hr, ⟨hlen, .inr ⟨w.heap.size, _, _, rfl, hbase, World.alloc_heap_new w.drew _, hge, hcm, ?_, ?_⟩⟩, ⟨rfl, rfl, rfl, by simp, fun k hk _ => ?_⟩⟩
  · simp only [Array.size_append, List.size_toArray, size_zeroCells, hzs, hxl, hl, ← Nat.add_mul]
    congr 1
    omega
  · simp only [Array.toList_append, List.append_assoc]
    rw [← List.append_assoc, ← hlen]
    exact List.take_left
  · exact Below.heap_alloc w.drew _ k hk
theorem wpListIn_append_new {F : Fence} {n : Nat} {P : Program} (w : World) {ops : Array Oper} {rest : List Oper} {o : Oper} {a : Act} {Q : Exit → Act → World → Prop}
    (hg : o.guard = none) (s x : Operand) (t : TypeId) (hop : o.op = Op.call { callee := Callee.builtin Builtin.append, args := #[s, x], argTypes := #[t, t] })
    (base : Nat) (e : TypeId) (i : TypeInfo) (z : Value) (size bytes : Nat) (h1 : P.underlying t = some (.slice e)) (h2 : P.info? e = some i) (h3 : i.zero = some z) (h4 : i.size = size) (h5 : i.bytes = bytes) (h6 : z.cells.size = size)
    (g k : Nat) (xs : List Value) (hs : a.eval s = .slice (some ⟨g, 0, none⟩) k k) (hrow : w.heap[g]? = some (.cells xs.toArray e (0, 0))) (hxl : xs.length = k * size) (ad : Addr) (m c : Nat) (news : List Value) (hx : a.eval x = .slice (some ad) m c) (hn : news.length = m * size)
    (hc : ∀ j u, news[j]? = some u → w.cell? (ad.add j) = some u) (hm : 0 < m) (b1 : k + m ≤ maxLen) (b2 : (k + m) * bytes ≤ 140737488355328) (b3 : base ≤ w.heap.size)
    (hK : ∀ v' w', w'.ownsRow base e size v' (k + m) (xs ++ news) → w.grownBy w' none → wpListIn F n P ops Q rest (a.put o.dst v') w') :
    wpListIn F n P ops Q (o :: rest) a w := by
  refine wpListIn_plain hg fun K hK' => ?_
  obtain ⟨v', w', hrun, r1, r2⟩ := run_append_new (P := P) w base t o.type e i z size bytes h1 h2 h3 h4 h5 h6 g k xs hrow hxl ad m c news hn hc hm b1 b2 b3
  unfold Oper.wpIn
  refine ⟨?_, ?_⟩
  · simp [Oper.about, hop, resolve, Target.leads, Sem.run_pure]
  · rw [Oper.semAt_plain F _ _ (by rw [hop]; intro c hc'; cases hc')]
    simp [execOp, hop, resolve, invoke, builtin, hs, hx, hrun, Result.andThen]
    exact hK' _ _ (hK v' w' r1 r2)
end Go.Proofs.Ytlbbgocggifjaaa
