/- The contracts of slices.Grow and slices.Concat. Conditions: lengths that a machine bears. -/
import Derived.Test.YtnaceobbbfbhhaaAppSrc
import Derived.Test.YtnaceobbbfbhhaaPara
import Derived.Lib.AppendZeros
namespace Go.Proofs.Ytnaceobbbfbhhaa
open Go.RowKit Go.Shelf

/-- Slices: address, length, capacity, what they read as. -/
abbrev Sl := Option Addr × Nat × Nat × List Value
def sumM (V : List Sl) : Nat := (V.map (fun s => s.2.1)).sum
def catV (V : List Sl) : List Value := (V.map (fun s => s.2.2.2)).flatten
def nilS : Sl := (none, 0, 0, [])
theorem sl_split {V : List Sl} {k : Nat} (h : k < V.length) : V = V.take k ++ V.getD k nilS :: V.drop (k + 1) := by
  have e : V.drop k = V.getD k nilS :: V.drop (k + 1) := by
    rw [List.drop_eq_getElem_cons h, List.getD_eq_getElem?_getD, List.getElem?_eq_getElem h]; rfl
  rw [← e, List.take_append_drop]
theorem sumM_step {V : List Sl} {k : Nat} (h : k < V.length) : sumM (V.take (k + 1)) = sumM (V.take k) + (V.getD k nilS).2.1 := by
  rw [take_snoc_getD V nilS k h, sumM, List.map_append, List.sum_append]; simp [sumM]
theorem catV_step {V : List Sl} {k : Nat} (h : k < V.length) : catV (V.take (k + 1)) = catV (V.take k) ++ (V.getD k nilS).2.2.2 := by
  rw [take_snoc_getD V nilS k h, catV, List.map_append, List.flatten_append]; simp [catV]
theorem sumM_take {V : List Sl} : ∀ k, sumM (V.take k) ≤ sumM V := fun k => by
  conv => rhs; rw [← List.take_append_drop k V]
  simp only [sumM, List.map_append, List.sum_append]; omega
theorem sumM_cons (s : Sl) (V : List Sl) : sumM (s :: V) = s.2.1 + sumM V := by simp [sumM]
theorem catV_cons (s : Sl) (V : List Sl) : catV (s :: V) = s.2.2.2 ++ catV V := by simp [catV]
/-- The slices V stand in a row at b, off, and read as they say. -/
def SlsAt (w : World) (b off size : Nat) (V : List Sl) : Prop :=
  b < w.heap.size ∧ ∀ k, k < V.length → w.cell? ⟨b, off + k, none⟩ = some (.slice (V.getD k nilS).1 (V.getD k nilS).2.1 (V.getD k nilS).2.2.1) ∧ Src w (V.getD k nilS).1 (V.getD k nilS).2.1 size (V.getD k nilS).2.2.2
theorem SlsAt.below {w w' : World} {b off size B : Nat} {V : List Sl} (h : SlsAt w b off size V) (hb : Below B w w') (hB : w.heap.size ≤ B) : SlsAt w' b off size V :=
  ⟨Nat.lt_of_lt_of_le h.1 hb.size, fun k hk => ⟨(hb.cell (p := ⟨b, off + k, none⟩) (Nat.lt_of_lt_of_le h.1 hB)).trans (h.2 k hk).1, (h.2 k hk).2.below hb hB⟩⟩
theorem infoPosC : (Try.prog.info? 46).map (fun i => (i.zero, i.size, i.bytes)) = some (some (.agg #[.int .i64 0, .int .i64 0]), 2, 16) := by kernel_rfl
theorem infoStr : (Try.prog.info? 9).map (fun i => (i.zero, i.size, i.bytes)) = some (some (.string ⟨#[]⟩), 1, 16) := by kernel_rfl

set_option maxRecDepth 100000 in
set_option maxHeartbeats 4000000 in
theorem growP_any (n : Nat) (hn : n ≤ 100000) (w : World) : Calls Try.prog 117 #[.slice none 0 0, .int .i64 (n : Int)] w fun e w' =>
    ∃ v, e = .returned v ∧ w'.ownsRow w.heap.size 46 2 v 0 [] ∧ Below w.heap.size w w' := by
  obtain ⟨i0, hi, hz0, hz1, hz2⟩ := info_parts infoPosC
  by_cases h0 : n = 0
  · subst h0
    rw [show ((0 : Nat) : Int) = 0 from rfl]
    go_enter Try.func117, Try.ntmps117
    go_wp2
    go_ret
    exact ⟨_, rfl, World.ownsRow_nil _ _ _ _, Below.refl _ _⟩
  · have hpos : (0 : Int) < (n : Int) := by omega
    have hnn : ¬ (n : Int) < 0 := by omega
    have hr := fun ty => Lib.run_append_nil_zeros (P := Try.prog) w 48 3 ty 46 i0 (.agg #[.int .i64 0, .int .i64 0]) .i64 .i64 Try.underlying48 Try.underlying3 hi hz0 n (by omega) (by rw [hz1]; decide) (by omega) (by rw [hz2]; omega)
    have hG := grownCap_ge w n 0 46
    have hG2 := grownCap_le_maxLen w n 0 46 (by unfold maxLen; omega)
    have hown := fun h1 h2 => World.ownsRow_made (base := w.heap.size) (e := 46) (size := 2) w.drew (Builtin.zeroCells (Value.cells (.agg #[.int .i64 0, .int .i64 0])) n ++ Builtin.zeroCells (Value.cells (.agg #[.int .i64 0, .int .i64 0])) (grownCap w n 0 46 - n)) (grownCap w n 0 46) (Nat.le_refl _) h1 h2
    obtain ⟨G, hGe⟩ : ∃ G, grownCap w n 0 46 = G := ⟨_, rfl⟩
    rw [hGe] at hr hG hG2 hown
    have hown2 := hown hG2 (by simp [Builtin.zeroCells, Value.cells]; omega)
    have hB : Below w.heap.size w (w.drew.alloc (.cells (Builtin.zeroCells (Value.cells (.agg #[.int .i64 0, .int .i64 0])) n ++ Builtin.zeroCells (Value.cells (.agg #[.int .i64 0, .int .i64 0])) (G - n)) 46)) := (Below.refl _ _).drew.alloc (Nat.le_refl _) _
    obtain ⟨W2, hW2⟩ : ∃ W2, w.drew.alloc (.cells (Builtin.zeroCells (Value.cells (.agg #[.int .i64 0, .int .i64 0])) n ++ Builtin.zeroCells (Value.cells (.agg #[.int .i64 0, .int .i64 0])) (G - n)) 46) = W2 := ⟨_, rfl⟩
    rw [hW2] at hr hown2 hB
    have HR := Lib.hid hr
    have hG3 : G ≤ 9223372036854775807 := by unfold maxLen at hG2; omega
    have hGI : (0 : Int) ≤ (G : Int) := by omega
    clear hr hown hW2 hGe hG2
    go_enter Try.func117, Try.ntmps117
    go_wp2_with (at_builtin; refine Lib.wpList_append_run _ rfl _ _ _ _ rfl _ _ rfl rfl _ _ (HR.out _) ?_)
    go_ret
    exact ⟨_, rfl, hown2, hB⟩
set_option maxRecDepth 100000 in
set_option maxHeartbeats 4000000 in
theorem concatP_any (b off cap : Nat) (V : List Sl) (w : World) (hV : SlsAt w b off 2 V) (hVl : V.length ≤ 100000) (hM : sumM V ≤ 100000) : Calls Try.prog 84 #[.slice (some ⟨b, off, none⟩) V.length cap] w fun e w' =>
    ∃ v, e = .returned v ∧ w'.ownsRow w.heap.size 46 2 v (sumM V) (catV V) ∧ Below w.heap.size w w' := by
  obtain ⟨i0, hi, hz0, hz1, hz2⟩ := info_parts infoPosC
  have HV := Lib.hid hV
  clear hV
  go_enter Try.func84, Try.ntmps84
  go_wp2
  go_loop [3, 11] (fun v i => ∃ k : Nat, k ≤ V.length ∧ i = .int .i64 k ∧ v = .int .i64 ((sumM (V.take k) : Nat) : Int)) (fun _ i => V.length - (intOf i).toNat)
  case atStart => exact ⟨0, Nat.zero_le _, rfl, rfl⟩
  case round =>
    obtain ⟨k, hk, rfl, rfl⟩ := hrel
    have hle := sumM_take (V := V) k
    by_cases hlt : k < V.length
    · have hltI : (k : Int) < (V.length : Int) := by omega
      have hk0 : (0 : Int) ≤ (k : Int) := by omega
      have hst := sumM_step hlt
      have hle2 := sumM_take (V := V) (k + 1)
      obtain ⟨hb, hc⟩ := HV.out
      obtain ⟨c1, _⟩ := hc k hlt
      obtain ⟨⟨A, m, cp, ns⟩, hg⟩ : ∃ s, V.getD k nilS = s := ⟨_, rfl⟩
      rw [hg] at c1 hst
      simp only at c1 hst
      obtain ⟨M, hMe⟩ : ∃ M, sumM (V.take k) = M := ⟨_, rfl⟩
      rw [hMe] at hst hle ⊢
      have HS : Hid (sumM (V.take (k + 1)) = M + m) := Lib.hid hst
      have hnn : ¬ (M : Int) + (m : Int) < 0 := by omega
      have hbd : (M : Int) + (m : Int) ≤ 100000 := by omega
      clear hst hc hg hMe hle2
      go_wp2
      go_round
      case rel => exact ⟨k + 1, by omega, by go_num, by rw [HS.out]; go_num⟩
      case measure => simp [intOf]; omega
    · have hltI : ¬ (k : Int) < (V.length : Int) := by omega
      have hT : sumM (V.take k) = sumM V := by rw [List.take_of_length_le (by omega)]
      rw [hT]
      obtain ⟨M, hMe⟩ : ∃ M, sumM V = M := ⟨_, rfl⟩
      rw [hMe] at hM ⊢
      have HME := Lib.hid hMe
      clear hle hT hMe
      go_wp2_with (go_at_call 117; refine (growP_any M hM _).mono ?_; rintro e w1 ⟨v0, rfl, hown0, hb0⟩)
      go_loopw [6, 27] (fun v i wr => ∃ k : Nat, k ≤ V.length ∧ i = .int .i64 k ∧ wr.ownsRow w.heap.size 46 2 v (sumM (V.take k)) (catV (V.take k)) ∧ Below w.heap.size w wr) (fun _ i _ => V.length - (intOf i).toNat)
      case atStart => exact ⟨0, Nat.zero_le _, rfl, hown0, hb0⟩
      case round =>
        obtain ⟨k, hk, rfl, hrow, hB⟩ := hrel
        by_cases hlt : k < V.length
        · have hltI : (k : Int) < (V.length : Int) := by omega
          have hk0 : (0 : Int) ≤ (k : Int) := by omega
          have hst := sumM_step hlt
          have hct := catV_step hlt
          have hle2 := sumM_take (V := V) (k + 1)
          obtain ⟨hb, hc⟩ := HV.out.below hB (Nat.le_refl _)
          obtain ⟨c1, hsrc⟩ := hc k hlt
          obtain ⟨⟨A, m, cp, ns⟩, hg⟩ : ∃ s, V.getD k nilS = s := ⟨_, rfl⟩
          rw [hg] at c1 hst hct hsrc
          simp only at c1 hst hct hsrc
          have hme := HME.out
          have hbd : sumM (V.take k) + m ≤ 100000 := by omega
          have HS := Lib.hid hst
          have HC := Lib.hid hct
          clear hst hct hc hg hle2 hme
          go_wp2_with (at_builtin; refine wpList_append_src _ rfl _ _ 48 rfl w.heap.size 46 i0 (.agg #[.int .i64 0, .int .i64 0]) 2 16 Try.underlying48 hi hz0 hz1 hz2 rfl (by decide) _ _ _ rfl hrow _ _ _ _ rfl hsrc (by unfold maxLen; omega) (by omega) hB.size ?_; intro v' w2 hown' hgrow _)
          go_roundw
          case rel => exact ⟨k + 1, by omega, by go_num, by rw [HS.out, HC.out]; exact hown', hB.grown hgrow hB.size (fun r e => (hrow.lt r e).1)⟩
          case measure => simp [intOf]; omega
        · have hltI : ¬ (k : Int) < (V.length : Int) := by omega
          have hT : V.take k = V := List.take_of_length_le (by omega)
          rw [hT] at hrow
          clear hT
          go_wp2
          go_ret
          exact ⟨_, rfl, by rw [← HME.out]; exact hrow, hB⟩
set_option maxRecDepth 100000 in
set_option maxHeartbeats 4000000 in
theorem growS_any (n : Nat) (hn : n ≤ 100000) (w : World) : Calls Try.prog 121 #[.slice none 0 0, .int .i64 (n : Int)] w fun e w' =>
    ∃ v, e = .returned v ∧ w'.ownsRow w.heap.size 9 1 v 0 [] ∧ Below w.heap.size w w' := by
  obtain ⟨i0, hi, hz0, hz1, hz2⟩ := info_parts infoStr
  by_cases h0 : n = 0
  · subst h0
    rw [show ((0 : Nat) : Int) = 0 from rfl]
    go_enter Try.func121, Try.ntmps121
    go_wp2
    go_ret
    exact ⟨_, rfl, World.ownsRow_nil _ _ _ _, Below.refl _ _⟩
  · have hpos : (0 : Int) < (n : Int) := by omega
    have hnn : ¬ (n : Int) < 0 := by omega
    have hr := fun ty => Lib.run_append_nil_zeros (P := Try.prog) w 22 3 ty 9 i0 (.string ⟨#[]⟩) .i64 .i64 Try.underlying22 Try.underlying3 hi hz0 n (by omega) (by rw [hz1]; decide) (by omega) (by rw [hz2]; omega)
    have hG := grownCap_ge w n 0 9
    have hG2 := grownCap_le_maxLen w n 0 9 (by unfold maxLen; omega)
    have hown := fun h1 h2 => World.ownsRow_made (base := w.heap.size) (e := 9) (size := 1) w.drew (Builtin.zeroCells (Value.cells (.string ⟨#[]⟩)) n ++ Builtin.zeroCells (Value.cells (.string ⟨#[]⟩)) (grownCap w n 0 9 - n)) (grownCap w n 0 9) (Nat.le_refl _) h1 h2
    obtain ⟨G, hGe⟩ : ∃ G, grownCap w n 0 9 = G := ⟨_, rfl⟩
    rw [hGe] at hr hG hG2 hown
    have hown2 := hown hG2 (by simp [Builtin.zeroCells, Value.cells]; omega)
    have hB : Below w.heap.size w (w.drew.alloc (.cells (Builtin.zeroCells (Value.cells (.string ⟨#[]⟩)) n ++ Builtin.zeroCells (Value.cells (.string ⟨#[]⟩)) (G - n)) 9)) := (Below.refl _ _).drew.alloc (Nat.le_refl _) _
    obtain ⟨W2, hW2⟩ : ∃ W2, w.drew.alloc (.cells (Builtin.zeroCells (Value.cells (.string ⟨#[]⟩)) n ++ Builtin.zeroCells (Value.cells (.string ⟨#[]⟩)) (G - n)) 9) = W2 := ⟨_, rfl⟩
    rw [hW2] at hr hown2 hB
    have HR := Lib.hid hr
    have hG3 : G ≤ 9223372036854775807 := by unfold maxLen at hG2; omega
    have hGI : (0 : Int) ≤ (G : Int) := by omega
    clear hr hown hW2 hGe hG2
    go_enter Try.func121, Try.ntmps121
    go_wp2_with (at_builtin; refine Lib.wpList_append_run _ rfl _ _ _ _ rfl _ _ rfl rfl _ _ (HR.out _) ?_)
    go_ret
    exact ⟨_, rfl, hown2, hB⟩
set_option maxRecDepth 100000 in
set_option maxHeartbeats 4000000 in
theorem concatS_any (b off cap : Nat) (V : List Sl) (w : World) (hV : SlsAt w b off 1 V) (hVl : V.length ≤ 100000) (hM : sumM V ≤ 100000) : Calls Try.prog 113 #[.slice (some ⟨b, off, none⟩) V.length cap] w fun e w' =>
    ∃ v, e = .returned v ∧ w'.ownsRow w.heap.size 9 1 v (sumM V) (catV V) ∧ Below w.heap.size w w' := by
  obtain ⟨i0, hi, hz0, hz1, hz2⟩ := info_parts infoStr
  have HV := Lib.hid hV
  clear hV
  go_enter Try.func113, Try.ntmps113
  go_wp2
  go_loop [3, 11] (fun v i => ∃ k : Nat, k ≤ V.length ∧ i = .int .i64 k ∧ v = .int .i64 ((sumM (V.take k) : Nat) : Int)) (fun _ i => V.length - (intOf i).toNat)
  case atStart => exact ⟨0, Nat.zero_le _, rfl, rfl⟩
  case round =>
    obtain ⟨k, hk, rfl, rfl⟩ := hrel
    have hle := sumM_take (V := V) k
    by_cases hlt : k < V.length
    · have hltI : (k : Int) < (V.length : Int) := by omega
      have hk0 : (0 : Int) ≤ (k : Int) := by omega
      have hst := sumM_step hlt
      have hle2 := sumM_take (V := V) (k + 1)
      obtain ⟨hb, hc⟩ := HV.out
      obtain ⟨c1, _⟩ := hc k hlt
      obtain ⟨⟨A, m, cp, ns⟩, hg⟩ : ∃ s, V.getD k nilS = s := ⟨_, rfl⟩
      rw [hg] at c1 hst
      simp only at c1 hst
      obtain ⟨M, hMe⟩ : ∃ M, sumM (V.take k) = M := ⟨_, rfl⟩
      rw [hMe] at hst hle ⊢
      have HS : Hid (sumM (V.take (k + 1)) = M + m) := Lib.hid hst
      have hnn : ¬ (M : Int) + (m : Int) < 0 := by omega
      have hbd : (M : Int) + (m : Int) ≤ 100000 := by omega
      clear hst hc hg hMe hle2
      go_wp2
      go_round
      case rel => exact ⟨k + 1, by omega, by go_num, by rw [HS.out]; go_num⟩
      case measure => simp [intOf]; omega
    · have hltI : ¬ (k : Int) < (V.length : Int) := by omega
      have hT : sumM (V.take k) = sumM V := by rw [List.take_of_length_le (by omega)]
      rw [hT]
      obtain ⟨M, hMe⟩ : ∃ M, sumM V = M := ⟨_, rfl⟩
      rw [hMe] at hM ⊢
      have HME := Lib.hid hMe
      clear hle hT hMe
      go_wp2_with (go_at_call 121; refine (growS_any M hM _).mono ?_; rintro e w1 ⟨v0, rfl, hown0, hb0⟩)
      go_loopw [6, 27] (fun v i wr => ∃ k : Nat, k ≤ V.length ∧ i = .int .i64 k ∧ wr.ownsRow w.heap.size 9 1 v (sumM (V.take k)) (catV (V.take k)) ∧ Below w.heap.size w wr) (fun _ i _ => V.length - (intOf i).toNat)
      case atStart => exact ⟨0, Nat.zero_le _, rfl, hown0, hb0⟩
      case round =>
        obtain ⟨k, hk, rfl, hrow, hB⟩ := hrel
        by_cases hlt : k < V.length
        · have hltI : (k : Int) < (V.length : Int) := by omega
          have hk0 : (0 : Int) ≤ (k : Int) := by omega
          have hst := sumM_step hlt
          have hct := catV_step hlt
          have hle2 := sumM_take (V := V) (k + 1)
          obtain ⟨hb, hc⟩ := HV.out.below hB (Nat.le_refl _)
          obtain ⟨c1, hsrc⟩ := hc k hlt
          obtain ⟨⟨A, m, cp, ns⟩, hg⟩ : ∃ s, V.getD k nilS = s := ⟨_, rfl⟩
          rw [hg] at c1 hst hct hsrc
          simp only at c1 hst hct hsrc
          have hme := HME.out
          have hbd : sumM (V.take k) + m ≤ 100000 := by omega
          have HS := Lib.hid hst
          have HC := Lib.hid hct
          clear hst hct hc hg hle2 hme
          go_wp2_with (at_builtin; refine wpList_append_src _ rfl _ _ 22 rfl w.heap.size 9 i0 (.string ⟨#[]⟩) 1 16 Try.underlying22 hi hz0 hz1 hz2 rfl (by decide) _ _ _ rfl hrow _ _ _ _ rfl hsrc (by unfold maxLen; omega) (by omega) hB.size ?_; intro v' w2 hown' hgrow _)
          go_roundw
          case rel => exact ⟨k + 1, by omega, by go_num, by rw [HS.out, HC.out]; exact hown', hB.grown hgrow hB.size (fun r e => (hrow.lt r e).1)⟩
          case measure => simp [intOf]; omega
        · have hltI : ¬ (k : Int) < (V.length : Int) := by omega
          have hT : V.take k = V := List.take_of_length_le (by omega)
          rw [hT] at hrow
          clear hT
          go_wp2
          go_ret
          exact ⟨_, rfl, by rw [← HME.out]; exact hrow, hB⟩
end Go.Proofs.Ytnaceobbbfbhhaa
