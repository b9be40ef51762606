/- The contract of slices.Backward over changes: an iterator. Conditions: none beyond what each says. -/
import Derived.Test.YtnaceobbbfbhhaaChgJ
import Derived.Test.YtnaceobbbfbhhaaWide
import Derived.Test.YtnaceobbbfbhhaaQuoteP2
namespace Go.Proofs.Ytnaceobbbfbhhaa
open Go.RowKit Go.Shelf

attribute [local go_sem] Oper.semAt_some
/-- What a change's cells hold. -/
abbrev RawC := Int × (Option Addr × Nat × Nat) × (Option Addr × Nat × Nat)
abbrev rawD : RawC := (0, (none, 0, 0), (none, 0, 0))
abbrev rawV (r : RawC) : Value := .agg #[.int .i64 r.1, .slice r.2.1.1 r.2.1.2.1 r.2.1.2.2, .slice r.2.2.1 r.2.2.2.1 r.2.2.2.2]
def RawAt (w : World) (a : Option Addr) (R : List RawC) : Prop := ∀ i, i < R.length → ∃ b off, a = some ⟨b, off, none⟩ ∧ b < w.heap.size ∧ w.cell? ⟨b, off + i * 3, none⟩ = some (.int .i64 (R.getD i rawD).1) ∧
  w.cell? ⟨b, off + i * 3 + 1, none⟩ = some (.slice (R.getD i rawD).2.1.1 (R.getD i rawD).2.1.2.1 (R.getD i rawD).2.1.2.2) ∧ w.cell? ⟨b, off + i * 3 + 2, none⟩ = some (.slice (R.getD i rawD).2.2.1 (R.getD i rawD).2.2.2.1 (R.getD i rawD).2.2.2.2)
theorem RawAt.below {w w' : World} {a : Option Addr} {R : List RawC} (h : RawAt w a R) {B : Nat} (hb : Below B w w') (hB : w.heap.size ≤ B) : RawAt w' a R := fun i hi => by
  obtain ⟨b, off, e, h0, h1, h2, h3⟩ := h i hi
  have k := fun (o : Nat) => hb.cell (p := ⟨b, o, none⟩) (Nat.lt_of_lt_of_le h0 hB)
  exact ⟨b, off, e, Nat.lt_of_lt_of_le h0 hb.size, (k _).trans h1, (k _).trans h2, (k _).trans h3⟩
/-- An index. -/
abbrev Idx (m : Nat) := { i : Nat // i < m }
abbrev idxV (R : List RawC) {m : Nat} (x : Idx m) : Array Value := #[.int .i64 (x.1 : Int), rawV (R.getD x.1 rawD)]
theorem range_rev (k : Nat) : (List.range (k + 1)).reverse = k :: (List.range k).reverse := by rw [List.range_succ, List.reverse_append]; rfl
set_option maxRecDepth 100000 in
set_option maxHeartbeats 8000000 in
theorem backward1_in (n : Nat) (hn : 1 ≤ n) (l Bl : Nat) (a : Option Addr) (cap : Nat) (R : List RawC) (Kp : World → World → Prop) (N : Nat) (hR : R.length ≤ 100000) (hN : R.length ≤ N)
    (hK1 : ∀ X Y, Kp X Y → X.cell? ⟨Bl, 0, none⟩ = some (.slice a R.length cap) → RawAt X a R → Y.cell? ⟨Bl, 0, none⟩ = some (.slice a R.length cap) ∧ RawAt Y a R)
    (J Jx : List (Idx R.length) → World → Prop)
    (hY : ∀ (pre : List (Idx R.length)) (x : Idx R.length) (X : World), J pre X → pre.length < N → YieldAt Fence.wide (n - 1) Try.prog l (idxV R x) X fun e X' =>
      (e = .returned (.bool true) ∧ J (pre ++ [x]) X' ∧ Kp X X') ∨ (e = .returned (.bool false) ∧ Jx (pre ++ [x]) X'))
    (W : World) (hBl : W.cell? ⟨Bl, 0, none⟩ = some (.slice a R.length cap)) (hL : RawAt W a R) (h0 : J [] W) :
    CallsIn Fence.wide n Try.prog 115 #[.func (.yield l) #[] #[], .pointer (some ⟨Bl, 0, none⟩)] W fun e W' => (∃ v, e = .returned v) ∧
      ((∃ ys, ys.map Subtype.val = (List.range R.length).reverse ∧ J ys W') ∨ (∃ pre, pre.map Subtype.val <+: (List.range R.length).reverse ∧ Jx pre W')) := by
  have HK1 := Lib.hid hK1
  have HY := Lib.hid hY
  clear hK1 hY
  have hw0 : IntKind.i64.wrap ((R.length : Int) - 1) = (R.length : Int) - 1 := IntWalk.i64_in _ (by omega)
  refine callsIn_of_wp Try.func115 rfl trivial ?_ rfl
  simp only [Try.ntmps115, List.size_toArray, List.length_cons, List.length_nil, Nat.reduceAdd, Nat.reduceSub, Array.replicate_succ, Array.replicate_zero, List.push_toArray, List.append_toArray, List.nil_append, List.cons_append]
  gi_wp2
  clear hw0
  gi_loopw [3] (fun i wr => ∃ (k : Nat) (pre : List (Idx R.length)), k ≤ R.length ∧ i = .int .i64 ((k : Int) - 1) ∧ Hid (pre.map Subtype.val ++ (List.range k).reverse = (List.range R.length).reverse) ∧ J pre wr ∧ wr.cell? ⟨Bl, 0, none⟩ = some (.slice a R.length cap) ∧ RawAt wr a R)
    (fun i _ => (intOf i + 1).toNat)
  case atStart => exact ⟨R.length, [], Nat.le_refl _, rfl, Lib.hid (by simp), h0, hBl, hL⟩
  case round =>
    obtain ⟨k, pre, hk, rfl, HK, hJ, hc, hLV⟩ := hrel
    rcases k with _ | m
    · have HE : Hid (pre.map Subtype.val = (List.range R.length).reverse) := Lib.hid (by have := HK.out; simpa using this)
      gi_wp2
      go_end0
      exact ⟨⟨_, rfl⟩, .inl ⟨pre, HE.out, hJ⟩⟩
    · have hmi : (((m + 1 : Nat) : Int) - 1) = (m : Int) := by omega
      rw [hmi]
      have hm0 : (0 : Int) ≤ (m : Int) := by omega
      have hlt : m < R.length := by omega
      have hltI : (m : Int) < (R.length : Int) := by omega
      obtain ⟨g, off, rfl, hg, e0, e1, e2⟩ := hLV m hlt
      have HJ2 : Hid ((pre ++ [(⟨m, hlt⟩ : Idx R.length)]).map Subtype.val ++ (List.range m).reverse = (List.range R.length).reverse) := Lib.hid (by rw [← HK.out, range_rev]; simp)
      have hpl : pre.length < N := by have q1 := congrArg List.length HJ2.out; simp at q1; omega
      have HYY := Lib.hid (HY.out pre ⟨m, hlt⟩ wr hJ hpl)
      clear HK hpl
      obtain ⟨fn, tmps, assign, body, hy, hYR⟩ := HYY.out
      dsimp only [idxV, rawV] at hy
      obtain ⟨⟨at_, ⟨ao, lo, co⟩, ⟨an, ln_, cn⟩⟩, hr⟩ : ∃ r, R.getD m rawD = r := ⟨_, rfl⟩
      rw [hr] at e0 e1 e2 hy
      simp only at e0 e1 e2 hy
      clear hr
      gi_wp2
      refine hYR.mono ?_
      rintro e W3 (⟨rfl, hJ3, hk3⟩ | ⟨rfl, hJx3⟩)
      · obtain ⟨hc3, hL3⟩ := HK1.out _ _ hk3 hc hLV
        gi_wp2
        go_roundw
        case rel => exact ⟨m, _, by omega, by go_num, HJ2, hJ3, hc3, hL3⟩
        case measure => simp [intOf]
      · gi_wp2
        refine bodyPost_ret (results_none rfl _ _ _) rfl ?_
        exact ⟨⟨_, rfl⟩, .inr ⟨_, ⟨_, HJ2.out⟩, hJx3⟩⟩
theorem backward_any (a : Option Addr) (n cap : Nat) (w : World) : Calls Try.prog 78 #[.slice a n cap] w fun e w' =>
    e = .returned (.func (.func 115) #[] #[.pointer (some ⟨w.heap.size, 0, none⟩)]) ∧ w.alloc (.cells #[.slice a n cap] 23) = w' := by
  go_enter Try.func78, Try.ntmps78
  go_wp2
  go_ret
  exact ⟨rfl, rfl⟩
theorem backward_stopsK (Kp : World → World → Prop) (Bl : Nat) (a : Option Addr) (cap : Nat) (R : List RawC) (W : World) (hR : R.length ≤ 100000) (hBl : W.cell? ⟨Bl, 0, none⟩ = some (.slice a R.length cap)) (hL : RawAt W a R)
    (hK1 : ∀ X Y, Kp X Y → X.cell? ⟨Bl, 0, none⟩ = some (.slice a R.length cap) → RawAt X a R → Y.cell? ⟨Bl, 0, none⟩ = some (.slice a R.length cap) ∧ RawAt Y a R) :
    SeqStopsK Fence.wide 8 Try.prog 115 #[.pointer (some ⟨Bl, 0, none⟩)] (fun x : Idx R.length => idxV R x) Kp
      (fun ys => ys.map Subtype.val = (List.range R.length).reverse) (fun pre => pre.map Subtype.val <+: (List.range R.length).reverse) 100000 W := fun l J Jx X hX _ _ hY h0 =>
  backward1_in 8 (by omega) l Bl a cap R Kp 100000 hR hR hK1 J Jx (fun pre x A h hl => hY pre x A h hl) X
    ((hX.cell (p := ⟨Bl, 0, none⟩) (World.block_lt_of_cell? _ _ hBl)).trans hBl) (hL.below hX (Nat.le_refl _)) h0
theorem raw_of {w : World} {a : Option Addr} {cs : List Chg} (h : ChgsAt w a cs) : ∃ R : List RawC, R.length = cs.length ∧ RawAt w a R ∧ ∀ i, i < cs.length → (R.getD i rawD).1 = (cs.getD i (0, [], [])).1 ∧
    ((R.getD i rawD).2.1.2.1 = (cs.getD i (0, [], [])).2.1.length ∧ LinesAt w (R.getD i rawD).2.1.1 (cs.getD i (0, [], [])).2.1) ∧ ((R.getD i rawD).2.2.2.1 = (cs.getD i (0, [], [])).2.2.length ∧ LinesAt w (R.getD i rawD).2.2.1 (cs.getD i (0, [], [])).2.2) := by
  have hX : ∀ (n : Nat), n ≤ cs.length → ∃ R : List RawC, R.length = n ∧ ∀ i, i < n → (∃ b off, a = some ⟨b, off, none⟩ ∧ b < w.heap.size ∧ w.cell? ⟨b, off + i * 3, none⟩ = some (.int .i64 (R.getD i rawD).1) ∧
      w.cell? ⟨b, off + i * 3 + 1, none⟩ = some (.slice (R.getD i rawD).2.1.1 (R.getD i rawD).2.1.2.1 (R.getD i rawD).2.1.2.2) ∧ w.cell? ⟨b, off + i * 3 + 2, none⟩ = some (.slice (R.getD i rawD).2.2.1 (R.getD i rawD).2.2.2.1 (R.getD i rawD).2.2.2.2)) ∧
      (R.getD i rawD).1 = (cs.getD i (0, [], [])).1 ∧ ((R.getD i rawD).2.1.2.1 = (cs.getD i (0, [], [])).2.1.length ∧ LinesAt w (R.getD i rawD).2.1.1 (cs.getD i (0, [], [])).2.1) ∧ ((R.getD i rawD).2.2.2.1 = (cs.getD i (0, [], [])).2.2.length ∧ LinesAt w (R.getD i rawD).2.2.1 (cs.getD i (0, [], [])).2.2) := by
    intro n
    induction n with
    | zero => exact fun _ => ⟨[], rfl, fun i hi => by omega⟩
    | succ n ih =>
      intro hn
      obtain ⟨R, hl, hR⟩ := ih (by omega)
      obtain ⟨b, off, e, hg, e0, ⟨ao, co, e1, hO, _⟩, ⟨an, cn, e2, hN, _⟩⟩ := h n (by omega)
      refine ⟨R ++ [((cs.getD n (0, [], [])).1, (ao, (cs.getD n (0, [], [])).2.1.length, co), (an, (cs.getD n (0, [], [])).2.2.length, cn))], by simp [hl], fun i hi => ?_⟩
      by_cases hin : i < n
      · have e : ∀ y, (R ++ [y]).getD i rawD = R.getD i rawD := fun y => by rw [List.getD_eq_getElem?_getD, List.getElem?_append_left (by omega), ← List.getD_eq_getElem?_getD]
        rw [e]
        exact hR i hin
      · obtain rfl : i = n := by omega
        have e' : ∀ y, (R ++ [y]).getD i rawD = y := fun y => by rw [List.getD_eq_getElem?_getD, List.getElem?_append_right (by omega), hl]; simp
        rw [e']
        exact ⟨⟨b, off, e, hg, e0, e1, e2⟩, rfl, ⟨rfl, hO⟩, ⟨rfl, hN⟩⟩
  obtain ⟨R, hl, hR⟩ := hX cs.length (Nat.le_refl _)
  exact ⟨R, hl, fun i hi => (hR i (by omega)).1, fun i hi => (hR i hi).2⟩
end Go.Proofs.Ytnaceobbbfbhhaa
