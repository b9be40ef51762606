/- Several texts in one: Word3, Word5P. Conditions: none beyond what each says. -/
import Derived.Test.YtlbbgocggifjaaaOI30
import Derived.Test.YtlbbgocggifjaaaOI4
import Derived.Test.YtlbbgocggifjaaaOI21
import Derived.Test.YtlbbgocggifjaaaOI13
namespace Go.Proofs.Ytlbbgocggifjaaa
open Go.RowKit Go.Shelf

attribute [local go_sem] Oper.semAt_some

/-- Runs, whether they are of blanks, as a row of cells. -/
def cells3 (f : Nat × Nat → Bool) : List (Nat × Nat) → List Value
  | [] => []
  | p :: rs => .int .i64 (p.1 : Int) :: .int .i64 (p.2 : Int) :: .bool (f p) :: cells3 f rs
theorem cells3_snoc (f : Nat × Nat → Bool) : ∀ (rs : List (Nat × Nat)) (p : Nat × Nat), cells3 f (rs ++ [p]) = cells3 f rs ++ [.int .i64 (p.1 : Int), .int .i64 (p.2 : Int), .bool (f p)]
  | [], _ => rfl
  | x :: rs, p => by rw [List.cons_append, cells3, cells3_snoc f rs p, cells3]; rfl
theorem cells3_at (f : Nat × Nat → Bool) : ∀ (rs : List (Nat × Nat)) (i : Nat), i < rs.length → (cells3 f rs)[i * 3]? = some (.int .i64 ((rs.getD i (0, 0)).1 : Int)) ∧ (cells3 f rs)[i * 3 + 1]? = some (.int .i64 ((rs.getD i (0, 0)).2 : Int)) ∧ (cells3 f rs)[i * 3 + 2]? = some (.bool (f (rs.getD i (0, 0))))
  | [], i, h => by simp at h
  | p :: rs, 0, _ => ⟨rfl, rfl, rfl⟩
  | p :: rs, i + 1, h => by
    have := cells3_at f rs i (by simpa using h)
    rw [show (i + 1) * 3 = i * 3 + 1 + 1 + 1 by omega, cells3]
    simp only [List.getElem?_cons_succ, List.getD_cons_succ]
    exact this
/-- Runs lie in memory at address a. -/
def TriAt (f : Nat × Nat → Bool) (w : World) (a : Option Addr) (rs : List (Nat × Nat)) : Prop :=
  ∀ i, i < rs.length → ∃ g, a = some ⟨g, 0, none⟩ ∧ g < w.heap.size ∧ w.cell? ⟨g, i * 3, none⟩ = some (.int .i64 ((rs.getD i (0, 0)).1 : Int)) ∧ w.cell? ⟨g, i * 3 + 1, none⟩ = some (.int .i64 ((rs.getD i (0, 0)).2 : Int)) ∧ w.cell? ⟨g, i * 3 + 2, none⟩ = some (.bool (f (rs.getD i (0, 0))))
theorem TriAt.below {f : Nat × Nat → Bool} {w w' : World} {a : Option Addr} {rs : List (Nat × Nat)} (h : TriAt f w a rs) {B : Nat} (hb : Below B w w') (hB : w.heap.size ≤ B) : TriAt f w' a rs := fun i hi => by
  obtain ⟨g, e, hg, c1, c2, c3⟩ := h i hi
  exact ⟨g, e, Nat.lt_of_lt_of_le hg hb.size, (hb.cell (p := ⟨g, i * 3, none⟩) (Nat.lt_of_lt_of_le hg hB)).trans c1, (hb.cell (p := ⟨g, i * 3 + 1, none⟩) (Nat.lt_of_lt_of_le hg hB)).trans c2, (hb.cell (p := ⟨g, i * 3 + 2, none⟩) (Nat.lt_of_lt_of_le hg hB)).trans c3⟩
theorem TriAt.ovr {f : Nat × Nat → Bool} {w : World} {a : Option Addr} {rs : List (Nat × Nat)} (h : TriAt f w a rs) (x : World) : TriAt f (ovr w x) a rs := h.below (below_ovr w x) (Nat.le_refl _)
theorem TriAt.alloc {f : Nat × Nat → Bool} {w : World} {a : Option Addr} {rs : List (Nat × Nat)} (h : TriAt f w a rs) (o : Obj) : TriAt f (w.alloc o) a rs := h.below ((Below.refl w.heap.size w).alloc (Nat.le_refl _) o) (Nat.le_refl _)
theorem tri_of_owns {f : Nat × Nat → Bool} {w : World} {base : Nat} {e : TypeId} {v : Value} {rs : List (Nat × Nat)} (h : w.ownsRow base e 3 v rs.length (cells3 f rs)) : ∃ a cap, v = .slice a rs.length cap ∧ TriAt f w a rs := by
  have h' := h
  rcases h.2 with ⟨rfl, h0⟩ | ⟨g, cap, cur, rfl, _, hgb, _⟩
  · have e0 : rs = [] := List.eq_nil_of_length_eq_zero h0
    subst e0
    exact ⟨none, 0, rfl, fun i hi => by simp at hi⟩
  · refine ⟨some ⟨g, 0, none⟩, cap, rfl, fun i hi => ?_⟩
    obtain ⟨c1, c2, c3⟩ := cells3_at f rs i hi
    have k1 := World.ownsRow.cells h' (g := g) rfl _ _ c1
    have k2 := World.ownsRow.cells h' (g := g) rfl _ _ c2
    have k3 := World.ownsRow.cells h' (g := g) rfl _ _ c3
    rw [addr_add] at k1 k2 k3
    exact ⟨g, rfl, (Array.getElem?_eq_some_iff.1 hgb).1, k1, k2, k3⟩
/-- Is a run of blanks? -/
def blkR (s : ByteArray) (p : Nat × Nat) : Bool := ofC (byt s p.1) true == 0
theorem infoWrun : (Try.prog.info? 115).map (fun i => (i.zero, i.size, i.bytes)) = some (some (.agg #[.int .i64 0, .int .i64 0, .bool false]), 3, 24) := by kernel_rfl

set_option maxRecDepth 100000 in
set_option maxHeartbeats 4000000 in
theorem wruns_no (a : Option Addr) (cap : Nat) (L : List ByteArray) (pl pc n : Int) (big : Bool) (w : World) (hL : LinesAt w a L) (h : ¬ (1 ≤ n ∧ byteB L pl pc = true ∧ ¬ (ln L pl).size = 0)) :
    Calls Try.prog 105 #[.slice a L.length cap, .agg #[.int .i64 pl, .int .i64 pc], .int .i64 n, .bool big] w fun e w' => e = .returned (.tuple #[.slice none 0 0, .int .i64 0, .bool false]) ∧ Below w.heap.size w w' := by
  have hn := hL.2.1
  by_cases h1 : 1 ≤ n
  · have h1d : decide (n < 1) = false := decide_eq_false (by omega)
    cases hb : byteB L pl pc with
    | false =>
      have HB := Lib.hid hb
      clear h hb
      go_enter Try.func105, Try.ntmps105
      go_wp2_with (go_at_call 139; refine (byte_any _ _ L _ _ _ (by (repeat (first | assumption | refine LinesAt.ovr ?_ _ | refine LinesAt.alloc ?_ _ | refine LinesAt.drewN ?_ _ | refine LinesAt.drew ?_)))).mono ?_; rw [HB.out]; rintro e w1 ⟨rfl, hbl⟩; obtain ⟨x, rfl⟩ := ovr_of_below hbl; clear hbl)
      go_ret3
      exact ⟨rfl, by (repeat (first | with_reducible exact Below.refl _ _ | (with_reducible refine Below.setCell ?_ ?_ _; rotate_left; · (first | exact Nat.le_refl _ | assumption | omega | (simp; done) | (simp; omega))) | (with_reducible refine Below.alloc ?_ ?_ _; rotate_left; · (first | exact Nat.le_refl _ | assumption | omega | (simp; done) | (simp; omega))) | with_reducible refine below_ovr_of ?_ | with_reducible refine drew_below ?_ _ | with_reducible refine Below.drew ?_ | with_reducible assumption))⟩
    | true =>
      have h2 : (ln L pl).size = 0 := by
        by_cases h2 : (ln L pl).size = 0
        · exact h2
        · exact absurd ⟨h1, hb, h2⟩ h
      have HB := Lib.hid hb
      have hp : plcB L pl pc = true := by
        cases hp : plcB L pl pc with
        | true => rfl
        | false => rw [byteB_no hp] at hb; cases hb
      obtain ⟨p1, p2, p3, p4⟩ := plcB_spec hp
      obtain ⟨l, rfl⟩ := Int.eq_ofNat_of_zero_le p1
      have hl : l < L.length := by omega
      obtain ⟨b, off, s, rfl, hbb, hcell, hs, HS⟩ := line_facts' hL hl
      rw [ln, Int.toNat_natCast, HS.out] at h2
      obtain rfl := str_nil h2
      have hlI : (l : Int) < (L.length : Int) := by omega
      have hl0 : (0 : Int) ≤ (l : Int) := by omega
      clear h hb hp h2 p4 hs
      go_enter Try.func105, Try.ntmps105
      go_wp2_with (go_at_call 139; refine (byte_any _ _ L _ _ _ (by (repeat (first | assumption | refine LinesAt.ovr ?_ _ | refine LinesAt.alloc ?_ _ | refine LinesAt.drewN ?_ _ | refine LinesAt.drew ?_)))).mono ?_; rw [HB.out]; rintro e w1 ⟨rfl, hbl⟩; obtain ⟨x, rfl⟩ := ovr_of_below hbl; clear hbl)
      go_ret3
      exact ⟨rfl, by (repeat (first | with_reducible exact Below.refl _ _ | (with_reducible refine Below.setCell ?_ ?_ _; rotate_left; · (first | exact Nat.le_refl _ | assumption | omega | (simp; done) | (simp; omega))) | (with_reducible refine Below.alloc ?_ ?_ _; rotate_left; · (first | exact Nat.le_refl _ | assumption | omega | (simp; done) | (simp; omega))) | with_reducible refine below_ovr_of ?_ | with_reducible refine drew_below ?_ _ | with_reducible refine Below.drew ?_ | with_reducible assumption))⟩
  · have h1' : n < 1 := by omega
    clear h h1
    go_enter Try.func105, Try.ntmps105
    go_wp2_with (go_at_call 139; refine (byte_any _ _ L _ _ _ (by (repeat (first | assumption | refine LinesAt.ovr ?_ _ | refine LinesAt.alloc ?_ _ | refine LinesAt.drewN ?_ _ | refine LinesAt.drew ?_)))).mono ?_; rintro e w1 ⟨rfl, hbl⟩; obtain ⟨x, rfl⟩ := ovr_of_below hbl; clear hbl)
    go_ret3
    exact ⟨rfl, by (repeat (first | with_reducible exact Below.refl _ _ | (with_reducible refine Below.setCell ?_ ?_ _; rotate_left; · (first | exact Nat.le_refl _ | assumption | omega | (simp; done) | (simp; omega))) | (with_reducible refine Below.alloc ?_ ?_ _; rotate_left; · (first | exact Nat.le_refl _ | assumption | omega | (simp; done) | (simp; omega))) | with_reducible refine below_ovr_of ?_ | with_reducible refine drew_below ?_ _ | with_reducible refine Below.drew ?_ | with_reducible assumption))⟩
end Go.Proofs.Ytlbbgocggifjaaa
namespace Go.Proofs.Ytlbbgocggifjaaa

/-- Is there a run i, and is it of blanks? -/
def blW (s : ByteArray) (R : List (Nat × Nat)) (i : Nat) : Bool := decide (i < R.length) && blkR s (R.getD i (0, 0))
/-- One word and the blanks beside it: the index behind. -/
def stepW (b : Nat → Bool) (len : Nat) (ahead : Bool) (i : Nat) : Option Nat :=
  if len ≤ (if (ahead && b i) = true then i + 1 else i) then none
  else some (if (!ahead && b ((if (ahead && b i) = true then i + 1 else i) + 1)) = true then (if (ahead && b i) = true then i + 1 else i) + 2 else (if (ahead && b i) = true then i + 1 else i) + 1)
def loopW (b : Nat → Bool) (len : Nat) (ahead : Bool) : Nat → Nat → Option Nat
  | 0, i => some i
  | n + 1, i => match stepW b len ahead i with | none => none | some j => loopW b len ahead n j
theorem stepW_gt {b : Nat → Bool} {len : Nat} {ahead : Bool} {i j : Nat} (h : stepW b len ahead i = some j) : i < j := by
  obtain ⟨m, hm⟩ : ∃ m, (if (ahead && b i) = true then i + 1 else i) = m := ⟨_, rfl⟩
  have him : i ≤ m := by rw [← hm]; split <;> omega
  rw [stepW, hm] at h
  by_cases hl : len ≤ m
  · rw [if_pos hl] at h; cases h
  · rw [if_neg hl] at h
    have h := Option.some.inj h
    split at h <;> omega
theorem loopW_big {b : Nat → Bool} {len : Nat} {ahead : Bool} : ∀ (n i : Nat), len - i < n → loopW b len ahead n i = none
  | 0, i, h => by omega
  | n + 1, i, h => by
    rw [loopW]
    cases hs : stepW b len ahead i with
    | none => rfl
    | some j =>
      have hi : i < len := by
        rcases Nat.lt_or_ge i len with h1 | h1
        · exact h1
        · rw [stepW, if_pos (by split <;> omega)] at hs; cases hs
      have := stepW_gt hs
      exact loopW_big n j (by omega)
/-- No two runs of blanks lie side by side. -/
theorem blW_next {s : ByteArray} {big : Bool} {R : List (Nat × Nat)} (h : chainR s big 0 R) {i : Nat} (hb : blW s R i = true) : blW s R (i + 1) = false := by
  by_cases hi : i + 1 < R.length
  · have hb' := hb
    simp only [blW, Bool.and_eq_true, blkR, beq_iff_eq] at hb'
    obtain ⟨_, hb1⟩ := hb'
    have g := ((chain_at h (k := i) (by omega)).2.2.2.2.1 hi).2
    simp only [blW, Bool.and_eq_false_iff, blkR, beq_eq_false_iff_ne]
    refine .inr (fun hc => g ?_)
    have e : ∀ j : Nat, ofC (byt s j) true = 0 → clsB s big j = 0 := by
      intro j hj
      simp only [clsB, ofC] at hj ⊢
      split at hj
      · rename_i h1; rw [if_pos h1]
      · simp at hj
    rw [e _ hc, e _ hb1]
  · simp only [blW, Bool.and_eq_false_iff, decide_eq_false_iff_not]
    exact .inl hi
/-- Words with the blanks beside them, from run k on. -/
def arndO (s : ByteArray) (l : Nat) (R : List (Nat × Nat)) (k n : Nat) : Rng × Bool :=
  match loopW (blW s R) R.length (blW s R k) n k with
  | none => noR
  | some a => ((0, (l : Int), ((R.getD (if (!blW s R k && !blW s R (a - 1) && (decide (0 < k) && blW s R (k - 1))) = true then k - 1 else k) (0, 0)).1 : Int), (l : Int), ((R.getD (a - 1) (0, 0)).2 : Int)), true)
/-- The runs from k on. -/
def innrO (l : Nat) (R : List (Nat × Nat)) (k n : Nat) : Rng × Bool :=
  if n ≤ R.length - k then ((0, (l : Int), ((R.getD k (0, 0)).1 : Int), (l : Int), ((R.getD (k + n - 1) (0, 0)).2 : Int)), true) else noR
/-- What a word at a place is. -/
def wordP (L : List ByteArray) (pl pc n : Int) (big around : Bool) : Rng × Bool :=
  if 1 ≤ n ∧ byteB L pl pc = true ∧ ¬ (ln L pl).size = 0 then
    (if around = true then arndO (ln L pl) pl.toNat (runF (ln L pl) big 0 0) (inF pc.toNat (runF (ln L pl) big 0 0)) n.toNat else innrO pl.toNat (runF (ln L pl) big 0 0) (inF pc.toNat (runF (ln L pl) big 0 0)) n.toNat)
  else noR
theorem wordP_no {L : List ByteArray} {pl pc n : Int} {big around : Bool} (h : ¬ (1 ≤ n ∧ byteB L pl pc = true ∧ ¬ (ln L pl).size = 0)) : wordP L pl pc n big around = noR := by rw [wordP, if_neg h]
/-- A byte of a line that is not empty lies in one of its runs. -/
theorem word_in {L : List ByteArray} {pl pc n : Int} (h : 1 ≤ n ∧ byteB L pl pc = true ∧ ¬ (ln L pl).size = 0) (big : Bool) : ∃ l c m k : Nat, pl = l ∧ pc = c ∧ n = m ∧ l < L.length ∧ 1 ≤ m ∧ c < (L.getD l .empty).size ∧ chainR (L.getD l .empty) big 0 (runF (L.getD l .empty) big 0 0) ∧ inR (runF (L.getD l .empty) big 0 0) c k ∧ inF c (runF (L.getD l .empty) big 0 0) = k ∧
    (∀ around, wordP L l c m big around = if around = true then arndO (L.getD l .empty) l (runF (L.getD l .empty) big 0 0) k m else innrO l (runF (L.getD l .empty) big 0 0) k m) := by
  obtain ⟨h1, h2, h3⟩ := h
  have hp : plcB L pl pc = true := by
    cases hp : plcB L pl pc with
    | true => rfl
    | false => rw [byteB_no hp] at h2; cases h2
  obtain ⟨p1, p2, p3, p4⟩ := plcB_spec hp
  obtain ⟨l, rfl⟩ := Int.eq_ofNat_of_zero_le p1
  obtain ⟨c, rfl⟩ := Int.eq_ofNat_of_zero_le p3
  obtain ⟨m, rfl⟩ := Int.eq_ofNat_of_zero_le (show 0 ≤ n by omega)
  have hw : ∀ around, wordP L l c m big around = _ := fun around => by rw [wordP, if_pos ⟨h1, h2, h3⟩]
  rw [ln, Int.toNat_natCast] at h3
  rw [byteB_yes hp rfl] at h2
  have hc : c < (L.getD l .empty).size := by
    simp only [Bool.or_eq_true, decide_eq_true_eq] at h2
    rcases h2 with h2 | h2
    · omega
    · exact absurd h2 h3
  obtain ⟨k, hk⟩ := chain_find (runF_all (s := L.getD l .empty) (big := big)) (Nat.zero_le c) hc
  have hi := inF_eq runF_all hk
  refine ⟨l, c, m, k, rfl, rfl, rfl, by omega, by omega, hc, runF_all, hk, hi, fun around => ?_⟩
  rw [hw]
  simp only [ln, Int.toNat_natCast, hi]
theorem stepW_none {b : Nat → Bool} {len : Nat} {ah : Bool} {i m : Nat} (hm : (if (ah && b i) = true then i + 1 else i) = m) (h : len ≤ m) : stepW b len ah i = none := by rw [stepW, hm, if_pos h]
theorem stepW_some {b : Nat → Bool} {len : Nat} {ah : Bool} {i m j : Nat} (hm : (if (ah && b i) = true then i + 1 else i) = m) (h : m < len) (hj : (if (!ah && b (m + 1)) = true then m + 2 else m + 1) = j) : stepW b len ah i = some j := by rw [stepW, hm, if_neg (by omega), hj]
theorem loopW_none {b : Nat → Bool} {len : Nat} {ah : Bool} {n i : Nat} (h : stepW b len ah i = none) : loopW b len ah (n + 1) i = none := by rw [loopW, h]
theorem loopW_some {b : Nat → Bool} {len : Nat} {ah : Bool} {n i j : Nat} (h : stepW b len ah i = some j) : loopW b len ah (n + 1) i = loopW b len ah n j := by rw [loopW, h]
theorem arndO_none {s : ByteArray} {l : Nat} {R : List (Nat × Nat)} {k n : Nat} (h : loopW (blW s R) R.length (blW s R k) n k = none) : arndO s l R k n = noR := by rw [arndO, h]
theorem arndO_some {s : ByteArray} {l : Nat} {R : List (Nat × Nat)} {k n a f x y : Nat} (h : loopW (blW s R) R.length (blW s R k) n k = some a) (hf : (if (!blW s R k && !blW s R (a - 1) && (decide (0 < k) && blW s R (k - 1))) = true then k - 1 else k) = f) (hx : (R.getD f (0, 0)).1 = x) (hy : (R.getD (a - 1) (0, 0)).2 = y) :
    arndO s l R k n = ((0, (l : Int), (x : Int), (l : Int), (y : Int)), true) := by
  simp only [arndO, h]
  rw [hf, hx, hy]
end Go.Proofs.Ytlbbgocggifjaaa
