/- Brackets in one another: each has its own, and those round a place are told from within. Plain Lean but for its imports. Conditions: none. -/
import Derived.Test.YtlbbgocggifjaaaEncl
import Derived.Test.YtlbbgocggifjaaaMatch
import Derived.Test.YtlbbgocggifjaaaPair11
namespace Go.Proofs.Ytlbbgocggifjaaa

/-- The opening and the closing bracket of a kind. -/
def opI (q : Nat) : Int := if q = 0 then 40 else if q = 1 then 91 else 123
def clI (q : Nat) : Int := if q = 0 then 41 else if q = 1 then 93 else 125
theorem opI_inj {p q : Nat} (hp : p < 3) (hq : q < 3) (h : opI p = opI q) : p = q := by
  rcases (by omega : p = 0 ∨ p = 1 ∨ p = 2) with rfl | rfl | rfl <;> rcases (by omega : q = 0 ∨ q = 1 ∨ q = 2) with rfl | rfl | rfl <;> first | rfl | (simp [opI] at h)
theorem clI_inj {p q : Nat} (hp : p < 3) (hq : q < 3) (h : clI p = clI q) : p = q := by
  rcases (by omega : p = 0 ∨ p = 1 ∨ p = 2) with rfl | rfl | rfl <;> rcases (by omega : q = 0 ∨ q = 1 ∨ q = 2) with rfl | rfl | rfl <;> first | rfl | (simp [clI] at h)
theorem op_ne_cl {p q : Nat} (hp : p < 3) (hq : q < 3) : opI p ≠ clI q := by
  rcases (by omega : p = 0 ∨ p = 1 ∨ p = 2) with rfl | rfl | rfl <;> rcases (by omega : q = 0 ∨ q = 1 ∨ q = 2) with rfl | rfl | rfl <;> simp [opI, clI]
theorem op_ne_x {p : Nat} (hp : p < 3) : opI p ≠ 120 ∧ clI p ≠ 120 := by
  rcases (by omega : p = 0 ∨ p = 1 ∨ p = 2) with rfl | rfl | rfl <;> simp [opI, clI]
theorem kind_op {p : Nat} (hp : p < 3) : kindP (opI p) = (opI p, clI p, true, true) := by
  rcases (by omega : p = 0 ∨ p = 1 ∨ p = 2) with rfl | rfl | rfl <;> decide
/-- The bytes: n opening ones, an x, the closing ones in turned order. -/
structure Nest (B : List UInt8) (n : Nat) (f : Nat → Nat) : Prop where
  len : B.length = 2 * n + 1
  kind : ∀ i, f i < 3
  op : ∀ i, i < n → btI B i = opI (f i)
  mid : btI B n = 120
  cl : ∀ i, i < n → btI B (2 * n - i) = clI (f i)
/-- How many of a kind lie from j to p. -/
def cntP (f : Nat → Nat) (q j : Nat) : Nat → Nat
  | 0 => 0
  | p + 1 => cntP f q j p + (if j ≤ p ∧ f p = q then 1 else 0)
theorem cntP_le (f : Nat → Nat) (q j : Nat) : ∀ p : Nat, cntP f q j p ≤ p
  | 0 => Nat.le_refl _
  | p + 1 => by
    have := cntP_le f q j p
    rw [cntP]
    split <;> omega
theorem cntP_low {f : Nat → Nat} {q j : Nat} : ∀ {p : Nat}, p ≤ j → cntP f q j p = 0
  | 0, _ => rfl
  | p + 1, h => by
    rw [cntP, cntP_low (p := p) (by omega), if_neg (by omega)]
theorem cntP_pos {f : Nat → Nat} {q j : Nat} : ∀ {p : Nat}, j < p → f j = q → 1 ≤ cntP f q j p
  | 0, h, _ => by omega
  | p + 1, h, hq => by
    rw [cntP]
    by_cases e : j = p
    · subst e; rw [if_pos ⟨Nat.le_refl _, hq⟩]; omega
    · have := cntP_pos (f := f) (p := p) (by omega) hq
      omega
theorem cntP_step {f : Nat → Nat} {q j : Nat} : ∀ {p : Nat}, j < p → cntP f q j p = (if f j = q then 1 else 0) + cntP f q (j + 1) p
  | 0, h => by omega
  | p + 1, h => by
    rw [cntP, cntP]
    by_cases e : j = p
    · subst e
      rw [cntP_low (Nat.le_refl _), cntP_low (by omega)]
      by_cases hq : f j = q
      · rw [if_pos ⟨Nat.le_refl _, hq⟩, if_pos hq, if_neg (by omega)]
      · rw [if_neg (fun h => hq h.2), if_neg hq, if_neg (by omega)]
    · rw [cntP_step (p := p) (by omega)]
      have e2 : (if j + 1 ≤ p ∧ f p = q then 1 else 0) = (if j ≤ p ∧ f p = q then 1 else 0) := by
        by_cases hq : f p = q
        · rw [if_pos ⟨by omega, hq⟩, if_pos ⟨by omega, hq⟩]
        · rw [if_neg (fun h => hq h.2), if_neg (fun h => hq h.2)]
      rw [e2]
      omega
section
variable {B : List UInt8} {n : Nat} {f : Nat → Nat}
theorem deep_op {p q : Nat} (hp : p < 3) (hq : q < 3) (d : Int) : deepF (opI q) (clI q) (opI p) d = if p = q then d + 1 else d := by
  unfold deepF
  by_cases e : p = q
  · subst e; rw [if_pos rfl, if_pos rfl]
  · rw [if_neg (fun h => e (opI_inj hp hq h)), if_neg (op_ne_cl hp hq), if_neg e]
theorem deep_cl {p q : Nat} (hp : p < 3) (hq : q < 3) (d : Int) : deepF (opI q) (clI q) (clI p) d = if p = q then d - 1 else d := by
  unfold deepF
  rw [if_neg (fun h => op_ne_cl hq hp h.symm)]
  by_cases e : p = q
  · subst e; rw [if_pos rfl, if_pos rfl]
  · rw [if_neg (fun h => e (clI_inj hp hq h)), if_neg e]
theorem deep_x {q : Nat} (hq : q < 3) (d : Int) : deepF (opI q) (clI q) 120 d = d := by
  unfold deepF
  rw [if_neg (fun h => (op_ne_x hq).1 h.symm), if_neg (fun h => (op_ne_x hq).2 h.symm)]
theorem nest_close (h : Nest B n f) {j : Nat} (hj : j < n) : ∀ i, j + 1 ≤ i → i ≤ n → scanF B (opI (f j)) (clI (f j)) (1 + (cntP f (f j) (j + 1) i : Nat)) (2 * n + 1 - i) = some (2 * n - j)
  | 0, h1, _ => by omega
  | i + 1, h1, h2 => by
    have hq := h.kind j
    have hp := h.kind i
    have hpos : 2 * n + 1 - (i + 1) = 2 * n - i := by omega
    rw [hpos]
    have hc := h.cl i (by omega)
    by_cases e : j = i
    · subst e
      rw [cntP_low (Nat.le_refl _)]
      refine scanF_hit (by rw [h.len]; omega) ?_
      rw [hc, deep_cl hp hq, if_pos rfl]
      omega
    · have ih := nest_close h hj i (by omega) (by omega)
      have hpos2 : 2 * n - i + 1 = 2 * n + 1 - i := by omega
      rw [cntP]
      by_cases hk : f i = f j
      · rw [if_pos ⟨by omega, hk⟩]
        have hd : deepF (opI (f j)) (clI (f j)) (btI B (2 * n - i)) (1 + ((cntP f (f j) (j + 1) i + 1 : Nat) : Int)) = 1 + (cntP f (f j) (j + 1) i : Nat) := by
          rw [hc, deep_cl hp hq, if_pos hk]; omega
        rw [scanF_miss (by rw [h.len]; omega) (by rw [hd]; omega), hd, hpos2]
        exact ih
      · rw [if_neg (fun h => hk h.2), Nat.add_zero]
        have hd : deepF (opI (f j)) (clI (f j)) (btI B (2 * n - i)) (1 + ((cntP f (f j) (j + 1) i : Nat) : Int)) = 1 + (cntP f (f j) (j + 1) i : Nat) := by
          rw [hc, deep_cl hp hq, if_neg hk]
        rw [scanF_miss (by rw [h.len]; omega) (by rw [hd]; omega), hd, hpos2]
        exact ih
theorem nest_open (h : Nest B n f) {j : Nat} (hj : j < n) : ∀ (m p : Nat), n - p = m → j + 1 ≤ p → p ≤ n → scanF B (opI (f j)) (clI (f j)) (1 + (cntP f (f j) (j + 1) p : Nat)) p = some (2 * n - j)
  | 0, p, hm, h1, h2 => by
    obtain rfl : p = n := by omega
    have hd : deepF (opI (f j)) (clI (f j)) (btI B p) (1 + ((cntP f (f j) (j + 1) p : Nat) : Int)) = 1 + (cntP f (f j) (j + 1) p : Nat) := by rw [h.mid, deep_x (h.kind j)]
    rw [scanF_miss (by rw [h.len]; omega) (by rw [hd]; omega), hd]
    have := nest_close h hj p h1 (Nat.le_refl _)
    rwa [show 2 * p + 1 - p = p + 1 by omega] at this
  | m + 1, p, hm, h1, h2 => by
    have ih := nest_open h hj m (p + 1) (by omega) (by omega) (by omega)
    rw [cntP] at ih
    have ho := h.op p (by omega)
    by_cases hk : f p = f j
    · rw [if_pos ⟨by omega, hk⟩] at ih
      have hd : deepF (opI (f j)) (clI (f j)) (btI B p) (1 + ((cntP f (f j) (j + 1) p : Nat) : Int)) = 1 + ((cntP f (f j) (j + 1) p + 1 : Nat) : Int) := by
        rw [ho, deep_op (h.kind p) (h.kind j), if_pos hk]; omega
      rw [scanF_miss (by rw [h.len]; omega) (by rw [hd]; omega), hd]
      exact ih
    · rw [if_neg (fun h => hk h.2), Nat.add_zero] at ih
      have hd : deepF (opI (f j)) (clI (f j)) (btI B p) (1 + ((cntP f (f j) (j + 1) p : Nat) : Int)) = 1 + ((cntP f (f j) (j + 1) p : Nat) : Int) := by
        rw [ho, deep_op (h.kind p) (h.kind j), if_neg hk]
      rw [scanF_miss (by rw [h.len]; omega) (by rw [hd]; omega), hd]
      exact ih
theorem nest_scan (h : Nest B n f) {j : Nat} (hj : j < n) : scanF B (opI (f j)) (clI (f j)) 1 (j + 1) = some (2 * n - j) := by
  have := nest_open h hj _ (j + 1) rfl (Nat.le_refl _) (by omega)
  rw [cntP_low (Nat.le_refl _)] at this
  exact this
/-- The c-th of a kind, from within. -/
theorem nest_enc (h : Nest B n f) {q : Nat} (hq : q < 3) : ∀ (j k : Nat), j ≤ n → k < j → f k = q → encF B (opI q) (clI q) n ((cntP f q k j : Nat) : Int) j = some (k, 2 * n - k)
  | 0, k, _, hk, _ => by omega
  | j + 1, k, hj, hk, hf => by
    have ho := h.op j (by omega)
    by_cases e : f j = q
    · have hs := nest_scan h (j := j) (by omega)
      rw [e] at hs ho
      by_cases ek : k = j
      · subst ek
        rw [cntP, cntP_low (Nat.le_refl _), if_pos ⟨Nat.le_refl _, e⟩]
        exact encF_hit ho hs (by omega) (by omega)
      · have h1 := cntP_pos (f := f) (p := j) (j := k) (by omega) hf
        rw [cntP, if_pos ⟨by omega, e⟩, encF_more ho hs (by omega) (by omega)]
        rw [show (((cntP f q k j + 1 : Nat) : Int) - 1) = ((cntP f q k j : Nat) : Int) by omega]
        exact nest_enc h hq j k (by omega) (by omega) hf
    · rw [cntP, if_neg (fun h => e h.2), Nat.add_zero, encF_no (by rw [ho]; exact fun h2 => e (opI_inj (h.kind j) hq h2))]
      exact nest_enc h hq j k (by omega) (by
        by_cases ek : k = j
        · subst ek; exact absurd hf e
        · omega) hf
theorem nest_none (h : Nest B n f) {q : Nat} (hq : q < 3) : ∀ (j : Nat), j ≤ n → encF B (opI q) (clI q) n ((cntP f q 0 j + 1 : Nat) : Int) j = none
  | 0, _ => encF_end
  | j + 1, hj => by
    have ho := h.op j (by omega)
    by_cases e : f j = q
    · have hs := nest_scan h (j := j) (by omega)
      rw [e] at hs ho
      rw [cntP, if_pos ⟨by omega, e⟩, encF_more ho hs (by omega) (by omega)]
      rw [show (((cntP f q 0 j + 1 + 1 : Nat) : Int) - 1) = ((cntP f q 0 j + 1 : Nat) : Int) by omega]
      exact nest_none h hq j (by omega)
    · rw [cntP, if_neg (fun h => e h.2), Nat.add_zero, encF_no (by rw [ho]; exact fun h2 => e (opI_inj (h.kind j) hq h2))]
      exact nest_none h hq j (by omega)
end
/-- The three lines. -/
theorem nest_lines {s t : ByteArray} {n : Nat} {f : Nat → Nat} (hf : ∀ i, f i < 3) (hs : s.size = n) (ht : t.size = n) (h1 : ∀ i, i < n → byt s i = opI (f i)) (h2 : ∀ i, i < n → byt t (n - 1 - i) = clI (f i)) : Nest (flat [s, ⟨#[120]⟩, t]) n f := by
  have hx : (⟨#[120]⟩ : ByteArray).size = 1 := rfl
  have hl : (flat [s, ⟨#[120]⟩, t]).length = 2 * n + 1 := by
    rw [flat_length, total_cons, total_cons, total_cons, hs, ht, hx]
    simp [total]; omega
  have e0 : ∀ (l c : Nat), l < 3 → c < (([s, ⟨#[120]⟩, t] : List ByteArray).getD l .empty).size → btI (flat [s, ⟨#[120]⟩, t]) (idx [s, ⟨#[120]⟩, t] l c) = byt (([s, ⟨#[120]⟩, t] : List ByteArray).getD l .empty) c := by
    intro l c hl hc
    rw [btI, flat_at (by simpa using hl) hc]
    rfl
  refine ⟨hl, hf, fun i hi => ?_, ?_, fun i hi => ?_⟩
  · have := e0 0 i (by omega) (by simpa [hs] using hi)
    rw [idx_zero] at this
    rw [this]
    exact h1 i hi
  · have := e0 1 0 (by omega) (by simp [hx])
    rw [show idx [s, ⟨#[120]⟩, t] 1 0 = n by simp [idx, total, hs]] at this
    rw [this]
    rfl
  · have := e0 2 (n - 1 - i) (by omega) (by simp [ht]; omega)
    rw [show idx [s, ⟨#[120]⟩, t] 2 (n - 1 - i) = 2 * n - i by simp [idx, total, hs, hx]; omega] at this
    rw [this]
    exact h2 i hi
theorem nest_place {s t : ByteArray} {n : Nat} (hs : s.size = n) (ht : t.size = n) {k : Nat} (hk : k < n) : plcOf [s, ⟨#[120]⟩, t] k = (0, k) ∧ plcOf [s, ⟨#[120]⟩, t] (2 * n - k) = (2, n - 1 - k) := by
  have hx : (⟨#[120]⟩ : ByteArray).size = 1 := rfl
  constructor
  · have := plcOf_idx (L := [s, ⟨#[120]⟩, t]) (l := 0) (c := k) (by simp) (by simpa [hs] using hk)
    rwa [idx_zero] at this
  · have := plcOf_idx (L := [s, ⟨#[120]⟩, t]) (l := 2) (c := n - 1 - k) (by simp) (by simp [ht]; omega)
    rwa [show idx [s, ⟨#[120]⟩, t] 2 (n - 1 - k) = 2 * n - k by simp [idx, total, hs, hx]; omega] at this
theorem nest_match {s t : ByteArray} {n : Nat} {f : Nat → Nat} (h : Nest (flat [s, ⟨#[120]⟩, t]) n f) (hs : s.size = n) (ht : t.size = n) {i : Nat} (hi : i < n) : matchP [s, ⟨#[120]⟩, t] (0 : Int) (i : Int) = ((2, ((n - 1 - i : Nat) : Int), 1, true, -1), true) := by
  have ho := h.op i hi
  have hk := kind_op (h.kind i)
  have e := matchP_at (L := [s, ⟨#[120]⟩, t]) (l := 0) (c := i) (by simp) (by simpa [hs] using hi) (by rw [idx_zero, ho, hk])
  rw [show ((0 : Nat) : Int) = 0 from rfl] at e
  rw [e, idx_zero, otherP, ho, hk]
  simp only [if_true]
  rw [nest_scan h hi, matchT, (nest_place hs ht hi).2]
  rfl
theorem nest_encl {s t : ByteArray} {n : Nat} {f : Nat → Nat} (h : Nest (flat [s, ⟨#[120]⟩, t]) n f) (hs : s.size = n) (ht : t.size = n) {q c : Nat} (hq : q < 3) (hc : 1 ≤ c) : enclP [s, ⟨#[120]⟩, t] (1 : Int) (0 : Int) (opI q) (c : Int) = encR [s, ⟨#[120]⟩, t] (encF (flat [s, ⟨#[120]⟩, t]) (opI q) (clI q) n (c : Int) n) := by
  have hx : (⟨#[120]⟩ : ByteArray).size = 1 := rfl
  have hk := kind_op hq
  have hp : plcB [s, ⟨#[120]⟩, t] (1 : Int) (0 : Int) = true := by rw [plcB_in (by omega) (by simp) (by omega)]; simp
  have hi : idx [s, ⟨#[120]⟩, t] 1 0 = n := by simp [idx, total, hs]
  rw [enclP, hk, if_pos ⟨hp, by omega, rfl⟩]
  rw [show (1 : Int).toNat = 1 from rfl, show (0 : Int).toNat = 0 from rfl, hi]
  rw [if_pos (by show (0 : Int) < ((⟨#[120]⟩ : ByteArray).size : Int); rw [hx]; omega)]
  rw [encF_no (by rw [h.mid]; exact fun e => (op_ne_x hq).1 e.symm)]
theorem nest_at {s t : ByteArray} {n : Nat} {f : Nat → Nat} (h : Nest (flat [s, ⟨#[120]⟩, t]) n f) (hs : s.size = n) (ht : t.size = n) {q k : Nat} (hq : q < 3) (hk : k < n) (hf : f k = q) : enclP [s, ⟨#[120]⟩, t] (1 : Int) (0 : Int) (opI q) ((cntP f q k n : Nat) : Int) = (((0, (k : Int)), (2, ((n - 1 - k : Nat) : Int))), true) := by
  rw [nest_encl h hs ht hq (cntP_pos hk hf), nest_enc h hq n k (Nat.le_refl _) hk hf, encR, (nest_place hs ht hk).1, (nest_place hs ht hk).2]
  rfl
theorem nest_out {s t : ByteArray} {n : Nat} {f : Nat → Nat} (h : Nest (flat [s, ⟨#[120]⟩, t]) n f) (hs : s.size = n) (ht : t.size = n) {q : Nat} (hq : q < 3) : enclP [s, ⟨#[120]⟩, t] (1 : Int) (0 : Int) (opI q) ((cntP f q 0 n + 1 : Nat) : Int) = noEnc := by
  rw [nest_encl h hs ht hq (by omega), nest_none h hq n (Nat.le_refl _)]
  rfl
end Go.Proofs.Ytlbbgocggifjaaa
