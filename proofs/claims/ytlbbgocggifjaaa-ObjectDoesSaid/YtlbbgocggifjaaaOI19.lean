/- Several texts in one: ObjP, Obj, Obj2. Conditions: none beyond what each says. -/
import Derived.Test.YtlbbgocggifjaaaOI1
import Derived.Test.YtlbbgocggifjaaaOI18
import Derived.Test.YtlbbgocggifjaaaOI17
import Derived.Test.YtlbbgocggifjaaaOI13
namespace Go.Proofs.Ytlbbgocggifjaaa
open Go.RowKit

/-- What stands in brackets. -/
def bracketO (r : Enc) (around : Bool) : Rng × Bool := if r.2 = true then ((0, r.1.1.1, (if around then r.1.1.2 else r.1.1.2 + 1), r.1.2.1, (if around then r.1.2.2 + 1 else r.1.2.2)), true) else noR
def bracketP (L : List ByteArray) (l c o n : Int) (around : Bool) : Rng × Bool := if byteB L l c = true then bracketO (enclP L l c o n) around else noR
theorem bracketP_no {L : List ByteArray} {l c o n : Int} {around : Bool} (h : byteB L l c = false) : bracketP L l c o n around = noR := by rw [bracketP, if_neg (by rw [h]; simp)]
theorem bracketP_none {L : List ByteArray} {l c o n : Int} {around : Bool} {a b x y : Int} (h2 : enclP L l c o n = (((a, b), (x, y)), false)) : bracketP L l c o n around = noR := by
  simp [bracketP, h2, bracketO]
theorem bracketP_in {L : List ByteArray} {l c o n : Int} {a b x y : Int} (h : byteB L l c = true) (h2 : enclP L l c o n = (((a, b), (x, y)), true)) : bracketP L l c o n false = ((0, a, b + 1, x, y), true) := by
  rw [bracketP, if_pos h, h2, bracketO, if_pos rfl]; rfl
theorem bracketP_out {L : List ByteArray} {l c o n : Int} {a b x y : Int} (h : byteB L l c = true) (h2 : enclP L l c o n = (((a, b), (x, y)), true)) : bracketP L l c o n true = ((0, a, b, x, y + 1), true) := by
  rw [bracketP, if_pos h, h2, bracketO, if_pos rfl]; rfl
theorem encF_spec {B : List UInt8} {o s : Int} {q : Nat} : ∀ {j : Nat} {n : Int} {i t : Nat}, encF B o s q n j = some (i, t) → i < j ∧ scanF B o s 1 (i + 1) = some t ∧ btI B i = o ∧ ¬ t < q
  | 0, n, i, t, h => by rw [encF_end] at h; cases h
  | j + 1, n, i, t, h => by
    by_cases h1 : btI B j = o
    · cases h2 : scanF B o s 1 (j + 1) with
      | none =>
        rw [encF_none h1 h2] at h
        have := encF_spec h
        exact ⟨by omega, this.2⟩
      | some u =>
        by_cases h3 : u < q
        · rw [encF_short h1 h2 h3] at h
          have := encF_spec h
          exact ⟨by omega, this.2⟩
        · by_cases h4 : n = 1
          · rw [encF_hit h1 h2 h3 h4] at h
            cases h
            exact ⟨by omega, h2, h1, h3⟩
          · rw [encF_more h1 h2 h3 h4] at h
            have := encF_spec h
            exact ⟨by omega, this.2⟩
    · rw [encF_no h1] at h
      have := encF_spec h
      exact ⟨by omega, this.2⟩
/-- The pair one further out. -/
theorem encF_next {B : List UInt8} {o s : Int} {q : Nat} : ∀ {j : Nat} {n : Int}, 1 ≤ n → encF B o s q (n + 1) j = (match encF B o s q n j with | none => none | some (i, _) => encF B o s q 1 i)
  | 0, n, _ => by rw [encF_end, encF_end]
  | j + 1, n, hn => by
    by_cases h1 : btI B j = o
    · cases h2 : scanF B o s 1 (j + 1) with
      | none => rw [encF_none h1 h2, encF_none h1 h2]; exact encF_next hn
      | some u =>
        by_cases h3 : u < q
        · rw [encF_short h1 h2 h3, encF_short h1 h2 h3]; exact encF_next hn
        · rw [encF_more h1 h2 h3 (by omega)]
          rw [show n + 1 - 1 = n by omega]
          by_cases h4 : n = 1
          · rw [encF_hit h1 h2 h3 h4, h4]
          · rw [encF_more h1 h2 h3 h4]
            have := encF_next (B := B) (o := o) (s := s) (q := q) (j := j) (n := n - 1) (by omega)
            rw [show n - 1 + 1 = n by omega] at this
            exact this
    · rw [encF_no h1, encF_no h1]; exact encF_next hn
theorem scanF_through {B : List UInt8} {o s : Int} : ∀ (k i : Nat) (d : Int) (t : Nat), 1 ≤ d → i + k ≤ t → scanF B o s d i = some t → ∃ e, 1 ≤ e ∧ scanF B o s d i = scanF B o s e (i + k)
  | 0, i, d, t, hd, _, _ => ⟨d, hd, rfl⟩
  | k + 1, i, d, t, hd, hk, h => by
    have hb := scanF_spec _ i d rfl t h
    rcases deepF_ways (o := o) (s := s) (c := btI B i) hd with ⟨h0, _, _⟩ | h1
    · rw [scanF_hit (by omega) h0] at h
      cases h; omega
    · rw [scanF_miss (by omega) (by omega)] at h ⊢
      obtain ⟨e, he, hh⟩ := scanF_through k (i + 1) _ t h1 (by omega) h
      exact ⟨e, he, by rw [hh, show i + 1 + k = i + (k + 1) by omega]⟩
/-- Of two opening ones of a kind the outer one's other lies behind the inner one's. -/
theorem scanF_outer {B : List UInt8} {o s : Int} (hos : o ≠ s) {i1 i2 t1 t2 : Nat} (hi : i2 < i1) (ho : btI B i1 = o) (h1 : scanF B o s 1 (i1 + 1) = some t1) (h2 : scanF B o s 1 (i2 + 1) = some t2) (hq : i1 ≤ t2) : t1 < t2 := by
  obtain ⟨_, hs⟩ := other_fwd_at hos h2
  have hne : t2 ≠ i1 := by
    intro e
    rw [e, ho] at hs
    exact hos hs
  obtain ⟨e, he, hh⟩ := scanF_through (i1 - (i2 + 1)) (i2 + 1) 1 t2 (by omega) (by omega) h2
  rw [show i2 + 1 + (i1 - (i2 + 1)) = i1 by omega, h2] at hh
  have hb := scanF_spec _ i1 e rfl t2 hh.symm
  have hd : deepF o s (btI B i1) e = 1 + e := by unfold deepF; rw [if_pos ho]; omega
  rw [scanF_miss (by omega) (by rw [hd]; omega), hd, scanF_deep _ (i1 + 1) 1 e t1 rfl (by omega) he h1] at hh
  have := scanF_spec _ (t1 + 1) e rfl t2 hh.symm
  omega
where
  other_fwd_at {B : List UInt8} {o s : Int} (hos : o ≠ s) {i t : Nat} (h : scanF B o s 1 (i + 1) = some t) : True ∧ btI B t = s :=
    ⟨trivial, (back_of_scanF hos _ (i + 1) 1 t rfl (by omega) h).2⟩
theorem enclP_eq {L : List ByteArray} {l c : Nat} {o s : Int} (hk : kindP o = (o, s, true, true)) (hp : plcB L l c = true) : ∃ j, j ≤ idx L l c + 1 ∧ ∀ m : Int, 1 ≤ m → enclP L l c o m = encR L (encF (flat L) o s (idx L l c) m j) := by
  refine ⟨if (c : Int) < (ln L l).size then idx L l c + 1 else idx L l c, by split <;> omega, fun m hm => ?_⟩
  rw [enclP, if_pos ⟨hp, hm, by rw [hk]⟩, hk]
  simp only [Int.toNat_natCast]
theorem encR_yes {L : List ByteArray} {x : Option (Nat × Nat)} {r : (Int × Int) × (Int × Int)} (h : encR L x = (r, true)) : ∃ i t, x = some (i, t) ∧ r = ((((plcOf L i).1 : Int), ((plcOf L i).2 : Int)), (((plcOf L t).1 : Int), ((plcOf L t).2 : Int))) := by
  cases x with
  | none => simp [encR, noEnc] at h
  | some p =>
    obtain ⟨i, t⟩ := p
    simp only [encR, Prod.mk.injEq, and_true] at h
    exact ⟨i, t, rfl, h.symm⟩
theorem enclP_yes {L : List ByteArray} {pl pc o n : Int} {r : (Int × Int) × (Int × Int)} (h : enclP L pl pc o n = (r, true)) : ∃ (l c : Nat) (s : Int) (j i t : Nat), pl = l ∧ pc = c ∧ plcB L l c = true ∧ 1 ≤ n ∧ kindP o = (o, s, true, true) ∧ j ≤ idx L l c + 1 ∧
    (∀ m : Int, 1 ≤ m → enclP L l c o m = encR L (encF (flat L) o s (idx L l c) m j)) ∧ encF (flat L) o s (idx L l c) n j = some (i, t) ∧
    r = ((((plcOf L i).1 : Int), ((plcOf L i).2 : Int)), (((plcOf L t).1 : Int), ((plcOf L t).2 : Int))) ∧ i < total L ∧ t < total L := by
  by_cases hc : plcB L pl pc = true ∧ 1 ≤ n ∧ (kindP o).2.2.1 = true
  · obtain ⟨hp, hn, hk⟩ := hc
    obtain ⟨s, hks⟩ := kind_opens hk
    obtain ⟨p1, _, p3, _⟩ := plcB_spec hp
    obtain ⟨l, rfl⟩ := Int.eq_ofNat_of_zero_le p1
    obtain ⟨c, rfl⟩ := Int.eq_ofNat_of_zero_le p3
    obtain ⟨j, hj, he⟩ := enclP_eq hks hp
    rw [he n hn] at h
    obtain ⟨i, t, h1, h2⟩ := encR_yes h
    obtain ⟨e1, e2, _, _⟩ := encF_spec h1
    have hb := scanF_spec _ (i + 1) 1 rfl t e2
    rw [flat_length] at hb
    exact ⟨l, c, s, j, i, t, rfl, rfl, hp, hn, hks, hj, he, h1, h2, by omega, hb.2⟩
  · rw [enclP_no hc] at h
    simp [noEnc] at h
theorem col_le {L : List ByteArray} {i : Nat} (h : i < total L) : (plcOf L i).2 < total L := by
  obtain ⟨h1, h2, _⟩ := plcOf_spec h
  have := size_le_total L _ h1
  omega
theorem enclP_bd {L : List ByteArray} {pl pc o n a b x y : Int} (h : enclP L pl pc o n = (((a, b), (x, y)), true)) : 0 ≤ b ∧ b < total L ∧ 0 ≤ y ∧ y < total L := by
  obtain ⟨l, c, s, j, i, t, _, _, _, _, _, _, _, _, hr, hi, ht⟩ := enclP_yes h
  simp only [Prod.mk.injEq] at hr
  have := col_le hi
  have := col_le ht
  omega
/-- The pair of the next number has the one ahead within it. -/
theorem encl_deep {L : List ByteArray} {pl pc o n a b x y : Int} (hn : 1 ≤ n) {a' b' x' y' : Int} (h : enclP L pl pc o n = (((a, b), (x, y)), true)) (h' : enclP L pl pc o (n + 1) = (((a', b'), (x', y')), true)) :
    lessB a' b' a b = true ∧ lessB x y x' y' = true := by
  obtain ⟨l, c, s, j, i, t, rfl, rfl, hp, _, hk, hj, he, hf, hr, hi, ht⟩ := enclP_yes h
  rw [he (n + 1) (by omega), encF_next hn, hf] at h'
  obtain ⟨i', t', hf', hr'⟩ := encR_yes h'
  simp only at hf'
  obtain ⟨hos, _, _⟩ := kind_spec hk
  obtain ⟨_, e2, e3, e4⟩ := encF_spec hf
  obtain ⟨d1, d2, d3, d4⟩ := encF_spec hf'
  have hi2 : i ≤ idx L l c := by
    have := (encF_spec hf).1
    omega
  have hlt := scanF_outer hos d1 e3 e2 d2 (by omega)
  have hb := scanF_spec _ (i' + 1) 1 rfl t' d2
  rw [flat_length] at hb
  simp only [Prod.mk.injEq] at hr hr'
  obtain ⟨⟨rfl, rfl⟩, rfl, rfl⟩ := hr
  obtain ⟨⟨rfl, rfl⟩, rfl, rfl⟩ := hr'
  obtain ⟨p1, p2, p3⟩ := plcOf_spec hi
  obtain ⟨q1, q2, q3⟩ := plcOf_spec (show i' < total L by omega)
  obtain ⟨u1, u2, u3⟩ := plcOf_spec ht
  obtain ⟨v1, v2, v3⟩ := plcOf_spec hb.2
  constructor
  · rw [idx_less q1 q2 p1 (by omega), q3, p3]; exact decide_eq_true d1
  · rw [idx_less u1 u2 v1 (by omega), u3, v3]; exact decide_eq_true hlt
theorem encl_stops {L : List ByteArray} {pl pc o n : Int} {r : (Int × Int) × (Int × Int)} (hn : 1 ≤ n) (h : enclP L pl pc o n = (r, false)) : ∃ r', enclP L pl pc o (n + 1) = (r', false) := by
  cases hh : enclP L pl pc o (n + 1) with
  | mk r' ok =>
    cases ok with
    | false => exact ⟨r', rfl⟩
    | true =>
      exfalso
      obtain ⟨l, c, s, j, i, t, rfl, rfl, hp, _, hk, hj, he, hf, hr, hi, ht⟩ := enclP_yes hh
      rw [encF_next hn] at hf
      rw [he n hn] at h
      cases hq : encF (flat L) o s (idx L l c) n j with
      | none => rw [hq] at hf; cases hf
      | some p => rw [hq] at h; obtain ⟨u, v⟩ := p; simp [encR] at h
end Go.Proofs.Ytlbbgocggifjaaa
namespace Go.Proofs.Ytlbbgocggifjaaa
open Go.RowKit

set_option maxHeartbeats 1000000 in
theorem both_any (a : Option Addr) (cap : Nat) (L : List ByteArray) (pl pc o n : Int) (w : World) (hL : LinesAt w a L) (htot : total L ≤ 1000000) (hn2 : n ≤ 9223372036854775807) :
    Calls Try.prog 115 #[.slice a L.length cap, .agg #[.int .i64 pl, .int .i64 pc], .int .u8 o, .int .i64 n] w fun e w' => e = .returned (encV (if byteB L pl pc = true then enclP L pl pc o n else noEnc)) ∧ Below w.heap.size w w' := by
  cases hb : byteB L pl pc with
  | false =>
    have HB := Lib.hid hb
    clear hb
    rw [if_neg (by simp)]
    go_enter Try.func115, Try.ntmps115
    go_wp2_with (go_at_call 139; refine (byte_any _ _ L _ _ _ (by (repeat (first | assumption | refine LinesAt.ovr ?_ _ | refine LinesAt.alloc ?_ _ | refine LinesAt.drewN ?_ _ | refine LinesAt.drew ?_)))).mono ?_; rw [HB.out]; rintro e w1 ⟨rfl, hbl⟩; obtain ⟨x, rfl⟩ := ovr_of_below hbl; clear hbl)
    refine bodyPost_ret (v := encV noEnc) (by simp [results, Try.results115, go_sem, noEnc]) rfl ⟨rfl, by (repeat (first | with_reducible exact Below.refl _ _ | (with_reducible refine Below.setCell ?_ ?_ _; rotate_left; · (first | exact Nat.le_refl _ | assumption | omega | (simp; done) | (simp; omega))) | (with_reducible refine Below.alloc ?_ ?_ _; rotate_left; · (first | exact Nat.le_refl _ | assumption | omega | (simp; done) | (simp; omega))) | with_reducible refine below_ovr_of ?_ | with_reducible refine drew_below ?_ _ | with_reducible refine Below.drew ?_ | with_reducible assumption))⟩
  | true =>
    have HB := Lib.hid hb
    obtain ⟨⟨⟨⟨a1, b1⟩, ⟨c1, d1⟩⟩, ok1⟩, hr⟩ : ∃ r, enclP L pl pc o n = r := ⟨_, rfl⟩
    rw [if_pos rfl, hr]
    have HR1 := Lib.hid hr
    clear hr hb
    go_enter Try.func115, Try.ntmps115
    go_wp2_with (first | (go_at_call 139; refine (byte_any _ _ L _ _ _ (by (repeat (first | assumption | refine LinesAt.ovr ?_ _ | refine LinesAt.alloc ?_ _ | refine LinesAt.drewN ?_ _ | refine LinesAt.drew ?_)))).mono ?_; rw [HB.out]; rintro e w1 ⟨rfl, hbl⟩; obtain ⟨x, rfl⟩ := ovr_of_below hbl; clear hbl) | (go_at_call 50; refine (encl_any _ _ L _ _ _ _ _ (by (repeat (first | assumption | refine LinesAt.ovr ?_ _ | refine LinesAt.alloc ?_ _ | refine LinesAt.drewN ?_ _ | refine LinesAt.drew ?_))) (by omega) (by omega)).mono ?_; rw [HR1.out]; rintro e w1 ⟨rfl, hbl⟩; obtain ⟨x, rfl⟩ := ovr_of_below hbl; clear hbl))
    refine bodyPost_ret (v := encV (((a1, b1), (c1, d1)), ok1)) (by simp [results, Try.results115, go_sem]) rfl ⟨rfl, by (repeat (first | with_reducible exact Below.refl _ _ | (with_reducible refine Below.setCell ?_ ?_ _; rotate_left; · (first | exact Nat.le_refl _ | assumption | omega | (simp; done) | (simp; omega))) | (with_reducible refine Below.alloc ?_ ?_ _; rotate_left; · (first | exact Nat.le_refl _ | assumption | omega | (simp; done) | (simp; omega))) | with_reducible refine below_ovr_of ?_ | with_reducible refine drew_below ?_ _ | with_reducible refine Below.drew ?_ | with_reducible assumption))⟩
theorem both_at (a : Option Addr) (cap : Nat) (L : List ByteArray) (pl pc o n : Int) (w : World) (hL : LinesAt w a L) (htot : total L ≤ 1000000) (hn2 : n ≤ 9223372036854775807) {r : Enc} (h : Hid ((if byteB L pl pc = true then enclP L pl pc o n else noEnc) = r)) :
    Calls Try.prog 115 #[.slice a L.length cap, .agg #[.int .i64 pl, .int .i64 pc], .int .u8 o, .int .i64 n] w fun e w' => e = .returned (encV r) ∧ Below w.heap.size w w' := by
  have := both_any a cap L pl pc o n w hL htot hn2
  rw [h.out] at this
  exact this
end Go.Proofs.Ytlbbgocggifjaaa
namespace Go.Proofs.Ytlbbgocggifjaaa
open Go.RowKit

set_option maxRecDepth 100000 in
set_option maxHeartbeats 2000000 in
theorem binner_any (a : Option Addr) (cap : Nat) (L : List ByteArray) (pl pc o n : Int) (w : World) (hL : LinesAt w a L) (htot : total L ≤ 1000000) (hn2 : n ≤ 9223372036854775807) :
    Calls Try.prog 54 #[.slice a L.length cap, .agg #[.int .i64 pl, .int .i64 pc], .int .u8 o, .int .i64 n] w fun e w' => e = .returned (rngV (bracketP L pl pc o n false)) ∧ Below w.heap.size w w' := by
  cases hb : byteB L pl pc with
  | false =>
    have HBO : Hid ((if byteB L pl pc = true then enclP L pl pc o n else noEnc) = (((0, 0), (0, 0)), false)) := Lib.hid (by rw [hb, if_neg (by simp)]; rfl)
    have HY := Lib.hid (bracketP_no (o := o) (n := n) (around := false) hb)
    clear hb
    go_enter Try.func54, Try.ntmps54
    go_wp2_with (go_at_call 115; refine (both_at _ _ L _ _ _ _ _ (by (repeat (first | assumption | refine LinesAt.ovr ?_ _ | refine LinesAt.alloc ?_ _ | refine LinesAt.drewN ?_ _ | refine LinesAt.drew ?_))) (by omega) (by omega) HBO).mono ?_; rintro e w1 ⟨rfl, hbl⟩; obtain ⟨x, rfl⟩ := ovr_of_below hbl; clear hbl)
    refine bodyPost_ret (v := rngV noR) (by simp [results, Try.results54, go_sem, noR]) rfl ⟨by rw [HY.out], by (repeat (first | with_reducible exact Below.refl _ _ | (with_reducible refine Below.setCell ?_ ?_ _; rotate_left; · (first | exact Nat.le_refl _ | assumption | omega | (simp; done) | (simp; omega))) | (with_reducible refine Below.alloc ?_ ?_ _; rotate_left; · (first | exact Nat.le_refl _ | assumption | omega | (simp; done) | (simp; omega))) | with_reducible refine below_ovr_of ?_ | with_reducible refine drew_below ?_ _ | with_reducible refine Below.drew ?_ | with_reducible assumption))⟩
  | true =>
    obtain ⟨⟨⟨⟨a1, b1⟩, ⟨c1, d1⟩⟩, ok1⟩, hr⟩ : ∃ r, enclP L pl pc o n = r := ⟨_, rfl⟩
    have HBO : Hid ((if byteB L pl pc = true then enclP L pl pc o n else noEnc) = (((a1, b1), (c1, d1)), ok1)) := Lib.hid (by rw [hb, if_pos rfl, hr])
    cases ok1 with
    | false =>
      have HY := Lib.hid (bracketP_none (around := false) hr)
      clear hb hr
      go_enter Try.func54, Try.ntmps54
      go_wp2_with (go_at_call 115; refine (both_at _ _ L _ _ _ _ _ (by (repeat (first | assumption | refine LinesAt.ovr ?_ _ | refine LinesAt.alloc ?_ _ | refine LinesAt.drewN ?_ _ | refine LinesAt.drew ?_))) (by omega) (by omega) HBO).mono ?_; rintro e w1 ⟨rfl, hbl⟩; obtain ⟨x, rfl⟩ := ovr_of_below hbl; clear hbl)
      refine bodyPost_ret (v := rngV noR) (by simp [results, Try.results54, go_sem, noR]) rfl ⟨by rw [HY.out], by (repeat (first | with_reducible exact Below.refl _ _ | (with_reducible refine Below.setCell ?_ ?_ _; rotate_left; · (first | exact Nat.le_refl _ | assumption | omega | (simp; done) | (simp; omega))) | (with_reducible refine Below.alloc ?_ ?_ _; rotate_left; · (first | exact Nat.le_refl _ | assumption | omega | (simp; done) | (simp; omega))) | with_reducible refine below_ovr_of ?_ | with_reducible refine drew_below ?_ _ | with_reducible refine Below.drew ?_ | with_reducible assumption))⟩
    | true =>
      have HY := Lib.hid (bracketP_in hb hr)
      obtain ⟨g1, g2, g3, g4⟩ := enclP_bd hr
      have g5 : b1 ≤ 1000000 := by omega
      have g6 : d1 ≤ 1000000 := by omega
      clear hb hr g2 g4
      go_enter Try.func54, Try.ntmps54
      go_wp2_with (go_at_call 115; refine (both_at _ _ L _ _ _ _ _ (by (repeat (first | assumption | refine LinesAt.ovr ?_ _ | refine LinesAt.alloc ?_ _ | refine LinesAt.drewN ?_ _ | refine LinesAt.drew ?_))) (by omega) (by omega) HBO).mono ?_; rintro e w1 ⟨rfl, hbl⟩; obtain ⟨x, rfl⟩ := ovr_of_below hbl; clear hbl)
      refine bodyPost_ret (v := rngV ((0, a1, b1 + 1, c1, d1), true)) (by simp [results, Try.results54, go_sem]) rfl ⟨by rw [HY.out], by (repeat (first | with_reducible exact Below.refl _ _ | (with_reducible refine Below.setCell ?_ ?_ _; rotate_left; · (first | exact Nat.le_refl _ | assumption | omega | (simp; done) | (simp; omega))) | (with_reducible refine Below.alloc ?_ ?_ _; rotate_left; · (first | exact Nat.le_refl _ | assumption | omega | (simp; done) | (simp; omega))) | with_reducible refine below_ovr_of ?_ | with_reducible refine drew_below ?_ _ | with_reducible refine Below.drew ?_ | with_reducible assumption))⟩
set_option maxRecDepth 100000 in
set_option maxHeartbeats 2000000 in
theorem baround_any (a : Option Addr) (cap : Nat) (L : List ByteArray) (pl pc o n : Int) (w : World) (hL : LinesAt w a L) (htot : total L ≤ 1000000) (hn2 : n ≤ 9223372036854775807) :
    Calls Try.prog 56 #[.slice a L.length cap, .agg #[.int .i64 pl, .int .i64 pc], .int .u8 o, .int .i64 n] w fun e w' => e = .returned (rngV (bracketP L pl pc o n true)) ∧ Below w.heap.size w w' := by
  cases hb : byteB L pl pc with
  | false =>
    have HBO : Hid ((if byteB L pl pc = true then enclP L pl pc o n else noEnc) = (((0, 0), (0, 0)), false)) := Lib.hid (by rw [hb, if_neg (by simp)]; rfl)
    have HY := Lib.hid (bracketP_no (o := o) (n := n) (around := true) hb)
    clear hb
    go_enter Try.func56, Try.ntmps56
    go_wp2_with (go_at_call 115; refine (both_at _ _ L _ _ _ _ _ (by (repeat (first | assumption | refine LinesAt.ovr ?_ _ | refine LinesAt.alloc ?_ _ | refine LinesAt.drewN ?_ _ | refine LinesAt.drew ?_))) (by omega) (by omega) HBO).mono ?_; rintro e w1 ⟨rfl, hbl⟩; obtain ⟨x, rfl⟩ := ovr_of_below hbl; clear hbl)
    refine bodyPost_ret (v := rngV noR) (by simp [results, Try.results56, go_sem, noR]) rfl ⟨by rw [HY.out], by (repeat (first | with_reducible exact Below.refl _ _ | (with_reducible refine Below.setCell ?_ ?_ _; rotate_left; · (first | exact Nat.le_refl _ | assumption | omega | (simp; done) | (simp; omega))) | (with_reducible refine Below.alloc ?_ ?_ _; rotate_left; · (first | exact Nat.le_refl _ | assumption | omega | (simp; done) | (simp; omega))) | with_reducible refine below_ovr_of ?_ | with_reducible refine drew_below ?_ _ | with_reducible refine Below.drew ?_ | with_reducible assumption))⟩
  | true =>
    obtain ⟨⟨⟨⟨a1, b1⟩, ⟨c1, d1⟩⟩, ok1⟩, hr⟩ : ∃ r, enclP L pl pc o n = r := ⟨_, rfl⟩
    have HBO : Hid ((if byteB L pl pc = true then enclP L pl pc o n else noEnc) = (((a1, b1), (c1, d1)), ok1)) := Lib.hid (by rw [hb, if_pos rfl, hr])
    cases ok1 with
    | false =>
      have HY := Lib.hid (bracketP_none (around := true) hr)
      clear hb hr
      go_enter Try.func56, Try.ntmps56
      go_wp2_with (go_at_call 115; refine (both_at _ _ L _ _ _ _ _ (by (repeat (first | assumption | refine LinesAt.ovr ?_ _ | refine LinesAt.alloc ?_ _ | refine LinesAt.drewN ?_ _ | refine LinesAt.drew ?_))) (by omega) (by omega) HBO).mono ?_; rintro e w1 ⟨rfl, hbl⟩; obtain ⟨x, rfl⟩ := ovr_of_below hbl; clear hbl)
      refine bodyPost_ret (v := rngV noR) (by simp [results, Try.results56, go_sem, noR]) rfl ⟨by rw [HY.out], by (repeat (first | with_reducible exact Below.refl _ _ | (with_reducible refine Below.setCell ?_ ?_ _; rotate_left; · (first | exact Nat.le_refl _ | assumption | omega | (simp; done) | (simp; omega))) | (with_reducible refine Below.alloc ?_ ?_ _; rotate_left; · (first | exact Nat.le_refl _ | assumption | omega | (simp; done) | (simp; omega))) | with_reducible refine below_ovr_of ?_ | with_reducible refine drew_below ?_ _ | with_reducible refine Below.drew ?_ | with_reducible assumption))⟩
    | true =>
      have HY := Lib.hid (bracketP_out hb hr)
      obtain ⟨g1, g2, g3, g4⟩ := enclP_bd hr
      have g5 : b1 ≤ 1000000 := by omega
      have g6 : d1 ≤ 1000000 := by omega
      clear hb hr g2 g4
      go_enter Try.func56, Try.ntmps56
      go_wp2_with (go_at_call 115; refine (both_at _ _ L _ _ _ _ _ (by (repeat (first | assumption | refine LinesAt.ovr ?_ _ | refine LinesAt.alloc ?_ _ | refine LinesAt.drewN ?_ _ | refine LinesAt.drew ?_))) (by omega) (by omega) HBO).mono ?_; rintro e w1 ⟨rfl, hbl⟩; obtain ⟨x, rfl⟩ := ovr_of_below hbl; clear hbl)
      refine bodyPost_ret (v := rngV ((0, a1, b1, c1, d1 + 1), true)) (by simp [results, Try.results56, go_sem]) rfl ⟨by rw [HY.out], by (repeat (first | with_reducible exact Below.refl _ _ | (with_reducible refine Below.setCell ?_ ?_ _; rotate_left; · (first | exact Nat.le_refl _ | assumption | omega | (simp; done) | (simp; omega))) | (with_reducible refine Below.alloc ?_ ?_ _; rotate_left; · (first | exact Nat.le_refl _ | assumption | omega | (simp; done) | (simp; omega))) | with_reducible refine below_ovr_of ?_ | with_reducible refine drew_below ?_ _ | with_reducible refine Below.drew ?_ | with_reducible assumption))⟩

set_option maxRecDepth 100000 in
set_option maxHeartbeats 2000000 in
theorem rbinner_any (a : Option Addr) (cap : Nat) (L : List ByteArray) (pl pc o n : Int) (w : World) (hL : LinesAt w a L) (htot : total L ≤ 1000000) (hn2 : n ≤ 9223372036854775807) :
    Calls Try.prog 55 #[.slice a L.length cap, .agg #[.int .i64 pl, .int .i64 pc], .int .u8 o, .int .i64 n, .bool false] w fun e w' => e = .returned (rngV (bracketP L pl pc o n false)) ∧ Below w.heap.size w w' := by
  obtain ⟨q, hq⟩ : ∃ q, (byteB L pl pc && decide (1 ≤ n)) = q := ⟨_, rfl⟩
  have HON := Lib.hid hq
  cases q with
  | false =>
    have HY : Hid (bracketP L pl pc o n false = noR) := Lib.hid (by
      rw [Bool.and_eq_false_iff] at hq
      rcases hq with hq | hq
      · exact bracketP_no hq
      · exact bracketP_none (a := 0) (b := 0) (x := 0) (y := 0) (enclP_no (fun h => by simp at hq; omega)))
    clear hq
    go_enter Try.func55, Try.ntmps55
    go_wp2_with (go_at_call 100; refine (on_at _ _ L _ _ _ _ (by (repeat (first | assumption | refine LinesAt.ovr ?_ _ | refine LinesAt.alloc ?_ _ | refine LinesAt.drewN ?_ _ | refine LinesAt.drew ?_))) HON).mono ?_; rintro e w1 ⟨rfl, hbl⟩; obtain ⟨x, rfl⟩ := ovr_of_below hbl; clear hbl)
    refine bodyPost_ret (v := rngV noR) (by simp [results, Try.results55, go_sem, noR]) rfl ⟨by rw [HY.out], by (repeat (first | with_reducible exact Below.refl _ _ | (with_reducible refine Below.setCell ?_ ?_ _; rotate_left; · (first | exact Nat.le_refl _ | assumption | omega | (simp; done) | (simp; omega))) | (with_reducible refine Below.alloc ?_ ?_ _; rotate_left; · (first | exact Nat.le_refl _ | assumption | omega | (simp; done) | (simp; omega))) | with_reducible refine below_ovr_of ?_ | with_reducible refine drew_below ?_ _ | with_reducible refine Below.drew ?_ | with_reducible assumption))⟩
  | true =>
    rw [Bool.and_eq_true] at hq
    obtain ⟨hb, _⟩ := hq
    obtain ⟨⟨⟨⟨a1, b1⟩, ⟨c1, d1⟩⟩, ok1⟩, hr⟩ : ∃ r, enclP L pl pc o n = r := ⟨_, rfl⟩
    have HR1 := Lib.hid hr
    cases ok1 with
    | false =>
      have HY := Lib.hid (bracketP_none (around := false) hr)
      clear hb hr
      go_enter Try.func55, Try.ntmps55
      go_wp2_with (first | (go_at_call 100; refine (on_at _ _ L _ _ _ _ (by (repeat (first | assumption | refine LinesAt.ovr ?_ _ | refine LinesAt.alloc ?_ _ | refine LinesAt.drewN ?_ _ | refine LinesAt.drew ?_))) HON).mono ?_; rintro e w1 ⟨rfl, hbl⟩; obtain ⟨x, rfl⟩ := ovr_of_below hbl; clear hbl) | (go_at_call 51; refine (rencl_any _ _ L _ _ _ _ _ (by (repeat (first | assumption | refine LinesAt.ovr ?_ _ | refine LinesAt.alloc ?_ _ | refine LinesAt.drewN ?_ _ | refine LinesAt.drew ?_))) (by omega) (by omega)).mono ?_; rw [HR1.out]; rintro e w1 ⟨rfl, hbl⟩; obtain ⟨x, rfl⟩ := ovr_of_below hbl; clear hbl))
      refine bodyPost_ret (v := rngV noR) (by simp [results, Try.results55, go_sem, noR]) rfl ⟨by rw [HY.out], by (repeat (first | with_reducible exact Below.refl _ _ | (with_reducible refine Below.setCell ?_ ?_ _; rotate_left; · (first | exact Nat.le_refl _ | assumption | omega | (simp; done) | (simp; omega))) | (with_reducible refine Below.alloc ?_ ?_ _; rotate_left; · (first | exact Nat.le_refl _ | assumption | omega | (simp; done) | (simp; omega))) | with_reducible refine below_ovr_of ?_ | with_reducible refine drew_below ?_ _ | with_reducible refine Below.drew ?_ | with_reducible assumption))⟩
    | true =>
      have HY := Lib.hid (bracketP_in hb hr)
      obtain ⟨g1, g2, g3, g4⟩ := enclP_bd hr
      have g5 : b1 ≤ 1000000 := by omega
      have g6 : d1 ≤ 1000000 := by omega
      clear hb hr g2 g4
      go_enter Try.func55, Try.ntmps55
      go_wp2_with (first | (go_at_call 100; refine (on_at _ _ L _ _ _ _ (by (repeat (first | assumption | refine LinesAt.ovr ?_ _ | refine LinesAt.alloc ?_ _ | refine LinesAt.drewN ?_ _ | refine LinesAt.drew ?_))) HON).mono ?_; rintro e w1 ⟨rfl, hbl⟩; obtain ⟨x, rfl⟩ := ovr_of_below hbl; clear hbl) | (go_at_call 51; refine (rencl_any _ _ L _ _ _ _ _ (by (repeat (first | assumption | refine LinesAt.ovr ?_ _ | refine LinesAt.alloc ?_ _ | refine LinesAt.drewN ?_ _ | refine LinesAt.drew ?_))) (by omega) (by omega)).mono ?_; rw [HR1.out]; rintro e w1 ⟨rfl, hbl⟩; obtain ⟨x, rfl⟩ := ovr_of_below hbl; clear hbl) | (go_at_call 116; refine (char_any _ _ _ _ _).mono ?_; rintro e w1 ⟨rfl, hbl⟩; obtain ⟨x, rfl⟩ := ovr_of_below hbl; clear hbl))
      refine bodyPost_ret (v := rngV ((0, a1, b1 + 1, c1, d1), true)) (by simp [results, Try.results55, go_sem]) rfl ⟨by rw [HY.out], by (repeat (first | with_reducible exact Below.refl _ _ | (with_reducible refine Below.setCell ?_ ?_ _; rotate_left; · (first | exact Nat.le_refl _ | assumption | omega | (simp; done) | (simp; omega))) | (with_reducible refine Below.alloc ?_ ?_ _; rotate_left; · (first | exact Nat.le_refl _ | assumption | omega | (simp; done) | (simp; omega))) | with_reducible refine below_ovr_of ?_ | with_reducible refine drew_below ?_ _ | with_reducible refine Below.drew ?_ | with_reducible assumption))⟩
set_option maxRecDepth 100000 in
set_option maxHeartbeats 2000000 in
theorem rbaround_any (a : Option Addr) (cap : Nat) (L : List ByteArray) (pl pc o n : Int) (w : World) (hL : LinesAt w a L) (htot : total L ≤ 1000000) (hn2 : n ≤ 9223372036854775807) :
    Calls Try.prog 55 #[.slice a L.length cap, .agg #[.int .i64 pl, .int .i64 pc], .int .u8 o, .int .i64 n, .bool true] w fun e w' => e = .returned (rngV (bracketP L pl pc o n true)) ∧ Below w.heap.size w w' := by
  obtain ⟨q, hq⟩ : ∃ q, (byteB L pl pc && decide (1 ≤ n)) = q := ⟨_, rfl⟩
  have HON := Lib.hid hq
  cases q with
  | false =>
    have HY : Hid (bracketP L pl pc o n true = noR) := Lib.hid (by
      rw [Bool.and_eq_false_iff] at hq
      rcases hq with hq | hq
      · exact bracketP_no hq
      · exact bracketP_none (a := 0) (b := 0) (x := 0) (y := 0) (enclP_no (fun h => by simp at hq; omega)))
    clear hq
    go_enter Try.func55, Try.ntmps55
    go_wp2_with (go_at_call 100; refine (on_at _ _ L _ _ _ _ (by (repeat (first | assumption | refine LinesAt.ovr ?_ _ | refine LinesAt.alloc ?_ _ | refine LinesAt.drewN ?_ _ | refine LinesAt.drew ?_))) HON).mono ?_; rintro e w1 ⟨rfl, hbl⟩; obtain ⟨x, rfl⟩ := ovr_of_below hbl; clear hbl)
    refine bodyPost_ret (v := rngV noR) (by simp [results, Try.results55, go_sem, noR]) rfl ⟨by rw [HY.out], by (repeat (first | with_reducible exact Below.refl _ _ | (with_reducible refine Below.setCell ?_ ?_ _; rotate_left; · (first | exact Nat.le_refl _ | assumption | omega | (simp; done) | (simp; omega))) | (with_reducible refine Below.alloc ?_ ?_ _; rotate_left; · (first | exact Nat.le_refl _ | assumption | omega | (simp; done) | (simp; omega))) | with_reducible refine below_ovr_of ?_ | with_reducible refine drew_below ?_ _ | with_reducible refine Below.drew ?_ | with_reducible assumption))⟩
  | true =>
    rw [Bool.and_eq_true] at hq
    obtain ⟨hb, _⟩ := hq
    obtain ⟨⟨⟨⟨a1, b1⟩, ⟨c1, d1⟩⟩, ok1⟩, hr⟩ : ∃ r, enclP L pl pc o n = r := ⟨_, rfl⟩
    have HR1 := Lib.hid hr
    cases ok1 with
    | false =>
      have HY := Lib.hid (bracketP_none (around := true) hr)
      clear hb hr
      go_enter Try.func55, Try.ntmps55
      go_wp2_with (first | (go_at_call 100; refine (on_at _ _ L _ _ _ _ (by (repeat (first | assumption | refine LinesAt.ovr ?_ _ | refine LinesAt.alloc ?_ _ | refine LinesAt.drewN ?_ _ | refine LinesAt.drew ?_))) HON).mono ?_; rintro e w1 ⟨rfl, hbl⟩; obtain ⟨x, rfl⟩ := ovr_of_below hbl; clear hbl) | (go_at_call 51; refine (rencl_any _ _ L _ _ _ _ _ (by (repeat (first | assumption | refine LinesAt.ovr ?_ _ | refine LinesAt.alloc ?_ _ | refine LinesAt.drewN ?_ _ | refine LinesAt.drew ?_))) (by omega) (by omega)).mono ?_; rw [HR1.out]; rintro e w1 ⟨rfl, hbl⟩; obtain ⟨x, rfl⟩ := ovr_of_below hbl; clear hbl))
      refine bodyPost_ret (v := rngV noR) (by simp [results, Try.results55, go_sem, noR]) rfl ⟨by rw [HY.out], by (repeat (first | with_reducible exact Below.refl _ _ | (with_reducible refine Below.setCell ?_ ?_ _; rotate_left; · (first | exact Nat.le_refl _ | assumption | omega | (simp; done) | (simp; omega))) | (with_reducible refine Below.alloc ?_ ?_ _; rotate_left; · (first | exact Nat.le_refl _ | assumption | omega | (simp; done) | (simp; omega))) | with_reducible refine below_ovr_of ?_ | with_reducible refine drew_below ?_ _ | with_reducible refine Below.drew ?_ | with_reducible assumption))⟩
    | true =>
      have HY := Lib.hid (bracketP_out hb hr)
      obtain ⟨g1, g2, g3, g4⟩ := enclP_bd hr
      have g5 : b1 ≤ 1000000 := by omega
      have g6 : d1 ≤ 1000000 := by omega
      clear hb hr g2 g4
      go_enter Try.func55, Try.ntmps55
      go_wp2_with (first | (go_at_call 100; refine (on_at _ _ L _ _ _ _ (by (repeat (first | assumption | refine LinesAt.ovr ?_ _ | refine LinesAt.alloc ?_ _ | refine LinesAt.drewN ?_ _ | refine LinesAt.drew ?_))) HON).mono ?_; rintro e w1 ⟨rfl, hbl⟩; obtain ⟨x, rfl⟩ := ovr_of_below hbl; clear hbl) | (go_at_call 51; refine (rencl_any _ _ L _ _ _ _ _ (by (repeat (first | assumption | refine LinesAt.ovr ?_ _ | refine LinesAt.alloc ?_ _ | refine LinesAt.drewN ?_ _ | refine LinesAt.drew ?_))) (by omega) (by omega)).mono ?_; rw [HR1.out]; rintro e w1 ⟨rfl, hbl⟩; obtain ⟨x, rfl⟩ := ovr_of_below hbl; clear hbl) | (go_at_call 116; refine (char_any _ _ _ _ _).mono ?_; rintro e w1 ⟨rfl, hbl⟩; obtain ⟨x, rfl⟩ := ovr_of_below hbl; clear hbl))
      refine bodyPost_ret (v := rngV ((0, a1, b1, c1, d1 + 1), true)) (by simp [results, Try.results55, go_sem]) rfl ⟨by rw [HY.out], by (repeat (first | with_reducible exact Below.refl _ _ | (with_reducible refine Below.setCell ?_ ?_ _; rotate_left; · (first | exact Nat.le_refl _ | assumption | omega | (simp; done) | (simp; omega))) | (with_reducible refine Below.alloc ?_ ?_ _; rotate_left; · (first | exact Nat.le_refl _ | assumption | omega | (simp; done) | (simp; omega))) | with_reducible refine below_ovr_of ?_ | with_reducible refine drew_below ?_ _ | with_reducible refine Below.drew ?_ | with_reducible assumption))⟩
end Go.Proofs.Ytlbbgocggifjaaa
