/- Several texts in one: Pair11, Match2. Conditions: none beyond what each says. -/
import Derived.Test.YtlbbgocggifjaaaOI16
namespace Go.Proofs.Ytlbbgocggifjaaa
open Go.RowKit

theorem kind_pair {c o s : Int} {op : Bool} (h : kindP c = (o, s, op, true)) : kindP o = (o, s, true, true) ∧ kindP s = (o, s, false, true) := by
  unfold kindP at h
  by_cases h1 : c = 40 ∨ c = 41
  · rw [if_pos h1] at h
    simp only [Prod.mk.injEq] at h
    obtain ⟨rfl, rfl, _, _⟩ := h
    decide
  · rw [if_neg h1] at h
    by_cases h2 : c = 91 ∨ c = 93
    · rw [if_pos h2] at h
      simp only [Prod.mk.injEq] at h
      obtain ⟨rfl, rfl, _, _⟩ := h
      decide
    · rw [if_neg h2] at h
      by_cases h3 : c = 123 ∨ c = 125
      · rw [if_pos h3] at h
        simp only [Prod.mk.injEq] at h
        obtain ⟨rfl, rfl, _, _⟩ := h
        decide
      · rw [if_neg h3] at h; simp at h
theorem kind_of_is {c : Int} (h : (kindP c).2.2.2 = true) : ∃ o s op, kindP c = (o, s, op, true) := by
  obtain ⟨⟨o, s, op, is⟩, hk⟩ : ∃ r, kindP c = r := ⟨_, rfl⟩
  rw [hk] at h
  have h' : is = true := h
  subst h'
  exact ⟨o, s, op, hk⟩
theorem otherP_back {B : List UInt8} {i t : Nat} (hi : i < B.length) (hk : (kindP (btI B i)).2.2.2 = true) (h : otherP B i = some t) : otherP B t = some i ∧ (kindP (btI B t)).2.2.2 = true ∧ t < B.length ∧ t ≠ i := by
  obtain ⟨o, s, op, hkk⟩ := kind_of_is hk
  obtain ⟨hos, h1, h2⟩ := kind_spec hkk
  obtain ⟨ko, ks⟩ := kind_pair hkk
  cases op with
  | true =>
    rw [otherP_open hkk] at h
    obtain ⟨e1, e2⟩ := other_fwd hos (h1 rfl) h
    have hb := scanF_spec _ (i + 1) 1 rfl t h
    have kt : kindP (btI B t) = (o, s, false, true) := by rw [e2]; exact ks
    exact ⟨by rw [otherP_shut kt]; exact e1, by rw [kt], hb.2, by omega⟩
  | false =>
    rw [otherP_shut hkk] at h
    obtain ⟨e1, e2⟩ := other_bwd hos hi (h2 rfl) h
    have hb := scanB_spec i 1 t h
    have kt : kindP (btI B t) = (o, s, true, true) := by rw [e2]; exact ko
    exact ⟨by rw [otherP_open kt]; exact e1, by rw [kt], by omega, by omega⟩
theorem plcB_nat {L : List ByteArray} {l c : Nat} (hl : l < L.length) (hc : c ≤ (L.getD l .empty).size) : plcB L l c = true := by
  simp only [plcB, Int.toNat_natCast, decide_eq_true_eq]; omega
/-- From a bracket to the one that belongs to it. -/
theorem matchP_at {L : List ByteArray} {l c : Nat} (hl : l < L.length) (hc : c < (L.getD l .empty).size) (hk : (kindP (btI (flat L) (idx L l c))).2.2.2 = true) : matchP L l c = matchT L (otherP (flat L) (idx L l c)) := by
  rw [matchP_yes (plcB_nat hl (by omega)) rfl]
  rw [brkN_hit hc (by rw [byt_atM _ _ hc, ← flat_byte hl rfl hc]; exact hk)]
  rfl
theorem brkN_spec {s : ByteArray} : ∀ (k i : Nat), s.size - i = k → ∀ j, brkN s i = some j → i ≤ j ∧ j < s.size ∧ (kindP (byt s j)).2.2.2 = true
  | 0, i, h, j, hj => by rw [brkN_end (by omega)] at hj; cases hj
  | k + 1, i, h, j, hj => by
    by_cases hk : (kindP (byt s i)).2.2.2 = true
    · rw [brkN_hit (by omega) hk] at hj; cases hj; exact ⟨by omega, by omega, hk⟩
    · rw [brkN_miss (by omega) hk] at hj
      have := brkN_spec k (i + 1) (by omega) j hj
      exact ⟨by omega, this.2⟩
theorem matchP_back {L : List ByteArray} {pl pc : Int} {m : Mov} (h : matchP L pl pc = (m, true)) : ∃ tl tc ul uc : Int, m = (tl, tc, 1, true, -1) ∧ matchP L tl tc = ((ul, uc, 1, true, -1), true) ∧ matchP L ul uc = ((tl, tc, 1, true, -1), true) ∧ ¬ (ul = tl ∧ uc = tc) := by
  cases hp : plcB L pl pc with
  | false => rw [matchP_no hp] at h; simp [noMov] at h
  | true =>
    obtain ⟨p1, p2, p3, p4⟩ := plcB_spec hp
    obtain ⟨l, rfl⟩ := Int.eq_ofNat_of_zero_le p1
    obtain ⟨c, rfl⟩ := Int.eq_ofNat_of_zero_le p3
    have hl : l < L.length := by omega
    rw [matchP_yes hp rfl] at h
    cases hb : brkN (L.getD l .empty) c with
    | none => rw [hb] at h; simp [matchK, noMov] at h
    | some k =>
      obtain ⟨k1, k2, k3⟩ := brkN_spec _ c rfl k hb
      rw [hb, matchK] at h
      have hk : (kindP (btI (flat L) (idx L l k))).2.2.2 = true := by rw [flat_byte hl rfl k2, ← byt_atM _ _ k2]; exact k3
      cases ht : otherP (flat L) (idx L l k) with
      | none => rw [ht] at h; simp [matchT, noMov] at h
      | some t =>
        rw [ht, matchT] at h
        simp only [Prod.mk.injEq, and_true] at h
        have hi := idx_lt hl k2
        obtain ⟨q1, q2, q3, q4⟩ := otherP_back (by rw [flat_length]; exact hi) hk ht
        rw [flat_length] at q3
        obtain ⟨s1, s2, s3⟩ := plcOf_spec q3
        refine ⟨((plcOf L t).1 : Int), ((plcOf L t).2 : Int), (l : Int), (k : Int), h.symm, ?_, ?_, ?_⟩
        · rw [matchP_at s1 s2 (by rw [s3]; exact q2), s3, q1, matchT, plcOf_idx hl k2]
        · rw [matchP_at hl k2 hk, ht, matchT]
        · rintro ⟨e1, e2⟩
          have e1' : l = (plcOf L t).1 := by omega
          have e2' : k = (plcOf L t).2 := by omega
          rw [← e1', ← e2'] at s3
          exact q4 s3.symm
end Go.Proofs.Ytlbbgocggifjaaa
namespace Go.Proofs.Ytlbbgocggifjaaa
open Go.RowKit

theorem rkind_ways (c : Int) (w : World) {k1 k2 : Int} {k3 k4 : Bool} (h : Hid (kindP c = (k1, k2, k3, k4))) : Calls Try.prog 49 #[.int .u8 c] w fun e w' =>
    e = .returned (.tuple #[.int .u8 k1, .int .u8 k2, .bool k3, .bool k4]) ∧ w = w' := by
  have := rkind_any c w
  rw [h.out] at this
  exact this
set_option maxRecDepth 100000 in
set_option maxHeartbeats 4000000 in
theorem rmatch_any (a : Option Addr) (cap : Nat) (L : List ByteArray) (pl pc : Int) (w : World) (hL : LinesAt w a L) (htot : total L ≤ 1000000) :
    Calls Try.prog 46 #[.slice a L.length cap, .agg #[.int .i64 pl, .int .i64 pc]] w fun e w' => e = .returned (movV (matchP L pl pc)) ∧ Below w.heap.size w w' := by
  have hn := hL.2.1
  cases hp : plcB L pl pc with
  | false =>
    have HP := Lib.hid (matchP_no hp)
    have HQ : Hid ((plcB L pl pc && decide ((1 : Int) ≤ 1)) = false) := Lib.hid (by rw [hp]; rfl)
    go_enter Try.func46, Try.ntmps46
    go_wp2_with (first | (go_at_call 111; refine (rmay_any _ _ L _ _ _ _ (by (repeat (first | assumption | refine LinesAt.ovr ?_ _ | refine LinesAt.alloc ?_ _ | refine LinesAt.drewN ?_ _ | refine LinesAt.drew ?_)))).mono ?_; rw [HQ.out]; rintro e w1 ⟨rfl, hbl⟩; obtain ⟨x, rfl⟩ := ovr_of_below hbl; clear hbl) | (go_at_call 112; refine (rnone_any _).mono ?_; rintro e w1 ⟨rfl, hbl⟩; obtain ⟨x, rfl⟩ := ovr_of_below hbl; clear hbl))
    refine bodyPost_ret (v := movV noMov) (by simp [results, Try.results46, go_sem, noMov]) rfl ⟨by rw [HP.out], by (repeat (first | with_reducible exact Below.refl _ _ | (with_reducible refine Below.setCell ?_ ?_ _; rotate_left; · (first | exact Nat.le_refl _ | assumption | omega | (simp; done) | (simp; omega))) | (with_reducible refine Below.alloc ?_ ?_ _; rotate_left; · (first | exact Nat.le_refl _ | assumption | omega | (simp; done) | (simp; omega))) | with_reducible refine below_ovr_of ?_ | with_reducible refine drew_below ?_ _ | with_reducible refine Below.drew ?_ | with_reducible assumption))⟩
  | true =>
    obtain ⟨p1, p2, p3, p4⟩ := plcB_spec hp
    obtain ⟨l, rfl⟩ := Int.eq_ofNat_of_zero_le p1
    obtain ⟨c, rfl⟩ := Int.eq_ofNat_of_zero_le p3
    have hl : l < L.length := by omega
    obtain ⟨b, off, s, rfl, hb, hcell, hs, HS⟩ := line_facts' hL hl
    rw [Int.toNat_natCast, HS.out] at p4
    have hc : c ≤ s.size := by omega
    obtain ⟨R, hR⟩ : ∃ R, brkN s c = R := ⟨_, rfl⟩
    have hy := matchP_yes hp HS.out
    rw [hR] at hy
    have HY := Lib.hid hy
    have HQ : Hid ((plcB L l c && decide ((1 : Int) ≤ 1)) = true) := Lib.hid (by rw [hp]; rfl)
    have HR := Lib.hid hR
    clear hy hR p4
    go_enter Try.func46, Try.ntmps46
    go_wp2_with (go_at_call 111; refine (rmay_any _ _ L _ _ _ _ (by (repeat (first | assumption | refine LinesAt.ovr ?_ _ | refine LinesAt.alloc ?_ _ | refine LinesAt.drewN ?_ _ | refine LinesAt.drew ?_)))).mono ?_; rw [HQ.out]; rintro e w1 ⟨rfl, hbl⟩; obtain ⟨x, rfl⟩ := ovr_of_below hbl; clear hbl)
    go_loop [7] (fun q => ∃ k : Nat, k ≤ s.size ∧ q = .int .i64 k ∧ Hid (brkN s k = R)) (fun q => s.size - (intOf q).toNat)
    case atStart => exact ⟨c, hc, rfl, HR⟩
    case round =>
      obtain ⟨k, hk, rfl, HK⟩ := hrel
      by_cases hlt : k < s.size
      · have hltI : (k : Int) < (s.size : Int) := by omega
        have hbt := flat_byte hl HS.out hlt
        have hbs := byt_atM s k hlt
        obtain ⟨⟨k1, k2, k3, k4⟩, hkk⟩ : ∃ r, kindP (s[k].toNat : Int) = r := ⟨_, rfl⟩
        have HKK := Lib.hid hkk
        cases k4 with
        | false =>
          have HG := Lib.hid ((brkN_miss hlt (by rw [hbs, hkk]; simp)).symm.trans HK.out)
          clear hbt hbs hkk
          go_wp2_with (go_at_call 49; refine (rkind_ways _ _ HKK).mono ?_; rintro e w1 ⟨rfl, rfl⟩)
          go_round
          case rel => exact ⟨k + 1, by omega, by go_num, HG⟩
          case measure => first | (simp [intOf]; done) | (simp [intOf]; omega)
        | true =>
          have HG := Lib.hid (HK.out.symm.trans (brkN_hit hlt (by rw [hbs, hkk])))
          have hkt : (kindP (btI (flat L) (idx L l k))).2.2.2 = true := by rw [hbt, hkk]
          have hkl : k < (L.getD l .empty).size := by rw [HS.out]; exact hlt
          have HO := fun (w0 : World) (h : LinesAt w0 (some ⟨b, off, none⟩) L) => rother_any (some ⟨b, off, none⟩) cap L l k w0 h hl hkl htot hkt
          have HOO := Lib.hid HO
          obtain ⟨T, hT⟩ : ∃ T, otherP (flat L) (idx L l k) = T := ⟨_, rfl⟩
          have HT := Lib.hid hT
          clear hbt hbs hkk hkt hkl HO hT
          cases T with
          | none =>
            go_wp2_with (first
              | (go_at_call 49; refine (rkind_ways _ _ HKK).mono ?_; rintro e w1 ⟨rfl, rfl⟩)
              | (go_at_call 112; refine (rnone_any _).mono ?_; rintro e w1 ⟨rfl, hbl⟩; obtain ⟨x, rfl⟩ := ovr_of_below hbl; clear hbl)
              | (go_at_call 113; refine (HOO.out _ (by (repeat (first | assumption | refine LinesAt.ovr ?_ _ | refine LinesAt.alloc ?_ _ | refine LinesAt.drewN ?_ _ | refine LinesAt.drew ?_)))).mono ?_; rw [HT.out, optP, noPlc]; rintro e w1 ⟨rfl, hbl⟩; obtain ⟨x1, rfl⟩ := ovr_of_below hbl; clear hbl))
            refine bodyPost_ret (v := movV noMov) (by simp [results, Try.results46, go_sem, noMov]) rfl ⟨by rw [HY.out, HG.out, matchK, HT.out, matchT], by (repeat (first | with_reducible exact Below.refl _ _ | (with_reducible refine Below.setCell ?_ ?_ _; rotate_left; · (first | exact Nat.le_refl _ | assumption | omega | (simp; done) | (simp; omega))) | (with_reducible refine Below.alloc ?_ ?_ _; rotate_left; · (first | exact Nat.le_refl _ | assumption | omega | (simp; done) | (simp; omega))) | with_reducible refine below_ovr_of ?_ | with_reducible refine drew_below ?_ _ | with_reducible refine Below.drew ?_ | with_reducible assumption))⟩
          | some t =>
            go_wp2_with (first
              | (go_at_call 49; refine (rkind_ways _ _ HKK).mono ?_; rintro e w1 ⟨rfl, rfl⟩)
              | (go_at_call 112; refine (rnone_any _).mono ?_; rintro e w1 ⟨rfl, hbl⟩; obtain ⟨x, rfl⟩ := ovr_of_below hbl; clear hbl)
              | (go_at_call 113; refine (HOO.out _ (by (repeat (first | assumption | refine LinesAt.ovr ?_ _ | refine LinesAt.alloc ?_ _ | refine LinesAt.drewN ?_ _ | refine LinesAt.drew ?_)))).mono ?_; rw [HT.out, optP, atPlc]; rintro e w1 ⟨rfl, hbl⟩; obtain ⟨x1, rfl⟩ := ovr_of_below hbl; clear hbl))
            refine bodyPost_ret (v := movV ((((plcOf L t).1 : Int), ((plcOf L t).2 : Int), 1, true, -1), true)) (by simp [results, Try.results46, go_sem]) rfl ⟨by rw [HY.out, HG.out, matchK, HT.out, matchT], by (repeat (first | with_reducible exact Below.refl _ _ | (with_reducible refine Below.setCell ?_ ?_ _; rotate_left; · (first | exact Nat.le_refl _ | assumption | omega | (simp; done) | (simp; omega))) | (with_reducible refine Below.alloc ?_ ?_ _; rotate_left; · (first | exact Nat.le_refl _ | assumption | omega | (simp; done) | (simp; omega))) | with_reducible refine below_ovr_of ?_ | with_reducible refine drew_below ?_ _ | with_reducible refine Below.drew ?_ | with_reducible assumption))⟩
      · have hge : (s.size : Int) ≤ (k : Int) := by omega
        have HG := Lib.hid (HK.out.symm.trans (brkN_end (by omega)))
        go_wp2_with (go_at_call 112; refine (rnone_any _).mono ?_; rintro e w1 ⟨rfl, hbl⟩; obtain ⟨x, rfl⟩ := ovr_of_below hbl; clear hbl)
        refine bodyPost_ret (v := movV noMov) (by simp [results, Try.results46, go_sem, noMov]) rfl ⟨by rw [HY.out, HG.out, matchK], by (repeat (first | with_reducible exact Below.refl _ _ | (with_reducible refine Below.setCell ?_ ?_ _; rotate_left; · (first | exact Nat.le_refl _ | assumption | omega | (simp; done) | (simp; omega))) | (with_reducible refine Below.alloc ?_ ?_ _; rotate_left; · (first | exact Nat.le_refl _ | assumption | omega | (simp; done) | (simp; omega))) | with_reducible refine below_ovr_of ?_ | with_reducible refine drew_below ?_ _ | with_reducible refine Below.drew ?_ | with_reducible assumption))⟩
end Go.Proofs.Ytlbbgocggifjaaa
