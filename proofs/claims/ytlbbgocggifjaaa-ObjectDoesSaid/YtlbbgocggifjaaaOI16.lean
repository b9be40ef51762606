/- Several texts in one: Match, Encl. Conditions: none beyond what each says. -/
import Derived.Test.YtlbbgocggifjaaaOI14
import Derived.Test.YtlbbgocggifjaaaOI9
import Derived.Test.YtlbbgocggifjaaaBelV
namespace Go.Proofs.Ytlbbgocggifjaaa
open Go.RowKit

theorem byt_atM (s : ByteArray) (k : Nat) (h : k < s.size) : byt s k = (s[k].toNat : Int) := by
  unfold byt
  rw [List.getD_eq_getElem?_getD, list_at s k h]; rfl
/-- The first bracket of a line, from a byte on. -/
def brkN (s : ByteArray) (i : Nat) : Option Nat := if i < s.size then (if (kindP (byt s i)).2.2.2 = true then some i else brkN s (i + 1)) else none
termination_by s.size - i
theorem brkN_end {s : ByteArray} {i : Nat} (h : s.size ≤ i) : brkN s i = none := by
  have h' : ¬ i < s.size := by omega
  rw [brkN, if_neg h']
theorem brkN_hit {s : ByteArray} {i : Nat} (h : i < s.size) (hk : (kindP (byt s i)).2.2.2 = true) : brkN s i = some i := by rw [brkN, if_pos h, if_pos hk]
theorem brkN_miss {s : ByteArray} {i : Nat} (h : i < s.size) (hk : ¬ (kindP (byt s i)).2.2.2 = true) : brkN s i = brkN s (i + 1) := by rw [brkN, if_pos h, if_neg hk]
def matchT (L : List ByteArray) : Option Nat → Mov × Bool
  | none => noMov
  | some t => ((((plcOf L t).1 : Int), ((plcOf L t).2 : Int), 1, true, -1), true)
def matchK (L : List ByteArray) (l : Nat) : Option Nat → Mov × Bool
  | none => noMov
  | some k => matchT L (otherP (flat L) (idx L l k))
def matchP (L : List ByteArray) (l c : Int) : Mov × Bool := if plcB L l c = true then matchK L l.toNat (brkN (ln L l) c.toNat) else noMov
theorem kind_ways (c : Int) (w : World) {k1 k2 : Int} {k3 k4 : Bool} (h : Hid (kindP c = (k1, k2, k3, k4))) : Calls Try.prog 48 #[.int .u8 c] w fun e w' =>
    e = .returned (.tuple #[.int .u8 k1, .int .u8 k2, .bool k3, .bool k4]) ∧ w = w' := by
  have := kind_any c w
  rw [h.out] at this
  exact this
theorem matchP_no {L : List ByteArray} {l c : Int} (h : plcB L l c = false) : matchP L l c = noMov := by rw [matchP, if_neg (by rw [h]; simp)]
theorem matchP_yes {L : List ByteArray} {l c : Nat} {s : ByteArray} (h : plcB L l c = true) (hs : L.getD l .empty = s) : matchP L l c = matchK L l (brkN s c) := by
  rw [matchP, if_pos h, ln, Int.toNat_natCast, Int.toNat_natCast, hs]

set_option maxRecDepth 100000 in
set_option maxHeartbeats 4000000 in
theorem match_any (a : Option Addr) (cap : Nat) (L : List ByteArray) (pl pc : Int) (w : World) (hL : LinesAt w a L) (htot : total L ≤ 1000000) :
    Calls Try.prog 45 #[.slice a L.length cap, .agg #[.int .i64 pl, .int .i64 pc]] w fun e w' => e = .returned (movV (matchP L pl pc)) ∧ Below w.heap.size w w' := by
  have hn := hL.2.1
  cases hp : plcB L pl pc with
  | false =>
    have HP := Lib.hid (matchP_no hp)
    go_enter Try.func45, Try.ntmps45
    go_wp2_with (go_at_call 109; refine (place_any _ _ L _ _ _ (by (repeat (first | assumption | refine LinesAt.ovr ?_ _ | refine LinesAt.alloc ?_ _ | refine LinesAt.drewN ?_ _ | refine LinesAt.drew ?_)))).mono ?_; rintro e w1 ⟨rfl, hbl⟩; obtain ⟨x, rfl⟩ := ovr_of_below hbl; clear hbl)
    refine bodyPost_ret (v := movV noMov) (by simp [results, Try.results45, go_sem, noMov]) rfl ⟨by rw [HP.out], by (repeat (first | with_reducible exact Below.refl _ _ | (with_reducible refine Below.setCell ?_ ?_ _; rotate_left; · (first | exact Nat.le_refl _ | assumption | omega | (simp; done) | (simp; omega))) | (with_reducible refine Below.alloc ?_ ?_ _; rotate_left; · (first | exact Nat.le_refl _ | assumption | omega | (simp; done) | (simp; omega))) | with_reducible refine below_ovr_of ?_ | with_reducible refine drew_below ?_ _ | with_reducible refine Below.drew ?_ | with_reducible assumption))⟩
  | true =>
    obtain ⟨p1, p2, p3, p4⟩ := plcB_spec hp
    obtain ⟨l, rfl⟩ := Int.eq_ofNat_of_zero_le p1
    obtain ⟨c, rfl⟩ := Int.eq_ofNat_of_zero_le p3
    have hl : l < L.length := by omega
    obtain ⟨b, off, s, rfl, hb, hcell, hs, HS⟩ := line_facts' hL hl
    rw [Int.toNat_natCast, HS.out] at p4
    have hc : c ≤ s.size := by omega
    obtain ⟨R, hR⟩ : ∃ R, brkN s c = R := ⟨_, rfl⟩
    have hy := matchP_yes hp HS.out
    rw [hR] at hy
    have HY := Lib.hid hy
    have HR := Lib.hid hR
    clear hy hR p4
    go_enter Try.func45, Try.ntmps45
    go_wp2_with (go_at_call 109; refine (place_any _ _ L _ _ _ (by (repeat (first | assumption | refine LinesAt.ovr ?_ _ | refine LinesAt.alloc ?_ _ | refine LinesAt.drewN ?_ _ | refine LinesAt.drew ?_)))).mono ?_; rintro e w1 ⟨rfl, hbl⟩; obtain ⟨x, rfl⟩ := ovr_of_below hbl; clear hbl)
    go_loopg [5] (s.size - c) (fun g q wr => q = .bool false ∧ ∃ k : Nat, k ≤ s.size ∧ g = s.size - k ∧ Hid (brkN s k = R) ∧ wr = ovr ((w.alloc (.cells #[.int .i64 l, .int .i64 k] 29)).alloc (.cells #[.int .i64 0, .int .i64 0, .int .i64 0, .bool false, .int .i64 0] 60)) x)
    case atStart => exact ⟨rfl, c, hc, rfl, HR, rfl⟩
    case round =>
      obtain ⟨rfl, k, hk, rfl, HK, rfl⟩ := hrel
      by_cases hlt : k < s.size
      · have hltI : (k : Int) < (s.size : Int) := by omega
        have hbt := flat_byte hl HS.out hlt
        have hbs := byt_atM s k hlt
        obtain ⟨⟨k1, k2, k3, k4⟩, hkk⟩ : ∃ r, kindP (s[k].toNat : Int) = r := ⟨_, rfl⟩
        have HKK := Lib.hid hkk
        cases k4 with
        | false =>
          have HG := Lib.hid ((brkN_miss hlt (by rw [hbs, hkk]; simp)).symm.trans HK.out)
          clear hbt hbs hkk
          go_wp2_with (go_at_call 48; refine (kind_ways _ _ HKK).mono ?_; rintro e w1 ⟨rfl, rfl⟩)
          go_roundg (s.size - (k + 1))
          case measure => omega
          case rel => exact ⟨rfl, k + 1, by omega, rfl, HG, by simp [go_sem]⟩
        | true =>
          have HG := Lib.hid (HK.out.symm.trans (brkN_hit hlt (by rw [hbs, hkk])))
          have hkt : (kindP (btI (flat L) (idx L l k))).2.2.2 = true := by rw [hbt, hkk]
          have hkl : k < (L.getD l .empty).size := by rw [HS.out]; exact hlt
          have HO := fun (w0 : World) (h : LinesAt w0 (some ⟨b, off, none⟩) L) => other_any (some ⟨b, off, none⟩) cap L l k w0 h hl hkl htot hkt
          have HOO := Lib.hid HO
          obtain ⟨T, hT⟩ : ∃ T, otherP (flat L) (idx L l k) = T := ⟨_, rfl⟩
          have HT := Lib.hid hT
          clear hbt hbs hkk hkt hkl HO hT
          cases T with
          | none =>
            go_wp2_with (first
              | (go_at_call 48; refine (kind_ways _ _ HKK).mono ?_; rintro e w1 ⟨rfl, rfl⟩)
              | (go_at_call 110; refine (HOO.out _ (by (repeat (first | assumption | refine LinesAt.ovr ?_ _ | refine LinesAt.alloc ?_ _ | refine LinesAt.drewN ?_ _ | refine LinesAt.drew ?_)))).mono ?_; rw [HT.out, optP, noPlc]; rintro e w1 ⟨rfl, hbl⟩; obtain ⟨x1, rfl⟩ := ovr_of_below hbl; clear hbl))
            refine bodyPost_ret (v := movV noMov) (by simp [results, Try.results45, go_sem, noMov]) rfl ⟨by rw [HY.out, HG.out, matchK, HT.out, matchT], by (repeat (first | with_reducible exact Below.refl _ _ | (with_reducible refine Below.setCell ?_ ?_ _; rotate_left; · (first | exact Nat.le_refl _ | assumption | omega | (simp; done) | (simp; omega))) | (with_reducible refine Below.alloc ?_ ?_ _; rotate_left; · (first | exact Nat.le_refl _ | assumption | omega | (simp; done) | (simp; omega))) | with_reducible refine below_ovr_of ?_ | with_reducible refine drew_below ?_ _ | with_reducible refine Below.drew ?_ | with_reducible assumption))⟩
          | some t =>
            go_wp2_with (first
              | (go_at_call 48; refine (kind_ways _ _ HKK).mono ?_; rintro e w1 ⟨rfl, rfl⟩)
              | (go_at_call 110; refine (HOO.out _ (by (repeat (first | assumption | refine LinesAt.ovr ?_ _ | refine LinesAt.alloc ?_ _ | refine LinesAt.drewN ?_ _ | refine LinesAt.drew ?_)))).mono ?_; rw [HT.out, optP, atPlc]; rintro e w1 ⟨rfl, hbl⟩; obtain ⟨x1, rfl⟩ := ovr_of_below hbl; clear hbl))
            refine bodyPost_ret (v := movV ((((plcOf L t).1 : Int), ((plcOf L t).2 : Int), 1, true, -1), true)) (by simp [results, Try.results45, go_sem]) rfl ⟨by rw [HY.out, HG.out, matchK, HT.out, matchT], by (repeat (first | with_reducible exact Below.refl _ _ | (with_reducible refine Below.setCell ?_ ?_ _; rotate_left; · (first | exact Nat.le_refl _ | assumption | omega | (simp; done) | (simp; omega))) | (with_reducible refine Below.alloc ?_ ?_ _; rotate_left; · (first | exact Nat.le_refl _ | assumption | omega | (simp; done) | (simp; omega))) | with_reducible refine below_ovr_of ?_ | with_reducible refine drew_below ?_ _ | with_reducible refine Below.drew ?_ | with_reducible assumption))⟩
      · have hge : (s.size : Int) ≤ (k : Int) := by omega
        have HG := Lib.hid (HK.out.symm.trans (brkN_end (by omega)))
        go_wp2
        refine bodyPost_ret (v := movV noMov) (by simp [results, Try.results45, go_sem, noMov]) rfl ⟨by rw [HY.out, HG.out, matchK], by (repeat (first | with_reducible exact Below.refl _ _ | (with_reducible refine Below.setCell ?_ ?_ _; rotate_left; · (first | exact Nat.le_refl _ | assumption | omega | (simp; done) | (simp; omega))) | (with_reducible refine Below.alloc ?_ ?_ _; rotate_left; · (first | exact Nat.le_refl _ | assumption | omega | (simp; done) | (simp; omega))) | with_reducible refine below_ovr_of ?_ | with_reducible refine drew_below ?_ _ | with_reducible refine Below.drew ?_ | with_reducible assumption))⟩
end Go.Proofs.Ytlbbgocggifjaaa
namespace Go.Proofs.Ytlbbgocggifjaaa
open Go.RowKit

abbrev Enc := ((Int × Int) × (Int × Int)) × Bool
abbrev encV (r : Enc) : Value := .tuple #[.agg #[.int .i64 r.1.1.1, .int .i64 r.1.1.2], .agg #[.int .i64 r.1.2.1, .int .i64 r.1.2.2], .bool r.2]
attribute [go_sem] encV
def noEnc : Enc := (((0, 0), (0, 0)), false)
def encR (L : List ByteArray) : Option (Nat × Nat) → Enc
  | none => noEnc
  | some (j, t) => (((((plcOf L j).1 : Int), ((plcOf L j).2 : Int)), (((plcOf L t).1 : Int), ((plcOf L t).2 : Int))), true)
def enclP (L : List ByteArray) (pl pc open' n : Int) : Enc :=
  if plcB L pl pc = true ∧ 1 ≤ n ∧ (kindP open').2.2.1 = true then
    encR L (encF (flat L) (kindP open').1 (kindP open').2.1 (idx L pl.toNat pc.toNat) n (if pc < (ln L pl).size then idx L pl.toNat pc.toNat + 1 else idx L pl.toNat pc.toNat))
  else noEnc
theorem enclP_no {L : List ByteArray} {pl pc o n : Int} (h : ¬ (plcB L pl pc = true ∧ 1 ≤ n ∧ (kindP o).2.2.1 = true)) : enclP L pl pc o n = noEnc := by rw [enclP, if_neg h]


set_option maxHeartbeats 1000000 in
theorem encl_no (a : Option Addr) (cap : Nat) (L : List ByteArray) (pl pc o n : Int) (w : World) (hL : LinesAt w a L) (h : ¬ (plcB L pl pc = true ∧ 1 ≤ n ∧ (kindP o).2.2.1 = true)) :
    Calls Try.prog 50 #[.slice a L.length cap, .agg #[.int .i64 pl, .int .i64 pc], .int .u8 o, .int .i64 n] w fun e w' => e = .returned (encV (enclP L pl pc o n)) ∧ Below w.heap.size w w' := by
  have HP := Lib.hid (enclP_no h)
  obtain ⟨⟨k1, k2, k3, k4⟩, hkk⟩ : ∃ r, kindP o = r := ⟨_, rfl⟩
  rw [hkk] at h
  have HK := Lib.hid hkk
  clear hkk
  by_cases h1 : 1 ≤ n
  · cases k3 with
    | false =>
      clear h
      go_enter Try.func50, Try.ntmps50
      go_wp2_with (go_at_call 48; refine (kind_ways _ _ HK).mono ?_; rintro e w1 ⟨rfl, rfl⟩)
      refine bodyPost_ret (v := encV noEnc) (by simp [results, Try.results50, go_sem, noEnc]) rfl ⟨by rw [HP.out], by (repeat (first | with_reducible exact Below.refl _ _ | (with_reducible refine Below.setCell ?_ ?_ _; rotate_left; · (first | exact Nat.le_refl _ | assumption | omega | (simp; done) | (simp; omega))) | (with_reducible refine Below.alloc ?_ ?_ _; rotate_left; · (first | exact Nat.le_refl _ | assumption | omega | (simp; done) | (simp; omega))) | with_reducible refine below_ovr_of ?_ | with_reducible refine drew_below ?_ _ | with_reducible refine Below.drew ?_ | with_reducible assumption))⟩
    | true =>
      cases hp : plcB L pl pc with
      | true => exact absurd ⟨hp, h1, rfl⟩ h
      | false =>
        clear h
        go_enter Try.func50, Try.ntmps50
        go_wp2_with (first | (go_at_call 48; refine (kind_ways _ _ HK).mono ?_; rintro e w1 ⟨rfl, rfl⟩) | (go_at_call 109; refine (place_any _ _ L _ _ _ (by (repeat (first | assumption | refine LinesAt.ovr ?_ _ | refine LinesAt.alloc ?_ _ | refine LinesAt.drewN ?_ _ | refine LinesAt.drew ?_)))).mono ?_; rintro e w1 ⟨rfl, hbl⟩; obtain ⟨x, rfl⟩ := ovr_of_below hbl; clear hbl))
        refine bodyPost_ret (v := encV noEnc) (by simp [results, Try.results50, go_sem, noEnc]) rfl ⟨by rw [HP.out], by (repeat (first | with_reducible exact Below.refl _ _ | (with_reducible refine Below.setCell ?_ ?_ _; rotate_left; · (first | exact Nat.le_refl _ | assumption | omega | (simp; done) | (simp; omega))) | (with_reducible refine Below.alloc ?_ ?_ _; rotate_left; · (first | exact Nat.le_refl _ | assumption | omega | (simp; done) | (simp; omega))) | with_reducible refine below_ovr_of ?_ | with_reducible refine drew_below ?_ _ | with_reducible refine Below.drew ?_ | with_reducible assumption))⟩
  · have h1' : n < 1 := by omega
    clear h h1
    go_enter Try.func50, Try.ntmps50
    go_wp2_with (go_at_call 48; refine (kind_ways _ _ HK).mono ?_; rintro e w1 ⟨rfl, rfl⟩)
    refine bodyPost_ret (v := encV noEnc) (by simp [results, Try.results50, go_sem, noEnc]) rfl ⟨by rw [HP.out], by (repeat (first | with_reducible exact Below.refl _ _ | (with_reducible refine Below.setCell ?_ ?_ _; rotate_left; · (first | exact Nat.le_refl _ | assumption | omega | (simp; done) | (simp; omega))) | (with_reducible refine Below.alloc ?_ ?_ _; rotate_left; · (first | exact Nat.le_refl _ | assumption | omega | (simp; done) | (simp; omega))) | with_reducible refine below_ovr_of ?_ | with_reducible refine drew_below ?_ _ | with_reducible refine Below.drew ?_ | with_reducible assumption))⟩
end Go.Proofs.Ytlbbgocggifjaaa
