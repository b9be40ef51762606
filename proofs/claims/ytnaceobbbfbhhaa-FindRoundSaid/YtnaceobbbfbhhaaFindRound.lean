/- The walk of the law FindRound. Conditions: none beyond what it says. -/
import Derived.Test.YtnaceobbbfbhhaaFindLaws
import Derived.Deep.RegionHeld3
import Derived.OpenShut
namespace Go.Proofs.Ytnaceobbbfbhhaa
open Go.RowKit

theorem pre_self {u : ByteArray} (m : Nat) : preB u (u.extract 0 m) = true := by
  have e : (u.extract 0 m).size = min m u.size := by rw [ByteArray.size_extract]; omega
  rw [preB, e, decide_eq_true (by omega), Bool.true_and]
  rw [beq_iff_eq, Go.ByteArray.toList_eq, Go.ByteArray.toList_eq, ByteArray.data_extract, ByteArray.data_extract, Array.toList_extract, Array.toList_extract, List.extract_eq_take_drop, List.extract_eq_take_drop, List.take_eq_take_iff, List.length_drop, list_len]
  omega
theorem extract_all (u : ByteArray) : u.extract 0 u.size = u := by
  apply toList_inj
  rw [Go.ByteArray.toList_eq, Go.ByteArray.toList_eq, ByteArray.data_extract, Array.toList_extract, List.extract_eq_take_drop, List.drop_zero, List.take_of_length_le (by rw [list_len]; omega)]
theorem own_here {l c : Nat} {R : List (Nat × Nat)} (hs : R.Pairwise ltN) (h : (l, c) ∈ R) : fOwn l c R = [(l, c)] := by
  have hm : (l, c) ∈ fOwn (l : Int) (c : Int) R := List.mem_filter.2 ⟨h, by simp [lessB]⟩
  have h1 := fOwn_one (l := (l : Int)) (c := (c : Int)) hs
  rcases ho : fOwn (l : Int) (c : Int) R with _ | ⟨x, _ | ⟨y, T⟩⟩
  · rw [ho] at hm; simp at hm
  · rw [ho] at hm
    have : (l, c) = x := by simpa using hm
    rw [this]
  · rw [ho] at h1; simp at h1
/-- Round and back: the last of all is the place itself, and back from the first is too. -/
theorem round_plain {l c : Nat} {R : List (Nat × Nat)} (hs : R.Pairwise ltN) (h : (l, c) ∈ R) :
    (rndP l c R false).getD (R.length - 1) (0, 0) = (l, c) ∧ ∃ x y, (x, y) ∈ R ∧ (rndP l c R false).getD 0 (0, 0) = (x, y) ∧ (rndP x y R true).getD 0 (0, 0) = (l, c) := by
  have ho := own_here hs h
  have hsp := split3 (l := (l : Int)) (c := (c : Int)) hs
  have hlen := len3 (l : Int) (c : Int) hs
  rw [ho] at hsp hlen
  obtain ⟨A, hA⟩ : ∃ A, fAhd (l : Int) (c : Int) R = A := ⟨_, rfl⟩
  obtain ⟨B, hB⟩ : ∃ B, behR (l : Int) (c : Int) R = B := ⟨_, rfl⟩
  have hr : rndP l c R false = B ++ (A ++ [(l, c)]) := by rw [rndP, ho, hA, hB]; simp
  rw [hA, hB] at hsp hlen
  simp only [List.length_cons, List.length_nil] at hlen
  have hs' := hs
  rw [hsp] at hs'
  rw [hr]
  refine ⟨?_, ?_⟩
  · rw [List.getD_eq_getElem?_getD, List.getElem?_append_right (by omega), List.getElem?_append_right (by omega), show R.length - 1 - B.length - A.length = 0 by omega]
    rfl
  · rcases B with _ | ⟨⟨x, y⟩, B'⟩
    · rcases A with _ | ⟨⟨x, y⟩, A'⟩
      · refine ⟨l, c, h, rfl, ?_⟩
        rw [rndP, if_pos rfl, ho, hA, hB]; rfl
      · have hm : (x, y) ∈ R := by rw [hsp]; simp
        refine ⟨x, y, hm, rfl, ?_⟩
        have hox := own_here hs hm
        have hsx := split3 (l := (x : Int)) (c := (y : Int)) hs
        have ha : fAhd (x : Int) (y : Int) R = [] := by
          rw [fAhd, hsp]
          exact filter_cut (l := (x : Int)) (c := (y : Int)) (A := []) (x := (x, y)) (T := A' ++ ([(l, c)] ++ [])) (by simpa using hs') (by simp) (by simp [lessB])
        rw [hox, ha] at hsx
        have hb : behR (x : Int) (y : Int) R = A' ++ [(l, c)] := by
          have := hsx.symm.trans hsp
          simpa using this
        rw [rndP, if_pos rfl, ha, hb]
        simp
    · have hm : (x, y) ∈ R := by rw [hsp]; simp
      refine ⟨x, y, hm, rfl, ?_⟩
      have hlt : ∀ p ∈ A ++ [(l, c)], ltN p (x, y) := by
        have h3 := (List.pairwise_append.1 (by simpa using hs' : ((A ++ [(l, c)]) ++ ((x, y) :: B')).Pairwise ltN)).2.2
        exact fun p hp => h3 p hp _ (by simp)
      have ha : fAhd (x : Int) (y : Int) R = A ++ [(l, c)] := by
        rw [fAhd, hsp]
        have := filter_cut (A := A ++ [(l, c)]) (x := (x, y)) (T := B') (l := (x : Int)) (c := (y : Int)) (by simpa using hs') (fun p hp => ltN_less.2 (hlt p hp)) (by simp [lessB])
        simpa using this
      rw [rndP, if_pos rfl, ha]
      simp
theorem round_search {L : List ByteArray} {l c : Nat} {t : ByteArray} (ht : t.size ≠ 0) (hl : l < L.length) (hp : plcB L l c = true) (hh : hasB (L.getD l .empty) t c = true) (htot : total L ≤ 1200) :
    searchP L l c t false ((allP L t).length : Int) = (((l : Int), (c : Int), 0, true, -1), true) ∧ ∃ x y : Nat, searchP L l c t false 1 = (((x : Int), (y : Int), 0, true, -1), true) ∧ searchP L x y t true 1 = (((l : Int), (c : Int), 0, true, -1), true) := by
  have hm := allP_has ht hl hh
  have hs := allP_sorted L t
  have hn : allP L t ≠ [] := fun e => by rw [e] at hm; simp at hm
  have hlen : 0 < (allP L t).length := List.length_pos_iff.2 hn
  have hle := (allP_in (L := L) (t := t)).2
  obtain ⟨r1, x, y, r2, r3, r4⟩ := round_plain hs hm
  have e1 : (min ((1 : Nat) : Int) 1073741824 - 1) % ((allP L t).length : Int) = 0 := by
    rw [show min ((1 : Nat) : Int) 1073741824 - 1 = 0 by omega]; exact Int.zero_emod _
  refine ⟨?_, x, y, ?_, ?_⟩
  · rw [searchP, if_pos ⟨hp, by omega, hn⟩]
    have e : (min ((allP L t).length : Int) 1073741824 - 1) % ((allP L t).length : Int) = (((allP L t).length - 1 : Nat) : Int) := by
      rw [show min ((allP L t).length : Int) 1073741824 - 1 = (((allP L t).length - 1 : Nat) : Int) by omega]
      exact Int.emod_eq_of_lt (by omega) (by omega)
    rw [e, Int.toNat_natCast, r1]; rfl
  · rw [searchP, if_pos ⟨hp, by omega, hn⟩]
    have e1' : (min (1 : Int) 1073741824 - 1) % ((allP L t).length : Int) = 0 := e1
    rw [e1', Int.toNat_zero, r3]; rfl
  · have hq := (allP_in (L := L) (t := t)).1 _ r2
    have hpx : plcB L x y = true := by
      rw [plcB_in (by omega) (by simp only at hq; omega) (by omega)]
      simp only [Int.toNat_natCast, decide_eq_true_eq]
      simp only at hq; omega
    rw [searchP, if_pos ⟨hpx, by omega, hn⟩]
    have e1' : (min (1 : Int) 1073741824 - 1) % ((allP L t).length : Int) = 0 := e1
    rw [e1', Int.toNat_zero, r4]; rfl
set_option maxRecDepth 100000 in
set_option maxHeartbeats 4000000 in
theorem findRound_walk (a : Option Addr) (cap : Nat) (L : List ByteArray) (sa : Int) (sb : Int) (key : Int) (W : World) (hL : LinesAt W a L) (hsa : 0 ≤ sa ∧ sa ≤ 65535) (hsb : 0 ≤ sb ∧ sb ≤ 65535) (hkey : 0 ≤ key ∧ key ≤ 255) :
    Calls Try.prog 8 #[.slice a L.length cap, .int .u16 sa, .int .u16 sb, .int .u8 key] W fun e W' => e = .returned (.bool true) ∧ Below W.heap.size W W' := by
  cases hli : textB L with
  | false =>
    go_enter Try.func8, Try.ntmps8
    go_wp2_with (first | (go_at_call 37; refine (known12_any _).mono ?_; rintro e w1 ⟨rfl, hbl⟩; obtain ⟨x, rfl⟩ := ovr_of_below hbl; clear hbl) | (go_at_call 35; refine (text_any _ _ L _ (by (repeat (first | assumption | refine LinesAt.ovr ?_ _ | refine LinesAt.alloc ?_ _ | refine LinesAt.drewN ?_ _ | refine LinesAt.drew ?_)))).mono ?_; rintro e w1 ⟨rfl, rfl⟩))
    go_ret
    exact ⟨rfl, by (repeat (first | exact Below.refl _ _ | refine Below.alloc ?_ (by first | exact Nat.le_refl _ | (simp; done) | (simp; omega)) _ | refine below_ovr_of ?_ | refine drew_below ?_ _ | refine Below.drew ?_ | refine Below.setCell ?_ (by first | exact Nat.le_refl _ | (simp; done) | (simp; omega)) _ | assumption))⟩
  | true =>
    obtain ⟨h0, hn, htot, _⟩ := text_spec hli
    obtain ⟨pl, pc, hsl, hsc, hp_pl⟩ := seat_facts (L := L) (x := sa) (y := sb) h0 hsa.1
    have HSLpl := Lib.hid hsl
    have HSCpl := Lib.hid hsc
    clear hsl hsc
    go_enter Try.func8, Try.ntmps8
    go_wp2_with (first | (go_at_call 37; refine (known12_any _).mono ?_; rintro e w1 ⟨rfl, hbl⟩; obtain ⟨x, rfl⟩ := ovr_of_below hbl; clear hbl) | (go_at_call 35; refine (text_any _ _ L _ (by (repeat (first | assumption | refine LinesAt.ovr ?_ _ | refine LinesAt.alloc ?_ _ | refine LinesAt.drewN ?_ _ | refine LinesAt.drew ?_)))).mono ?_; rintro e w1 ⟨rfl, rfl⟩))
    go_at_call 38; refine (seat_at _ _ L _ _ _ (by (repeat (first | assumption | refine LinesAt.ovr ?_ _ | refine LinesAt.alloc ?_ _ | refine LinesAt.drewN ?_ _ | refine LinesAt.drew ?_))) h0 hsa hsb HSLpl HSCpl).mono ?_; rintro e w1 ⟨rfl, hbl⟩; obtain ⟨y1, rfl⟩ := ovr_of_below hbl; clear hbl
    obtain ⟨p1, p2, p3, p4⟩ := plcB_spec hp_pl
    obtain ⟨l, rfl⟩ := Int.eq_ofNat_of_zero_le p1
    obtain ⟨c, rfl⟩ := Int.eq_ofNat_of_zero_le p3
    have hl : l < L.length := by omega
    have hlI : (l : Int) < (L.length : Int) := by omega
    have hl0 : (0 : Int) ≤ (l : Int) := by omega
    have hsz := sizes_le htot
    obtain ⟨b, off, s, hab, hb, hcell, hs, HS⟩ := line_facts' hL hl
    subst hab
    rw [Int.toNat_natCast, HS.out] at p4
    have hss := hsz s (by rw [← HS.out]; exact getD_mem L .empty l hl)
    have htl : L.length + total L ≤ 100000 := by omega
    go_wp2
    refine name_ptr 9 rfl ?_
    intro Q hQ
    rw [← hQ]
    refine name_world ?_
    intro W9 hW9
    have gq0 : W9.cell? ⟨Q, 0, none⟩ = some (.int .i64 (l : Int)) := by rw [hW9, hQ]; simp [go_sem]
    have gq1 : W9.cell? ⟨Q, 1, none⟩ = some (.int .i64 (c : Int)) := by rw [hW9, hQ]; simp [go_sem]
    have gcell : W9.cell? ⟨b, off + l, none⟩ = some (.string s) := by rw [hW9]; simp [go_sem, hcell, hb]
    have hL9 : LinesAt W9 (some ⟨b, off, none⟩) L := by rw [hW9]; (repeat (first | assumption | refine LinesAt.ovr ?_ _ | refine LinesAt.alloc ?_ _ | refine LinesAt.drewN ?_ _ | refine LinesAt.drew ?_))
    have hbel9 : Below W.heap.size W W9 := by rw [hW9]; (repeat (first | exact Below.refl _ _ | refine Below.alloc ?_ (by first | exact Nat.le_refl _ | (simp; done) | (simp; omega)) _ | refine below_ovr_of ?_ | refine drew_below ?_ _ | refine Below.drew ?_ | refine Below.setCell ?_ (by first | exact Nat.le_refl _ | (simp; done) | (simp; omega)) _ | assumption))
    have hs9 := hbel9.size
    have gQl := cell_lt9 gq0
    clear hW9 hQ hsz hs p1 p3
    go_quiet (fail)
    obtain ⟨W8, hW8⟩ : ∃ W8, W9.drewN nq = W8 := ⟨_, rfl⟩
    rw [hW8]
    have gq8 : W8.cell? ⟨Q, 0, none⟩ = some (.int .i64 (l : Int)) := by rw [← hW8]; exact gq0
    have gp8 : W8.cell? ⟨Q, 1, none⟩ = some (.int .i64 (c : Int)) := by rw [← hW8]; exact gq1
    have gc8 : W8.cell? ⟨b, off + l, none⟩ = some (.string s) := by rw [← hW8]; exact gcell
    have hL8 : LinesAt W8 (some ⟨b, off, none⟩) L := by rw [← hW8]; exact hL9.drewN nq
    have hbel8 : Below W.heap.size W W8 := by rw [← hW8]; exact drew_below hbel9 nq
    have hs8 := hbel8.size
    have gl8 := cell_lt9 gq8
    clear hW8 gq0 gq1 gcell hL9 hbel9 hs9 gQl
    have hus : (s.extract c s.size).size ≤ 100000 := by rw [ByteArray.size_extract]; omega
    obtain ⟨u, hu⟩ : ∃ u, s.extract c s.size = u := ⟨_, rfl⟩
    rw [hu] at hus ⊢
    obtain ⟨m, hm⟩ : ∃ m : Nat, key % 3 = (m : Int) := ⟨(key % 3).toNat, by omega⟩
    obtain ⟨hk1, hk2⟩ := hkey
    have hm4 : (m : Int) < 3 := by omega
    obtain ⟨mp, hmp⟩ : ∃ mp : Nat, (m : Int) + 1 = (mp : Int) := ⟨m + 1, by omega⟩
    have HU := Lib.hid hu
    clear hu
    have HPU := Lib.hid (hasB_pre (s := s) (t := u.extract 0 mp) (i := c) (by omega))
    have HPV := Lib.hid (hasB_pre (s := s) (t := u) (i := c) (by omega))
    rcases (by omega : (mp : Int) ≤ (u.size : Int) ∨ (u.size : Int) < (mp : Int)) with hmu | hmu
    case' inl =>
      have hmN : ¬ u.size < mp := by omega
      obtain ⟨sx, hse, hsx, hse2⟩ : ∃ sx, u.extract 0 mp = sx ∧ sx.size ≤ 100000 ∧ preB u sx = true := ⟨_, rfl, by rw [ByteArray.size_extract]; omega, pre_self _⟩
      have hpre : hasB s sx c = true := by rw [← hse, ← HPU.out, HU.out, hse]; exact hse2
    case' inr =>
      have hmN : u.size < mp := by omega
      obtain ⟨sx, hse, hsx, hse2⟩ : ∃ sx, u = sx ∧ sx.size ≤ 100000 ∧ preB u sx = true := ⟨_, rfl, hus, by have := pre_self (u := u) u.size; rwa [extract_all] at this⟩
      have hpre : hasB s sx c = true := by rw [← hse, ← HPV.out, HU.out]; rw [← hse] at hse2; exact hse2
    all_goals (
      have hpre2 := Lib.hid (show hasB (L.getD l .empty) sx c = true by rw [HS.out]; exact hpre)
      have hgo : (sx.size = 0 ∧ sx.toList.isEmpty = true) ∨ (sx.size ≠ 0 ∧ sx.toList.isEmpty = false) := by
        by_cases hx0 : sx.size = 0
        · exact .inl ⟨hx0, by rw [str_nil hx0, Go.ByteArray.toList_eq]; rfl⟩
        · exact .inr ⟨hx0, str_empty hx0⟩
      have HGO := Lib.hid hgo
      clear hpre hse2 hgo HPU HPV)
    case' inr =>
      rw [hse] at hmu hmN hus ⊢
      clear hse
    all_goals (
      rcases HGO.out with ⟨hx0, he⟩ | ⟨hx0, he⟩
      · go_wp2
        go_ret
        exact ⟨rfl, by (repeat (first | with_reducible exact Below.refl _ _ | (with_reducible refine Below.setCell ?_ ?_ _; rotate_left; · (first | exact Nat.le_refl _ | assumption | omega | (simp; done) | (simp; omega))) | (with_reducible refine Below.alloc ?_ ?_ _; rotate_left; · (first | exact Nat.le_refl _ | assumption | omega | (simp; done) | (simp; omega))) | with_reducible refine below_ovr_of ?_ | with_reducible refine drew_below ?_ _ | with_reducible refine Below.drew ?_ | with_reducible assumption))⟩
      · obtain ⟨q1, x, y, q2, q3⟩ := round_search hx0 hl hp_pl hpre2.out htot
        have HSN := Lib.hid (fun (w0 : World) (h0 : LinesAt w0 (some ⟨b, off, none⟩) L) => rall_any _ cap L sx w0 h0 htl hsx)
        have hSl := (allP_in (L := L) (t := sx)).2
        obtain ⟨R, hR⟩ : ∃ R, allP L sx = R := ⟨_, rfl⟩
        rw [hR] at q1 HSN hSl
        have Q1 := Lib.hid q1
        have Q2 := Lib.hid q2
        have Q3 := Lib.hid q3
        clear q1 q2 q3 hR
        go_wp2_with fail
        go_at_call 41
        refine (HSN.out _ (by (repeat (first | assumption | refine LinesAt.ovr ?_ _ | refine LinesAt.alloc ?_ _ | refine LinesAt.drewN ?_ _ | refine LinesAt.drew ?_)))).mono ?_
        rintro e w1 ⟨v, rfl, hrow, hbl⟩
        obtain ⟨sw, wcap, rfl, _⟩ := pairs_of_owns hrow
        obtain ⟨x2, rfl⟩ := ovr_of_below hbl
        clear hbl hrow
        go_wp2_with fail
        go_at_call 43; refine (psearch_any _ _ L _ _ _ _ _ _ (by (repeat (first | assumption | refine LinesAt.ovr ?_ _ | refine LinesAt.alloc ?_ _ | refine LinesAt.drewN ?_ _ | refine LinesAt.drew ?_))) htl hsx (by omega)).mono ?_; rw [Q1.out]; rintro e w1 ⟨rfl, hbl⟩; obtain ⟨x3, rfl⟩ := ovr_of_below hbl; clear hbl
        go_wp2_with fail
        go_at_call 43; refine (psearch_any _ _ L _ _ _ _ _ _ (by (repeat (first | assumption | refine LinesAt.ovr ?_ _ | refine LinesAt.alloc ?_ _ | refine LinesAt.drewN ?_ _ | refine LinesAt.drew ?_))) htl hsx (by omega)).mono ?_; rw [Q2.out]; rintro e w1 ⟨rfl, hbl⟩; obtain ⟨x4, rfl⟩ := ovr_of_below hbl; clear hbl
        go_wp2_with fail
        go_at_call 43; refine (psearch_any _ _ L _ _ _ _ _ _ (by (repeat (first | assumption | refine LinesAt.ovr ?_ _ | refine LinesAt.alloc ?_ _ | refine LinesAt.drewN ?_ _ | refine LinesAt.drew ?_))) htl hsx (by omega)).mono ?_; rw [Q3.out]; rintro e w1 ⟨rfl, hbl⟩; obtain ⟨x5, rfl⟩ := ovr_of_below hbl; clear hbl
        go_wp2
        go_ret
        exact ⟨by simp, by (repeat (first | with_reducible exact Below.refl _ _ | (with_reducible refine Below.setCell ?_ ?_ _; rotate_left; · (first | exact Nat.le_refl _ | assumption | omega | (simp; done) | (simp; omega))) | (with_reducible refine Below.alloc ?_ ?_ _; rotate_left; · (first | exact Nat.le_refl _ | assumption | omega | (simp; done) | (simp; omega))) | with_reducible refine below_ovr_of ?_ | with_reducible refine drew_below ?_ _ | with_reducible refine Below.drew ?_ | with_reducible assumption))⟩)

end Go.Proofs.Ytnaceobbbfbhhaa
