/- The walk of the law FindEach. Conditions: none beyond what it says. -/
import Derived.Test.YtnaceobbbfbhhaaFindLaws
import Derived.Deep.RegionHeld3
import Derived.OpenShut
namespace Go.Proofs.Ytnaceobbbfbhhaa
open Go.RowKit

theorem fAhd_at {R : List (Nat × Nat)} {i : Nat} (hs : R.Pairwise ltN) (hi : i < R.length) : fAhd ((R.getD i (0, 0)).1 : Int) ((R.getD i (0, 0)).2 : Int) R = R.take i := by
  obtain ⟨h1, h2⟩ := sorted_at hs hi
  have e := get_split hi
  obtain ⟨g, hg⟩ : ∃ g, R.getD i (0, 0) = g := ⟨_, rfl⟩
  rw [hg] at h1 e ⊢
  have hs' := hs
  rw [e] at hs'
  rw [fAhd]
  conv => lhs; rw [e]
  exact filter_cut hs' (fun p hp => ltN_less.2 (h1 p hp)) (by simp [lessB])
theorem fOwn_at {R : List (Nat × Nat)} {i : Nat} (hs : R.Pairwise ltN) (hi : i < R.length) : fOwn ((R.getD i (0, 0)).1 : Int) ((R.getD i (0, 0)).2 : Int) R = [R.getD i (0, 0)] := by
  have hm : R.getD i (0, 0) ∈ R := getD_mem R (0, 0) i hi
  obtain ⟨⟨x, y⟩, hg⟩ : ∃ g, R.getD i (0, 0) = g := ⟨_, rfl⟩
  rw [hg] at hm ⊢
  have hmo : (x, y) ∈ fOwn (x : Int) (y : Int) R := List.mem_filter.2 ⟨hm, by simp [lessB]⟩
  have h1 := fOwn_one (l := (x : Int)) (c := (y : Int)) hs
  rcases ho : fOwn (x : Int) (y : Int) R with _ | ⟨z, _ | ⟨y, T⟩⟩
  · rw [ho] at hmo; simp at hmo
  · rw [ho] at hmo
    have : (x, y) = z := by simpa using hmo
    rw [this]
  · rw [ho] at h1; simp at h1
theorem getD_drop' (R : List (Nat × Nat)) (k j : Nat) : (R.drop k).getD j (0, 0) = R.getD (k + j) (0, 0) := by
  rw [List.getD_eq_getElem?_getD, List.getD_eq_getElem?_getD, List.getElem?_drop]
theorem getD_take' {R : List (Nat × Nat)} {k j : Nat} (h : j < k) : (R.take k).getD j (0, 0) = R.getD j (0, 0) := by
  rw [List.getD_eq_getElem?_getD, List.getD_eq_getElem?_getD, List.getElem?_take_of_lt h]
theorem getD_app {A B : List (Nat × Nat)} {j : Nat} : (A ++ B).getD j (0, 0) = if j < A.length then A.getD j (0, 0) else B.getD (j - A.length) (0, 0) := by
  split
  · rename_i h; rw [List.getD_eq_getElem?_getD, List.getD_eq_getElem?_getD, List.getElem?_append_left h]
  · rename_i h; rw [List.getD_eq_getElem?_getD, List.getD_eq_getElem?_getD, List.getElem?_append_right (by omega)]
theorem getD_rev' {A : List (Nat × Nat)} {j : Nat} (h : j < A.length) : A.reverse.getD j (0, 0) = A.getD (A.length - 1 - j) (0, 0) := by
  rw [List.getD_eq_getElem?_getD, List.getD_eq_getElem?_getD, List.getElem?_reverse h]
/-- The way round from the i-th place: the next ones, one by one. -/
theorem rnd_fwd {R : List (Nat × Nat)} {i j : Nat} (hs : R.Pairwise ltN) (hi : i < R.length) (hj : j < R.length) :
    (rndP ((R.getD i (0, 0)).1 : Int) ((R.getD i (0, 0)).2 : Int) R false).getD j (0, 0) = R.getD ((i + 1 + j) % R.length) (0, 0) := by
  rw [rndP, if_neg (by decide), behR_at hs hi, fAhd_at hs hi, fOwn_at hs hi, getD_app, List.length_drop]
  split
  · rw [getD_drop', Nat.mod_eq_of_lt (by omega)]
  · have e : (i + 1 + j) % R.length = i + 1 + j - R.length := by
      rw [Nat.mod_eq_sub_mod (by omega), Nat.mod_eq_of_lt (by omega)]
    rw [e, getD_app, List.length_take, Nat.min_eq_left (by omega)]
    split
    · rw [getD_take' (by omega)]; congr 1; omega
    · rw [show j - (R.length - (i + 1)) - i = 0 by omega, show i + 1 + j - R.length = i by omega]; rfl
theorem rnd_bwd {R : List (Nat × Nat)} {i j : Nat} (hs : R.Pairwise ltN) (hi : i < R.length) (hj : j < R.length) :
    (rndP ((R.getD i (0, 0)).1 : Int) ((R.getD i (0, 0)).2 : Int) R true).getD j (0, 0) = R.getD ((i + R.length - 1 - j) % R.length) (0, 0) := by
  rw [rndP, if_pos rfl, behR_at hs hi, fAhd_at hs hi, fOwn_at hs hi, getD_app, List.length_reverse, List.length_take, Nat.min_eq_left (by omega)]
  split
  · have e : (i + R.length - 1 - j) % R.length = i - 1 - j := by
      rw [Nat.mod_eq_sub_mod (by omega), Nat.mod_eq_of_lt (by omega)]; omega
    rw [e, getD_rev' (by simp; omega), List.length_take, Nat.min_eq_left (by omega), getD_take' (by omega)]
  · rw [getD_app, List.length_reverse, List.length_drop]
    split
    · rw [getD_rev' (by simp; omega), List.length_drop, getD_drop', Nat.mod_eq_of_lt (by omega)]
      congr 1; omega
    · have e : (i + R.length - 1 - j) % R.length = i := by
        rw [Nat.mod_eq_of_lt (by omega)]; omega
      rw [e, show j - i - (R.length - (i + 1)) = 0 by omega]; rfl
theorem tmod_pl {k n : Int} (hn : 0 < n) : (if k.tmod n < 0 then k.tmod n + n else k.tmod n) = k % n := by
  have h1 := Int.mul_tdiv_add_tmod k n
  have h2 := Int.tmod_lt_of_pos k hn
  have h3 : -n < k.tmod n := by
    have := Int.tmod_lt_of_pos (-k) hn
    rw [Int.neg_tmod] at this; omega
  obtain ⟨t, ht⟩ : ∃ t, k.tmod n = t := ⟨_, rfl⟩
  rw [ht] at h1 h2 h3 ⊢
  have e : k % n = t % n := by rw [← h1, Int.mul_add_emod_self_left]
  rw [e]
  split
  · rename_i h
    rw [← Int.add_emod_right, Int.emod_eq_of_lt (by omega) (by omega)]
  · rename_i h
    rw [Int.emod_eq_of_lt (by omega) h2]
theorem hplace_any (k n : Int) (hn : 0 < n) (hn2 : n ≤ 100000) (_hk : -100000 ≤ k ∧ k ≤ 100000) (w : World) : Calls Try.prog 36 #[.int .i64 k, .int .i64 n] w fun e w' => e = .returned (.int .i64 (k % n)) ∧ w = w' := by
  have hy := tmod_pl (k := k) hn
  have h2 := Int.tmod_lt_of_pos k hn
  have h3 : -n < k.tmod n := by
    have := Int.tmod_lt_of_pos (-k) hn
    rw [Int.neg_tmod] at this; omega
  have hn0 : ¬ n = 0 := by omega
  obtain ⟨t, ht⟩ : ∃ t, k.tmod n = t := ⟨_, rfl⟩
  rw [ht] at hy h2 h3
  have HY := Lib.hid hy
  clear hy
  by_cases h0 : t < 0
  · go_enter Try.func36, Try.ntmps36
    go_wp2
    go_ret
    exact ⟨ret_int (by have := HY.out; rw [if_pos h0] at this; exact this), rfl⟩
  · have hy2 := Lib.hid (HY.out.symm.trans (if_neg h0))
    go_enter Try.func36, Try.ntmps36
    go_wp2
    go_ret
    exact ⟨ret_int hy2.out.symm, rfl⟩
theorem each_search {L : List ByteArray} {t : ByteArray} {i0 q : Nat} (hi : i0 < (allP L t).length) (back : Bool) (hq : q ≤ 100000) :
    ∃ kk, kk < (allP L t).length ∧ (back = false → ((i0 : Int) + ((q : Int) + 1)) % ((allP L t).length : Int) = (kk : Int)) ∧ (back = true → ((i0 : Int) - ((q : Int) + 1)) % ((allP L t).length : Int) = (kk : Int)) ∧
      searchP L (((allP L t).getD i0 (0, 0)).1 : Int) (((allP L t).getD i0 (0, 0)).2 : Int) t back ((q : Int) + 1) = ((((((allP L t).getD kk (0, 0)).1 : Nat) : Int), ((((allP L t).getD kk (0, 0)).2 : Nat) : Int), 0, true, -1), true) := by
  have hs := allP_sorted L t
  have hm := (allP_in (L := L) (t := t)).1 _ (getD_mem (allP L t) (0, 0) i0 hi)
  have hn : allP L t ≠ [] := fun e => by rw [e] at hi; simp at hi
  have hp : plcB L (((allP L t).getD i0 (0, 0)).1 : Int) (((allP L t).getD i0 (0, 0)).2 : Int) = true := by
    rw [plcB_in (by omega) (by omega) (by omega)]
    simp only [Int.toNat_natCast, decide_eq_true_eq]
    omega
  obtain ⟨R, hR⟩ : ∃ R, allP L t = R := ⟨_, rfl⟩
  have hsrc : ∀ b, searchP L (((allP L t).getD i0 (0, 0)).1 : Int) (((allP L t).getD i0 (0, 0)).2 : Int) t b ((q : Int) + 1) = fndM ((rndP (((allP L t).getD i0 (0, 0)).1 : Int) (((allP L t).getD i0 (0, 0)).2 : Int) (allP L t) b).getD (q % (allP L t).length) (0, 0)) := fun b => by
    rw [searchP, if_pos ⟨hp, by omega, hn⟩, show min ((q : Int) + 1) 1073741824 - 1 = (q : Int) by omega, show ((q : Int) % ((allP L t).length : Int)).toNat = q % (allP L t).length by omega]
  rw [hR] at hi hs hsrc ⊢
  have hj : q % R.length < R.length := Nat.mod_lt _ (by omega)
  cases back with
  | false =>
    refine ⟨(i0 + 1 + q % R.length) % R.length, Nat.mod_lt _ (by omega), fun _ => ?_, fun h => (by cases h), ?_⟩
    · rw [show (i0 : Int) + ((q : Int) + 1) = ((i0 + 1 + q : Nat) : Int) by omega, ← Int.natCast_emod, Nat.add_mod_mod]
    · rw [hsrc, rnd_fwd hs hi hj]; rfl
  | true =>
    refine ⟨(i0 + R.length - 1 - q % R.length) % R.length, Nat.mod_lt _ (by omega), fun h => (by cases h), fun _ => ?_, ?_⟩
    · have hdm := Nat.mod_add_div q R.length
      have e : (i0 : Int) - ((q : Int) + 1) = ((i0 + R.length - 1 - q % R.length : Nat) : Int) + (R.length : Int) * (-((q / R.length : Nat) : Int) - 1) := by
        have h1 : ((i0 + R.length - 1 - q % R.length : Nat) : Int) = (i0 : Int) + (R.length : Int) - 1 - ((q % R.length : Nat) : Int) := by omega
        have h2 : (q : Int) = ((q % R.length : Nat) : Int) + (R.length : Int) * ((q / R.length : Nat) : Int) := by exact_mod_cast hdm.symm
        rw [h1, Int.mul_sub, Int.mul_neg]
        omega
      rw [e, Int.add_mul_emod_self_left, ← Int.natCast_emod]
    · rw [hsrc, rnd_bwd hs hi hj]; rfl
set_option maxRecDepth 100000 in
set_option maxHeartbeats 8000000 in
theorem findEach_walk (a : Option Addr) (cap : Nat) (L : List ByteArray) (pat : ByteArray) (n : Int) (back : Bool) (W : World) (hL : LinesAt W a L) (_hspat : pat.size ≤ 140737488351232) (hn0 : 0 ≤ n ∧ n ≤ 255) :
    Calls Try.prog 10 #[.slice a L.length cap, .string pat, .int .u8 n, .bool back] W fun e W' => e = .returned (.bool true) ∧ Below W.heap.size W W' := by
  cases hli : textB L with
  | false =>
    go_enter Try.func10, Try.ntmps10
    go_wp2_with (first | (go_at_call 37; refine (known12_any _).mono ?_; rintro e w1 ⟨rfl, hbl⟩; obtain ⟨x, rfl⟩ := ovr_of_below hbl; clear hbl) | (go_at_call 35; refine (text_any _ _ L _ (by (repeat (first | assumption | refine LinesAt.ovr ?_ _ | refine LinesAt.alloc ?_ _ | refine LinesAt.drewN ?_ _ | refine LinesAt.drew ?_)))).mono ?_; rintro e w1 ⟨rfl, rfl⟩))
    go_ret
    exact ⟨rfl, by (repeat (first | exact Below.refl _ _ | refine Below.alloc ?_ (by first | exact Nat.le_refl _ | (simp; done) | (simp; omega)) _ | refine below_ovr_of ?_ | refine drew_below ?_ _ | refine Below.drew ?_ | refine Below.setCell ?_ (by first | exact Nat.le_refl _ | (simp; done) | (simp; omega)) _ | assumption))⟩
  | true =>
    rcases Nat.lt_or_ge 20 pat.size with hpat | hpat
    · have hpI : (20 : Int) < (pat.size : Int) := by omega
      go_enter Try.func10, Try.ntmps10
      go_wp2_with (first | (go_at_call 37; refine (known12_any _).mono ?_; rintro e w1 ⟨rfl, hbl⟩; obtain ⟨x, rfl⟩ := ovr_of_below hbl; clear hbl) | (go_at_call 35; refine (text_any _ _ L _ (by (repeat (first | assumption | refine LinesAt.ovr ?_ _ | refine LinesAt.alloc ?_ _ | refine LinesAt.drewN ?_ _ | refine LinesAt.drew ?_)))).mono ?_; rintro e w1 ⟨rfl, rfl⟩))
      go_ret
      exact ⟨rfl, by (repeat (first | exact Below.refl _ _ | refine Below.alloc ?_ (by first | exact Nat.le_refl _ | (simp; done) | (simp; omega)) _ | refine below_ovr_of ?_ | refine drew_below ?_ _ | refine Below.drew ?_ | refine Below.setCell ?_ (by first | exact Nat.le_refl _ | (simp; done) | (simp; omega)) _ | assumption))⟩
    have hpI : ¬ (20 : Int) < (pat.size : Int) := by omega
    obtain ⟨h0, hn, htot, _⟩ := text_spec hli
    have htl : L.length + total L ≤ 100000 := by omega
    have htt : pat.size ≤ 100000 := by omega
    have hSl := (allP_in (L := L) (t := pat)).2
    have hES := fun (i0 q : Nat) (hi : i0 < (allP L pat).length) (hq : q ≤ 100000) => each_search hi back hq
    have HSN := Lib.hid (fun (w0 : World) (h0 : LinesAt w0 a L) => rall_any a cap L pat w0 h0 htl htt)
    have hno : ∀ b n, allP L pat = [] → searchP L 0 0 pat b n = noMov := fun b n e => by rw [searchP, if_neg (fun h => h.2.2 e)]
    obtain ⟨R, hR⟩ : ∃ R, allP L pat = R := ⟨_, rfl⟩
    rw [hR] at HSN hSl hES hno
    have HES := Lib.hid hES
    have HNO := Lib.hid hno
    clear hR hES hno
    obtain ⟨hn1, hn2⟩ := hn0
    by_cases hR0 : R.length = 0
    · have hRI : ((R.length : Int) == 0) = true := by rw [beq_iff_eq]; omega
      have hRe : R = [] := List.eq_nil_of_length_eq_zero hR0
      have HR1 := Lib.hid (HNO.out back 1 hRe)
      have hkk : (1 : Int) ≤ 9223372036854775807 := by omega
      clear hR0 hRe
      go_enter Try.func10, Try.ntmps10
      go_wp2_with (first | (go_at_call 37; refine (known12_any _).mono ?_; rintro e w1 ⟨rfl, hbl⟩; obtain ⟨x, rfl⟩ := ovr_of_below hbl; clear hbl) | (go_at_call 35; refine (text_any _ _ L _ (by (repeat (first | assumption | refine LinesAt.ovr ?_ _ | refine LinesAt.alloc ?_ _ | refine LinesAt.drewN ?_ _ | refine LinesAt.drew ?_)))).mono ?_; rintro e w1 ⟨rfl, rfl⟩))
      go_wp2_with fail
      go_at_call 41
      refine (HSN.out _ (by (repeat (first | assumption | refine LinesAt.ovr ?_ _ | refine LinesAt.alloc ?_ _ | refine LinesAt.drewN ?_ _ | refine LinesAt.drew ?_)))).mono ?_
      rintro e w1 ⟨v, rfl, hrow, hbl⟩
      obtain ⟨sw, wcap, rfl, hpw⟩ := pairs_of_owns hrow
      obtain ⟨x2, rfl⟩ := ovr_of_below hbl
      clear hbl hrow
      go_wp2_with fail
      go_at_call 43; refine (psearch_any _ _ L _ _ _ _ _ _ (by (repeat (first | assumption | refine LinesAt.ovr ?_ _ | refine LinesAt.alloc ?_ _ | refine LinesAt.drewN ?_ _ | refine LinesAt.drew ?_))) htl htt hkk).mono ?_; rw [HR1.out]; rintro e w1 ⟨rfl, hbl⟩; obtain ⟨x3, rfl⟩ := ovr_of_below hbl; clear hbl
      go_wp2
      go_ret
      exact ⟨by simp [noMov], by (repeat (first | with_reducible exact Below.refl _ _ | (with_reducible refine Below.setCell ?_ ?_ _; rotate_left; · (first | exact Nat.le_refl _ | assumption | omega | (simp; done) | (simp; omega))) | (with_reducible refine Below.alloc ?_ ?_ _; rotate_left; · (first | exact Nat.le_refl _ | assumption | omega | (simp; done) | (simp; omega))) | with_reducible refine below_ovr_of ?_ | with_reducible refine drew_below ?_ _ | with_reducible refine Below.drew ?_ | with_reducible assumption))⟩
    · have hRI : ((R.length : Int) == 0) = false := by rw [beq_eq_false_iff_ne]; omega
      have hRp : (0 : Int) < (R.length : Int) := by omega
      obtain ⟨i0, hi0⟩ : ∃ i0 : Nat, n % (R.length : Int) = (i0 : Int) := ⟨(n % (R.length : Int)).toNat, by have := Int.emod_nonneg n (show (R.length : Int) ≠ 0 by omega); omega⟩
      have hi1 : i0 < R.length := by have := Int.emod_lt_of_pos n hRp; omega
      have hi1I : (i0 : Int) < (R.length : Int) := by omega
      have hi0z : (0 : Int) ≤ (i0 : Int) := by omega
      clear hR0
      go_enter Try.func10, Try.ntmps10
      go_wp2_with (first | (go_at_call 37; refine (known12_any _).mono ?_; rintro e w1 ⟨rfl, hbl⟩; obtain ⟨x, rfl⟩ := ovr_of_below hbl; clear hbl) | (go_at_call 35; refine (text_any _ _ L _ (by (repeat (first | assumption | refine LinesAt.ovr ?_ _ | refine LinesAt.alloc ?_ _ | refine LinesAt.drewN ?_ _ | refine LinesAt.drew ?_)))).mono ?_; rintro e w1 ⟨rfl, rfl⟩))
      go_wp2_with fail
      go_at_call 41
      refine (HSN.out _ (by (repeat (first | assumption | refine LinesAt.ovr ?_ _ | refine LinesAt.alloc ?_ _ | refine LinesAt.drewN ?_ _ | refine LinesAt.drew ?_)))).mono ?_
      rintro e w1 ⟨v, rfl, hrow, hbl⟩
      obtain ⟨sw, wcap, rfl, hpw⟩ := pairs_of_owns hrow
      obtain ⟨x2, rfl⟩ := ovr_of_below hbl
      obtain ⟨g, rfl, hg, c0, c1⟩ := hpw i0 hi1
      obtain ⟨⟨px, py⟩, hxy⟩ : ∃ p, R.getD i0 (0, 0) = p := ⟨_, rfl⟩
      rw [hxy] at c0 c1
      simp only at c0 c1
      have HXY := Lib.hid hxy
      clear hbl hrow hxy
      go_wp2_with fail
      refine name_ptr 12 rfl ?_
      intro P hP
      rw [← hP]
      refine name_world ?_
      intro W1 hW1
      have gp0 : W1.cell? ⟨P, 0, none⟩ = some (.int .i64 (px : Int)) := by rw [hW1, hP]; simp [go_sem]
      have gp1 : W1.cell? ⟨P, 1, none⟩ = some (.int .i64 (py : Int)) := by rw [hW1, hP]; simp [go_sem]
      have hL1 : LinesAt W1 a L := by rw [hW1]; (repeat (first | assumption | refine LinesAt.ovr ?_ _ | refine LinesAt.alloc ?_ _ | refine LinesAt.drewN ?_ _ | refine LinesAt.drew ?_))
      have hp1 : PairsAt W1 (some ⟨g, 0, none⟩) R := by rw [hW1]; (repeat (first | assumption | refine PairsAt.ovr ?_ _ | refine PairsAt.alloc ?_ _ | refine PairsAt.drewN ?_ _ | refine PairsAt.drew ?_))
      have hbel : Below W.heap.size W W1 := by rw [hW1]; (repeat (first | with_reducible exact Below.refl _ _ | (with_reducible refine Below.setCell ?_ ?_ _; rotate_left; · (first | exact Nat.le_refl _ | assumption | omega | (simp; done) | (simp; omega))) | (with_reducible refine Below.alloc ?_ ?_ _; rotate_left; · (first | exact Nat.le_refl _ | assumption | omega | (simp; done) | (simp; omega))) | with_reducible refine below_ovr_of ?_ | with_reducible refine drew_below ?_ _ | with_reducible refine Below.drew ?_ | with_reducible assumption))
      have hbs := hbel.size
      have lP := cell_lt9 gp0
      clear hW1 hP c0 c1 hpw hg
      rw [hi0]
      go_loopw [13] (fun i wr => ∃ q : Nat, q ≤ R.length + 2 ∧ i = .int .i64 ((q : Int) + 1) ∧ ∃ x, wr = ovr W1 x) (fun i _ => R.length + 3 - (intOf i).toNat)
      case atStart => exact ⟨0, Nat.zero_le _, by go_num, { W1 with heap := #[] }, by simp [ovr]⟩
      case round =>
        obtain ⟨q, hq, rfl, z, rfl⟩ := hrel
        by_cases hlt : q + 1 ≤ R.length + 2
        · have hltI : (q : Int) + 1 ≤ (R.length : Int) + 2 := by omega
          have hq0 : (0 : Int) ≤ (q : Int) + 1 := by omega
          obtain ⟨kk, k1, k2, k3, k4⟩ := HES.out i0 q hi1 (by omega)
          obtain ⟨g', e', hg, d0, d1⟩ := hp1 kk k1
          cases e'
          obtain ⟨⟨fx, fy⟩, hfx⟩ : ∃ p, R.getD kk (0, 0) = p := ⟨_, rfl⟩
          rw [hfx] at d0 d1 k4
          rw [HXY.out] at k4
          simp only at d0 d1 k4
          have HR1 := Lib.hid k4
          have hkkI : (kk : Int) < (R.length : Int) := by omega
          have hkk0 : (0 : Int) ≤ (kk : Int) := by omega
          have hsq : (0 : Int) ≤ (i0 : Int) + ((q : Int) + 1) := by omega
          have hqb : (q : Int) + 1 ≤ 9223372036854775807 := by omega
          clear hfx k4
          cases back
          case' false =>
            have k5 := k2 rfl
            clear k2 k3
            go_wp2_with fail
          case' true =>
            have k5 := Lib.hid (k3 rfl)
            clear k2 k3
            go_wp2_with fail
            go_at_call 36
            refine (hplace_any _ _ hRp (by omega) ⟨by omega, by omega⟩ _).mono ?_
            rw [k5.out]
            rintro e w1 ⟨rfl, rfl⟩
            go_wp2_with fail
          all_goals (
            go_at_call 43; refine (psearch_any _ _ L _ _ _ _ _ _ (by (repeat (first | assumption | refine LinesAt.ovr ?_ _ | refine LinesAt.alloc ?_ _ | refine LinesAt.drewN ?_ _ | refine LinesAt.drew ?_))) htl htt hqb).mono ?_; rw [HR1.out]; rintro e w1 ⟨rfl, hbl⟩; obtain ⟨x3, rfl⟩ := ovr_of_below hbl; clear hbl
            go_wp2
            (refine wp_region_ovr (by kernel_rfl) (by kernel_rfl) ?_; (repeat (go_big_quiet_step (fail))); refine wpQuiet_nil ?_; rintro _ ⟨zq, rfl⟩)
            go_wp2
            go_roundw
            case rel => exact ⟨q + 1, by omega, by go_num, ovr_of_below (by (repeat (first | with_reducible exact Below.refl _ _ | (with_reducible refine Below.setCell ?_ ?_ _; rotate_left; · (first | exact Nat.le_refl _ | assumption | omega | (simp; done) | (simp; omega))) | (with_reducible refine Below.alloc ?_ ?_ _; rotate_left; · (first | exact Nat.le_refl _ | assumption | omega | (simp; done) | (simp; omega))) | with_reducible refine below_ovr_of ?_ | with_reducible refine drew_below ?_ _ | with_reducible refine Below.drew ?_ | with_reducible assumption)))⟩
            case measure => simp [intOf]; omega)
        · have hltI : ¬ (q : Int) + 1 ≤ (R.length : Int) + 2 := by omega
          go_wp2
          go_ret
          exact ⟨rfl, by (repeat (first | with_reducible exact Below.refl _ _ | (with_reducible refine Below.setCell ?_ ?_ _; rotate_left; · (first | exact Nat.le_refl _ | assumption | omega | (simp; done) | (simp; omega))) | (with_reducible refine Below.alloc ?_ ?_ _; rotate_left; · (first | exact Nat.le_refl _ | assumption | omega | (simp; done) | (simp; omega))) | with_reducible refine below_ovr_of ?_ | with_reducible refine drew_below ?_ _ | with_reducible refine Below.drew ?_ | with_reducible assumption))⟩
end Go.Proofs.Ytnaceobbbfbhhaa
